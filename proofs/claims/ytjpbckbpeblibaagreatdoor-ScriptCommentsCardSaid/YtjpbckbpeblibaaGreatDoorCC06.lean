/- part of a proof -/
import Derived.Test.YtjpbckbpeblibaaGreatDoorCC04
import Derived.Test.YtjpbckbpeblibaaGreatDoorCC05
import Derived.Deep.LoopGhost
namespace Go.Proofs.YtjpbckbpeblibaaGreatDoor
set_option linter.unusedVariables false
set_option linter.unusedSimpArgs false
set_option maxRecDepth 100000
set_option maxHeartbeats 64000000
section
open Go.RowKit
variable{A:Option Addr}{K':Act->World->Prop}{Q:Exit->Act->World->Prop}{T:List Tk}{W w w' w1 w2:World}{Z:Nat->Prop}{a:Act}{base g i off:Nat}{d f u v v0 v1 v2 v3 v4 v5:Value}{dss:List (List Value)}{e:TypeId}{o:Oper}{α:Type}
theorem DL:type_of% @List.length_cons:=@List.length_cons
theorem Eg:type_of% @Bool.and_eq_true_iff:=@Bool.and_eq_true_iff
theorem EE:type_of% @List.map_cons:=@List.map_cons
theorem FR:type_of% @Nat.one_mul:=@Nat.one_mul
theorem FV:type_of% @List.map_nil:=@List.map_nil
def pK(x:Ex):Nat:=esz x-1
theorem mv:∀xs:List Ex,xs.length+lsz pK xs=lsz esz xs
 |[]=>rfl
 |x::l=>by
  have h1:=mv l;have h2:=bE x;rw[aS,aS,DL];unfold pK at h1⊢;omega
theorem dL(sz:α->Nat)(xs:List α){k:Nat}{x:α}(hx:xs[k]?=some x):lsz sz (xs.take (k+1))=lsz sz (xs.take k)+sz x:=by
 rw[EQ,hx];exact jJ sz _ x
theorem zD(sz:α->Nat)(a b:List α):lsz sz (a++b)=lsz sz a+lsz sz b:=by simp[lsz]
theorem cL(sz:α->Nat)(xs:List α)(k:Nat):lsz sz (xs.take k)<=lsz sz xs:=by
 have h:=Fo (lsz sz) (ER k xs);rw[show lsz sz (xs.take k++xs.drop k)=lsz sz (xs.take k)+lsz sz (xs.drop k)from zD sz _ _]at h;omega
theorem cd(sz:α->Nat){xs:List α}{k:Nat}{x:α}(hx:xs[k]?=some x):sz x<=lsz sz xs:=by
 have h1:=dL sz xs hx;have h2:=cL sz xs (k+1);omega
theorem qC:∀(n:Nat) (xs:List Ex) (A:Option Addr) (m c:Nat) (w:World) (G:Nat->Prop),lsz esz xs<=n->Sl kEx w G xs A m->(∀b,G b->b<w.heap.size)->lsz esz xs<=100000->
 Calls Tryz.prog 214 #[.slice A m c] w λe w'=>e= .returned (.int .i64 (lsz esz xs:Nat))/\Below w.heap.size w w':=by
 intro n;induction n with
 |zero=>
  intro xs A m c w G hn hs hG hb;have h0:=mv xs;have hx:xs=[]:=En (by omega);subst hx;obtain rfl:m=0:=hs.1.symm;go_enter Tryz.func214,Tryz.ntmps214;go_wp2_with fail;refine wp_loop_rounds 1 ?_;rw[rounds_succ];go_wp2_with fail;go_ret;exact⟨rfl,DN _ _⟩
 |succ n ih=>
  intro xs A m c w G hn hs hG hb;have h0:=mv xs;have hm:=hs.1;have HS:=H_ hs;have HIH:=H_ ih;have HG:=H_ hG;clear hs ih hG;go_enter Tryz.func214,Tryz.ntmps214;go_wp2_with fail;go_loopw [3,10] (λu i wr=>∃k:Nat,k<=m/\i= .int .i64 k/\u= .int .i64 ((m+lsz pK (xs.take k):Nat):Int)/\Hid (Below w.heap.size w wr)) (λ_ i _=>m-(intOf i).toNat)
  case atStart=>exact⟨0,Ea _,rfl,by simp[lsz],H_ (DN _ _)⟩
  case round=>
   obtain⟨k,hk,rfl,rfl,HB⟩:=hrel;have hle:=cL pK xs k;by_cases hkm:k<m
   ·have hkz:(k:Int)<(m:Int):=by omega
    have hS2:=HS.out.aA (G':=G) (w':=wr) (λb hb'=>⟨hb',HB.out.block b (HG.out b hb')⟩);obtain⟨b,off,x,cs,rfl,hgb,hx,hrd,hat⟩:=hS2.at_ hkm;obtain⟨xk,xo,xz,xn,xa,args⟩:=x;obtain⟨A2,n2,c2,rfl,hsa⟩:=ExC.inv hrd;have hsz:=cd esz hx;rw[dH]at hsz;have htk:=dL pK xs hx;have hsub:pK (.mk xk xo xz xn xa args)=lsz esz args:=by unfold pK;rw[dH];omega
    rw[hsub]at htk;have hle2:=cL pK xs (k+1);have d0:wr.cell? ⟨b,off+k*6,none⟩=some (.int .i64 xk):=by have:=hat 0 _ rfl;rwa[show kEx.sz=6 from rfl,El]at this
    have d1:wr.cell? ⟨b,off+k*6+1,none⟩=some (.int .i64 xo):=by have:=hat 1 _ rfl;rwa[show kEx.sz=6 from rfl,El]at this
    have d2:wr.cell? ⟨b,off+k*6+2,none⟩=some (.int .i64 xz):=by have:=hat 2 _ rfl;rwa[show kEx.sz=6 from rfl,El]at this
    have d3:wr.cell? ⟨b,off+k*6+3,none⟩=some (.string xn):=by have:=hat 3 _ rfl;rwa[show kEx.sz=6 from rfl,El]at this
    have d4:wr.cell? ⟨b,off+k*6+4,none⟩=some (.bool xa):=by have:=hat 4 _ rfl;rwa[show kEx.sz=6 from rfl,El]at this
    have d5:wr.cell? ⟨b,off+k*6+5,none⟩=some (.slice A2 n2 c2):=by have:=hat 5 _ rfl;rwa[show kEx.sz=6 from rfl,El]at this
    have hbb:=HB.out.size;have HC:=H_ (HIH.out args A2 n2 c2 (wr.alloc (.cells #[.int .i64 xk,.int .i64 xo,.int .i64 xz,.string xn,.bool xa,.slice A2 n2 c2] 172)) G (by omega) (hsa.aA λq hq=>⟨hq,EA _ _ _ (by have:=HG.out q hq;omega)⟩) (λq hq=>by have:=HG.out q hq;simp;omega) (by omega));clear hat hrd hsa hS2;go_wp2_with fail;refine HC.out.mono ?_;rintro e w1 ⟨rfl,b1⟩;have B1:=H_ ((HB.out.alloc hbb _).trans (b1.mono (by simp;omega)));clear b1 HB;go_wp2_with fail;go_roundw
    case rel=>exact⟨k+1,by omega,by go_num,by rw[htk];go_num,B1⟩
    case measure=>simp[intOf];omega
   ·obtain rfl:k=m:=by omega
    go_wp2_with fail;go_ret;have ht:xs.take k=xs:=DP (by omega);rw[ht,<-h0,hm];exact⟨rfl,HB.out⟩
abbrev TK:=Int×ByteArray×Int
structure Pc where
 pre:List UInt8
 t:TK
 post:List UInt8
def pk(s:ByteArray):Pc:=⟨[],(4,s,0),[]⟩
def py(s:ByteArray):Pc:=⟨[],(5,s,0),[]⟩
def pn(s:ByteArray):Pc:=⟨[],(2,s,0),[]⟩
def pc(s:ByteArray):Pc:=⟨[],(3,s,0),[]⟩
def pz(z:Int):Pc:=⟨[],(1,⟨(Lib.itoa z).toArray⟩,z),[]⟩
def sp:List Pc->List Pc
 |[]=>[]
 |p::l=>{p with pre:=32::p.pre}::l
def tks(l:List Pc):List TK:=l.map (·.t)
theorem AM:∀l,tks (sp l)=tks l
 |[]=>rfl
 |_::_=>rfl
theorem yR(a b:List Pc):tks (a++b)=tks a++tks b:=by simp[tks]
def ap(o:Int):Nat:=if o=12 then 1 else if o=11 then 2 else if o=0\/o=1 then 5 else if o=2\/o=3\/o=4 then 6 else 4
def lvl:Ex->Nat
 | .mk k op _ _ at_ _=>if k=10 then ap op else if k=9 then 3 else if k=8\/k=7\/k=6\/(k=5/\at_=true)then 7 else if k=4 then 8 else 9
def inP(r:Nat)(x:Nat×List Pc):List Pc:=if x.1<r then py cG::(x.2++[py da])else x.2
def dA:List (Nat×List Pc)->List Pc
 |[]=>[py da]
 |x::l=>py iw::(sp x.2++dA l)
def aq:List (Nat×List Pc)->List Pc
 |[]=>[py cG,py da]
 |x::l=>py cG::(x.2++dA l)
def opP(o:Int):Pc:=if o=11\/o=12 then pk (bH o.toNat)else py (bH o.toNat)
def dX:Nat×List Pc:=(9,[])
def cmb(k op z:Int)(nm:ByteArray)(at_:Bool)(xs:List (Nat×List Pc)):List Pc:=
 if k=0 then[pz z]else if k=1 then[pk gJ]else if k=2 then[pk ew]else if k=3 then[pn nm]
 else if k=4 then inP 8 (xs.getD 0 dX)++[py DOT,pn nm]
 else if k=5 then pk dx::(sp [pc nm]++(if at_=true then aq xs.dropLast++(sp [pk kAt]++sp (inP 7 (xs.getLastD dX)))else aq xs))
 else if k=6 then pk ca::sp (inP 7 (xs.getD 0 dX))else if k=7 then pk dT::sp (inP 7 (xs.getD 0 dX))
 else if k=8 then py bK::inP 7 (xs.getD 0 dX)else if k=9 then pk dE::sp (inP 3 (xs.getD 0 dX))
 else inP (if ap op=4 then 5 else ap op) (xs.getD 0 dX)++(sp [opP op]++sp (inP (ap op+1) (xs.getD 1 dX)))
mutual
def plE:Ex->List Pc
 | .mk k op z nm at_ args=>cmb k op z nm at_ (plL args)
def plL:List Ex->List (Nat×List Pc)
 |[]=>[]
 |a::l=>(lvl a,plE a)::plL l
end
def exP(r:Nat)(e:Ex):List Pc:=inP r (lvl e,plE e)
theorem mq:∀l,plL l=l.map λa=>(lvl a,plE a)
 |[]=>rfl
 |a::l=>by rw[plL,mq l];rfl
def lc(k op z:Int)(nm:ByteArray)(at_:Bool)(n:Nat):Bool:=
 (decide (k=0)||decide (z=0))&&(decide (k=10)||decide (op=0))&&(decide (k=5)|| !at_)&&
 (if k=0 then decide (n=0)&&decide (nm=⟨#[]⟩)&&decide (0<=z)&&decide (z<=2305843009213693951)
  else if k=1\/k=2 then decide (n=0)&&decide (nm=⟨#[]⟩)
  else if k=3 then decide (n=0)&&aO nm 97 122
  else if k=4 then decide (n=1)&&aO nm 97 122
  else if k=5 then aO nm 65 90&&(!at_||decide (0<n))
  else if k=6\/k=7\/k=8\/k=9 then decide (n=1)&&decide (nm=⟨#[]⟩)
  else if k=10 then decide (n=2)&&decide (nm=⟨#[]⟩)&&decide (0<=op)&&decide (op<=12)else false)
mutual
def vE:Ex->Bool
 | .mk k op z nm at_ args=>lc k op z nm at_ args.length&&vEs args
def vEs:List Ex->Bool
 |[]=>true
 |a::l=>vE a&&vEs l
end
theorem cI:∀{l:List Ex},vEs l=true->∀a∈l,vE a=true
 |[],_,a,h=>by cases h
 |b::l,h,a,ha=>by
  rw[vEs]at h;simp at h;rcases DY.1 ha with rfl|ha
  ·exact h.1
  ·exact cI h.2 a ha
theorem dc{e:Ex}(h:vE e=true):
 (∃z:Int,e=ge z/\0<=z/\z<=2305843009213693951)\/e=fb 1 ⟨#[]⟩\/e=fb 2 ⟨#[]⟩\/(∃s,e=fb 3 s/\aO s 97 122=true)\/
 (∃s a,e=aR s a/\aO s 97 122=true/\vE a=true)\/
 (∃s l,e= .mk 5 0 0 s false l/\aO s 65 90=true/\vEs l=true)\/(∃s l a,e= .mk 5 0 0 s true (l++[a])/\aO s 65 90=true/\vEs l=true/\vE a=true)\/
 (∃k a,(k=6\/k=7\/k=8\/k=9)/\e=eUn k a/\vE a=true)\/(∃o a b,o<=12/\e=cx o a b/\vE a=true/\vE b=true):=by
 obtain⟨k,op,z,nm,at_,args⟩:=e;rw[vE]at h;obtain⟨hn,hv⟩:=Eg.1 h;have hm:=cI hv;unfold lc at hn;by_cases h0:k=0
 ·subst h0;simp at hn;obtain⟨⟨hop,hat⟩,⟨⟨hl,hnm⟩,hz⟩,hz2⟩:=hn;subst hop hat hl hnm;exact .inl ⟨z,rfl,hz,hz2⟩
 by_cases h12:k=1\/k=2
 ·have hk:k≠10/\k≠5:=by omega
  simp[h0,h12,hk]at hn;obtain⟨⟨⟨hz,hop⟩,hat⟩,hl,hnm⟩:=hn;subst hz hop hat hl hnm;rcases h12 with rfl|rfl
  ·exact .inr (.inl rfl)
  ·exact .inr (.inr (.inl rfl))
 by_cases h3:k=3
 ·subst h3;simp at hn;obtain⟨⟨⟨hz,hop⟩,hat⟩,hl,hnm⟩:=hn;subst hz hop hat hl;exact .inr (.inr (.inr (.inl ⟨nm,rfl,hnm⟩)))
 by_cases h4:k=4
 ·subst h4;simp at hn;obtain⟨⟨⟨hz,hop⟩,hat⟩,hl,hnm⟩:=hn;subst hz hop hat
  match args,hl,hm with
  |[a],_,hm=>exact .inr (.inr (.inr (.inr (.inl ⟨nm,a,rfl,hnm,hm a (by simp)⟩))))
 by_cases h5:k=5
 ·subst h5;simp at hn;obtain⟨⟨hz,hop⟩,hnm,hat⟩:=hn;subst hz hop;cases at_ with
  |false=>exact .inr (.inr (.inr (.inr (.inr (.inl ⟨nm,args,rfl,hnm,hv⟩)))))
  |true=>
   have hne:args≠[]:=by
    rcases hat with hat|hat
    ·cases hat
    ·intro h;rw[h]at hat;exact absurd hat (by simp)
   refine .inr (.inr (.inr (.inr (.inr (.inr (.inl ⟨nm,args.dropLast,args.getLast hne,by rw[List.dropLast_concat_getLast],hnm,?_,hm _ (List.getLast_mem hne)⟩))))))
   have hd:∀l:List Ex,(∀a∈l,vE a=true)->vEs l=true:=λl=>by
    induction l with
    |nil=>intro _;rfl
    |cons a l ih=>intro h;rw[vEs,h a (by simp),ih λb hb=>h b (by simp[hb])];rfl
   exact hd _ λa ha=>hm a ((List.dropLast_sublist _).subset ha)
 by_cases h69:k=6\/k=7\/k=8\/k=9
 ·have hk:k≠10/\¬(k=1\/k=2):=by omega
  simp only[h0,h12,h3,h4,h5,h69,hk,FZ,if_false,decide_false,Bool.false_or]at hn;simp at hn;obtain⟨⟨⟨hz,hop⟩,hat⟩,hl,hnm⟩:=hn;subst hz hop hat hnm
  match args,hl,hm with
  |[a],_,hm=>exact .inr (.inr (.inr (.inr (.inr (.inr (.inr (.inl ⟨k,a,h69,rfl,hm a (by simp)⟩)))))))
 by_cases h10:k=10
 ·subst h10;simp at hn;obtain⟨⟨hz,hat⟩,⟨⟨hl,hnm⟩,ho⟩,ho2⟩:=hn;subst hz hat hnm;obtain⟨o,rfl⟩:=Ei ho
  match args,hl,hm with
  |[a,b],_,hm=>exact .inr (.inr (.inr (.inr (.inr (.inr (.inr (.inr ⟨o,a,b,by omega,rfl,hm a (by simp),hm b (by simp)⟩)))))))
 ·simp[h0,h12,h3,h4,h5,h69,h10]at hn
section
variable{w:World}{b off k:Nat}{v0 v1 v2 v3 v4 v5:Value}
theorem At.e6(h:At w b (off+6*k) [v0,v1,v2,v3,v4,v5]):w.cell? ⟨b,off+k*6,none⟩=some v0/\w.cell? ⟨b,off+k*6+1,none⟩=some v1/\w.cell? ⟨b,off+k*6+2,none⟩=some v2/\
 w.cell? ⟨b,off+k*6+3,none⟩=some v3/\w.cell? ⟨b,off+k*6+4,none⟩=some v4/\w.cell? ⟨b,off+k*6+5,none⟩=some v5:=by
 rw[El]at h;exact⟨h 0 _ rfl,h 1 _ rfl,h 2 _ rfl,h 3 _ rfl,h 4 _ rfl,h 5 _ rfl⟩
theorem At.e5(h:At w b (off+5*k) [v0,v1,v2,v3,v4]):w.cell? ⟨b,off+k*5,none⟩=some v0/\w.cell? ⟨b,off+k*5+1,none⟩=some v1/\w.cell? ⟨b,off+k*5+2,none⟩=some v2/\
 w.cell? ⟨b,off+k*5+3,none⟩=some v3/\w.cell? ⟨b,off+k*5+4,none⟩=some v4:=by
 rw[El]at h;exact⟨h 0 _ rfl,h 1 _ rfl,h 2 _ rfl,h 3 _ rfl,h 4 _ rfl⟩
theorem At.e4(h:At w b (off+4*k) [v0,v1,v2,v3]):w.cell? ⟨b,off+k*4,none⟩=some v0/\w.cell? ⟨b,off+k*4+1,none⟩=some v1/\w.cell? ⟨b,off+k*4+2,none⟩=some v2/\
 w.cell? ⟨b,off+k*4+3,none⟩=some v3:=by
 rw[El]at h;exact⟨h 0 _ rfl,h 1 _ rfl,h 2 _ rfl,h 3 _ rfl⟩
theorem At.e3(h:At w b (off+3*k) [v0,v1,v2]):w.cell? ⟨b,off+k*3,none⟩=some v0/\w.cell? ⟨b,off+k*3+1,none⟩=some v1/\w.cell? ⟨b,off+k*3+2,none⟩=some v2:=by
 rw[El]at h;exact⟨h 0 _ rfl,h 1 _ rfl,h 2 _ rfl⟩
theorem At.e1(h:At w b (off+1*k) [v0]):w.cell? ⟨b,off+k,none⟩=some v0:=by
 rw[FR]at h;exact h 0 _ rfl
end
theorem gE:∀l:List Ex,vEs l=l.all vE
 |[]=>rfl
 |a::l=>by rw[vEs,gE l,List.all_cons]
theorem aW(s:ByteArray):s=⟨#[]⟩↔s.toList=[]:=by
 rw[EN];constructor
 ·rintro rfl;rfl
 ·intro h;obtain⟨⟨l⟩⟩:=s;have h:l=[]:=h;rw[h]
theorem isE(l:List UInt8):l.isEmpty=decide (l=[]):=by cases l<;>simp
theorem Cr:∀(m:Nat) (e:Ex) (cs:List Value) (w:World) (G:Nat->Prop),esz e<=m->ExK w G e cs->(∀b,G b->b<w.heap.size)->Gl w->
 Calls Tryz.prog 154 #[.agg cs.toArray] w λr w'=>r= .returned (.bool (vE e))/\Below w.heap.size w w':=by
 intro m;induction m with
 |zero=>intro e cs w G hm;have:=bE e;omega
 |succ m ih=>
  intro e cs w G hm hr hG hg;obtain⟨xk,xo,xz,xn,xa,args⟩:=e;obtain⟨A,n,c,rfl,hs⟩:=ExK.inv hr;rw[dH]at hm;obtain⟨vb,hvb⟩:=nm_ (vE (.mk xk xo xz xn xa args));rw[hvb];have HVB:=H_ hvb;clear hvb;have hm2:=hs.1;have hnb:n<=1152921504606846976:=hs.2.1;obtain⟨g,hz⟩:=nm_ (w.heap.size);obtain⟨W0,hW0⟩:=nm_ (w.alloc (.cells #[.int .i64 xk,.int .i64 xo,.int .i64 xz,.string xn,.bool xa,.slice A n c] 172));have HQ:=hng hW0 hz;have HB0:=hba hW0;have hs0:W0.heap.size=g+1:=by rw[<-hW0,DV,hz]
  have HS:=H_ (hs.aA (G':=G) (w':=W0) (λb hb=>⟨hb,HB0.out.block b (hG b hb)⟩));have HGl:=H_ (hg.below HB0.out);have HG:=H_ (show∀b,G b->b<W0.heap.size from λb hb=>by have:=hG b hb;omega);have HIH:=H_ ih;have HW:=H_ hW0;clear ih hs hG hr hg hW0;go_enter Tryz.func154,Tryz.ntmps154;rw[hz];go_upto_region 1 with fail;rw[HW.out];have q5:=HQ.out.k5;go_wp2_with fail;go_loopw [9] (λi wr=>∃k:Nat,k<=n/\i= .int .i64 k/\Hid (Below W0.heap.size W0 wr)/\Hid ((args.take k).all vE=true)) (λi _=>n-(intOf i).toNat)
  case atStart=>exact⟨0,Ea _,rfl,H_ (DN _ _),H_ rfl⟩
  case round=>
   obtain⟨k,hk,rfl,HB,HV⟩:=hrel;by_cases hkm:k<n
   ·have hkz:(k:Int)<(n:Int):=by omega
    have hS2:=HS.out.aA (G':=G) (w':=wr) (λb hb'=>⟨hb',HB.out.block b (HG.out b hb')⟩);obtain⟨b,off,x,cs,rfl,hgb,hx,hrd,hat⟩:=hS2.at_ hkm;have hsz:=cd esz hx;have HX:=H_ hx;have hvx:vE x=vE x:=rfl;obtain⟨bx,hbx'⟩:∃bx,vE x=bx:=⟨_,rfl⟩;have HVX:=H_ hbx';have hrd0:=H_ hrd;obtain⟨yk,yo,yz,yn,ya,args2⟩:=x;obtain⟨A2,n2,c2,rfl,hsa⟩:=ExK.inv hrd;obtain⟨d0,d1,d2,d3,d4,d5⟩:=At.e6 hat
    have hbb:=HB.out.size;have HC:=H_ (HIH.out _ _ (wr.alloc (.cells #[.int .i64 yk,.int .i64 yo,.int .i64 yz,.string yn,.bool ya,.slice A2 n2 c2] 172)) G (by omega) (ExK.aA (λq hq=>⟨hq,EA _ _ _ (by have:=HG.out q hq;omega)⟩) hrd0.out) (λq hq=>by have:=HG.out q hq;simp;omega) ((HGl.out.below HB.out).below ((DN _ _).alloc (DK _) _)));rw[hbx']at HC;clear hat hrd hsa hS2 hrd0 hx hbx' hvx;go_wp2_with fail;refine HC.out.mono ?_;rintro r w1 ⟨rfl,b1⟩;have B1:=H_ ((HB.out.alloc hbb _).trans (b1.mono (by simp;omega)));clear b1 HB HC;cases bx with
    |false=>
     go_wp2_with fail;go_ret;refine⟨aa ?_,hz▸HB0.out.trans (B1.out.mono (by omega))⟩;rw[<-HVB.out,vE,gE,bh HX.out HVX.out,Bool.and_false]
    |true=>
     go_wp2_with fail;go_roundw
     case rel=>exact⟨k+1,by omega,by go_num,B1,H_ (by rw[br HX.out,HV.out,HVX.out];rfl)⟩
     case measure=>simp[intOf];omega
   ·obtain rfl:k=n:=by omega
    have ht:args.take k=args:=DP (by omega);have HA:=H_ (show vb=lc xk xo xz xn xa k by rw[<-HVB.out,vE,gE,<-ht,HV.out,Bool.and_true,ht,hm2]);have HQ1:=HQ.out.below HB.out (by omega);obtain⟨q0,q1,q2,q3,q4,q5⟩:=HQ1.c6;have HE:Hid (Below g w wr):=H_ (hz▸HB0.out.trans (HB.out.mono (by omega)));have hsz:g<=wr.heap.size:=by have:=HB.out.size;omega
    have hgl:=HGl.out.below HB.out;have HQW:=H_ HQ1;have HC1:=H_ (pu xn wr hgl);have HC2:=H_ (ye xn wr hgl);clear HB HV HQ1 hgl HIH HG HS HGl;by_cases hkk:xk=0\/xk=1\/xk=2\/xk=3\/xk=4\/xk=5\/xk=6\/xk=7\/xk=8\/xk=9\/xk=10
    ·rcases hkk with rfl|rfl|rfl|rfl|rfl|rfl|rfl|rfl|rfl|rfl|rfl
     all_goals
      go_wp2_with (first
       |(go_at_call 98;refine HC1.out.mono ?_;rintro r w1 ⟨rfl,b1⟩;have HE:=H_ (HE.out.trans (b1.mono (by omega)));clear b1)
       |(go_at_call 104;refine HC2.out.mono ?_;rintro r w1 ⟨rfl,b1⟩;have q4':=(HQW.out.below b1 HQW.out.lt).k4;have HE:=H_ (HE.out.trans (b1.mono (by omega)));clear b1))
      all_goals
       go_ret;refine⟨aa ?_,HE.out⟩;rw[HA.out];unfold lc
       first
       |(rw[Bool.eq_iff_iff];simp[*,aW,isE];done)
       |(rw[Bool.eq_iff_iff];simp[*,aW,isE];omega)
       |(have hk1:k=0:=by omega
         rw[Bool.eq_iff_iff];simp[*,aW,isE];done)
       |(have hk1:k=0:=by omega
         rw[Bool.eq_iff_iff];simp[*,aW,isE];omega)
       |(have hk1:k=1:=by omega
         rw[Bool.eq_iff_iff];simp[*,aW,isE];done)
       |(have hk1:k=1:=by omega
         rw[Bool.eq_iff_iff];simp[*,aW,isE];omega)
       |(have hk1:k=2:=by omega
         rw[Bool.eq_iff_iff];simp[*,aW,isE];done)
       |(have hk1:k=2:=by omega
         rw[Bool.eq_iff_iff];simp[*,aW,isE];omega)
       |(have hk1:¬k=0:=by omega
         rw[Bool.eq_iff_iff];simp[*,aW,isE];done)
       |(have hk1:¬k=0:=by omega
         rw[Bool.eq_iff_iff];simp[*,aW,isE];omega)
       |(have hk1:¬k=1:=by omega
         rw[Bool.eq_iff_iff];simp[*,aW,isE];done)
       |(have hk1:¬k=1:=by omega
         rw[Bool.eq_iff_iff];simp[*,aW,isE];omega)
       |(have hk1:¬k=2:=by omega
         rw[Bool.eq_iff_iff];simp[*,aW,isE];done)
       |(have hk1:¬k=2:=by omega
         rw[Bool.eq_iff_iff];simp[*,aW,isE];omega)
    ·have n0:(xk==0)=false:=DM.2 (by omega);have n1:(xk==1)=false:=DM.2 (by omega);have n2:(xk==2)=false:=DM.2 (by omega);have n3:(xk==3)=false:=DM.2 (by omega);have n4:(xk==4)=false:=DM.2 (by omega);have n5:(xk==5)=false:=DM.2 (by omega);have n6:(xk==6)=false:=DM.2 (by omega);have n7:(xk==7)=false:=DM.2 (by omega);have n8:(xk==8)=false:=DM.2 (by omega);have n9:(xk==9)=false:=DM.2 (by omega);have n10:(xk==10)=false:=DM.2 (by omega)
     have hf:vb=false:=by
      rw[HA.out];unfold lc;have e1:¬(xk=1\/xk=2):=by omega
      have e2:¬(xk=6\/xk=7\/xk=8\/xk=9):=by omega
      rw[DS (show ¬xk=0 by omega),DS e1,DS (show ¬xk=3 by omega),DS (show ¬xk=4 by omega),DS (show ¬xk=5 by omega),DS e2,DS (show ¬xk=10 by omega),Bool.and_false]
     have HF:=H_ hf;clear hf;go_wp2_with fail
     all_goals
      go_ret;exact⟨aa HF.out.symm,HE.out⟩
theorem Cy:∀(m:Nat) (e:Ex) (cs:List Value) (w:World) (G:Nat->Prop),esz e<=m->ExK w G e cs->(∀b,G b->b<w.heap.size)->
 Calls Tryz.prog 174 #[.agg cs.toArray] w λr w'=>r= .returned (.bool (vE e))/\Below w.heap.size w w':=by
 intro m;induction m with
 |zero=>intro e cs w G hm;have:=bE e;omega
 |succ m ih=>
  intro e cs w G hm hr hG;obtain⟨xk,xo,xz,xn,xa,args⟩:=e;obtain⟨A,n,c,rfl,hs⟩:=ExK.inv hr;rw[dH]at hm;obtain⟨vb,hvb⟩:=nm_ (vE (.mk xk xo xz xn xa args));rw[hvb];have HVB:=H_ hvb;clear hvb;have hm2:=hs.1;have hnb:n<=1152921504606846976:=hs.2.1;obtain⟨g,hz⟩:=nm_ (w.heap.size);obtain⟨W0,hW0⟩:=nm_ (w.alloc (.cells #[.int .i64 xk,.int .i64 xo,.int .i64 xz,.string xn,.bool xa,.slice A n c] 172));have HQ:=hng hW0 hz;have HB0:=hba hW0;have hs0:W0.heap.size=g+1:=by rw[<-hW0,DV,hz]
  have HS:=H_ (hs.aA (G':=G) (w':=W0) (λb hb=>⟨hb,HB0.out.block b (hG b hb)⟩));have HG:=H_ (show∀b,G b->b<W0.heap.size from λb hb=>by have:=hG b hb;omega);have HIH:=H_ ih;have HW:=H_ hW0;clear ih hs hG hr hW0;go_enter Tryz.func174,Tryz.ntmps174;rw[hz];go_upto_region 1 with fail;rw[HW.out];go_wp2_with fail;go_loopw [3] (λi wr=>∃k:Nat,k<=n/\i= .int .i64 k/\Hid (Below W0.heap.size W0 wr)/\Hid ((args.take k).all vE=true)) (λi _=>n-(intOf i).toNat)
  case atStart=>exact⟨0,Ea _,rfl,H_ (DN _ _),H_ rfl⟩
  case round=>
   obtain⟨k,hk,rfl,HB,HV⟩:=hrel;have HQ1:=HQ.out.below HB.out (by omega);by_cases hkm:k<n
   ·have hkz:(k:Int)<(n:Int):=by omega
    have q5:=HQ1.k5;have hS2:=HS.out.aA (G':=G) (w':=wr) (λb hb'=>⟨hb',HB.out.block b (HG.out b hb')⟩);obtain⟨b,off,x,cs,rfl,hgb,hx,hrd,hat⟩:=hS2.at_ hkm;have hsz:=cd esz hx;have HX:=H_ hx;obtain⟨bx,hbx'⟩:∃bx,vE x=bx:=⟨_,rfl⟩;have HVX:=H_ hbx';have hbb:=HB.out.size;have HC:=H_ (HIH.out _ _ wr G (by omega) hrd (λq hq=>by have:=HG.out q hq;omega));rw[hbx']at HC;obtain⟨yk,yo,yz,yn,ya,args2⟩:=x;obtain⟨A2,n2,c2,rfl,hsa⟩:=ExK.inv hrd;obtain⟨d0,d1,d2,d3,d4,d5⟩:=At.e6 hat
    clear hat hrd hsa hS2 hx hbx' HQ1;go_wp2_with fail;refine HC.out.mono ?_;rintro r w1 ⟨rfl,b1⟩;have B1:=H_ (HB.out.trans (b1.mono (by omega)));clear b1 HB HC;cases bx with
    |false=>
     go_wp2_with fail;go_ret;refine⟨aa ?_,hz▸HB0.out.trans (B1.out.mono (by omega))⟩;rw[<-HVB.out,vE,gE,bh HX.out HVX.out,Bool.and_false]
    |true=>
     go_wp2_with fail;go_roundw
     case rel=>exact⟨k+1,by omega,by go_num,B1,H_ (by rw[br HX.out,HV.out,HVX.out];rfl)⟩
     case measure=>simp[intOf];omega
   ·obtain rfl:k=n:=by omega
    have ht:args.take k=args:=DP (by omega);have HA:=H_ (show vb=lc xk xo xz xn xa k by rw[<-HVB.out,vE,gE,<-ht,HV.out,Bool.and_true,ht,hm2]);obtain⟨q0,q1,q2,q3,q4,q5⟩:=HQ1.c6;have HE:Hid (Below g w wr):=H_ (hz▸HB0.out.trans (HB.out.mono (by omega)));have hsz:g<=wr.heap.size:=by have:=HB.out.size;omega
    have HQW:=H_ HQ1;have HC1:Hid (Calls Tryz.prog 73 #[.string xn] wr λe w'=>e= .returned (.bool (aO xn 97 122))/\Below wr.heap.size wr w'):=H_ (eA xn wr);have HC2:Hid (Calls Tryz.prog 74 #[.string xn] wr λe w'=>e= .returned (.bool (aO xn 65 90))/\Below wr.heap.size wr w'):=H_ (lN xn wr);clear HB HV HQ1 HIH HG HS;by_cases hkk:xk=0\/xk=1\/xk=2\/xk=3\/xk=4\/xk=5\/xk=6\/xk=7\/xk=8\/xk=9\/xk=10
    ·rcases hkk with rfl|rfl|rfl|rfl|rfl|rfl|rfl|rfl|rfl|rfl|rfl
     all_goals
      go_wp2_with (first
       |(go_at_call 73;refine HC1.out.mono ?_;rintro r w1 ⟨rfl,b1⟩;have q4':=(HQW.out.below b1 HQW.out.lt).k4;have q5':=(HQW.out.below b1 HQW.out.lt).k5;have HE:=H_ (HE.out.trans (b1.mono (by omega)));clear b1)
       |(go_at_call 74;refine HC2.out.mono ?_;rintro r w1 ⟨rfl,b1⟩;have q4':=(HQW.out.below b1 HQW.out.lt).k4;have q5':=(HQW.out.below b1 HQW.out.lt).k5;have HE:=H_ (HE.out.trans (b1.mono (by omega)));clear b1))
      all_goals
       go_ret;refine⟨aa ?_,HE.out⟩;rw[HA.out];unfold lc
       first
       |(rw[Bool.eq_iff_iff];simp[*,aW,isE];done)
       |(rw[Bool.eq_iff_iff];simp[*,aW,isE];omega)
       |(have hk1:k=0:=by omega
         rw[Bool.eq_iff_iff];simp[*,aW,isE];done)
       |(have hk1:k=0:=by omega
         rw[Bool.eq_iff_iff];simp[*,aW,isE];omega)
       |(have hk1:k=1:=by omega
         rw[Bool.eq_iff_iff];simp[*,aW,isE];done)
       |(have hk1:k=1:=by omega
         rw[Bool.eq_iff_iff];simp[*,aW,isE];omega)
       |(have hk1:k=2:=by omega
         rw[Bool.eq_iff_iff];simp[*,aW,isE];done)
       |(have hk1:k=2:=by omega
         rw[Bool.eq_iff_iff];simp[*,aW,isE];omega)
       |(have hk1:¬k=0:=by omega
         rw[Bool.eq_iff_iff];simp[*,aW,isE];done)
       |(have hk1:¬k=0:=by omega
         rw[Bool.eq_iff_iff];simp[*,aW,isE];omega)
       |(have hk1:¬k=1:=by omega
         rw[Bool.eq_iff_iff];simp[*,aW,isE];done)
       |(have hk1:¬k=1:=by omega
         rw[Bool.eq_iff_iff];simp[*,aW,isE];omega)
       |(have hk1:¬k=2:=by omega
         rw[Bool.eq_iff_iff];simp[*,aW,isE];done)
       |(have hk1:¬k=2:=by omega
         rw[Bool.eq_iff_iff];simp[*,aW,isE];omega)
    ·have n0:(xk==0)=false:=DM.2 (by omega);have n1:(xk==1)=false:=DM.2 (by omega);have n2:(xk==2)=false:=DM.2 (by omega);have n3:(xk==3)=false:=DM.2 (by omega);have n4:(xk==4)=false:=DM.2 (by omega);have n5:(xk==5)=false:=DM.2 (by omega);have n6:(xk==6)=false:=DM.2 (by omega);have n7:(xk==7)=false:=DM.2 (by omega);have n8:(xk==8)=false:=DM.2 (by omega);have n9:(xk==9)=false:=DM.2 (by omega);have n10:(xk==10)=false:=DM.2 (by omega)
     have hf:vb=false:=by
      rw[HA.out];unfold lc;have e1:¬(xk=1\/xk=2):=by omega
      have e2:¬(xk=6\/xk=7\/xk=8\/xk=9):=by omega
      rw[DS (show ¬xk=0 by omega),DS e1,DS (show ¬xk=3 by omega),DS (show ¬xk=4 by omega),DS (show ¬xk=5 by omega),DS e2,DS (show ¬xk=10 by omega),Bool.and_false]
     have HF:=H_ hf;clear hf;go_wp2_with fail
     all_goals
      go_ret;exact⟨aa HF.out.symm,HE.out⟩
theorem tc(xs:List ByteArray)(A:Option Addr)(n c:Nat)(w:World)(G:Nat->Prop)(hs:Sl dn w G xs A n)(hG:∀b,G b->b<w.heap.size):
 Calls Tryz.prog 76 #[.slice A n c] w λr w'=>r= .returned (.bool (xs.all gZ))/\Below w.heap.size w w':=by
 have HS:=H_ hs;have HG:=H_ hG;have hm:=hs.1;have hnb:n<=1152921504606846976:=hs.2.1;clear hs hG;go_enter Tryz.func76,Tryz.ntmps76;go_wp2_with fail;go_loopw [3] (λi wr=>∃k:Nat,k<=n/\i= .int .i64 k/\Hid (Below w.heap.size w wr)/\Hid ((xs.take k).all gZ=true)) (λi _=>n-(intOf i).toNat)
 case atStart=>exact⟨0,Ea _,rfl,H_ (DN _ _),H_ rfl⟩
 case round=>
  obtain⟨k,hk,rfl,HB,HV⟩:=hrel;by_cases hkm:k<n
  ·have hkz:(k:Int)<(n:Int):=by omega
   have hS2:=HS.out.aA (G':=G) (w':=wr) (λb hb'=>⟨hb',HB.out.block b (HG.out b hb')⟩);obtain⟨b,off,x,cs,rfl,hgb,hx,hrd,hat⟩:=hS2.at_ hkm;have HX:=H_ hx;obtain⟨bx,hbx⟩:=nm_ (gZ x);have HVX:=H_ hbx;obtain rfl:cs=[.string x]:=hrd;have d0:=At.e1 hat
   have HC:=H_ (eA x wr);rw[hbx]at HC;clear hat hS2 hx hbx;go_wp2_with fail;refine HC.out.mono ?_;rintro r w1 ⟨rfl,b1⟩;have B1:=htr HB b1;clear b1 HB HC;cases bx with
   |false=>
    go_wp2_with fail;go_ret;exact⟨aa (bh HX.out HVX.out).symm,B1.out⟩
   |true=>
    go_wp2_with fail;go_roundw
    case rel=>exact⟨k+1,by omega,by go_num,B1,H_ (by rw[br HX.out,HV.out,HVX.out];rfl)⟩
    case measure=>simp[intOf];omega
  ·obtain rfl:k=n:=by omega
   have ht:xs.take k=xs:=DP (by omega);rw[ht]at HV;go_wp2_with fail;go_ret;exact⟨aa HV.out.symm,HB.out⟩
theorem Blk.aC{t:TypeId}{a b c e:Value}(h:Blk w g t #[a,b,c,d,e,f]):
 (w.cell? ⟨g,0,none⟩=some a/\w.cell? ⟨g,1,none⟩=some b/\w.cell? ⟨g,2,none⟩=some c/\w.cell? ⟨g,3,none⟩=some d/\w.cell? ⟨g,4,none⟩=some e/\w.cell? ⟨g,5,none⟩=some f)/\
 w.frozen? ⟨g,0,none⟩=false/\w.frozen? ⟨g,1,none⟩=false/\w.frozen? ⟨g,2,none⟩=false/\w.frozen? ⟨g,3,none⟩=false/\w.frozen? ⟨g,4,none⟩=false/\w.frozen? ⟨g,5,none⟩=false:=
 ⟨⟨h.cell 0,h.cell 1,h.cell 2,h.cell 3,h.cell 4,h.cell 5⟩,h.frozen 0,h.frozen 1,h.frozen 2,h.frozen 3,h.frozen 4,h.frozen 5⟩
theorem Ai{B p:Nat}{a:World}(h:Bx B p a w)(hg:B<=g\/g=p)(a' b' c' d' e' f':Value):
 Bx B p a ((((((w.setCell ⟨g,0,none⟩ a').setCell ⟨g,1,none⟩ b').setCell ⟨g,2,none⟩ c').setCell ⟨g,3,none⟩ d').setCell ⟨g,4,none⟩ e').setCell ⟨g,5,none⟩ f'):=
 (((((h.setCell (q:=⟨g,0,none⟩) hg a').setCell (q:=⟨g,1,none⟩) hg b').setCell (q:=⟨g,2,none⟩) hg c').setCell (q:=⟨g,3,none⟩) hg d').setCell (q:=⟨g,4,none⟩) hg e').setCell (q:=⟨g,5,none⟩) hg f'
theorem PS.on{p c:Nat}(h:PS w1 p A c T i)(hw:p<w.heap.size)(he:∀k,k<w.heap.size->w2.heap[k]?=w1.heap[k]?):PS w2 p A c T i:=by
 refine⟨(he p hw).trans h.aE,?_,h.wf,h.lt⟩;obtain⟨b,off,h1,h2,h3⟩:=h.tok;exact⟨b,off,h1,h2,h3.aA (he b (by omega))⟩
abbrev rvE:Rv Ex:=rvC kEx
theorem nn{p c:Nat}(h:PS w p A c T i):
 ∃w0,w.alloc (.cells #[.int .i64 0,.int .i64 0,.int .i64 0,.string ⟨#[]⟩,.bool false,.slice none 0 0] 172)=w0/\Blk w0 w.heap.size 172 #[.int .i64 0,.int .i64 0,.int .i64 0,.string ⟨#[]⟩,.bool false,.slice none 0 0]/\Bx w.heap.size p w w0/\PS w0 p A c T i:=
 ⟨_,rfl,Blk.new w 172 _,(Bx.refl _ _ _).alloc (DK _) _,h.below ((DN _ _).alloc (DK _) _)⟩
theorem Bx.put{S p:Nat}(B:Bx S p w w2)(bw:Bx w2.heap.size g w2 W)(hg:S<=g)(hS:S<=w.heap.size):Bx S p w W:=
 B.trans ⟨bw.os,bw.tape,bw.output,bw.size,λk hk hp=>bw.block k (by have:=B.size;omega) (by omega)⟩
theorem PS.put{p c:Nat}(P:PS w2 p A c T i)(bw:Bx w2.heap.size g w2 W)(hg:p<g):PS W p A c T i:=by
 have hp:=P.aE.lt;refine⟨(bw.block p hp (by omega)).trans P.aE,?_,P.wf,P.lt⟩;obtain⟨b,off,h1,h2,h3⟩:=P.tok;exact⟨b,off,h1,h2,h3.aA (bw.block b (by omega) (by omega))⟩
theorem Fr.aA(bw:Bx w2.heap.size g w2 W)(hw:w.heap.size<=w1.heap.size)(hg:g<w1.heap.size):∀b,Fr w1 w2 b->Fr w W b/\W.heap[b]?=w2.heap[b]?:=
 λb hb=>⟨⟨Ek hw hb.1,DR hb.2 bw.size⟩,bw.block b hb.2 (by have:=hb.1;omega)⟩
theorem gv{t:TypeId}{a b c e:Value}(q:Blk w g t #[a,b,c,d,e,f])(a' b' c' d' e' f':Value):
 Blk ((((((w.setCell ⟨g,0,none⟩ a').setCell ⟨g,1,none⟩ b').setCell ⟨g,2,none⟩ c').setCell ⟨g,3,none⟩ d').setCell ⟨g,4,none⟩ e').setCell ⟨g,5,none⟩ f') g t #[a',b',c',d',e',f']/\
 Bx w.heap.size g w ((((((w.setCell ⟨g,0,none⟩ a').setCell ⟨g,1,none⟩ b').setCell ⟨g,2,none⟩ c').setCell ⟨g,3,none⟩ d').setCell ⟨g,4,none⟩ e').setCell ⟨g,5,none⟩ f'):=
 ⟨q.set6,Ai (Bx.refl _ _ _) (.inr rfl) _ _ _ _ _ _⟩
theorem zQ:(Tryz.prog.info? 172).map (·.size)=some 6:=by kernel_rfl
theorem fW{fn:Func}{s:Tmp}{tmps:Array Value}{R:Ending->World->Prop}(hf:fn.results= #[.cell s 172])(hs:tmps.getD s undef= .pointer (some ⟨g,0,none⟩))(q:Blk W g 172 #[v0,v1,v2,v3,v4,v5])
 (hR:R (.returned (.agg #[v0,v1,v2,v3,v4,v5])) W):bodyPost Tryz.prog fn R .ret {tmps:=tmps,defers:=[]} W:=
 rm g 172 _ _ hf hs q Tryz.underlying172 rfl zQ hR
theorem qa{G:Nat->Prop}{x:Ex}{o0 o1 o2 o3 o4 o5:Value}(q:Blk w2 g 172 #[o0,o1,o2,o3,o4,o5])(hx:ExC w2 G x [v0,v1,v2,v3,v4,v5])(hG:∀b,G b->b<w2.heap.size/\b≠g)
 (k op z:Int) (nm:ByteArray) (at_:Bool) (W:World) (hW:W=((((((w2.setCell ⟨g,0,none⟩ (.int .i64 k)).setCell ⟨g,1,none⟩ (.int .i64 op)).setCell ⟨g,2,none⟩ (.int .i64 z)).setCell ⟨g,3,none⟩ (.string nm)).setCell ⟨g,4,none⟩ (.bool at_)).setCell ⟨g,5,none⟩ (.slice (some ⟨w2.heap.size,0,none⟩) 1 1)).alloc (.cells #[v0,v1,v2,v3,v4,v5] 172)):
 Blk W g 172 #[.int .i64 k,.int .i64 op,.int .i64 z,.string nm,.bool at_,.slice (some ⟨w2.heap.size,0,none⟩) 1 1]/\Bx w2.heap.size g w2 W/\
 ExC W (λb=>G b\/(b=w2.heap.size/\b<W.heap.size)) (.mk k op z nm at_ [x]) [.int .i64 k,.int .i64 op,.int .i64 z,.string nm,.bool at_,.slice (some ⟨w2.heap.size,0,none⟩) 1 1]:=by
 have h1:=gv q (.int .i64 k) (.int .i64 op) (.int .i64 z) (.string nm) (.bool at_) (.slice (some ⟨w2.heap.size,0,none⟩) 1 1);have hs:((((((w2.setCell ⟨g,0,none⟩ (.int .i64 k)).setCell ⟨g,1,none⟩ (.int .i64 op)).setCell ⟨g,2,none⟩ (.int .i64 z)).setCell ⟨g,3,none⟩ (.string nm)).setCell ⟨g,4,none⟩ (.bool at_)).setCell ⟨g,5,none⟩ (.slice (some ⟨w2.heap.size,0,none⟩) 1 1)).heap.size=w2.heap.size:=by simp
 generalize((((((w2.setCell ⟨g,0,none⟩ (.int .i64 k)).setCell ⟨g,1,none⟩ (.int .i64 op)).setCell ⟨g,2,none⟩ (.int .i64 z)).setCell ⟨g,3,none⟩ (.string nm)).setCell ⟨g,4,none⟩ (.bool at_)).setCell ⟨g,5,none⟩ (.slice (some ⟨w2.heap.size,0,none⟩) 1 1))=V at h1 hs hW;subst hW;have hb:=h1.2.alloc (by omega) (.cells #[v0,v1,v2,v3,v4,v5] 172);refine⟨h1.1.alloc _,hb,?_⟩;refine ExC.of k op z nm at_ 1 ?_;rw[<-hs];exact kj (K:=kEx) (Blk.new V 172 #[v0,v1,v2,v3,v4,v5]) (.inr ⟨rfl,by simp⟩) (ExC.aA (λb hb'=>⟨.inl hb',hb.block b (hG b hb').1 (hG b hb').2⟩) hx)
theorem kD(bw:Bx w2.heap.size g w2 W)(hw:w.heap.size<=w1.heap.size)(hg:w.heap.size<=w2.heap.size):∀b,(Fr w1 w2 b\/(b=w2.heap.size/\b<W.heap.size))->Fr w W b/\W.heap[b]?=W.heap[b]?:=by
 intro b hb;have:=bw.size;rcases hb with hb|⟨rfl,hb⟩
 ·exact⟨⟨Ek hw hb.1,DR hb.2 bw.size⟩,rfl⟩
 ·exact⟨⟨hg,hb⟩,rfl⟩
--walks
section
variable{T:List Tk}{rec:Nat->Nat->R Ex}{i:Nat}
theorem Bo(HC:RdAt rvE 311 T (cz T rec) i)(HR:∀j,i<j->RdAt rvE 308 T (rec 2) j):RdAt rvE 308 T (iO T rec) i:=by
 intro p c A w h;have hp:=h.aE.lt;obtain⟨w0,hw0,q0,b0,P0⟩:=nn h;have Q0:=H_ q0;have B0:=H_ b0;have HP0:=H_ P0;have HC':=H_ HC;have HR':=H_ HR;clear h HC HR q0 b0 P0;go_enter Tryz.func308,Tryz.ntmps308;go_upto_region 1 with(fail);have hsz:=B0.out.size;have hg0:=Q0.out.lt;obtain⟨g,hgz⟩:=nm_ (w.heap.size);rw[hgz]at Q0 hg0⊢;clear hw0;go_wp2_with fail;refine bg HP0.out _ (λht w1 P1 b1=>?_) (λht w1 P1 b1=>?_)
 ·obtain⟨-,B1,Q1,hg1⟩:=fr1 B0 Q0 b1;have HP1:=H_ P1;have HT:=H_ ht;clear Q0 B0 HP0 P1 b1 ht;go_wp2_with fail;refine Out.use (HR'.out (i+1) (by omega) p c A w1 HP1.out) (λj w2 hr b2=>?_) (λx j v w2 hr hv P2 b2=>?_)
  ·exact⟨rfl,Out.bad (by unfold iO ev;rw[Ed (show isT T dE i=true from HT.out),hr]) (B1.out.aB b2)⟩
  obtain⟨-,B2,Q2,hg2⟩:=fr1 B1 Q1 b2;have HP2:=H_ P2;clear Q1 B1 HP1 P2 b2;obtain⟨k,op,z,nm,at_,A',n,c',rfl,hv'⟩:=ExV.inv hv;have HV:=H_ hv';have HR2:=H_ hr;clear hv hv' hr;obtain⟨⟨c0,c1,c2,c3,c4,c5⟩,f0,f1,f2,f3,f4,f5⟩:=Q2.out.aC;go_wp2_with fail;obtain⟨N1,N2,N3⟩:=qa Q2.out HV.out (λb hb=>⟨hb.2,by have:=hb.1;omega⟩) 9 0 0 ⟨#[]⟩ false _ rfl;exact fW rfl (by simp) N1 (Out.ok (by unfold iO ev;rw[Ed (show isT T dE i=true from HT.out),HR2.out];rfl) ⟨_,rfl,N3.aA (kD N2 (by omega) (by omega))⟩ (HP2.out.put N2 (by omega)) (B2.out.put N2 (by omega) (DK _)))
 ·obtain⟨-,B1,Q1,hg1⟩:=fr1 B0 Q0 b1;have HP1:=H_ P1;have HT:=H_ ht;clear Q0 B0 HP0 P1 b1 ht;go_wp2_with fail;refine Out.use (HC'.out p c A w1 HP1.out) (λj w2 hr b2=>?_) (λx j v w2 hr hv P2 b2=>?_)
  ·exact⟨rfl,Out.bad (by unfold iO;rw[DS (show ¬isT T dE i=true from by rw[show isT T dE i=false from HT.out];simp),hr]) (B1.out.aB b2)⟩
  obtain⟨-,B2,Q2,hg2⟩:=fr1 B1 Q1 b2;have HP2:=H_ P2;clear Q1 B1 HP1 P2 b2;obtain⟨k,op,z,nm,at_,A',n,c',rfl,hv'⟩:=ExV.inv hv;have HV:=H_ hv';have HR2:=H_ hr;clear hv hv' hr;obtain⟨⟨c0,c1,c2,c3,c4,c5⟩,f0,f1,f2,f3,f4,f5⟩:=Q2.out.aC;go_wp2_with fail;obtain⟨N1,N2⟩:=gv Q2.out (.int .i64 k) (.int .i64 op) (.int .i64 z) (.string nm) (.bool at_) (.slice A' n c');exact fW rfl (by simp) N1 (Out.ok (by unfold iO;rw[DS (show ¬isT T dE i=true from by rw[show isT T dE i=false from HT.out];simp),HR2.out]) ⟨_,rfl,HV.out.aA (Fr.aA N2 (by omega) hg1)⟩ (HP2.out.put N2 (by omega)) (B2.out.put N2 (by omega) (DK _)))
theorem vw(HC:RdAt rvE 309 T (cj T rec) i)(HR:∀j,i<j->RdAt rvE 303 T (rec 6) j):RdAt rvE 303 T (co T rec) i:=by
 intro p c A w h;have hp:=h.aE.lt;obtain⟨w0,hw0,q0,b0,P0⟩:=nn h;have Q0:=H_ q0;have B0:=H_ b0;have HP0:=H_ P0;have HC':=H_ HC;have HR':=H_ HR;clear h HC HR q0 b0 P0;go_enter Tryz.func303,Tryz.ntmps303;go_upto_region 1 with(fail);have hsz:=B0.out.size;have hg0:=Q0.out.lt;obtain⟨g,hgz⟩:=nm_ (w.heap.size);rw[hgz]at Q0 hg0⊢;clear hw0;go_wp2_with fail;refine bg HP0.out _ (λht w1 P1 b1=>?_) (λht w1 P1 b1=>?_)
 ·obtain⟨-,B1,Q1,hg1⟩:=fr1 B0 Q0 b1;have HP1:=H_ P1;have HT:=H_ ht;clear Q0 B0 HP0 P1 b1 ht;go_wp2_with fail;refine Out.use (HR'.out (i+1) (by omega) p c A w1 HP1.out) (λj w2 hr b2=>?_) (λx j v w2 hr hv P2 b2=>?_)
  ·exact⟨rfl,Out.bad (by unfold co ev;rw[Ed (show isT T bK i=true from HT.out),hr]) (B1.out.aB b2)⟩
  obtain⟨-,B2,Q2,hg2⟩:=fr1 B1 Q1 b2;have HP2:=H_ P2;clear Q1 B1 HP1 P2 b2;obtain⟨k,op,z,nm,at_,A',n,c',rfl,hv'⟩:=ExV.inv hv;have HV:=H_ hv';have HR2:=H_ hr;clear hv hv' hr;obtain⟨⟨c0,c1,c2,c3,c4,c5⟩,f0,f1,f2,f3,f4,f5⟩:=Q2.out.aC;go_wp2_with fail;obtain⟨N1,N2,N3⟩:=qa Q2.out HV.out (λb hb=>⟨hb.2,by have:=hb.1;omega⟩) 8 0 0 ⟨#[]⟩ false _ rfl;exact fW rfl (by simp) N1 (Out.ok (by unfold co ev;rw[Ed (show isT T bK i=true from HT.out),HR2.out];rfl) ⟨_,rfl,N3.aA (kD N2 (by omega) (by omega))⟩ (HP2.out.put N2 (by omega)) (B2.out.put N2 (by omega) (DK _)))
 ·obtain⟨-,B1,Q1,hg1⟩:=fr1 B0 Q0 b1;have HP1:=H_ P1;have HN0:=H_ ht;clear Q0 B0 HP0 P1 b1 ht;go_wp2_with fail;refine bg HP1.out _ (λht w2 P2 b2=>?_) (λht w2 P2 b2=>?_)
  ·obtain⟨-,B2,Q2,hg2⟩:=fr1 B1 Q1 b2;have HP2:=H_ P2;have HT:=H_ ht;clear Q1 B1 HP1 P2 b2 ht;go_wp2_with fail;refine Out.use (HR'.out (i+1) (by omega) p c A w2 HP2.out) (λj w3 hr b3=>?_) (λx j v w3 hr hv P3 b3=>?_)
   ·exact⟨rfl,Out.bad (by unfold co ev;rw[DS (show ¬isT T bK i=true from by rw[show isT T bK i=false from HN0.out];simp)];rw[Ed (show isT T ca i=true from HT.out),hr]) (B2.out.aB b3)⟩
   obtain⟨-,B3,Q3,hg3⟩:=fr1 B2 Q2 b3;have HP3:=H_ P3;clear Q2 B2 HP2 P3 b3;obtain⟨k,op,z,nm,at_,A',n,c',rfl,hv'⟩:=ExV.inv hv;have HV:=H_ hv';have HR2:=H_ hr;clear hv hv' hr;obtain⟨⟨c0,c1,c2,c3,c4,c5⟩,f0,f1,f2,f3,f4,f5⟩:=Q3.out.aC;go_wp2_with fail;obtain⟨N1,N2,N3⟩:=qa Q3.out HV.out (λb hb=>⟨hb.2,by have:=hb.1;omega⟩) 6 0 0 ⟨#[]⟩ false _ rfl;exact fW rfl (by simp) N1 (Out.ok (by unfold co ev;rw[DS (show ¬isT T bK i=true from by rw[show isT T bK i=false from HN0.out];simp)];rw[Ed (show isT T ca i=true from HT.out),HR2.out];rfl) ⟨_,rfl,N3.aA (kD N2 (by omega) (by omega))⟩ (HP3.out.put N2 (by omega)) (B3.out.put N2 (by omega) (DK _)))
  ·obtain⟨-,B2,Q2,hg2⟩:=fr1 B1 Q1 b2;have HP2:=H_ P2;have HN1:=H_ ht;clear Q1 B1 HP1 P2 b2 ht;go_wp2_with fail;refine bg HP2.out _ (λht w3 P3 b3=>?_) (λht w3 P3 b3=>?_)
   ·obtain⟨-,B3,Q3,hg3⟩:=fr1 B2 Q2 b3;have HP3:=H_ P3;have HT:=H_ ht;clear Q2 B2 HP2 P3 b3 ht;go_wp2_with fail;refine Out.use (HR'.out (i+1) (by omega) p c A w3 HP3.out) (λj w4 hr b4=>?_) (λx j v w4 hr hv P4 b4=>?_)
    ·exact⟨rfl,Out.bad (by unfold co ev;rw[DS (show ¬isT T bK i=true from by rw[show isT T bK i=false from HN0.out];simp)];rw[DS (show ¬isT T ca i=true from by rw[show isT T ca i=false from HN1.out];simp)];rw[Ed (show isT T dT i=true from HT.out),hr]) (B3.out.aB b4)⟩
    obtain⟨-,B4,Q4,hg4⟩:=fr1 B3 Q3 b4;have HP4:=H_ P4;clear Q3 B3 HP3 P4 b4;obtain⟨k,op,z,nm,at_,A',n,c',rfl,hv'⟩:=ExV.inv hv;have HV:=H_ hv';have HR2:=H_ hr;clear hv hv' hr;obtain⟨⟨c0,c1,c2,c3,c4,c5⟩,f0,f1,f2,f3,f4,f5⟩:=Q4.out.aC;go_wp2_with fail;obtain⟨N1,N2,N3⟩:=qa Q4.out HV.out (λb hb=>⟨hb.2,by have:=hb.1;omega⟩) 7 0 0 ⟨#[]⟩ false _ rfl;exact fW rfl (by simp) N1 (Out.ok (by unfold co ev;rw[DS (show ¬isT T bK i=true from by rw[show isT T bK i=false from HN0.out];simp)];rw[DS (show ¬isT T ca i=true from by rw[show isT T ca i=false from HN1.out];simp)];rw[Ed (show isT T dT i=true from HT.out),HR2.out];rfl) ⟨_,rfl,N3.aA (kD N2 (by omega) (by omega))⟩ (HP4.out.put N2 (by omega)) (B4.out.put N2 (by omega) (DK _)))
   ·obtain⟨-,B3,Q3,hg3⟩:=fr1 B2 Q2 b3;have HP3:=H_ P3;have HN2:=H_ ht;clear Q2 B2 HP2 P3 b3 ht;go_wp2_with fail;refine Out.use (HC'.out p c A w3 HP3.out) (λj w4 hr b4=>?_) (λx j v w4 hr hv P4 b4=>?_)
    ·exact⟨rfl,Out.bad (by unfold co;rw[DS (show ¬isT T bK i=true from by rw[show isT T bK i=false from HN0.out];simp)];rw[DS (show ¬isT T ca i=true from by rw[show isT T ca i=false from HN1.out];simp)];rw[DS (show ¬isT T dT i=true from by rw[show isT T dT i=false from HN2.out];simp)];rw[hr]) (B3.out.aB b4)⟩
    obtain⟨-,B4,Q4,hg4⟩:=fr1 B3 Q3 b4;have HP4:=H_ P4;clear Q3 B3 HP3 P4 b4;obtain⟨k,op,z,nm,at_,A',n,c',rfl,hv'⟩:=ExV.inv hv;have HV:=H_ hv';have HR2:=H_ hr;clear hv hv' hr;obtain⟨⟨c0,c1,c2,c3,c4,c5⟩,f0,f1,f2,f3,f4,f5⟩:=Q4.out.aC;go_wp2_with fail;obtain⟨N1,N2⟩:=gv Q4.out (.int .i64 k) (.int .i64 op) (.int .i64 z) (.string nm) (.bool at_) (.slice A' n c');exact fW rfl (by simp) N1 (Out.ok (by unfold co;rw[DS (show ¬isT T bK i=true from by rw[show isT T bK i=false from HN0.out];simp)];rw[DS (show ¬isT T ca i=true from by rw[show isT T ca i=false from HN1.out];simp)];rw[DS (show ¬isT T dT i=true from by rw[show isT T dT i=false from HN2.out];simp)];rw[HR2.out]) ⟨_,rfl,HV.out.aA (Fr.aA N2 (by omega) hg3)⟩ (HP4.out.put N2 (by omega)) (B4.out.put N2 (by omega) (DK _)))
end
def nj(sz:Nat)(t e:TypeId):Prop:=Tryz.prog.underlying t=some (.slice e)/\∃i z,Tryz.prog.info? e=some i/\i.zero=some z/\i.size=sz/\i.bytes<=128/\z.cells.size=sz
theorem iA{sz:Nat}{t:TypeId}{z:Value}{bytes:Nat}(ht:Tryz.prog.underlying t=some (.slice e))(h:(Tryz.prog.info? e).map (λi=>(i.zero,i.size,i.bytes))=some (some z,sz,bytes))(hz:z.cells.size=sz)(hb:bytes<=128):nj sz t e:=by
 cases hq:Tryz.prog.info? e with
 |none=>rw[hq]at h;cases h
 |some i=>
  rw[hq]at h;simp only[Option.map_some,Option.some.injEq,Prod.mk.injEq]at h;exact⟨ht,i,z,hq,h.1,h.2.1,by omega,hz⟩
theorem sY:nj 6 166 172:=iA (z:= .agg #[.int .i64 0,.int .i64 0,.int .i64 0,.string ⟨#[]⟩,.bool false,.slice none 0 0]) (bytes:=72) (by kernel_rfl) (by kernel_rfl) rfl (by decide)
theorem wB:nj 1 67 9:=iA (z:= .string ⟨#[]⟩) (bytes:=16) (by kernel_rfl) (by kernel_rfl) rfl (by decide)
theorem CC:nj 5 119 168:=iA (z:= .agg #[.int .i64 0,.string ⟨#[]⟩,.slice none 0 0,.slice none 0 0,.slice none 0 0]) (bytes:=96) (by kernel_rfl) (by kernel_rfl) rfl (by decide)
theorem CD:nj 3 115 121:=iA (z:= .agg #[.string ⟨#[]⟩,.slice none 0 0,.slice none 0 0]) (bytes:=64) (by kernel_rfl) (by kernel_rfl) rfl (by decide)
theorem As:nj 4 26 117:=iA (z:= .agg #[.string ⟨#[]⟩,.bool false,.slice none 0 0,.slice none 0 0]) (bytes:=72) (by kernel_rfl) (by kernel_rfl) rfl (by decide)
def noZ:Nat->Prop:=λ_=>False
theorem ik{K:Kd α}{t:TypeId}(hR:nj K.sz t e)(ty:TypeId){xs ys:List α}{b c:Nat}
 (hv:Vec K e base Z w v xs) (hd:dss.length=ys.length) (hat:At w b off dss.flatten)
 (hy:∀(j:Nat) x cs,ys[j]?=some x->dss[j]?=some cs->K.rd w (λb=>NG base Z w b/\v.ownBlock≠some b) x cs)
 (hn:xs.length+ys.length<=200000) (hbase:base<=w.heap.size) (hZ:∀b,w.heap.size<=b->¬Z b):
 ∃v' w',(Builtin.append_ #[t,t] ty #[v,.slice (some ⟨b,off,none⟩) ys.length c]).run Tryz.prog w= .ok v' w'/\Vec K e base Z w' v' (xs++ys)/\w.grownBy w' v.ownBlock/\(v'.ownBlock=v.ownBlock\/v'.ownBlock=some w.heap.size):=by
 obtain⟨ht,i,z,hi,hz,hsz,hby,hzs⟩:=hR;obtain⟨hp,css,h1,h2,h3⟩:=hv
 have hlen:∀ds∈dss,ds.length=K.sz:=λds hds=>by
  obtain⟨j,hj⟩:=EP hds;have hjl:j<ys.length:=by have:=(DQ.1 hj).1;omega
  exact K.len (hy j ys[j] ds (DT hjl) hj)
 have hone:∀u∈dss.flatten,u.oneCell'=true:=λu hu=>by
  obtain⟨ds,hds,hu⟩:=List.mem_flatten.1 hu;obtain⟨j,hj⟩:=EP hds;have hjl:j<ys.length:=by have:=(DQ.1 hj).1;omega
  exact K.one (hy j ys[j] ds (DT hjl) hj) u hu
 have hfl:dss.flatten.length=ys.length*K.sz:=by
  rw[List.length_flatten,<-hd];clear hd hat hy h1 h2 h3 hone;induction dss with
  |nil=>simp
  |cons d l ih=>rw[EE,List.sum_cons,hlen d (by simp),ih (λx hx=>hlen x (by simp[hx])),DL,Nat.succ_mul];omega
 obtain⟨v',w',hr,hown,hgrow,_,hatb⟩:=run_append_own_at (P:=Tryz.prog) w base t ty e i z K.sz i.bytes ht hi hz hsz rfl hzs K.pos v xs.length css.flatten h1 ⟨b,off,none⟩ ys.length c dss.flatten hfl (λj u hu=>by rw[iL];exact hat j u hu) hone (by simp only[maxLen];omega)
  (by have:(xs.length+ys.length)*i.bytes<=200000*128:=Nat.mul_le_mul (by omega) hby;omega) hbase
 exact⟨v',w',hr,Vec.app hp h2 h3 hd hy (hZ _ (DK _)) hown hgrow hatb,hgrow,hatb⟩
theorem fX{P:Program}(s x:Operand)(t:TypeId)(ho:o.op= .call {callee:= .builtin .append,args:= #[s,x],argTypes:= #[t,t]}){v':Value}
 (hs:a.eval s=v) (hx:a.eval x=u) (hr:(Builtin.append_ #[t,t] o.type #[v,u]).run P w= .ok v' w') (h:K' (a.put o.dst v') w'):Oper.wp P o a w K' Q:=by
 unfold Oper.wp execOp;simp only[ho,resolve,invoke,builtin,Fg,Fh,EM,List.map_toArray,EE,FV,hs,hx,hr];exact h
theorem gx{K:Kd α}{t:TypeId}(hR:nj K.sz t e)(s x:Operand)
 (ho:o.op= .call {callee:= .builtin .append,args:= #[s,x],argTypes:= #[t,t]}) {xs ys:List α} {b c m:Nat}
 (hv:Vec K e base Z w v xs) (hd:dss.length=ys.length) (hat:At w b off dss.flatten)
 (hy:∀(j:Nat) x cs,ys[j]?=some x->dss[j]?=some cs->K.rd w (λb=>NG base Z w b/\v.ownBlock≠some b) x cs) (hs:a.eval s=v) (hx:a.eval x= .slice (some ⟨b,off,none⟩) m c) (hm:m=ys.length)
 (hn:xs.length+ys.length<=200000) (hbase:base<=w.heap.size) (hZ:∀b,w.heap.size<=b->¬Z b)
 (h:∀v' w',Vec K e base Z w' v' (xs++ys)->w.grownBy w' v.ownBlock->K' (a.put o.dst v') w'):Oper.wp Tryz.prog o a w K' Q:=by
 subst hm;obtain⟨v',w',hr,h2,h3,_⟩:=ik hR o.type hv hd hat hy hn hbase hZ;exact fX s x t ho hs hx hr (h _ _ h2 h3)
theorem dV{K:Kd α}{t:TypeId}(hR:nj K.sz t e){ops:Array Oper}{rest:List Oper}(hgd:o.guard=none)(s x:Operand)
 (ho:o.op= .call {callee:= .builtin .append,args:= #[s,x],argTypes:= #[t,t]}) {w0:World} {xs:List α} {y:α} {cs:List Value} {te:TypeId} {c:Nat}
 (hv:Vec K e base Z w0 v xs) (hy:K.rd w0 (λb=>NG base Z w0 b/\v.ownBlock≠some b) y cs) (hs:a.eval s=v) (hx:a.eval x= .slice (some ⟨w0.heap.size,0,none⟩) 1 c)
 (hn:xs.length<=100000) (hbase:base<=w0.heap.size) (hZ:∀b,w0.heap.size<=b->¬Z b)
 (h:∀v' w',Vec K e base Z w' v' (xs++[y])->w0.grownBy w' v.ownBlock->wpList Tryz.prog ops Q rest (a.put o.dst v') w'):
 wpList Tryz.prog ops Q (o::rest) a (w0.alloc (.cells cs.toArray te)):=by
 have hg1:w0.grownBy (w0.alloc (.cells cs.toArray te)) v.ownBlock:=⟨rfl,rfl,rfl,by simp,λk hk hp=>EA _ _ _ hk⟩;have hv1:Vec K e base Z (w0.alloc (.cells cs.toArray te)) v xs:=hv.aA (by simp) (λk hk=>EA _ _ _ hk.2.1);refine wpList_plain hgd λK' hK=>?_;refine gx hR s x ho hv1 (ys:=[y]) (dss:=[cs]) rfl (by simpa using At.aE (Blk.new w0 te cs.toArray)) (λj x' cs' h1 h2=>?_) hs hx rfl (by simp;omega) (by simp;omega) (λb hb=>hZ b (by simp at hb;omega)) (λv' w' h1 h2=>hK _ _ (h v' w' h1 (hg1.trans h2)));cases j with
 |zero=>
  simp at h1 h2;subst h1 h2;exact K.aA (λb hb=>⟨⟨hb.1.mono (by simp),hb.2⟩,EA _ _ _ hb.1.2.1⟩) hy
 |succ j=>simp at h1
def rvV{α:Type}(K:Kd α)(e:TypeId)(base:Nat):Rv (List α):=λw _ xs v=>Vec K e base noZ w v xs/\xs.length<=20000
theorem PS.alloc{p c:Nat}(h:PS w p A c T i)(o:Obj):PS (w.alloc o) p A c T i:=h.below ((DN _ _).alloc (DK _) _)
theorem PS.al{p c:Nat}{o:Obj}(h:PS w p A c T i)(e:w.alloc o=w'):PS w' p A c T i:=e▸h.alloc o
theorem Bx.new{S p:Nat}(h:Bx S p w w1)(o:Obj)(hS:S<=w.heap.size):Bx S p w (w1.alloc o):=h.alloc (by have:=h.size;omega) o
theorem PS.grown{p c:Nat}{row:Option Nat}(h:PS w p A c T i)(hg:w.grownBy w' row)(hr:∀k,row=some k->p<k):PS w' p A c T i:=by
 have hp:=h.aE.lt;refine⟨(hg.block p hp (λe=>by have:=hr p e.symm;omega)).trans h.aE,?_,h.wf,h.lt⟩;obtain⟨b,off,h1,h2,h3⟩:=h.tok;exact⟨b,off,h1,h2,h3.aA (hg.block b (by omega) (λe=>by have:=hr b e.symm;omega))⟩
theorem mJ(hb:base<=w1.heap.size)(hu:∀k,u.ownBlock=some k->k<w1.heap.size):∀b,Fr w1 w2 b->(NG base noZ w2 b/\u.ownBlock≠some b)/\w2.heap[b]?=w2.heap[b]?:=
 λb hb'=>⟨⟨⟨Ek hb hb'.1,hb'.2,λh=>h⟩,λe=>by have:=hu b e;have:=hb'.1;omega⟩,rfl⟩
def rvL{α:Type}(K:Kd α)(e:TypeId)(base:Nat):Rv (List α):=λw G xs v=>rvV K e base w G xs v/\(xs=[]->v= .slice none 0 0)
--walks
theorem mz{f:Nat->R α}(h1:isT T cG i=true)(h2:isT T da (i+1)=false){x:α}{j:Nat}(h3:f (i+1)= .ok x j):bZ T f i=dt T f (T.length+1) [x] j:=by
 unfold bZ bj;rw[Ed h1];simp only;rw[DS (by rw[h2];simp),h3]
theorem ti{f:Nat->R Ex}{n:Nat}(hE:∀(ar:Array Value) (w:World),(callFunc n ar).run Tryz.prog w= .ok (.enter n ar) w)(HF:∀j,i<j->RdAt rvE n T f j)(hup:Up f)(p c:Nat)(A:Option Addr)(w:World)(h:PS w p A c T i):
 Calls Tryz.prog 302 #[.pointer (some ⟨p,0,none⟩),.func (.func n) #[.pointer (some ⟨p,0,none⟩)] #[]] w (Out (rvL kEx 172 w.heap.size) p A c T w (bZ T f i)):=by
 have hp:=h.aE.lt;have HP:=H_ h;have HF':=H_ HF;have HU:=H_ hup;clear h HF hup;go_enter Tryz.func302,Tryz.ntmps302;go_wp2_with fail;refine bV (HP.out.alloc _) ((Blk.new w _ _).cell 0) (λj w1 hr b1=>?_) (λj w1 hr P1 b1=>?_)
 ·exact⟨rfl,Out.bad (by unfold bZ;rw[show bj T cG i= .bad j from hr]) (((Bx.refl w.heap.size p w).new _ (DK _)).aB b1)⟩
 ·obtain⟨hti,rfl⟩:=cQ hr;have B1:=H_ (((Bx.refl w.heap.size p w).new _ (DK _)).aB b1);have HTI:=H_ (show isT T cG i=true from hti);clear hr b1 hti;go_wp2_with fail;refine bg P1 da (λht w2 P2 b2=>?_) (λht w2 P2 b2=>?_)
  ·have B2:=hth B1 b2;have HT:=H_ ht;have HP2:=H_ P2;clear b2 ht P2 P1 B1;go_wp2_with fail;go_ret;exact Out.ok (j:=i+1+1) (by unfold bZ bj;rw[Ed HTI.out];simp only;rw[Ed HT.out]) ⟨⟨Vec.nil _ _ _ _ _,by simp⟩,λ_=>rfl⟩ HP2.out B2.out
  ·have B2:=hth B1 b2;have HT:=H_ ht;have HP2:=H_ P2;clear b2 ht P2 P1 B1;go_wp2_with fail;refine Out.use (HF'.out (i+1) (by omega) p c A w2 HP2.out) (λj w3 hr b3=>?_) (λx j v w3 hr hv P3 b3=>?_)
   ·exact⟨rfl,Out.bad (by unfold bZ bj;rw[Ed HTI.out];simp only;rw[DS (by rw[HT.out];simp),hr]) (B2.out.aB b3)⟩
   ·have hij:=HU.out _ _ _ hr;obtain⟨k0,op,z,nm,at_,A',n',c',rfl,hv'⟩:=ExV.inv hv;have HEQ:=H_ (mz HTI.out HT.out hr);have HP3:=H_ P3;have B3:=hth B2 b3;have hb2:=B2.out.size;have hb3:=B3.out.size;have HV:=H_ hv';have hj:=P3.lt;have hT:=P3.wf.few
    (try clear hv)
    clear hr P3 b3;go_wp2_with (at_builtin;refine dV sY (K:=kEx) rfl (.tmp 11) (.tmp 14) rfl (Vec.nil kEx 172 w.heap.size noZ w3) (kEx.aA (mJ hb2 (λk hk=>by simp[Value.ownBlock]at hk)) HV.out) rfl rfl (by simp) hb3 (λb hb h=>h) ?_);intro u w4 hv4 hg4;have V4:=H_ hv4;have HP4:=H_ (HP3.out.grown hg4 (λk hk=>by simp[Value.ownBlock]at hk));have B4:=H_ (B3.out.grown hg4 hb3 (λk hk=>by simp[Value.ownBlock]at hk));clear hv4 hg4 HP3 B3 HV;go_wp2_with fail;go_loopg [5] (T.length-j) (λk u wr=>∃(xs:List Ex) (q:Nat),k=T.length-q/\Hid (Vec kEx 172 w.heap.size noZ wr u xs)/\Hid (PS wr p A c T q)/\Hid (Bx w.heap.size p w wr)/\i<q/\(xs.length<=q/\xs≠[])/\Hid (∃m,T.length+1<=m+q/\bZ T f i=dt T f m xs q))
    case atStart=>exact⟨[x],j,rfl,V4,HP4,B4,by omega,⟨by simp;omega,by simp⟩,H_ ⟨_,by omega,HEQ.out⟩⟩
    case round=>
     clear V4 HP4 B4 HEQ HP2 B2;obtain⟨xs,q,rfl,HVr,HPr,HBr,hiq,⟨hxq,hxn⟩,HEr⟩:=hrel;obtain⟨m,hm,heq⟩:=HEr.out;have hqT:=HPr.out.lt;obtain⟨m,rfl⟩:∃m',m=m'+1:=⟨m-1,by omega⟩;have HE1:=H_ heq;clear HEr heq;go_wp2_with fail;refine bg HPr.out iw (λht w5 P5 b5=>?_) (λht w5 P5 b5=>?_)
     ·have B5:=hth HBr b5;have HT5:=H_ ht;have HP5:=H_ P5;have V5:=hvk HVr b5;clear b5 ht P5 HBr HPr HVr;go_wp2_with fail;refine Out.use (HF'.out (q+1) (by omega) p c A w5 HP5.out) (λj6 w6 hr b6=>?_) (λx6 j6 v w6 hr hv P6 b6=>?_)
      ·exact⟨rfl,Out.bad (by rw[HE1.out];unfold dt;rw[Ed HT5.out,hr]) (B5.out.aB b6)⟩
      ·have hj6:=HU.out _ _ _ hr;obtain⟨k0,op,z,nm,at_,A',n',c',rfl,hv'⟩:=ExV.inv hv;have HE6:=H_ (show bZ T f i=dt T f m (xs++[x6]) j6 by rw[HE1.out];conv=>lhs;unfold dt;rw[Ed HT5.out,hr]);have HP6:=H_ P6;have B6:=hth B5 b6;have hb5:=B5.out.size;have hb6:=B6.out.size;have HV:=H_ hv';have V6:=hvk V5 b6;have HO:=H_ V5.out.lt;have hj6T:=P6.lt
       (try clear hv)
       clear hr P6 b6 V5 HE1;go_wp2_with (at_builtin;refine dV sY (K:=kEx) rfl (.tmp 18) (.tmp 21) rfl V6.out (kEx.aA (mJ hb5 (λk hk=>(HO.out k hk).2)) HV.out) rfl rfl (by omega) hb6 (λb hb h=>h) ?_);intro u7 w7 hv7 hg7;have V7:=H_ hv7;have HP7:=H_ (HP6.out.grown hg7 (λk hk=>by have:=(HO.out k hk).1;omega));have B7:=H_ (B6.out.grown hg7 hb6 (λk hk=>(HO.out k hk).1));clear hv7 hg7 HP6 B6 HV V6 B5 HP5;go_wp2_with fail;go_roundg (T.length-j6)
       case rel=>exact⟨xs++[x6],j6,rfl,V7,HP7,B7,by omega,⟨by simp;omega,by simp⟩,H_ ⟨m,by omega,HE6.out⟩⟩
       case measure=>omega
     ·have B5:=hth HBr b5;have HT5:=H_ ht;have HP5:=H_ P5;have V5:=hvk HVr b5;clear b5 ht P5 HBr HPr HVr;go_wp2_with fail;refine bV (s:=da) (HP5.out.alloc _) ((Blk.new w5 _ _).cell 0) (λj6 w6 hr b6=>?_) (λj6 w6 hr P6 b6=>?_)
      ·exact⟨rfl,Out.bad (by rw[HE1.out];unfold dt;rw[DS (by rw[HT5.out];simp),show bj T da q= .bad j6 from hr]) ((B5.out.new _ (DK _)).aB b6)⟩
      ·have V6:=V5.out.aA (w':=w6) (by have:=b6.size;simp at this;omega) (λk hk=>(b6.block k (by have:=hk.2.1;simp;omega) (by have:=hk.1;omega)).trans (EA _ _ _ hk.2.1));have HV6:=H_ V6;have B6:=H_ ((B5.out.new (.cells #[.string ⟨#[41]⟩] 9) (DK _)).aB b6);have HP6:=H_ P6;have HR6:=H_ hr;clear V6 V5 b6 B5 P6 hr;go_wp2_with fail;go_ret;exact Out.ok (by rw[HE1.out];unfold dt;rw[DS (by rw[HT5.out];simp),HR6.out]) ⟨⟨HV6.out,by omega⟩,λh=>absurd h hxn⟩ HP6.out B6.out
theorem zE{f:Nat->R ByteArray}{n:Nat}(hE:∀(ar:Array Value) (w:World),(callFunc n ar).run Tryz.prog w= .ok (.enter n ar) w)(HF:∀j,i<j->RdAt wv n T f j)(hup:Up f)(p c:Nat)(A:Option Addr)(w:World)(h:PS w p A c T i):
 Calls Tryz.prog 212 #[.pointer (some ⟨p,0,none⟩),.func (.func n) #[.pointer (some ⟨p,0,none⟩)] #[]] w (Out (rvL dn 9 w.heap.size) p A c T w (bZ T f i)):=by
 have hp:=h.aE.lt;have HP:=H_ h;have HF':=H_ HF;have HU:=H_ hup;clear h HF hup;go_enter Tryz.func212,Tryz.ntmps212;go_wp2_with fail;refine bV (HP.out.alloc _) ((Blk.new w _ _).cell 0) (λj w1 hr b1=>?_) (λj w1 hr P1 b1=>?_)
 ·exact⟨rfl,Out.bad (by unfold bZ;rw[show bj T cG i= .bad j from hr]) (((Bx.refl w.heap.size p w).new _ (DK _)).aB b1)⟩
 ·obtain⟨hti,rfl⟩:=cQ hr;have B1:=H_ (((Bx.refl w.heap.size p w).new _ (DK _)).aB b1);have HTI:=H_ (show isT T cG i=true from hti);clear hr b1 hti;go_wp2_with fail;refine bg P1 da (λht w2 P2 b2=>?_) (λht w2 P2 b2=>?_)
  ·have B2:=hth B1 b2;have HT:=H_ ht;have HP2:=H_ P2;clear b2 ht P2 P1 B1;go_wp2_with fail;go_ret;exact Out.ok (j:=i+1+1) (by unfold bZ bj;rw[Ed HTI.out];simp only;rw[Ed HT.out]) ⟨⟨Vec.nil _ _ _ _ _,by simp⟩,λ_=>rfl⟩ HP2.out B2.out
  ·have B2:=hth B1 b2;have HT:=H_ ht;have HP2:=H_ P2;clear b2 ht P2 P1 B1;go_wp2_with fail;refine Out.use (HF'.out (i+1) (by omega) p c A w2 HP2.out) (λj w3 hr b3=>?_) (λx j v w3 hr hv P3 b3=>?_)
   ·exact⟨rfl,Out.bad (by unfold bZ bj;rw[Ed HTI.out];simp only;rw[DS (by rw[HT.out];simp),hr]) (B2.out.aB b3)⟩
   ·have hij:=HU.out _ _ _ hr;obtain rfl:v= .string x:=hv;have HEQ:=H_ (mz HTI.out HT.out hr);have HP3:=H_ P3;have B3:=hth B2 b3;have hb2:=B2.out.size;have hb3:=B3.out.size;have HV:=H_ (show dn.rd w3 (Fr w2 w3) x [.string x]from rfl);have hj:=P3.lt;have hT:=P3.wf.few
    (try clear hv)
    clear hr P3 b3;go_wp2_with (at_builtin;refine dV wB (K:=dn) rfl (.tmp 11) (.tmp 14) rfl (Vec.nil dn 9 w.heap.size noZ w3) (dn.aA (mJ hb2 (λk hk=>by simp[Value.ownBlock]at hk)) HV.out) rfl rfl (by simp) hb3 (λb hb h=>h) ?_);intro u w4 hv4 hg4;have V4:=H_ hv4;have HP4:=H_ (HP3.out.grown hg4 (λk hk=>by simp[Value.ownBlock]at hk));have B4:=H_ (B3.out.grown hg4 hb3 (λk hk=>by simp[Value.ownBlock]at hk));clear hv4 hg4 HP3 B3 HV;go_wp2_with fail;go_loopg [5] (T.length-j) (λk u wr=>∃(xs:List ByteArray) (q:Nat),k=T.length-q/\Hid (Vec dn 9 w.heap.size noZ wr u xs)/\Hid (PS wr p A c T q)/\Hid (Bx w.heap.size p w wr)/\i<q/\(xs.length<=q/\xs≠[])/\Hid (∃m,T.length+1<=m+q/\bZ T f i=dt T f m xs q))
    case atStart=>exact⟨[x],j,rfl,V4,HP4,B4,by omega,⟨by simp;omega,by simp⟩,H_ ⟨_,by omega,HEQ.out⟩⟩
    case round=>
     clear V4 HP4 B4 HEQ HP2 B2;obtain⟨xs,q,rfl,HVr,HPr,HBr,hiq,⟨hxq,hxn⟩,HEr⟩:=hrel;obtain⟨m,hm,heq⟩:=HEr.out;have hqT:=HPr.out.lt;obtain⟨m,rfl⟩:∃m',m=m'+1:=⟨m-1,by omega⟩;have HE1:=H_ heq;clear HEr heq;go_wp2_with fail;refine bg HPr.out iw (λht w5 P5 b5=>?_) (λht w5 P5 b5=>?_)
     ·have B5:=hth HBr b5;have HT5:=H_ ht;have HP5:=H_ P5;have V5:=hvk HVr b5;clear b5 ht P5 HBr HPr HVr;go_wp2_with fail;refine Out.use (HF'.out (q+1) (by omega) p c A w5 HP5.out) (λj6 w6 hr b6=>?_) (λx6 j6 v w6 hr hv P6 b6=>?_)
      ·exact⟨rfl,Out.bad (by rw[HE1.out];unfold dt;rw[Ed HT5.out,hr]) (B5.out.aB b6)⟩
      ·have hj6:=HU.out _ _ _ hr;obtain rfl:v= .string x6:=hv;have HE6:=H_ (show bZ T f i=dt T f m (xs++[x6]) j6 by rw[HE1.out];conv=>lhs;unfold dt;rw[Ed HT5.out,hr]);have HP6:=H_ P6;have B6:=hth B5 b6;have hb5:=B5.out.size;have hb6:=B6.out.size;have HV:=H_ (show dn.rd w6 (Fr w5 w6) x6 [.string x6]from rfl);have V6:=hvk V5 b6;have HO:=H_ V5.out.lt;have hj6T:=P6.lt
       (try clear hv)
       clear hr P6 b6 V5 HE1;go_wp2_with (at_builtin;refine dV wB (K:=dn) rfl (.tmp 18) (.tmp 21) rfl V6.out (dn.aA (mJ hb5 (λk hk=>(HO.out k hk).2)) HV.out) rfl rfl (by omega) hb6 (λb hb h=>h) ?_);intro u7 w7 hv7 hg7;have V7:=H_ hv7;have HP7:=H_ (HP6.out.grown hg7 (λk hk=>by have:=(HO.out k hk).1;omega));have B7:=H_ (B6.out.grown hg7 hb6 (λk hk=>(HO.out k hk).1));clear hv7 hg7 HP6 B6 HV V6 B5 HP5;go_wp2_with fail;go_roundg (T.length-j6)
       case rel=>exact⟨xs++[x6],j6,rfl,V7,HP7,B7,by omega,⟨by simp;omega,by simp⟩,H_ ⟨m,by omega,HE6.out⟩⟩
       case measure=>omega
     ·have B5:=hth HBr b5;have HT5:=H_ ht;have HP5:=H_ P5;have V5:=hvk HVr b5;clear b5 ht P5 HBr HPr HVr;go_wp2_with fail;refine bV (s:=da) (HP5.out.alloc _) ((Blk.new w5 _ _).cell 0) (λj6 w6 hr b6=>?_) (λj6 w6 hr P6 b6=>?_)
      ·exact⟨rfl,Out.bad (by rw[HE1.out];unfold dt;rw[DS (by rw[HT5.out];simp),show bj T da q= .bad j6 from hr]) ((B5.out.new _ (DK _)).aB b6)⟩
      ·have V6:=V5.out.aA (w':=w6) (by have:=b6.size;simp at this;omega) (λk hk=>(b6.block k (by have:=hk.2.1;simp;omega) (by have:=hk.1;omega)).trans (EA _ _ _ hk.2.1));have HV6:=H_ V6;have B6:=H_ ((B5.out.new (.cells #[.string ⟨#[41]⟩] 9) (DK _)).aB b6);have HP6:=H_ P6;have HR6:=H_ hr;clear V6 V5 b6 B5 P6 hr;go_wp2_with fail;go_ret;exact Out.ok (by rw[HE1.out];unfold dt;rw[DS (by rw[HT5.out];simp),HR6.out]) ⟨⟨HV6.out,by omega⟩,λh=>absurd h hxn⟩ HP6.out B6.out
end
section
open Go
variable{P:Program}{Q:Exit->Act->World->Prop}{a:Act}{i id:Nat}{ops:Array Oper}{w:World}{α:Type}
theorem kc(fr:(Nat->Value)->Act)(xs0:Nat->Value)(J:World->Prop)(F:Nat->(Nat->Value)->World->Prop)(dep:Nat->Nat->Bool)
 (hm:P.follows .mixedOrders=true) (hac:pa .any ops=true) (hdep:∀k j,k<ops.size->dep k j=true->av .any ops k j=true) (ha:a=fr xs0) (hJ:J w.drew)
 (hstep:∀i,i<ops.size->∀xs W,J W->(∀j,(_:av .any ops i j=true:=by kernel_rfl)->F j xs W)->
   wpOp P ops Q i (λa' W'=>∃v,a'=fr (upd xs i v)/\J W'/\F i (upd xs i v) W'/\∀k,k≠i->dep k i=false->F k xs W->F k (upd xs i v) W') (fr xs) W)
 (hend:∀xs W,J W->(∀i,(_:i<ops.size:=by decide)->F i xs W)->Q .normal (fr xs) W):(Code.region id ops true).wp P Q a w:=by
 refine wp_region_any hm (gj (I:=λae a W=>∃xs,a=fr xs/\J W/\ae.size=ops.size/\(∀i,i<ops.size->ae.getD i false=true->F i xs W)/\
  ∀k,k<ops.size->ae.getD k false=true->∀j,av .any ops k j=true->ae.getD j false=true) ?_ ?_ _ _ _ _ ?_ ?_)
 ·rintro ae a W i ⟨xs,rfl,hJW,hsz,hF,hcl⟩ hi;obtain⟨h1,o,ho,hall⟩:=mem_ready.1 hi;have hil:=(Ef.1 ho).1
  have hni:ae.getD i false=false:=by
   have hsl:i<ae.size:=by omega
   simpa[Array.getD,hsl]using h1
  refine wpOp_mono ?_ (hstep i hil xs W hJW λj hj=>by
   obtain⟨e,he,hb,rfl⟩:=ez ho hj;exact hF e.on (by have:=gB hac ho e he hb;omega) (hall e he hb))
  rintro a' W' ⟨v,rfl,hJ',hv,hk⟩
  have hset:∀k,k≠i->(ae.setIfInBounds i true).getD k false=ae.getD k false:=λk hki=>by
   have:i≠k:=λe=>hki e.symm;simp only[Fk,EJ this]
  refine⟨_,rfl,hJ',by simpa using hsz,λk hkl hks=>?_,λk hkl hks j hj=>?_⟩
  ·by_cases hki:k=i
   ·subst hki;exact hv
   ·rw[hset k hki]at hks;refine hk _ hki ?_ (hF k hkl hks);cases hd:dep k i with
    |false=>rfl
    |true=>
     have:=hcl k hkl hks i (hdep k i hkl hd);rw[hni]at this;cases this
  ·by_cases hji:j=i
   ·subst hji;have hsl:j<ae.size:=by omega
    simp[Array.getD,hsl]
   ·rw[hset j hji];by_cases hki:k=i
    ·subst hki;obtain⟨e,he,hb,rfl⟩:=ez ho hj;exact hall e he hb
    ·rw[hset k hki]at hks;exact hcl k hkl hks j hj
 ·rintro ae a W ⟨xs,rfl,hJW,hsz,hF,_⟩ hr;refine hend xs W hJW λi hi=>hF i hi ?_;have h1:=fF hac hr ops.size i hi hi;have hsz2:i<ae.size:=by omega
  simpa[Array.getD,hsz2]using h1
 ·refine Ek (FL _ _) (by simp)
 ·exact⟨xs0,ha,hJ,by simp,λi hi h=>by simp[Array.getD,hi]at h,λi hi h=>by simp[Array.getD,hi]at h⟩
theorem vk{md:Region.Mode}{j:Nat}(h:av md ops i j=true):i<ops.size:=by
 unfold av at h;cases ho:ops[i]? with
 |none=>rw[ho]at h;cases h
 |some o=>exact(Ef.1 ho).1
def bG{α:Type}(xs:Nat->α)(i:Nat)(v:α):Nat->α:=λk=>if k=i then v else xs k
theorem dw(xs:Nat->α)(i:Nat)(v:α):bG xs i v i=v:=Ed rfl
theorem cn(xs:Nat->α){k:Nat}(v:α)(h:k≠i):bG xs i v k=xs k:=DS h
theorem kb(fr:(Nat->α)->Act)(xs0:Nat->α)(J:(Nat->α)->World->Prop)(F:Nat->(Nat->α)->World->Prop)(dep:Nat->Nat->Bool)
 (hm:P.follows .mixedOrders=true) (hac:pa .any ops=true) (hdep:∀k j,k<ops.size->dep k j=true->av .any ops k j=true) (ha:a=fr xs0) (hJ:J xs0 w.drew)
 (hstep:∀i,i<ops.size->∀xs W,J xs W->xs i=xs0 i->(∀j,av .any ops j i=true->xs j=xs0 j)->(∀j,(_:av .any ops i j=true:=by kernel_rfl)->F j xs W)->
   wpOp P ops Q i (λa' W'=>∃v,a'=fr (bG xs i v)/\J (bG xs i v) W'/\F i (bG xs i v) W'/\∀k,k≠i->dep k i=false->F k xs W->F k (bG xs i v) W') (fr xs) W)
 (hend:∀xs W,J xs W->(∀i,(_:i<ops.size:=by decide)->F i xs W)->Q .normal (fr xs) W):(Code.region id ops true).wp P Q a w:=by
 refine wp_region_any hm (gj (I:=λae a W=>∃xs,a=fr xs/\J xs W/\ae.size=ops.size/\(∀i,i<ops.size->ae.getD i false=true->F i xs W)/\
  (∀k,k<ops.size->ae.getD k false=true->∀j,av .any ops k j=true->ae.getD j false=true)/\∀k,ae.getD k false=false->xs k=xs0 k) ?_ ?_ _ _ _ _ ?_ ?_)
 ·rintro ae a W i ⟨xs,rfl,hJW,hsz,hF,hcl,hun⟩ hi;obtain⟨h1,o,ho,hall⟩:=mem_ready.1 hi;have hil:=(Ef.1 ho).1
  have hni:ae.getD i false=false:=by
   have hsl:i<ae.size:=by omega
   simpa[Array.getD,hsl]using h1
  refine wpOp_mono ?_ (hstep i hil xs W hJW (hun i hni) (λj hj=>hun j (by
   cases hl:ae.getD j false with
   |false=>rfl
   |true=>
    have:=hcl j (vk hj) hl i hj;rw[hni]at this;cases this)) λj hj=>by
   obtain⟨e,he,hb,rfl⟩:=ez ho hj;exact hF e.on (by have:=gB hac ho e he hb;omega) (hall e he hb))
  rintro a' W' ⟨v,rfl,hJ',hv,hk⟩
  have hset:∀k,k≠i->(ae.setIfInBounds i true).getD k false=ae.getD k false:=λk hki=>by
   have:i≠k:=λe=>hki e.symm;simp only[Fk,EJ this]
  refine⟨_,rfl,hJ',by simpa using hsz,λk hkl hks=>?_,λk hkl hks j hj=>?_,λk hks=>?_⟩
  ·by_cases hki:k=i
   ·subst hki;exact hv
   ·rw[hset k hki]at hks;refine hk _ hki ?_ (hF k hkl hks);cases hd:dep k i with
    |false=>rfl
    |true=>
     have:=hcl k hkl hks i (hdep k i hkl hd);rw[hni]at this;cases this
  ·by_cases hji:j=i
   ·subst hji;have hsl:j<ae.size:=by omega
    simp[Array.getD,hsl]
   ·rw[hset j hji];by_cases hki:k=i
    ·subst hki;obtain⟨e,he,hb,rfl⟩:=ez ho hj;exact hall e he hb
    ·rw[hset k hki]at hks;exact hcl k hkl hks j hj
  ·by_cases hki:k=i
   ·subst hki;have hsl:k<ae.size:=by omega
    simp[Array.getD,hsl]at hks
   ·rw[hset k hki]at hks;rw[cn xs v hki];exact hun k hks
 ·rintro ae a W ⟨xs,rfl,hJW,hsz,hF,_,_⟩ hr;refine hend xs W hJW λi hi=>hF i hi ?_;have h1:=fF hac hr ops.size i hi hi;have hsz2:i<ae.size:=by omega
  simpa[Array.getD,hsz2]using h1
 ·refine Ek (FL _ _) (by simp)
 ·exact⟨xs0,ha,hJ,by simp,λi hi h=>by simp[Array.getD,hi]at h,λi hi h=>by simp[Array.getD,hi]at h,λ_ _=>rfl⟩
end
end Go.Proofs.YtjpbckbpeblibaaGreatDoor
