/- part of a proof -/
import Derived.Test.YtjpbckbpeblibaaGreatDoorCC11
import Derived.RangeFuncNested
import Derived.RangeFuncBound
import Derived.RangeFuncCalls
import Derived.RangeFuncLeaves
namespace Go.Proofs.YtjpbckbpeblibaaGreatDoor
set_option linter.unusedVariables false
set_option linter.unusedSimpArgs false
set_option maxRecDepth 100000
set_option maxHeartbeats 64000000
section
open Go.RowKit
variable{A:Option Addr}{B B2 G L M N g i j m off:Nat}{W W' w w':World}{a d:Ad}{cs:List Value}{e:Ending}{f fd:FD}{kt:TypeId}{kvs:List (Value×Value)}{l w0:ByteArray}{ls ss:List ByteArray}{pd:PD}{u v:Value}{xs:Nat->Value}{zs:List Int}
theorem EL:type_of% @List.setIfInBounds_toArray:=@List.setIfInBounds_toArray
theorem Fl:type_of% @List.set_cons_succ:=@List.set_cons_succ
theorem Fm:type_of% @List.set_cons_zero:=@List.set_cons_zero
theorem vv(w:World):(underlying 102).run Tryz.prog w= .ok (.map 9 92) w:=by kernel_rfl
theorem pP(a b:ByteArray):Instr.sameNow .string (.string a) (.string b)=some (a==b):=rfl
theorem ii{a b:ByteArray}(h:a≠b):Instr.sameNow .string (.string a) (.string b)=some false:=by
 rw[pP]
 congr 1
 obtain⟨a⟩:=a;obtain⟨b⟩:=b;show(a==b)=false;exact DM.2 λe=>h (by rw[e])
theorem pO(a:ByteArray):Instr.sameNow .string (.string a) (.string a)=some true:=by
 rw[pP]
 congr 1
 obtain⟨a⟩:=a;show(a==a)=true;exact FK a
theorem kQ{g:FD}(hf:au[i]?=some f)(hg:au[j]?=some g)(h:i<j):f.word≠g.word:=by
 have hj:j<16:=(DQ.1 hg).1;intro e;have h1:=eI (by omega:i<=15) hf;have h2:=eI (by omega:j<=15) hg;rw[e,h2]at h1;simp only[Option.some.injEq]at h1;subst h1;obtain⟨_,h3,h4⟩:=iq (by omega:i<16);obtain⟨_,h5,h6⟩:=iq hj;rw[hf]at h3;rw[hg]at h5;simp only[Option.some.injEq]at h3 h5;subst h3 h5;omega
def gK(fd:FD)(g:Nat):Value:= .agg #[.int .i64 fd.k,.string fd.word,.slice (some ⟨g,0,none⟩) fd.pds.length fd.pds.length]
def WordMap(W:World)(B k:Nat)(kvs:List (Value×Value)):Prop:=
 kvs.length=k/\∀i fd,i<k->au[i]?=some fd->∃g,kvs[i]?=some (.string fd.word,gK fd g)/\Parts W B g fd.pds
theorem gO{b o:Nat}(hm:KMap w m kvs)(hg:w.grownBy w' (some m))(h:w.cell? ⟨b,o,none⟩=some v):w'.cell? ⟨b,o,none⟩=some v:=by
 rw[<-h];refine F1 (hg.block b ?_ ?_)
 ·rcases ES b w.heap.size with h1|h1
  ·exact h1
  ·unfold World.cell? at h;rw[show w.heap[b]?=none from Array.getElem?_eq_none h1]at h;simp at h
 ·intro e;simp only[Option.some.injEq]at e;subst e;unfold World.cell? at h;rw[show w.heap[b]?=_ from hm]at h;simp at h
theorem uV{b:Nat}{t:TypeId}{cs:Array Value}(hm:KMap w m kvs)(hg:w.grownBy w' (some m))(h:Blk w b t cs):Blk w' b t cs:=by
 refine(hg.block b h.lt λe=>?_).trans h;simp only[Option.some.injEq]at e;subst e;unfold Blk at h;rw[show w.heap[b]?=_ from hm]at h;cases h
theorem Parts.grown{pds:List PD}(hm:KMap w m kvs)(hg:w.grownBy w' (some m))(h:Parts w B g pds):Parts w' B g pds:=
 ⟨h.1,λi pd hp=>by
  obtain⟨vs,h1,h2⟩:=h.2 i pd hp;exact⟨vs,h1.aA λb t cs _ hb=>uV hm hg hb,λj v hv=>gO hm hg (h2 j v hv)⟩⟩
theorem WordMap.grown{k:Nat}{kvs':List (Value×Value)}(hm:KMap w m kvs')(hg:w.grownBy w' (some m))(h:WordMap w B k kvs):WordMap w' B k kvs:=
 ⟨h.1,λi fd hi hf=>by
  obtain⟨g,h1,h2⟩:=h.2 i fd hi hf;exact⟨g,h1,h2.grown hm hg⟩⟩
theorem WordMap.more{B' k:Nat}(h:WordMap w B k kvs)(hB:B<=B'):WordMap w B' k kvs:=
 ⟨h.1,λi fd hi hf=>by
  obtain⟨g,h1,h2⟩:=h.2 i fd hi hf;exact⟨g,h1,h2.more hB⟩⟩
theorem WordMap.below{k:Nat}(h:WordMap w B k kvs)(hb:Below B w w'):WordMap w' B k kvs:=
 ⟨h.1,λi fd hi hf=>by
  obtain⟨g,h1,h2⟩:=h.2 i fd hi hf;exact⟨g,h1,h2.below hb⟩⟩
theorem WordMap.snoc{k:Nat}(h:WordMap w B k kvs)(hf:au[k]?=some fd)(hp:Parts w B g fd.pds):WordMap w B (k+1) (kvs++[(.string fd.word,gK fd g)]):=
 ⟨by rw[DJ,h.1];rfl,λi f hi hfi=>by
  rcases ES i k with h1|h1
  ·obtain⟨g',h2,h3⟩:=h.2 i f h1 hfi;exact⟨g',by rw[EI (by rw[h.1];exact h1)];exact h2,h3⟩
  ·obtain rfl:i=k:=by omega
   rw[hf]at hfi;simp only[Option.some.injEq]at hfi;subst hfi;exact⟨g,by rw[EU (by rw[h.1];exact DK _),h.1,Nat.sub_self];rfl,hp⟩⟩
theorem yr(w:World):Calls Tryz.prog 46 #[] w λe w'=>∃m kvs,e= .returned (.map (some m))/\KMap w' m kvs/\WordMap w' w'.heap.size 16 kvs/\m<w'.heap.size/\Below w.heap.size w w':=by
 have hmk:∀w:World,(Instr.makeMap 102 none).run Tryz.prog w= .ok (.map (some w.heap.size)) (w.alloc (.map #[] 0)):=λw=>by kernel_rfl
 go_enter Tryz.func46,Tryz.ntmps46;go_upto_region 2 with(fail);have hm0:KMap (w.alloc (.map #[] 0)) w.heap.size []:=heap_alloc_new w _;have bel0:Below w.heap.size w (w.alloc (.map #[] 0)):=(DN _ _).alloc (DK _) _;generalize w.alloc (.map #[] 0)=w0 at hm0 bel0⊢;obtain⟨m,hm⟩:=nm_ (w.heap.size);rw[hm]at hm0⊢;have HS:=H_ hm;have HM0:=H_ hm0;have B0:=H_ bel0;clear hm hm0 bel0 hmk;go_wp2_with fail;refine(tD _).mono ?_;rintro e w1 ⟨g,rfl,hf1,b1⟩;have HF1:=H_ hf1;have HM1:=H_ (HM0.out.below b1 HM0.out.lt);have B1:=htr B0 b1;have hm1:=HM1.out.lt;clear HM0 B0 b1 hf1;go_wp2_with fail;go_loopw [7] (λi wr=>∃(k:Nat) (kvs:List (Value×Value)),k<=16/\i= .int .i64 k/\Hid (KMap wr m kvs)/\Hid (w1.grownBy wr (some m))/\Hid (WordMap wr wr.heap.size k kvs)/\Hid (∀(t:Nat) (o:Value×Value),kvs[t]?=some o->∃(fd:FD) (v:Value),au[t]?=some fd/\o=(Value.string fd.word,v))) (λi _=>16-(intOf i).toNat)
 case atStart=>exact⟨0,[],Ea _,rfl,HM1,H_ (World.grownBy.refl _ _),H_ ⟨rfl,λi fd hi=>absurd hi (Nat.not_lt_zero _)⟩,H_ λt o h=>by simp at h⟩
 case round=>
  obtain⟨k,kvs,hk,rfl,HM,HG,HW,HK⟩:=hrel;by_cases hlt:k<16
  ·obtain⟨fd,g2,h1,h2,h3,a0,a1,a2⟩:=HF1.out.at_ hlt;have a0':=gO HM1.out HG.out a0;have a1':=gO HM1.out HG.out a1;have a2':=gO HM1.out HG.out a2;have hk0:0<=(k:Int):=by omega
   have hk1:(k:Int)<16:=by omega
   have HFD:=H_ (And.intro h1 h2);have HP:=H_ (h3.grown HM1.out HG.out);clear a0 a1 a2 h1 h2 h3;go_upto_region 5 with fail;obtain⟨w3,hw3⟩:=nm_ (wr.alloc (.cells #[.int .i64 (k:Int),.string fd.word,.slice (some ⟨g2,0,none⟩) fd.pds.length fd.pds.length] 92));have hb3:=bal hw3;have hq3:=hw3▸Blk.new wr 92 #[.int .i64 (k:Int),.string fd.word,.slice (some ⟨g2,0,none⟩) fd.pds.length fd.pds.length];have hm3:=HM.out.below hb3 HM.out.lt;rw[hw3]
   obtain⟨w4,hup,hm4,hg4⟩:=cM vv AJ hm3 (.string fd.word) (.agg #[.int .i64 (k:Int),.string fd.word,.slice (some ⟨g2,0,none⟩) fd.pds.length fd.pds.length]) (λem w=>sq em _ w) (λo ho=>by
    obtain⟨t,ht⟩:=List.mem_iff_getElem?.1 ho;obtain⟨f2,v2,h1,rfl⟩:=HK.out t o ht;have hl:=(DQ.1 ht).1;rw[HW.out.1]at hl;exact ii (kQ h1 HFD.out.1 hl).symm)
   have HM4:=H_ hm4;have HG4:=H_ ((HG.out.trans ⟨hb3.os,hb3.tape,hb3.output,hb3.size,λb hb _=>hb3.block b hb⟩).trans hg4);have HW4:=H_ ((((HW.out.below hb3).more (Ek hb3.size hg4.size)).grown hm3 hg4).snoc HFD.out.1 ((((HP.out.below (hb3.mono HG.out.size)).grown hm3 hg4)).more (Ek HG.out.size (Ek hb3.size hg4.size))));obtain⟨n0,n1,n2⟩:=hq3.c3;clear hw3 hb3 hq3 hm3 hm4 hg4;go_wp2_with fail;go_roundw
   case rel=>
    refine⟨k+1,kvs++[(.string fd.word,gK fd g2)],by omega,by go_num,?_,HG4,HW4,?_⟩
    ·unfold gK;rw[HFD.out.2];exact HM4
    ·refine H_ λt o ht=>?_;rcases ES t kvs.length with h1|h1
     ·rw[EI h1]at ht;exact HK.out t o ht
     ·rw[EU h1]at ht;have h2:=(DQ.1 ht).1;simp only[Fx]at h2;have h3:t=k:=by have:=HW.out.1;omega
      rw[show t-kvs.length=0 by omega]at ht;simp only[ED,Option.some.injEq]at ht;exact⟨fd,_,by rw[h3];exact HFD.out.1,ht.symm⟩
   case measure=>simp[intOf];omega
  ·obtain rfl:k=16:=by omega
   go_wp2_with fail;go_ret;have hz:=HG.out.size;have hm:=HM.out.lt;exact⟨m,kvs,rfl,HM.out,HW.out,HM.out.lt,B1.out.grown HG.out B1.out.size (λr hr=>by cases hr;exact Nat.le_of_eq HS.out)⟩
def vOf(a:Ad):Av:=⟨a.k,a.a,a.b,a.nm,a.mt,none,0,0,none,0,0⟩
theorem Blk.z7{t:TypeId}(h:Blk w g t (vOf (cS 0)).cells):w.cell? ⟨g,0,none⟩=some (.int .i64 0)/\w.cell? ⟨g,1,none⟩=some (.int .i64 0)/\w.cell? ⟨g,2,none⟩=some (.int .i64 0)/\w.cell? ⟨g,3,none⟩=some (.string ⟨#[]⟩)/\w.cell? ⟨g,4,none⟩=some (.string ⟨#[]⟩)/\w.cell? ⟨g,5,none⟩=some (.slice none 0 0)/\w.cell? ⟨g,6,none⟩=some (.slice none 0 0):=h.v7
theorem kf(h1:a.args=[])(h2:a.surv=[]):Reads w B (vOf a) a:=
 ⟨rfl,rfl,rfl,rfl,rfl,by rw[h1];exact Ints.none w B,by rw[h2];exact Ints.none w B⟩
def PD.list:PD->Bool
 | .surv=>true
 | .rest _=>true
 |_=>false
def Av.apart(v:Av)(M:Nat):Prop:=(∀b o,v.A=some ⟨b,o,none⟩->M<b)/\∀b o,v.A2=some ⟨b,o,none⟩->M<b
theorem Av.apart.less{v:Av}(h:v.apart M)(hL:L<=M):v.apart L:=⟨λb o e=>Nat.lt_of_le_of_lt hL (h.1 b o e),λb o e=>Nat.lt_of_le_of_lt hL (h.2 b o e)⟩
theorem kg(a:Ad)(M:Nat):(vOf a).apart M:=⟨λb o h=>(by cases h),λb o h=>(by cases h)⟩
def pb(w:World)(M:Nat)(ad:Ad)(ws:List ByteArray)(pd:PD)(e:Ending)(w':World):Prop:=
 Below M w w'/\w.heap.size<=w'.heap.size/\
 match dC ad ws pd with
 |none=>∃A n c,e= .returned (.tuple #[.slice A n c,.bool false])
 |some (ad',ws')=>∃v A c,e= .returned (.tuple #[.slice A ws'.length c,.bool true])/\Blk w' M 48 v.cells/\Reads w' w'.heap.size v ad'/\Strs w' M A ws'.length ws'/\ws'.length<=c/\v.n<=1000000/\v.n2<=1000000/\v.apart M/\
   (pd.list=false->v=vOf ad'/\ad'.args=[]/\ad'.surv=[])
theorem iz{n:Nat}{s:ByteArray}(h:Strs w B A n (s::ss)):∃b off,A=some ⟨b,off,none⟩/\n=ss.length+1:=by
 have hl:=h.len;simp only[DL]at hl;obtain⟨b,off,h1,_⟩:=h.2 (by omega);exact⟨b,off,h1,hl.symm⟩
theorem lG{w1:World}{b c:Nat}{ad ad':Ad}{s:ByteArray}{x:Value}(hL:Blk w M 48 (vOf ad).cells)(hs:Strs w M (some ⟨b,off,none⟩) (ss.length+1) (s::ss))(hc:ss.length+1<=c)
 (ha:ad'.args=[]) (hsv:ad'.surv=[]) (hcell:(vOf ad).cells.setIfInBounds j x=(vOf ad').cells) (b1:Below w.heap.size w w1) (hw:w1.setCell ⟨M,j,none⟩ x=w') (ok:Bool)
 (he:e= .returned (.tuple #[.slice (kG b off c) ss.length (c-1),.bool ok])) (hr:dC ad (s::ss) pd=if ok=true then some (ad',ss)else none):pb w M ad (s::ss) pd e w':=by
 have hlt:=hL.lt;have hb:Below M w w':=hw▸(b1.mono (EF hlt)).setCell (p:=⟨M,j,none⟩) (DK M) x;have hsz:w'.heap.size=w1.heap.size:=by rw[<-hw];simp
 refine⟨hb,by rw[hsz];exact b1.size,?_⟩;rw[hr];cases ok with
 |false=>exact⟨_,_,_,he⟩
 |true=>
  refine⟨vOf ad',kG b off c,c-1,he,?_,kf ha hsv,(hs.cut hc).below hb,by omega,Ea _,Ea _,kg _ _,λ_=>⟨rfl,ha,hsv⟩⟩;rw[<-hw,<-hcell];exact(hL.below b1 hlt).set j x
theorem lH{ad:Ad}(h:e= .returned (.tuple #[.slice none 0 0,.bool false])/\w=w')(hr:dC ad [] pd=none):pb w M ad [] pd e w':=by
 obtain⟨rfl,rfl⟩:=h;refine⟨DN _ _,DK _,?_⟩;rw[hr];exact⟨_,_,_,rfl⟩
theorem uv{a b c d:Value}(h:PartV w B pd [a,b,c,d])(M:Nat)(ad:Ad)(ha:ad.args=[])(hsv:ad.surv=[])(hL:Blk w M 48 (vOf ad).cells)(hg:GlB w M)
 (A:Option Addr) (ws:List ByteArray) (n cap:Nat) (hs:Strs w M A n ws) (hcap:n<=cap) (hn:n<=1000000) (hsz:∀s∈ws,s.size<=1000000):
 RunsOn a #[.pointer (some ⟨M,0,none⟩),.slice A n cap] w (pb w M ad ws pd):=by
 have hlen:=hs.len;have hM:=hL.lt;cases pd with
 |numA lo hi=>
  obtain⟨b0,b1,b2,e,h0,h1,h2,k0,k1,k2⟩:=h;simp only[List.cons.injEq,Em]at e;obtain⟨rfl,_,_,_⟩:=e;refine⟨175,_,rfl,λ_ _=>by kernel_rfl,?_⟩;cases ws with
  |nil=>
   simp only[DO]at hlen;subst hlen;exact(tb M b0 A cap w).mono λe w' q=>lH q rfl
  |cons s ss=>
   obtain⟨b',off,rfl,rfl⟩:=iz hs
   exact(wY M _ b0 b' off ss.length cap M s ss w hg.gl (hsz s (by simp)) k0 hL (by show _<7;decide) hs hcap (by omega)).mono λe w' ⟨q1,w1,q2,q3⟩=>
    lG (ad':={ad with a:=dj s}) hL hs hcap ha hsv rfl q2 q3 (bY s) q1 rfl
 |numB lo hi=>
  obtain⟨b0,b1,b2,e,h0,h1,h2,k0,k1,k2⟩:=h;simp only[List.cons.injEq,Em]at e;obtain⟨rfl,_,_,_⟩:=e;refine⟨175,_,rfl,λ_ _=>by kernel_rfl,?_⟩;cases ws with
  |nil=>
   simp only[DO]at hlen;subst hlen;exact(tb M b0 A cap w).mono λe w' q=>lH q rfl
  |cons s ss=>
   obtain⟨b',off,rfl,rfl⟩:=iz hs
   exact(wX M _ b0 b' off ss.length cap M s ss w hg.gl (hsz s (by simp)) k0 hL (by show _<7;decide) hs hcap (by omega)).mono λe w' ⟨q1,w1,q2,q3⟩=>
    lG (ad':={ad with b:=dj s}) hL hs hcap ha hsv rfl q2 q3 (bY s) q1 rfl
 |nam k=>
  obtain⟨b0,b1,e,h0,h1,k0,k1⟩:=h;simp only[List.cons.injEq,Em]at e;obtain⟨rfl,_,_,_⟩:=e;refine⟨180,_,rfl,λ_ _=>by kernel_rfl,?_⟩;cases ws with
  |nil=>
   simp only[DO]at hlen;subst hlen;exact(td M b0 A cap w).mono λe w' q=>lH q rfl
  |cons s ss=>
   obtain⟨b',off,rfl,rfl⟩:=iz hs
   exact(xu M _ b0 b' off ss.length cap M s ss w k0 hL (by show _<7;decide) hs hcap (by omega)).mono λe w' ⟨q1,w1,q2,q3⟩=>
    lG (ad':={ad with nm:=s}) hL hs hcap ha hsv rfl q2 q3 true q1 rfl
 |met k=>
  obtain⟨b0,b1,e,h0,h1,k0,k1⟩:=h;simp only[List.cons.injEq,Em]at e;obtain⟨rfl,_,_,_⟩:=e;refine⟨180,_,rfl,λ_ _=>by kernel_rfl,?_⟩;cases ws with
  |nil=>
   simp only[DO]at hlen;subst hlen;exact(td M b0 A cap w).mono λe w' q=>lH q rfl
  |cons s ss=>
   obtain⟨b',off,rfl,rfl⟩:=iz hs
   exact(xt M _ b0 b' off ss.length cap M s ss w k0 hL (by show _<7;decide) hs hcap (by omega)).mono λe w' ⟨q1,w1,q2,q3⟩=>
    lG (ad':={ad with mt:=s}) hL hs hcap ha hsv rfl q2 q3 true q1 rfl
 |surv=>
  have e:[a,b,c,d]=[fnv 185,fnv 186,fnv 187,fnv 190]:=h;simp only[List.cons.injEq,Em]at e;obtain⟨rfl,_,_,_⟩:=e;refine⟨185,_,rfl,λ_ _=>by kernel_rfl,?_⟩;cases hall:ws.all bY with
  |false=>
   refine(ur M _ A n cap ws w hg hs hn hsz hL rfl hall).mono λe w' ⟨q1,q2⟩=>⟨q2,?_,?_⟩
   ·exact q2.size
   ·rw[show dC ad ws .surv=none from by unfold dC;dsimp only;rw[hall];rfl];exact⟨_,_,_,q1⟩
  |true=>
   refine(rq M _ A n cap ws w hg hs hn hsz hL rfl hall).mono λe w' ⟨A',c',q1,q2,q3,q4,q5,q6⟩=>⟨q4,q5,?_⟩;rw[show dC ad ws .surv=some ({ad with surv:=ws.map dj},[])from by unfold dC;dsimp only;rw[hall];rfl];exact⟨{vOf ad with A2:=A',n2:=ws.length,c2:=c'},none,0,q1,q3,⟨rfl,rfl,rfl,rfl,rfl,by rw[show({ad with surv:=ws.map dj}:Ad).args=[]from ha];exact Ints.none _ _,q2⟩,⟨rfl,λh0=>absurd h0 (Fv 0)⟩,DK _,Ea _,by show ws.length<=_;omega,⟨λb o h=>(by cases h),q6⟩,λh=>by cases h⟩
 |rest m=>
  obtain⟨b0,e,h0,k0⟩:=h;simp only[List.cons.injEq,Em]at e;obtain⟨rfl,_,_,_⟩:=e;refine⟨191,_,rfl,λ_ _=>by kernel_rfl,?_⟩;cases hall:ws.all bY with
  |false=>
   refine(uq M _ A n cap ws w hg hs hn hsz hL rfl hall).mono λe w' ⟨q1,q2⟩=>⟨q2,?_,?_⟩
   ·exact q2.size
   ·rw[show dC ad ws (.rest m)=none from by unfold dC;dsimp only;rw[hall];rfl];exact⟨_,_,_,q1⟩
  |true=>
   refine(ro M _ A n cap ws w hg hs hn hsz hL rfl hall).mono λe w' ⟨A',c',q1,q2,q3,q4,q5,q6⟩=>⟨q4,q5,?_⟩;rw[show dC ad ws (.rest m)=some ({ad with args:=ws.map dj},[])from by unfold dC;dsimp only;rw[hall];rfl];exact⟨{vOf ad with A:=A',n:=ws.length,c:=c'},none,0,q1,q3,⟨rfl,rfl,rfl,rfl,rfl,q2,by rw[show({ad with args:=ws.map dj}:Ad).surv=[]from hsv];exact Ints.none _ _⟩,⟨rfl,λh0=>absurd h0 (Fv 0)⟩,DK _,by show ws.length<=_;omega,Ea _,⟨q6,λb o h=>(by cases h)⟩,λh=>by cases h⟩
theorem np{t e:TypeId}{d:TypeDesc}{z:Value}(ht:∀w,(underlying t).run Tryz.prog w= .ok (.map kt e) w)(hd:∀w,(underlying kt).run Tryz.prog w= .ok d w)(hz:∀w,(zeroValue e).run Tryz.prog w= .ok z w)(h:KMap w m kvs)(k:Value)
 (hc:∀em w,(Instr.checkKey em 10000 kt k).run Tryz.prog w= .ok () w) (hk:∀o∈kvs,Instr.sameNow d k o.1=some false):
 (Instr.lookup t (.map (some m)) k true).run Tryz.prog w= .ok (.tuple #[z,.bool false]) w:=by
 simp only[Instr.lookup,Fg,ht,EM,dZ h,hc,Instr.findKey,hd,kF d k kvs 0 0 hk,Fh,hz];rfl
theorem xG{t e:TypeId}{d:TypeDesc}(ht:∀w,(underlying t).run Tryz.prog w= .ok (.map kt e) w)(hd:∀w,(underlying kt).run Tryz.prog w= .ok d w)(h:KMap w m kvs)(k v:Value)(n:Nat)
 (hc:∀em w,(Instr.checkKey em 10000 kt k).run Tryz.prog w= .ok () w) (hk:∀(t:Nat) (o:Value×Value),t<n->kvs[t]?=some o->Instr.sameNow d k o.1=some false) (hn:∃k',kvs[n]?=some (k',v)/\Instr.sameNow d k k'=some true):
 (Instr.lookup t (.map (some m)) k true).run Tryz.prog w= .ok (.tuple #[v,.bool true]) w:=by
 simp only[Instr.lookup,Fg,ht,EM,dZ h,hc,Instr.findKey,hd,kE d k v kvs 0 0 n hk hn,Fh];rfl
def va:Value:= .agg #[.int .i64 0,.string ⟨#[]⟩,.slice none 0 0]
theorem AF(w:World):(zeroValue 92).run Tryz.prog w= .ok va w:=by kernel_rfl
def Found(W:World)(w0:ByteArray)(v:Value)(ok:Bool):Prop:=
 (fZ w0=none/\v=va/\ok=false)\/∃fd g,fZ w0=some fd/\v=gK fd g/\ok=true/\Parts W W.heap.size g fd.pds
theorem ir(h:fZ w0=some fd):fd.word=w0/\∃i,i<16/\au[i]?=some fd:=by
 have h1:=List.mem_of_find?_eq_some h;have h2:=List.find?_some h;obtain⟨i,hi⟩:=List.mem_iff_getElem?.1 h1;exact⟨Eh (by simpa using h2),i,(DQ.1 hi).1,hi⟩
theorem pp(hm:KMap W m kvs)(hw:WordMap W W.heap.size 16 kvs)(w0:ByteArray):
 ∃v ok,(Instr.lookup 102 (.map (some m)) (.string w0) true).run Tryz.prog W= .ok (.tuple #[v,.bool ok]) W/\Found W w0 v ok:=by
 cases hf:fZ w0 with
 |none=>
  refine⟨va,false,np vv AJ AF hm _ (λem w=>sq em _ w) λo ho=>?_,.inl ⟨hf,rfl,rfl⟩⟩;obtain⟨t,ht⟩:=List.mem_iff_getElem?.1 ho;have hl:=(DQ.1 ht).1;rw[hw.1]at hl;obtain⟨fd,h1,_⟩:=iq hl;obtain⟨g,h2,_⟩:=hw.2 t fd hl h1;rw[ht]at h2;simp only[Option.some.injEq]at h2;rw[h2];refine ii λe=>?_;have:=eI (by omega:t<=15) h1;rw[<-e,hf]at this;cases this
 |some fd=>
  obtain⟨hwd,i,hi,h1⟩:=ir hf;obtain⟨g,h2,h3⟩:=hw.2 i fd hi h1;refine⟨gK fd g,true,xG vv AJ hm _ _ i (λem w=>sq em _ w) (λt o ht ho=>?_) ⟨_,h2,by rw[hwd];exact pO w0⟩,.inr ⟨fd,g,hf,rfl,rfl,h3⟩⟩;obtain⟨fd',h4,_⟩:=iq (by omega:t<16);obtain⟨g',h5,_⟩:=hw.2 t fd' (by omega) h4;rw[ho]at h5;simp only[Option.some.injEq]at h5;rw[h5,<-hwd];exact ii (kQ h4 h1 ht).symm
def bc(s:ByteArray):List ByteArray:=Lib.splitB ⟨#[32]⟩ 0 (Lib.countB s ⟨#[32]⟩) s
theorem pl(s:ByteArray):(bc s).length=Lib.countB s ⟨#[32]⟩+1:=Lib.splitB_all _ (by decide) 0 _ s rfl
def G8(w0:ByteArray)(G nw B2:Nat)(k:Nat)(v:Value)(W:World):Prop:=
 match k with
 |0=>∃m kvs,v= .map (some m)/\KMap W m kvs/\WordMap W W.heap.size 16 kvs
 |1=>v= .slice (some ⟨G,0,none⟩) nw nw
 |2=>v= .pointer (some ⟨G,0,none⟩)
 |3=>v= .string w0
 |4=>∃x ok,v= .tuple #[x,.bool ok]/\Found W w0 x ok
 |5=>∃x ok,v= .tuple #[x,.bool ok]/\Found W w0 x ok
 |6=>∃ok,Found W w0 v ok
 |7=>∃x ok,v= .bool ok/\Found W w0 x ok
 |8=>∃N z t A n c,v= .pointer (some ⟨N,0,none⟩)/\B2<=N/\Blk W N 92 #[.int .i64 z,.string t,.slice A n c]
 |10=>∃x ok,v= .bool ok/\Found W w0 x ok
 |_=>True
theorem Found.below{ok:Bool}(h:Found W w0 v ok)(hb:Below W.heap.size W W'):Found W' w0 v ok:=by
 rcases h with h|⟨fd,g,h1,h2,h3,h4⟩
 ·exact .inl h
 ·exact .inr ⟨fd,g,h1,h2,h3,(h4.below hb).more hb.size⟩
theorem Found.store{ok:Bool}{z:Int}{t:ByteArray}{n c:Nat}(h:Found W w0 v ok)(hN:Blk W N 92 #[.int .i64 z,.string t,.slice A n c])(x0 x1 x2:Value):
 Found (((W.setCell ⟨N,0,none⟩ x0).setCell ⟨N,1,none⟩ x1).setCell ⟨N,2,none⟩ x2) w0 v ok:=by
 rcases h with h|⟨fd,g,h1,h2,h3,h4⟩
 ·exact .inl h
 ·exact .inr ⟨fd,g,h1,h2,h3,by simpa using h4.other hN x0 x1 x2⟩
theorem Found.agg{ok:Bool}(h:Found W w0 v ok):∃z t A n c,v= .agg #[.int .i64 z,.string t,.slice A n c]:=by
 rcases h with⟨_,rfl,_⟩|⟨fd,g,_,rfl,_⟩
 ·exact⟨_,_,_,_,_,rfl⟩
 ·exact⟨_,_,_,_,_,rfl⟩
theorem G8.below{nw k:Nat}(h:G8 w0 G nw B2 k v W)(hb:Below W.heap.size W W'):G8 w0 G nw B2 k v W':=by
 unfold G8 at h⊢;split at h
 ·obtain⟨m,kvs,h1,h2,h3⟩:=h;exact⟨m,kvs,h1,h2.below hb h2.lt,(h3.below hb).more hb.size⟩
 ·exact h
 ·exact h
 ·exact h
 ·obtain⟨x,ok,h1,h2⟩:=h;exact⟨x,ok,h1,h2.below hb⟩
 ·obtain⟨x,ok,h1,h2⟩:=h;exact⟨x,ok,h1,h2.below hb⟩
 ·obtain⟨ok,h2⟩:=h;exact⟨ok,h2.below hb⟩
 ·obtain⟨x,ok,h1,h2⟩:=h;exact⟨x,ok,h1,h2.below hb⟩
 ·obtain⟨N,z,t,A,n,c,h1,h2,h3⟩:=h;exact⟨N,z,t,A,n,c,h1,h2,h3.below hb h3.lt⟩
 ·obtain⟨x,ok,h1,h2⟩:=h;exact⟨x,ok,h1,h2.below hb⟩
 ·trivial
theorem G8.store{nw k:Nat}{z z':Int}{t t':ByteArray}{A':Option Addr}{n c n' c':Nat}(h:G8 w0 G nw B2 k v W)(hN:Blk W N 92 #[.int .i64 z,.string t,.slice A n c]):
 G8 w0 G nw B2 k v (((W.setCell ⟨N,0,none⟩ (.int .i64 z')).setCell ⟨N,1,none⟩ (.string t')).setCell ⟨N,2,none⟩ (.slice A' n' c')):=by
 unfold G8 at h⊢;split at h
 ·obtain⟨m,kvs,h1,h2,h3⟩:=h
  have hne:m≠N:=λe=>by
   subst e;unfold Blk at hN;rw[show W.heap[m]?=_ from h2]at hN;cases hN
  refine⟨m,kvs,h1,((DZ _ _ _ m hne).trans ((DZ _ _ _ m hne).trans (DZ _ _ _ m hne))).trans h2,h3.1,λi fd hi hf=>?_⟩;obtain⟨g,h4,h5⟩:=h3.2 i fd hi hf;exact⟨g,h4,by simpa using h5.other hN (.int .i64 z') (.string t') (.slice A' n' c')⟩
 ·exact h
 ·exact h
 ·exact h
 ·obtain⟨x,ok,h1,h2⟩:=h;exact⟨x,ok,h1,h2.store hN _ _ _⟩
 ·obtain⟨x,ok,h1,h2⟩:=h;exact⟨x,ok,h1,h2.store hN _ _ _⟩
 ·obtain⟨ok,h2⟩:=h;exact⟨ok,h2.store hN _ _ _⟩
 ·obtain⟨x,ok,h1,h2⟩:=h;exact⟨x,ok,h1,h2.store hN _ _ _⟩
 ·obtain⟨N',z1,t1,A1,n1,c1,h1,h2,h3⟩:=h;by_cases hne:N'=N
  ·subst hne;exact⟨N',z',t',A',n',c',h1,h2,h3.aL⟩
  ·exact⟨N',z1,t1,A1,n1,c1,h1,h2,((h3.other ⟨N,0,none⟩ _ hne).other ⟨N,1,none⟩ _ hne).other ⟨N,2,none⟩ _ hne⟩
 ·obtain⟨x,ok,h1,h2⟩:=h;exact⟨x,ok,h1,h2.store hN _ _ _⟩
 ·trivial
def F8(w0:ByteArray)(G nw B2:Nat)(k:Nat)(xs:Nat->Value)(W:World):Prop:=
 if k=9 then∃N z t A n c,xs 8= .pointer (some ⟨N,0,none⟩)/\xs 6= .agg #[.int .i64 z,.string t,.slice A n c]/\B2<=N/\Blk W N 92 #[.int .i64 z,.string t,.slice A n c]else G8 w0 G nw B2 k (xs k) W
def BV(k j:Nat):Bool:=k==9&&(j==8||j==6)
theorem F8.of{nw k:Nat}(h:F8 w0 G nw B2 k xs W)(hk:k≠9):G8 w0 G nw B2 k (xs k) W:=by
 unfold F8 at h;rwa[DS hk]at h
theorem F8.mk{nw k:Nat}(h:G8 w0 G nw B2 k v W)(hk:k≠9):F8 w0 G nw B2 k (upd xs k v) W:=by
 unfold F8;rw[DS hk,pw];exact h
theorem F8.aA{nw:Nat}(v:Value)(hb:Below W.heap.size W W'):∀k,k≠i->BV k i=false->F8 w0 G nw B2 k xs W->F8 w0 G nw B2 k (upd xs i v) W':=by
 intro k hk hd h;unfold F8 at h⊢;by_cases h9:k=9
 ·rw[Ed h9]at h⊢;obtain⟨N,z,t,A,n,c,h1,h2,h3,h4⟩:=h;have h8:8≠i:=λe=>by subst h9 e;cases hd
  have h6:6≠i:=λe=>by subst h9 e;cases hd
  exact⟨N,z,t,A,n,c,by rw[iZ xs v h8];exact h1,by rw[iZ xs v h6];exact h2,h3,h4.below hb h4.lt⟩
 ·rw[DS h9]at h⊢;rw[iZ xs v hk];exact h.below hb
theorem jx:∀(r:List (List UInt8)) (x:List UInt8),∀y∈x::r,y.length<=(x++cD r).length
 |[],x,y,hy=>by
  simp only[DY,DX,Ew]at hy;subst hy;simp
 |z::r,x,y,hy=>by
  have hs:cD (z::r)=32::(z++cD r):=by simp[cD]
  rw[hs,DJ,DL];rcases DY.1 hy with rfl|hy
  ·omega
  ·have:=jx r z y hy;omega
theorem eL(s:ByteArray):bJ (bc s)=Lib.splitK [32] 0 (Lib.countB s ⟨#[32]⟩) s.data.toList:=Lib.splitB_data ⟨#[32]⟩ 0 _ s
theorem oa(s:ByteArray){wr:List ByteArray}(h:bc s=w0::wr):w0.data.toList++cD (bJ wr)=s.data.toList:=by
 have h1:=eL s;obtain⟨x,r,h2,h3⟩:=mD (Lib.countB s ⟨#[32]⟩) s.data.toList;rw[h,h2]at h1;simp only[bJ,EE,List.cons.injEq]at h1;rw[h1.1,show bJ wr=r from h1.2];exact h3
theorem pj{s:ByteArray}{wr:List ByteArray}(h:bc s=w0::wr):∀x∈wr,x.size<=s.size:=by
 intro x hx;have h1:=jx (bJ wr) w0.data.toList x.data.toList (Et _ (EB.2 ⟨x,hx,rfl⟩));rw[oa s h]at h1;exact h1
theorem mh:∀(ps:List PD) (a:Ad) (ws:List ByteArray) (p:PD),f9 a ws (ps++[p])=(match f9 a ws ps with|none=>none|some (a',ws')=>dC a' ws' p)
 |[],a,ws,p=>by
  simp only[EG,f9];cases dC a ws p with
  |none=>rfl
  |some x=>rfl
 |q::ps,a,ws,p=>by
  simp only[EK,f9];cases h:dC a ws q with
  |none=>rfl
  |some x=>exact mh ps x.1 x.2 p
theorem mi:∀(ps qs:List PD) (a:Ad) (ws:List ByteArray),f9 a ws ps=none->f9 a ws (ps++qs)=none
 |[],qs,a,ws,h=>by cases h
 |q::ps,qs,a,ws,h=>by
  simp only[EK,f9]at h⊢;cases hq:dC a ws q with
  |none=>rfl
  |some x=>
   rw[hq]at h;exact mi ps qs x.1 x.2 h
theorem mg{ps:List PD}{k:Nat}{p:PD}(h:ps[k]?=some p)(a:Ad)(ws:List ByteArray):f9 a ws (ps.take (k+1))=(match f9 a ws (ps.take k)with|none=>none|some (a',ws')=>dC a' ws' p):=by
 have hk:=(DQ.1 h).1;rw[EQ,h];exact mh _ _ _ _
theorem wF{b:Ad}{ws r:List ByteArray}{p:PD}(h:dC a ws p=some (b,r)):(∀x∈r,x∈ws)/\r.length<=ws.length:=by
 cases p with
 |numA=>obtain⟨w,rfl,_⟩:=zj h;exact⟨λx hx=>Et _ hx,by simp⟩
 |numB=>obtain⟨w,rfl,_⟩:=zi h;exact⟨λx hx=>Et _ hx,by simp⟩
 |nam=>obtain⟨w,rfl,_⟩:=Bf h;exact⟨λx hx=>Et _ hx,by simp⟩
 |met=>obtain⟨w,rfl,_⟩:=Bg h;exact⟨λx hx=>Et _ hx,by simp⟩
 |surv=>obtain⟨_,_,rfl⟩:=zg h;exact⟨λx hx=>(by cases hx),Ea _⟩
 |rest=>obtain⟨_,_,rfl⟩:=zh h;exact⟨λx hx=>(by cases hx),Ea _⟩
theorem rY(h:au[i]?=some fd){k:Nat}{p:PD}(hp:fd.pds[k]?=some p)(hk:k+1<fd.pds.length):p.list=false:=by
 have hm:=DW h;unfold au at hm;simp only[DY,DX,Ew]at hm
 rcases hm with rfl|rfl|rfl|rfl|rfl|rfl|rfl|rfl|rfl|rfl|rfl|rfl|rfl|rfl|rfl|rfl<;>(
  simp only[DL,DO]at hk
  match k,hk with
  |0,_=>simp at hp<;>subst hp<;>rfl
  |1,hk=>first|(exfalso;omega)|(simp at hp<;>subst hp<;>rfl)
  |2,hk=>first|(exfalso;omega)|(simp at hp<;>subst hp<;>rfl)
  |k+3,hk=>exfalso;omega)
theorem Row.other{R:Nat}{n:Nat}(h:Row w B A n cs)(hA:∀b o,A=some ⟨b,o,none⟩->R<b)(hw:∀b,b≠R->w'.heap[b]?=w.heap[b]?):Row w' B A n cs:=
 ⟨h.1,λh0=>by
  obtain⟨b,off,h1,h2,h3⟩:=h.2 h0
  exact⟨b,off,h1,h2,λj v hv=>by
   rw[<-h3 j v hv];exact F1 (hw b (by have:=hA b off h1;omega))⟩⟩
theorem Reads.other{R:Nat}{v:Av}(h:Reads w B v d)(hv:v.apart M)(hRM:R<M)(hw:∀b,b≠R->w'.heap[b]?=w.heap[b]?):Reads w' B v d:=
 ⟨h.k,h.a,h.b,h.nm,h.mt,Row.other h.args (λb o e=>by have:=hv.1 b o e;omega) hw,Row.other h.surv (λb o e=>by have:=hv.2 b o e;omega) hw⟩
theorem ui{b:Nat}(a0 a1 a2 a3 a4 a5 a6:Value)(h:b≠g):
 (((((((w.setCell ⟨g,0,none⟩ a0).setCell ⟨g,1,none⟩ a1).setCell ⟨g,2,none⟩ a2).setCell ⟨g,3,none⟩ a3).setCell ⟨g,4,none⟩ a4).setCell ⟨g,5,none⟩ a5).setCell ⟨g,6,none⟩ a6).heap[b]?=w.heap[b]?:=
 (((((((DZ _ _ _ b h).trans (DZ _ _ _ b h)).trans (DZ _ _ _ b h)).trans (DZ _ _ _ b h)).trans (DZ _ _ _ b h)).trans (DZ _ _ _ b h)).trans (DZ _ _ _ b h))
def ParsePost(s:ByteArray)(w:World)(e:Ending)(w':World):Prop:=
 ∃v a,e= .returned (.tuple #[.agg v.cells,.int .i64 (if(cF (bc s)).isSome then 0 else 3)])/\a=(cF (bc s)).getD (cS 0)/\Reads w' w'.heap.size v a/\v.n<=1000000/\v.n2<=1000000/\v.apart w.heap.size/\Below w.heap.size w w'
theorem ParsePost.none{s:ByteArray}(h:cF (bc s)=Option.none)(hb:Below w.heap.size w W):ParsePost s w (.returned (.tuple #[.agg (vOf (cS 0)).cells,.int .i64 3])) W:=
 ⟨vOf (cS 0),cS 0,by rw[h];rfl,by rw[h];rfl,kf rfl rfl,Ea _,Ea _,kg _ _,hb⟩
theorem Blk.set7{t:TypeId}{c0 c1 c2 c3 c4 c5 c6 a0 a1 a2 a3 a4 a5 a6:Value}(h:Blk w g t #[c0,c1,c2,c3,c4,c5,c6]):
 Blk (((((((w.setCell ⟨g,0,Option.none⟩ a0).setCell ⟨g,1,Option.none⟩ a1).setCell ⟨g,2,Option.none⟩ a2).setCell ⟨g,3,Option.none⟩ a3).setCell ⟨g,4,Option.none⟩ a4).setCell ⟨g,5,Option.none⟩ a5).setCell ⟨g,6,Option.none⟩ a6) g t #[a0,a1,a2,a3,a4,a5,a6]:=by
 have h7:=((((((h.set 0 a0).set 1 a1).set 2 a2).set 3 a3).set 4 a4).set 5 a5).set 6 a6;simp only[EL,Fm,Fl]at h7;exact h7
theorem fE{a:World}(h:Below B a w)(hg:B<=g)(a0 a1 a2 a3 a4 a5 a6:Value):
 Below B a (((((((w.setCell ⟨g,0,Option.none⟩ a0).setCell ⟨g,1,Option.none⟩ a1).setCell ⟨g,2,Option.none⟩ a2).setCell ⟨g,3,Option.none⟩ a3).setCell ⟨g,4,Option.none⟩ a4).setCell ⟨g,5,Option.none⟩ a5).setCell ⟨g,6,Option.none⟩ a6):=
 ((((((h.setCell (p:=⟨g,0,Option.none⟩) hg a0).setCell (p:=⟨g,1,Option.none⟩) hg a1).setCell (p:=⟨g,2,Option.none⟩) hg a2).setCell (p:=⟨g,3,Option.none⟩) hg a3).setCell (p:=⟨g,4,Option.none⟩) hg a4).setCell (p:=⟨g,5,Option.none⟩) hg a5).setCell (p:=⟨g,6,Option.none⟩) hg a6
theorem kp(s:ByteArray)(w:World)(hg:Gl w)(hs:s.size<=999999):Calls Tryz.prog 18 #[.string s] w (ParsePost s w):=by
 have hwl:=pl s;have hsp:=λ(W:World) (m:Int) (hm:W.cell? ⟨0,0,none⟩=some (.int .i64 m))=>Tryz.strings_Split s ⟨#[32]⟩ m W (by omega) hm (by decide);have hcl:=Lib.countB_le ⟨#[32]⟩ (by decide) s.size s (DK _);rw[show Lib.splitB ⟨#[32]⟩ 0 (Lib.countB s ⟨#[32]⟩) s=bc s from rfl,<-hwl]at hsp;have hwl2:(bc s).length<=1000000:=by omega
 have hwl3:1<=(bc s).length:=by omega
 have HG:=H_ hg;have HSP:=H_ hsp;clear hg hwl hsp hcl;go_enter Tryz.func18,Tryz.ntmps18;go_upto_region 1 with fail;have hr0:=Blk.new w 48 (vOf (cS 0)).cells;have hb0:Below w.heap.size w (w.alloc (.cells (vOf (cS 0)).cells 48)):=(DN _ _).alloc (DK _) _;rw[show(#[.int .i64 0,.int .i64 0,.int .i64 0,.string ⟨#[]⟩,.string ⟨#[]⟩,.slice none 0 0,.slice none 0 0]:Array Value)=(vOf (cS 0)).cells from rfl];generalize w.alloc (.cells (vOf (cS 0)).cells 48)=W0 at hr0 hb0⊢;have hlt0:=hr0.lt;have zb0:=hb0.size;obtain⟨R,hR⟩:=nm_ (w.heap.size);rw[hR]at hr0 hlt0⊢;have HL:=H_ hR;have QR:=H_ hr0;have B0:=H_ hb0;obtain⟨mm,hmm⟩:=GlB.mx (HG.out.below B0.out);have HC:=H_ (HSP.out W0 mm hmm);clear hR hr0 hb0 hmm;go_wp2_with fail;refine HC.out.mono ?_;rintro e w2 ⟨rfl,hw2⟩;have b2:Below W0.heap.size W0 w2:=hw2▸(DN _ _).alloc (DK _) _;have hq2:=hw2▸Blk.new W0 9 ((bc s).map Value.string).toArray;have hs2:w2.heap.size=W0.heap.size+1:=by rw[hw2];simp
 have HST:=H_ (Strs.aJ (B:=w2.heap.size) hq2 (by omega));have QR2:=H_ (QR.out.below b2 hlt0);have B2:=H_ (B0.out.trans (b2.mono zb0));generalize W0.heap.size=G at*
 clear HC hw2 b2 hq2 QR B0;go_upto_region 2 with fail;obtain⟨nw,hnw⟩:=nm_ ((bc s).length)
 obtain⟨w0,wt,hws⟩:∃w0 wt,bc s=w0::wt:=by
  cases h:bc s with
  |nil=>rw[h]at hwl3;simp at hwl3
  |cons a b=>exact⟨a,b,rfl⟩
 obtain⟨_,_,s',hA,hGlt,hs',hcg⟩:=HST.out.at_ (k:=0) (by omega);simp only[Option.some.injEq,Addr.mk.injEq,Em]at hA;obtain⟨rfl,rfl⟩:=hA;rw[hws]at hs';simp only[ED,Option.some.injEq]at hs';subst hs';rw[hnw]at HST hwl2 hwl3⊢;have HWS:=H_ (And.intro hnw hws);clear hnw hws;refine kc (λxs=>{tmps:= #[.string s,undef,.pointer (some ⟨R,0,none⟩),.int .i64 0,.slice (some ⟨G,0,none⟩) nw nw,xs 8,xs 10,undef,undef,undef,undef,undef,.string s,.slice (some ⟨G,0,none⟩) nw nw,xs 5,xs 0,xs 1,xs 2,xs 3,xs 4,xs 6,xs 7,undef,undef,undef,undef,undef,undef,undef,undef,undef,undef,undef,undef,undef,undef,undef,undef,undef,undef,undef,undef,undef,undef,undef,undef,undef,undef,undef,undef,undef,undef,undef,undef,undef,undef,undef,undef,undef,undef,undef,undef],defers:=[]}) (λ_=>undef) (λW=>Below w2.heap.size w2 W) (F8 w0 G nw w2.heap.size) BV (by kernel_rfl) (by kernel_rfl) ?_ rfl (DN _ _).drew ?_ ?_
 ·intro k j hk hd;unfold BV at hd;simp only[Ee,EY,FG]at hd;obtain⟨rfl,rfl|rfl⟩:=hd<;>kernel_rfl
 ·intro i hi xs W hJ hd
  obtain rfl|rfl|rfl|rfl|rfl|rfl|rfl|rfl|rfl|rfl|rfl:i=0\/i=1\/i=2\/i=3\/i=4\/i=5\/i=6\/i=7\/i=8\/i=9\/i=10:=by
   have:i<11:=hi;omega
  ·refine DU rfl λK hK=>?_;go_simp;refine(yr _).mono ?_;rintro e W' ⟨m,kvs,rfl,hm,hw,hmlt,hb⟩;exact hK _ _ ⟨.map (some m),rfl,hJ.trans (hb.mono hJ.size),F8.mk ⟨m,kvs,rfl,hm,hw⟩ (by decide),F8.aA _ hb⟩
  ·refine DU rfl λK hK=>?_;go_simp;exact hK _ _ ⟨.slice (some ⟨G,0,none⟩) nw nw,rfl,hJ,F8.mk rfl (by decide),F8.aA _ (DN _ _)⟩
  ·have e1:=F8.of (hd 1) (by decide);change xs 1=_ at e1;have hz1:(0:Int)<(nw:Int):=by omega
   have hz2:0<nw:=by omega
   refine DU rfl λK hK=>?_;go_simp;refine hK _ _ ⟨.pointer (some ⟨G,0,none⟩),?_,hJ,F8.mk rfl (by decide),F8.aA _ (DN _ _)⟩;rw[<-e1];rfl
  ·have e2:=F8.of (hd 2) (by decide);change xs 2=_ at e2;have hc:=(ab hJ hGlt 0).trans hcg;refine DU rfl λK hK=>?_;go_simp;exact hK _ _ ⟨.string w0,by rw[<-e2];rfl,hJ,F8.mk rfl (by decide),F8.aA _ (DN _ _)⟩
  ·have e0:=F8.of (hd 0) (by decide);obtain⟨m,kvs,e0,hm,hw⟩:=e0;have e3:=F8.of (hd 3) (by decide);change xs 3=_ at e3;obtain⟨v,ok,hl,hf⟩:=pp hm hw w0;have HFO:=H_ hf;clear hm hw hf;refine DU rfl λK hK=>?_;go_simp;exact hK _ _ ⟨.tuple #[v,.bool ok],by rw[<-e0,<-e3];rfl,hJ,F8.mk ⟨v,ok,rfl,HFO.out⟩ (by decide),F8.aA _ (DN _ _)⟩
  ·obtain⟨x,ok,e4,hf⟩:=F8.of (hd 4) (by decide);have HFO:=H_ hf;clear hf;refine DU rfl λK hK=>?_;go_simp;exact hK _ _ ⟨.tuple #[x,.bool ok],by rw[<-e4];rfl,hJ,F8.mk ⟨x,ok,rfl,HFO.out⟩ (by decide),F8.aA _ (DN _ _)⟩
  ·obtain⟨x,ok,e5,hf⟩:=F8.of (hd 5) (by decide);have HFO:=H_ hf;clear hf;refine DU rfl λK hK=>?_;go_simp;exact hK _ _ ⟨x,by rw[<-e5];rfl,hJ,F8.mk ⟨ok,HFO.out⟩ (by decide),F8.aA _ (DN _ _)⟩
  ·obtain⟨x,ok,e5,hf⟩:=F8.of (hd 5) (by decide);have HFO:=H_ hf;clear hf;refine DU rfl λK hK=>?_;go_simp;exact hK _ _ ⟨.bool ok,by rw[<-e5];rfl,hJ,F8.mk ⟨x,ok,rfl,HFO.out⟩ (by decide),F8.aA _ (DN _ _)⟩
  ·refine DU rfl λK hK=>?_;go_simp;exact hK _ _ ⟨.pointer (some ⟨W.heap.size,0,none⟩),rfl,hJ.alloc hJ.size _,F8.mk ⟨W.heap.size,_,_,_,_,_,rfl,hJ.size,Blk.new W 92 _⟩ (by decide),F8.aA _ ((DN _ _).alloc (DK _) _)⟩
  ·obtain⟨N,z,t,A,n,c,e8,hN,hblk⟩:=F8.of (hd 8) (by decide);obtain⟨ok,hf⟩:=F8.of (hd 6) (by decide);obtain⟨z',t',A',n',c',e6⟩:=hf.agg;obtain⟨r0,r1,r2⟩:=hblk.c3;obtain⟨f0,f1,f2⟩:=hblk.f3;have HN:=H_ hblk;clear hblk hf;refine DU rfl λK hK=>?_;go_simp;refine hK _ _ ⟨undef,by rw[<-e6,<-e8];rfl,gR hJ hN _ _ _,?_,?_⟩
   ·unfold F8;rw[Ed rfl];exact⟨N,z',t',A',n',c',by rw[iZ xs _ (by decide)];exact e8,by rw[iZ xs _ (by decide)];exact e6,hN,HN.out.aL⟩
   ·intro k hk hdk h;have h2:=F8.of h hk;unfold F8;rw[DS hk,iZ xs _ hk];exact h2.store HN.out
  ·obtain⟨x,ok,e7,hf⟩:=F8.of (hd 7) (by decide);have HFO:=H_ hf;clear hf;refine DU rfl λK hK=>?_;go_simp;exact hK _ _ ⟨.bool ok,by rw[<-e7];rfl,hJ,F8.mk ⟨x,ok,rfl,HFO.out⟩ (by decide),F8.aA _ (DN _ _)⟩
 ·intro xs W hJ hall
  obtain⟨N,z,t,A,n,c,e8,e6,hN,hblk⟩:∃N z t A n c,xs 8= .pointer (some ⟨N,0,none⟩)/\xs 6= .agg #[.int .i64 z,.string t,.slice A n c]/\w2.heap.size<=N/\Blk W N 92 #[.int .i64 z,.string t,.slice A n c]:=by
   have h:=hall 9 (by decide);unfold F8 at h;rwa[Ed rfl]at h
  obtain⟨ok6,hf6⟩:=F8.of (hall 6 (by decide)) (by decide);obtain⟨x10,ok,e10,hf10⟩:=F8.of (hall 10 (by decide)) (by decide);dsimp only;rw[e8,e10,e6]
  have hfin:(ok=true/\∃fd g,fZ w0=some fd/\z=fd.k/\t=fd.word/\A=some ⟨g,0,none⟩/\n=fd.pds.length/\c=fd.pds.length/\Parts W W.heap.size g fd.pds)\/ok=false/\fZ w0=none:=by
   rcases hf10 with⟨h1,_,h3⟩|⟨fd,g,h1,_,h3,h4⟩
   ·exact .inr ⟨h3,h1⟩
   ·rcases hf6 with⟨h5,_⟩|⟨fd',g',h5,h6,_,h7⟩
    ·rw[h1]at h5;cases h5
    ·rw[h1]at h5;simp only[Option.some.injEq]at h5;subst h5;rw[e6]at h6;unfold gK at h6;simp only[Value.agg.injEq,Array.mk.injEq,List.cons.injEq,Value.int.injEq,Value.string.injEq,Value.slice.injEq,true_and,Em]at h6;obtain⟨rfl,rfl,rfl,rfl,rfl⟩:=h6;exact .inl ⟨h3,fd,g',h1,rfl,rfl,rfl,rfl,rfl,h7⟩
  have QR3:=hbl QR2 hJ;have B3:=htr B2 hJ;have HST3:=H_ (HST.out.below hJ);have HBLK:=H_ hblk;have hNW:=hblk.lt;have hRw2:=QR2.out.lt;have hwW:=hJ.size;clear hall hf6 hf10 e6 e8 e10 hblk hJ hcg HST QR2 B2;rcases hfin with⟨rfl,fd,g,h1,rfl,rfl,rfl,rfl,rfl,h2⟩|⟨rfl,h1⟩
  ·have HF:=H_ (And.intro h1 h2);clear h1 h2;have q0:=HBLK.out.k0;have hnwz:(1:Int)<=(nw:Int):=by omega
   go_upto_region 7 with fail;obtain⟨w3,hw3⟩:=nm_ (W.alloc (.cells (vOf (cS fd.k)).cells 48));have b3:=bal hw3;have hq3:=hw3▸Blk.new W 48 (vOf (cS fd.k)).cells;have hs3:w3.heap.size=W.heap.size+1:=by rw[<-hw3];simp
   rw[show(#[.int .i64 fd.k,.int .i64 0,.int .i64 0,.string ⟨#[]⟩,.string ⟨#[]⟩,.slice none 0 0,.slice none 0 0]:Array Value)=(vOf (cS fd.k)).cells from rfl,hw3]
   have HS0:Strs W w2.heap.size (some ⟨G,0,none⟩) (wt.length+1) (w0::wt):=by
    have h1:=HST3.out;rw[HWS.out.2]at h1;have h2:=HWS.out.1;rw[HWS.out.2]at h2;rw[show wt.length+1=nw from h2];exact h1
   have hwr:wt.length+1=nw:=by have h2:=HWS.out.1;rw[HWS.out.2]at h2;exact h2
   have hcut:=HS0.cut (c:=nw) (by omega);unfold kG at hcut;rw[ET]at hcut;have hnw1:nw-1=wt.length:=by omega
   rw[hnw1];obtain⟨A4,hA4⟩:∃A4,(if nw=1 then some (⟨G,0,none⟩:Addr)else some ⟨G,1,none⟩)=A4:=⟨_,rfl⟩;rw[hA4]at hcut⊢;obtain⟨M,hM⟩:=nm_ (W.heap.size);rw[hM]at hq3 hs3 hNW b3 hwW⊢;have HST4:=H_ ((hcut.below (b3.mono hwW)).more hwW);have QM:=H_ hq3;have QR4:=H_ (QR3.out.below b3 (by omega));have QN:=H_ (HBLK.out.below b3 (by omega));have HP:=H_ ((HF.out.2.below (hM▸b3)).more (Nat.le_of_eq hM));have B4:=H_ (B3.out.trans ((hM▸b3:Below W.heap.size W w3).mono B3.out.size));clear hq3 hcut HS0 hA4 q0 hw3 b3 HST3 HBLK QR3 B3;have hfew:=iF (ir HF.out.1).2.choose_spec.2;have hg34:=QN.out.k2;have HWSZ:=H_ (show∀x∈wt,x.size<=1000000 from λx hx=>Ek (pj HWS.out.2 x hx) (by omega));have hwrl:wt.length<=1000000:=by omega
   have hwM:w.heap.size<=M:=by have:=HL.out;omega
   have hRM:R<M:=by omega
   go_wp2_with fail
   go_loopw [4,33] (λu i wr=>∃(k:Nat) (ad:Ad) (ws:List ByteArray) (v:Av) (A:Option Addr) (c:Nat),k<=fd.pds.length/\i= .int .i64 k/\u= .slice A ws.length c/\ws.length<=c/\ws.length<=1000000/\v.n<=1000000/\v.n2<=1000000/\Hid (v.apart M)/\
    Hid (f9 (cS fd.k) wt (fd.pds.take k)=some (ad,ws))/\Hid (Blk wr M 48 v.cells)/\Hid (Reads wr wr.heap.size v ad)/\Hid (Strs wr M A ws.length ws)/\Hid (∀x∈ws,x∈wt)/\Hid (Below M w3 wr)/\Hid (k<fd.pds.length->v=vOf ad/\ad.args=[]/\ad.surv=[])) (λ_ i _=>fd.pds.length-(intOf i).toNat)
   case atStart=>exact⟨0,cS fd.k,wt,vOf (cS fd.k),A4,wt.length,Ea _,rfl,rfl,DK _,hwrl,Ea _,Ea _,H_ (kg _ _),H_ rfl,QM,H_ (kf rfl rfl),HST4,H_ λx hx=>hx,H_ (DN _ _),H_ λ_=>⟨rfl,rfl,rfl⟩⟩
   case round=>
    clear hg34 QM HST4;obtain⟨k,ad,ws,v,A,c,hk,rfl,rfl,hwc,hw6,hvn,hvn2,HAP,HRD,HM,HRV,HSW,HIN,HB,HV⟩:=hrel;by_cases hlt:k<fd.pds.length
    ·obtain⟨rfl,hav,hsv⟩:=HV.out hlt;have HVL:=H_ (And.intro hav hsv);clear hav hsv;obtain⟨pd,a,b,cc,dd,hpd,hpv,a0,a1,a2,a3⟩:=(HP.out.below HB.out).at_ hlt;obtain⟨n1,x1,n2,x2,n3,x3,n4,x4,rfl,rfl,rfl,rfl⟩:=hpv.funcs;have hk0:0<=(k:Int):=by omega
     have hk1:(k:Int)<(fd.pds.length:Int):=by omega
     have HPD:=H_ hpd;have HPV:=H_ hpv;clear hpd hpv;go_upto_region 10 with fail;have b5:Below wr.heap.size wr (wr.alloc (.cells #[.func (.func n1) #[] x1,.func (.func n2) #[] x2,.func (.func n3) #[] x3,.func (.func n4) #[] x4] 99)):=(DN _ _).alloc (DK _) _;have hn5:=Blk.new wr 99 #[.func (.func n1) #[] x1,.func (.func n2) #[] x2,.func (.func n3) #[] x3,.func (.func n4) #[] x4];generalize wr.alloc (.cells #[.func (.func n1) #[] x1,.func (.func n2) #[] x2,.func (.func n3) #[] x3,.func (.func n4) #[] x4] 99)=w5 at b5 hn5⊢;have hMq:=HM.out.lt;have HB5:=H_ (HB.out.trans (b5.mono (EF hMq)));have HM5:=H_ (HM.out.below b5 hMq);have HPV5:=H_ (HPV.out.below (b5.mono (EF hMq)));have HSW5:=H_ (HSW.out.below (b5.mono (EF hMq)));have a0:=hn5.k0;clear a1 a2 a3 b5 HB HM HPV HSW hn5;have hrun:=uv HPV5.out M ad HVL.out.1 HVL.out.2 HM5.out ((GlB.below HG.out (B4.out.trans (HB5.out.mono hwM))).more hwM (EF HM5.out.lt)) A ws ws.length c HSW5.out hwc hw6 (λx hx=>HWSZ.out x (HIN.out x hx));have hent:=hrun.enters;have HC:=H_ hrun.calls;clear hrun;go_wp2_with fail;refine HC.out.mono ?_;rintro e w6 ⟨b6,hs6,hres⟩;have HB6:=H_ (HB5.out.trans b6);have QR6:=H_ ((QR4.out.below HB5.out hRM).below b6 hRM);cases hrd:dC ad ws pd with
     |none=>
      rw[hrd]at hres;obtain⟨A',n',c',rfl⟩:=hres
      have hno:cF (bc s)=none:=by
       have h1:f9 (cS fd.k) wt (fd.pds.take (k+1))=none:=by
        rw[mg HPD.out,HRD.out];exact hrd
       have h2:=mi _ (fd.pds.drop (k+1)) _ _ h1;rw[ER]at h2;rw[HWS.out.2];unfold cF;dsimp only;rw[HF.out.1];dsimp only;rw[h2]
      have HNO:=H_ hno;have B6:=H_ (B4.out.trans (HB6.out.mono hwM));obtain⟨r0,r1,r2,r3,r4,r5,r6⟩:=QR6.out.z7;obtain⟨f0,f1,f2,f3,f4,f5,f6⟩:=QR6.out.f7;clear hno hrd b6 HC hent a0 HM5 HPV5 HSW5;go_wp2_with fail
      (try simp only[Exit.inBlock,Exit.then])
      refine Ej (ai rfl _ _ R 48 _ _ rfl (Blk.set7 QR6.out) Tryz.underlying48 rfl (by kernel_rfl)) rfl ?_;exact ParsePost.none HNO.out (fE B6.out (by have:=HL.out;omega) _ _ _ _ _ _ _)
     |some y=>
      obtain⟨ad',ws'⟩:=y;rw[hrd]at hres;obtain⟨v',A',c',rfl,hm',hr',hs',hc',hn',hn2',hap',hv'⟩:=hres;have hsub:=wF hrd;have HREL:=H_ (And.intro hm' (And.intro hr' (And.intro hs' (And.intro hap' hv'))))
      have HRD2:=H_ (show f9 (cS fd.k) wt (fd.pds.take (k+1))=some (ad',ws')from by
       rw[mg HPD.out,HRD.out];exact hrd)
      have HSUB:=H_ hsub.1;have hsubl:=hsub.2;clear hm' hr' hs' hap' hv' hsub hrd b6 HC hent a0 HM5 HPV5 HSW5;go_wp2_with fail;go_roundw
      case rel=>
       obtain⟨q1,q2,q3,q4,q5⟩:=HREL.out;refine⟨k+1,ad',ws',v',A',c',by omega,by go_num,rfl,hc',by omega,hn',hn2',H_ q4,HRD2,H_ q1,H_ q2,H_ q3,H_ λx hx=>HIN.out x (HSUB.out x hx),HB6,H_ λhk2=>?_⟩;obtain⟨_,i,_,hi⟩:=ir HF.out.1;exact q5 (rY hi HPD.out hk2)
      case measure=>simp[intOf];omega
    ·obtain rfl:k=fd.pds.length:=by omega
     have hrd:=HRD.out;rw[DP (DK _)]at hrd
     have hpw:cF (bc s)=if okD ad=true/\ws=[]then some ad else none:=by
      rw[HWS.out.2];unfold cF;dsimp only;rw[HF.out.1];dsimp only;rw[hrd]
     obtain⟨c0,c1,c2,c3,c4,c5,c6⟩:=HM.out.c7;have hMq:=HM.out.lt;have HPW:=H_ hpw;have BQ:=H_ (B4.out.trans (HB.out.mono hwM));have HC:=H_ (mM v ad wr HRV.out (HG.out.below BQ.out) (Ek hvn (by decide)) (Ek hvn2 (by decide)));clear hrd hpw;go_wp2_with fail;refine HC.out.mono ?_;rintro e w7 ⟨fk,fw,fA,fn,fc,rfl,b7,_⟩;have hs7:=b7.size;obtain⟨w8,hw8⟩:=nm_ (w7.alloc (.cells #[.int .i64 fk,.string fw,.slice fA fn fc] 92));have b8:Below wr.heap.size wr w8:=hw8▸b7.alloc b7.size _;have QR8:=H_ ((QR4.out.below HB.out hRM).below b8 (by omega));have QM8:=H_ (HM.out.below b8 hMq);have B8:=htm BQ b8;have HR8:=H_ ((HRV.out.below b8).more b8.size);have HZ8:=H_ hw8;clear hw8 b8 b7 HC c0 c1 c2 c3 c4 c5 c6;cases hok:okD ad with
     |false=>
      have HNO:=H_ (show cF (bc s)=none from by rw[HPW.out,hok];rfl);clear hok;go_upto_region 15 with fail;rw[HZ8.out];obtain⟨r0,r1,r2,r3,r4,r5,r6⟩:=QR8.out.z7;obtain⟨f0,f1,f2,f3,f4,f5,f6⟩:=QR8.out.f7;go_wp2_with fail
      (try simp only[Exit.inBlock,Exit.then])
      refine Ej (ai rfl _ _ R 48 _ _ rfl (Blk.set7 QR8.out) Tryz.underlying48 rfl (by kernel_rfl)) rfl ?_;exact ParsePost.none HNO.out (fE B8.out (by have:=HL.out;omega) _ _ _ _ _ _ _)
     |true=>
      cases ws with
      |cons x xs=>
       have HNO:=H_ (show cF (bc s)=none from by rw[HPW.out,hok];rfl);obtain⟨nl,hnl⟩:=nm_ (xs.length+1);have hlz:decide ((0:Int)<(nl:Int))=true:=FU (by omega);clear hok;go_upto_region 15 with fail;rw[HZ8.out];obtain⟨r0,r1,r2,r3,r4,r5,r6⟩:=QR8.out.z7;obtain⟨f0,f1,f2,f3,f4,f5,f6⟩:=QR8.out.f7;go_wp2_with fail
       (try simp only[Exit.inBlock,Exit.then])
       refine Ej (ai rfl _ _ R 48 _ _ rfl (Blk.set7 QR8.out) Tryz.underlying48 rfl (by kernel_rfl)) rfl ?_;exact ParsePost.none HNO.out (fE B8.out (by have:=HL.out;omega) _ _ _ _ _ _ _)
      |nil=>
       have HYES:=H_ (show cF (bc s)=some ad from by rw[HPW.out,hok];rfl);clear hok;go_upto_region 15 with fail;rw[HZ8.out];obtain⟨r0,r1,r2,r3,r4,r5,r6⟩:=QR8.out.z7;obtain⟨f0,f1,f2,f3,f4,f5,f6⟩:=QR8.out.f7;obtain⟨c0,c1,c2,c3,c4,c5,c6⟩:=QM8.out.c7;go_wp2_with fail
       (try simp only[Exit.inBlock,Exit.then])
       refine Ej (ai rfl _ _ R 48 _ _ rfl (Blk.set7 QR8.out) Tryz.underlying48 rfl (by kernel_rfl)) rfl ?_;refine⟨v,ad,by rw[HYES.out];rfl,by rw[HYES.out];rfl,?_,hvn,hvn2,HAP.out.less hwM,fE B8.out (by have:=HL.out;omega) _ _ _ _ _ _ _⟩;have h9:=HR8.out.other HAP.out hRM (λb hb=>ui (w:=w8) (.int .i64 v.k) (.int .i64 v.a) (.int .i64 v.b) (.string v.nm) (.string v.mt) (.slice v.A v.n v.c) (.slice v.A2 v.n2 v.c2) hb);simpa using h9
  ·have HF:=H_ h1;clear h1;obtain⟨r0,r1,r2,r3,r4,r5,r6⟩:=QR3.out.z7;obtain⟨f0,f1,f2,f3,f4,f5,f6⟩:=QR3.out.f7;go_wp2_with fail
   (try simp only[Exit.inBlock,Exit.then])
   refine Ej (ai rfl _ _ R 48 _ _ rfl (Blk.set7 QR3.out) Tryz.underlying48 rfl (by kernel_rfl)) rfl ?_;exact ParsePost.none (by rw[HWS.out.2];unfold cF;dsimp only;rw[HF.out]) (fE B3.out (by have:=HL.out;omega) _ _ _ _ _ _ _)
theorem fl:∀{xs ys:List ByteArray},bJ xs=bJ ys->xs=ys
 |[],[],_=>rfl
 |[],y::ys,h=>by cases h
 |x::xs,[],h=>by cases h
 |x::xs,y::ys,h=>by
  simp only[bJ,EE,List.cons.injEq]at h;rw[Eh h.1,fl (show bJ xs=bJ ys from h.2)]
theorem rZ(h:au[i]?=some fd):∀c∈fd.word.data.toList,c≠32:=by
 have hm:=DW h;unfold au at hm;simp only[DY,DX,Ew]at hm;rcases hm with rfl|rfl|rfl|rfl|rfl|rfl|rfl|rfl|rfl|rfl|rfl|rfl|rfl|rfl|rfl|rfl<;>decide
theorem yJ{p:PD}(h:jH d p=true):∀x∈bJ (dp d p),∀c∈x,c≠32:=by
 intro x hx;obtain⟨y,hy,rfl⟩:=EB.1 hx;cases p with
 |numA=>simp only[dp,DY,DX,Ew]at hy;subst hy;exact iD _
 |numB=>simp only[dp,DY,DX,Ew]at hy;subst hy;exact iD _
 |nam k=>simp only[dp,DY,DX,Ew]at hy;subst hy;exact qt h
 |met k=>simp only[dp,DY,DX,Ew]at hy;subst hy;exact qt h
 |surv=>obtain⟨z,_,rfl⟩:=EB.1 hy;exact iD _
 |rest=>obtain⟨z,_,rfl⟩:=EB.1 hy;exact iD _
theorem tX(hf:dG d.k=some f)(h:kq d f=true):∀x∈f.word.data.toList::bJ (f.pds.flatMap (dp d)),∀c∈x,c≠32:=by
 intro x hx;rcases DY.1 hx with rfl|hx
 ·exact rZ (fO hf)
 ·obtain⟨y,hy,rfl⟩:=EB.1 hx;obtain⟨p,hp,hy⟩:=List.mem_flatMap.1 hy;unfold kq at h;rw[Ee]at h;exact yJ (Ec.1 h.1 p hp) _ (EB.2 ⟨y,hy,rfl⟩)
theorem tQ(hf:dG d.k=some f)(h:kq d f=true):bc ⟨(dO d).toArray⟩=eg d f:=by
 have h1:=lR d f hf h;have h2:=tX hf h;refine fl ?_;rw[eL]
 have h3:dO d=f.word.data.toList++cD (bJ (f.pds.flatMap (dp d))):=by
  rw[<-h1,show bJ (eg d f)=f.word.data.toList::bJ (f.pds.flatMap (dp d))from rfl,Lib.join_cons,eW]
 have h4:Lib.countB ⟨(dO d).toArray⟩ ⟨#[32]⟩=(bJ (f.pds.flatMap (dp d))).length:=by
  rw[<-sj _ _ h2,<-h3]
 rw[h4];show Lib.splitK [32] 0 _ (dO d)=_;rw[h3,re _ _ h2];rfl
theorem lQ(h:ay d=true):∃f,dG d.k=some f/\kq d f=true:=by
 rw[<-eC]at h;unfold okD at h;cases hf:dG d.k with
 |none=>rw[hf]at h;cases h
 |some f=>
  rw[hf]at h;exact⟨f,rfl,h⟩
theorem uw(d:Ad)(hw:WfA d)(hv:ay d=true):cF (bc ⟨(dO d).toArray⟩)=some d:=by
 obtain⟨f,hf,h⟩:=lQ hv;rw[tQ hf h];exact rG d f hw hf h
def gM(b:UInt8)(s:ByteArray):List ByteArray:=Lib.splitB ⟨#[b]⟩ 0 (Lib.countB s ⟨#[b]⟩) s
theorem jl(b:UInt8)(s:ByteArray):bJ (gM b s)=Lib.splitK [b] 0 (Lib.countB s ⟨#[b]⟩) s.data.toList:=Lib.splitB_data ⟨#[b]⟩ 0 _ s
theorem oP(s:ByteArray)(p k:Nat):(s.extract p k).data.toList=(s.data.toList.take k).drop p:=by
 rw[EO,F0,EH,List.take_drop];by_cases h:p<=k
 ·rw[Nat.add_sub_cancel' h]
 ·rw[FI (by rw[Fd];omega),FI (by rw[Fd];omega)]
def o9(z:Int):Prop:= -4611686018427387904<=z/\z<=4611686018427387904
theorem pT(h:eU zs=true):∀z∈zs,o9 z:=by
 intro z hz;have:=Ec.1 h z hz;simp only[Ee,Ep]at this;unfold o9;omega
theorem qG(h:zs.all countB=true):∀z∈zs,o9 z:=by
 intro z hz;have:=Ec.1 h z hz;simp only[countB,Ee,Ep]at this;unfold o9;omega
theorem jj{s:ByteArray}{lo hi:Int}(h:aO s lo hi=true):s.size<=31:=by
 unfold aO at h;split at h
 ·cases h
 ·simp only[Ee,Ep]at h;exact h.1.1.1.1
theorem gk(hv:ay d=true):WfA d/\d.nm.size<=31/\d.mt.size<=31/\d.args.length<=30/\d.surv.length<=20:=by
 obtain⟨q,hq,hk⟩:=kS hv;obtain⟨k,a,b,nm,mt,zs,ys⟩:=d;dsimp only at hk;subst hk;have e1:nm.toList=[]->nm.size<=31:=λh=>by rw[jV h];decide
 have e2:mt.toList=[]->mt.size<=31:=λh=>by rw[jV h];decide
 have e3:gZ nm=true->nm.size<=31:=jj;have e4:gZ mt=true->mt.size<=31:=jj;have e5:gN mt=true->mt.size<=31:=jj;have s1:eU zs=true->∀z∈zs,I64 z:=λh z hz=>by have:=pT h z hz;unfold o9 at this;unfold I64;omega
 have s2:ys.all countB=true->∀z∈ys,I64 z:=λh z hz=>by have:=qG h z hz;unfold o9 at this;unfold I64;omega
 have s3:zs=[]->∀z∈zs,I64 z:=λh=>by subst h;simp
 have s4:ys=[]->∀z∈ys,I64 z:=λh=>by subst h;simp
 obtain rfl|rfl|rfl|rfl|rfl|rfl|rfl|rfl|rfl|rfl|rfl|rfl|rfl|rfl|rfl|rfl:q=0\/q=1\/q=2\/q=3\/q=4\/q=5\/q=6\/q=7\/q=8\/q=9\/q=10\/q=11\/q=12\/q=13\/q=14\/q=15:=by omega
 all_goals
  simp only[ay,cB,de,bq,countB,EZ,Ee,Ep,EY,Bool.false_or,Bool.true_or,Ft,FB]at hv;refine⟨⟨?_,?_,?_,?_⟩,?_,?_,?_,?_⟩
  ·dsimp only;unfold I64;grind
  ·dsimp only;unfold I64;grind
  ·dsimp only;clear e1 e2 e3 e4 e5 s2 s4;grind
  ·dsimp only;clear e1 e2 e3 e4 e5 s1 s3;grind
  ·dsimp only;clear s1 s2 s3 s4;grind
  ·dsimp only;clear s1 s2 s3 s4;grind
  ·dsimp only;clear s1 s2 s3 s4 e1 e2 e3 e4 e5;grind
  ·dsimp only;clear s1 s2 s3 s4 e1 e2 e3 e4 e5;grind
def vt(l:List UInt8):Nat:=l.foldl (λa c=>a*10+(c.toNat-48)) 0
theorem tV(l:List UInt8)(c:UInt8):vt (l++[c])=vt l*10+(c.toNat-48):=by unfold vt;rw[List.foldl_append];rfl
theorem jp(n:Nat):vt (Lib.decDigits n)=n:=by
 induction n using Nat.strongRecOn with
 |_ n ih=>
  by_cases h:n<10
  ·have e:(UInt8.ofNat (48+n)).toNat=48+n:=by simp;omega
   rw[cH h];unfold vt;simp only[List.foldl_cons,List.foldl_nil,e];omega
  ·have e:(UInt8.ofNat (48+n%10)).toNat=48+n%10:=by simp;omega
   rw[fC (by omega),tV,ih _ (by omega),e];omega
def mW(l:List ByteArray):List ByteArray:=if l.getLast?=some ⟨#[]⟩then l.dropLast else l
def ak(s:ByteArray):List ByteArray:=mW (gM 10 s)
def gV:Nat->ByteArray
 |0=>⟨#[109,97,99,104,105,110,101,115]⟩
 |1=>⟨#[115,101,101,100]⟩
 |_=>⟨#[121,111,117,110,103]⟩
def jm(k n:Nat):Prop:=(k=0->1<=n/\n<=8)/\(k=2->n<=1099511627776)
def IsConf(k:Nat)(l:ByteArray)(n:Nat):Prop:=U64 n/\l.data.toList=(gV k).data.toList++32::Lib.decDigits n/\jm k n
open Classical in
noncomputable def gA(k:Nat)(l:ByteArray):Option Nat:=if h:∃n,IsConf k l n then some h.choose else none
theorem IsConf.one{k n:Nat}(h:IsConf k l n)(h':IsConf k l m):n=m:=by
 have h1:=h.2.1.symm.trans h'.2.1;have h2:=List.append_cancel_left h1;rw[List.cons.injEq]at h2;rw[<-jp n,<-jp m,h2.2]
theorem mT{k n:Nat}(h:IsConf k l n):gA k l=some n:=by
 have hx:∃n,IsConf k l n:=⟨n,h⟩;unfold gA;rw[dif_pos hx,IsConf.one hx.choose_spec h]
theorem dU{k:Nat}(h:∀n,¬IsConf k l n):gA k l=none:=by
 unfold gA;exact dif_neg λ⟨n,hn⟩=>h n hn
structure Sc where
 m:Int
 sd:Int
 y:Int
 cs:List Cl
 ac:List Ad
def zSc:Sc:=⟨0,0,0,[],[]⟩
def Sc.set(x:Sc)(k n:Nat):Sc:=match k with
 |0=>{x with m:=n}
 |1=>{x with sd:=n}
 |_=>{x with y:=n}
inductive Ph where
 |conf (k:Nat):Ph
 |src (a:List UInt8) (f:Nat):Ph
 |acts:Ph
inductive SR where
 |err (n:Nat) (e:Int):SR
 |ok (x:Sc):SR
inductive Nx where
 |err (n:Nat) (e:Int):Nx
 |go (p:Ph) (x:Sc):Nx
def eZ(l:ByteArray):Bool:=match l.data.toList with
 |[]=>true
 |c::_=>c==35
def eX:ByteArray:=⟨#[101,110,100]⟩
def mj:ByteArray:=⟨#[112,114,111,103,114,97,109]⟩
def om(a:List UInt8)(f:Nat)(x:Sc):Nx:=match en a with
 | .err q e=> .err (f+(a.take q.toNat).count 10) e
 | .ok cs=> .go .acts {x with cs:=cs}
noncomputable def bA(n:Nat)(l:ByteArray)(p:Ph)(x:Sc):Nx:=match p with
 | .src a f=>if l=eX then om a f x else .go (.src (a++l.data.toList++[10]) f) x
 | .conf k=>if eZ l=true then .go p x else if k=3 then(if l=mj then .go (.src [] (n+1)) x else .err n 3)else match gA k l with
   |none=> .err n 3
   |some v=> .go (.conf (k+1)) (x.set k v)
 | .acts=>if eZ l=true then .go p x else match cF (bc l)with
   |none=> .err n 3
   |some a=> .go p {x with ac:=x.ac++[a]}
def CV(n:Nat)(p:Ph)(x:Sc):SR:=match p with
 | .conf _=> .err (n+1) 3
 | .src a f=>match om a f x with
   | .err q e=> .err q e
   | .go _ _=> .err (n+1) 3
 | .acts=> .ok x
noncomputable def eO:List ByteArray->Nat->Ph->Sc->SR
 |[],n,p,x=>CV n p x
 |l::ls,n,p,x=>match bA (n+1) l p x with
  | .err q e=> .err q e
  | .go p' x'=>eO ls (n+1) p' x'
noncomputable def ei(s:ByteArray):SR:=eO (ak s) 0 (.conf 0) zSc
theorem ej{n:Nat}{p p':Ph}{x x':Sc}(h:bA (n+1) l p x= .go p' x'):eO (l::ls) n p x=eO ls (n+1) p' x':=by
 rw[eO,h]
theorem ul{n q:Nat}{e:Int}{p:Ph}{x:Sc}(h:bA (n+1) l p x= .err q e):eO (l::ls) n p x= .err q e:=by
 rw[eO,h]
theorem nI:∀(pre ls:List ByteArray) (n:Nat) (a:List UInt8) (f:Nat) (x:Sc),(∀l∈pre,l≠eX)->eO (pre++ls) n (.src a f) x=eO ls (n+pre.length) (.src (a++pre.flatMap λl=>l.data.toList++[10]) f) x
 |[],ls,n,a,f,x,_=>by simp
 |l::pre,ls,n,a,f,x,h=>by
  have h1:bA (n+1) l (.src a f) x= .go (.src (a++l.data.toList++[10]) f) x:=by
   unfold bA;exact DS (h l (by simp))
  rw[EK,ej h1,nI pre ls (n+1) _ f x (λy hy=>h y (by simp[hy]))];simp only[DL,Ez,Eb,FT,Nat.add_comm 1]
theorem AN{T:List Tk}(h:Tks N T)(i:Nat):0<=(tk T i).2.2.2/\(tk T i).2.2.2<=(N:Int):=by
 unfold tk;rw[Es];cases hi:T[i]? with
 |none=>simp
 |some x=>exact h x (DW hi)
theorem rH{a:List UInt8}{q e:Int}(h:en a= .err q e):0<=q/\q<=(a.length:Int):=by
 unfold en at h;cases hs:dK a with
 |err p e'=>
  rw[hs]at h;cases h;have:=uk hs;omega
 |toks T=>
  rw[hs]at h;have ht:=(jd hs).2.2.2.2;simp only at h;cases hp:dr T with
  |bad j=>
   rw[hp]at h;cases h;exact AN ht j
  |ok cs j=>
   rw[hp]at h;simp only at h;split at h
   ·cases h;omega
   ·cases h
def Cel(w:World)(b:Nat):Prop:=∃o:Obj,w.heap[b]?=some o/\o.isCells=true
theorem Cel.same{b:Nat}(h:Cel w b)(hb:w'.heap[b]?=w.heap[b]?):Cel w' b:=by
 obtain⟨o,h1,h2⟩:=h;exact⟨o,hb.trans h1,h2⟩
theorem At.cel{b:Nat}(h:At w b off cs)(h0:0<cs.length):Cel w b:=cells_of_cell (h 0 cs[0] (DT h0))
def nx{α:Type}(K:Kd α):Prop:=∀{w:World} {G:Nat->Prop} {x:α} {cs:List Value},K.rd w G x cs->K.rd w (λb=>G b/\Cel w b) x cs
section
variable{α:Type}{K:Kd α}{w w':World}{G G':Nat->Prop}{xs:List α}{A:Option Addr}{n:Nat}
theorem Sl.cel(hK:nx K)(h:Sl K w G xs A n):Sl K w (λb=>G b/\Cel w b) xs A n:=by
 refine⟨h.1,h.2.1,λh0=>?_⟩;obtain⟨b,off,h1,h2,h3⟩:=h.2.2 h0;refine⟨b,off,h1,⟨h2,?_⟩,λj x hx=>?_⟩
 ·have hl:0<xs.length:=by rw[h.1];exact h0
  obtain⟨cs,h4,h5⟩:=h3 0 xs[0] (DT hl);exact h5.cel (by rw[K.len h4];exact K.pos)
 ·obtain⟨cs,h4,h5⟩:=h3 j x hx;exact⟨cs,hK h4,h5⟩
theorem Sl.aK(hK:nx K)(hk:∀b,G b->Cel w b->G' b/\w'.heap[b]?=w.heap[b]?)(h:Sl K w G xs A n):Sl K w' G' xs A n:=(h.cel hK).aA λb hb=>hk b hb.1 hb.2
theorem Vec.aK{E:TypeId}{base:Nat}{Z:Nat->Prop}(hK:nx K)(h:Vec K E base Z w u xs)(hs:w.heap.size<=w'.heap.size)(hb:∀k,NG base Z w k->Cel w k->w'.heap[k]?=w.heap[k]?):Vec K E base Z w' u xs:=by
 obtain⟨hp,css,h1,h2,h3⟩:=h;refine⟨hp,css,⟨h1.1,?_⟩,h2,λj x cs hx hc=>K.aA (λb hG=>⟨⟨hG.1.1.mono hs,hG.1.2⟩,hb b hG.1.1 hG.2⟩) (hK (h3 j x cs hx hc))⟩;rcases h1.2 with hn|⟨g,cap,cur,rfl,hbg,hgg,rest⟩
 ·exact .inl hn
 ·exact .inr ⟨g,cap,cur,rfl,hbg,(hb g ⟨(h1.lt g rfl).1,(h1.lt g rfl).2,hp g rfl⟩ ⟨_,hgg,rfl⟩).trans hgg,rest⟩
end
theorem qm:nx dn:=λh=>h
theorem zN:nx kEx:=λ{w G x cs} h=>by
 show ExC w _ x cs;induction (show ExC w G x cs from h)with
 |mk k op z nm at_ args A n c f hn hb hA hr ih=>
  refine .mk k op z nm at_ args A n c f hn hb (λh0=>?_) (λj x hx=>ih j x hx (hr j x hx));obtain⟨b,off,h1,h2,h3⟩:=hA h0;exact⟨b,off,h1,⟨h2,(h3 0 h0).cel (by rw[kEx.len (hr 0 _ (DT (by omega)))];decide)⟩,h3⟩
theorem zL:nx kSt:=λ{w G x cs} h=>by
 show StC w _ x cs;induction (show StC w G x cs from h)with
 |mk k nm ex body els A n c A2 n2 c2 A3 n3 c3 f g hx hn hb hA hr hn3 hb3 hA3 hr3 ih ih3=>
  refine .mk k nm ex body els A n c A2 n2 c2 A3 n3 c3 f g (hx.cel zN) hn hb (λh0=>?_) (λj x hx=>ih j x hx (hr j x hx)) hn3 hb3 (λh0=>?_) (λj x hx=>ih3 j x hx (hr3 j x hx))
  ·obtain⟨b,off,h1,h2,h3⟩:=hA h0;exact⟨b,off,h1,⟨h2,(h3 0 h0).cel (by rw[kSt.len (hr 0 _ (DT (by omega)))];decide)⟩,h3⟩
  ·obtain⟨b,off,h1,h2,h3⟩:=hA3 h0;exact⟨b,off,h1,⟨h2,(h3 0 h0).cel (by rw[kSt.len (hr3 0 _ (DT (by omega)))];decide)⟩,h3⟩
theorem zM:nx kMe:=λh=>by
 obtain⟨A,n,c,A2,n2,c2,rfl,h1,h2⟩:=h;exact⟨A,n,c,A2,n2,c2,rfl,h1.cel qm,h2.cel zL⟩
theorem tq:nx kCl:=λh=>by
 obtain⟨A,n,c,A2,n2,c2,rfl,h1,h2⟩:=h;exact⟨A,n,c,A2,n2,c2,rfl,h1.cel qm,h2.cel zM⟩
def lv:Kd Int where
 sz:=1
 pos:=by decide
 rd:=λ_ _ z cs=>cs=[.int .i64 z]
 len:=λh=>by rw[h];rfl
 one:=λh u hu=>by rw[h]at hu;simp at hu;rw[hu];rfl
 aA:=λ_ h=>h
def AdC(w:World)(G:Nat->Prop)(d:Ad)(cs:List Value):Prop:=∃A n c A2 n2 c2,cs=[.int .i64 d.k,.int .i64 d.a,.int .i64 d.b,.string d.nm,.string d.mt,.slice A n c,.slice A2 n2 c2]/\Sl lv w G d.args A n/\Sl lv w G d.surv A2 n2
def kAd:Kd Ad where
 sz:=7
 pos:=by decide
 rd:=AdC
 len:=λh=>by obtain⟨_,_,_,_,_,_,rfl,_⟩:=h;rfl
 one:=λh u hu=>by obtain⟨_,_,_,_,_,_,rfl,_⟩:=h;simp only[DY,DX,Ew]at hu;rcases hu with rfl|rfl|rfl|rfl|rfl|rfl|rfl<;>rfl
 aA:=λhk h=>by obtain⟨A,n,c,A2,n2,c2,rfl,h1,h2⟩:=h;exact⟨A,n,c,A2,n2,c2,rfl,h1.aA hk,h2.aA hk⟩
theorem qo:nx lv:=λh=>h
theorem tr:nx kAd:=λh=>by
 obtain⟨A,n,c,A2,n2,c2,rfl,h1,h2⟩:=h;exact⟨A,n,c,A2,n2,c2,rfl,h1.cel qo,h2.cel qo⟩
theorem Sl.ints{n:Nat}(h:Ints w B A n zs)(hn:n<=1000000)(hL:∀b o,A=some ⟨b,o,none⟩->L<b):Sl lv w (λb=>L<=b/\b<B) zs A n:=by
 refine⟨h.len,Ek hn (by decide),λh0=>?_⟩;obtain⟨b,off,h1,h2,h3⟩:=h.2 h0;refine⟨b,off,h1,⟨EF (hL b off h1),h2⟩,λj x hx=>⟨[.int .i64 x],rfl,λi v hv=>?_⟩⟩;cases i with
 |zero=>
  simp at hv;subst hv;have:=h3 j (.int .i64 x) (by rw[Eu,hx];rfl);simpa[lv]using this
 |succ i=>simp at hv
theorem Reads.ad{v:Av}(h:Reads w B v d)(hn:v.n<=1000000)(hn2:v.n2<=1000000)(hap:v.apart L):kAd.rd w (λb=>L<=b/\b<B) d v.cells.toList:=by
 obtain⟨k,a,b,nm,mt,A,n,c,A2,n2,c2⟩:=v;obtain⟨h1,h2,h3,h4,h5,ha,hs⟩:=h;dsimp only at h1 h2 h3 h4 h5 ha hs hn hn2;subst h1 h2 h3 h4 h5;exact⟨A,n,c,A2,n2,c2,rfl,Sl.ints ha hn hap.1,Sl.ints hs hn2 hap.2⟩
structure Lk(B b:Nat)(w w':World):Prop where
 os:w'.os=w.os
 tape:w'.tape=w.tape
 output:w'.output=w.output
 size:w.heap.size<=w'.heap.size
 block:∀k,k<w.heap.size->k≠b->(B<=k->∀cs fz,w.heap[k]?≠some (.cells cs 48 fz)/\w.heap[k]?≠some (.cells cs 5 fz))->w'.heap[k]?=w.heap[k]?
section
variable{B b:Nat}{w w' w'':World}
theorem Lk.refl(B b:Nat)(w:World):Lk B b w w:=⟨rfl,rfl,rfl,DK _,λ_ _ _ _=>rfl⟩
theorem Lk.trans(h:Lk B b w w')(k:Lk B b w' w''):Lk B b w w'':=
 ⟨k.os.trans h.os,k.tape.trans h.tape,k.output.trans h.output,Ek h.size k.size,λi hi hb ht=>by
  have h1:=h.block i hi hb ht;exact(k.block i (DR hi h.size) hb (by rw[h1];exact ht)).trans h1⟩
theorem Lk.of{S:Nat}(h:Below S w w')(hS:w.heap.size<=S):Lk B b w w':=⟨h.os,h.tape,h.output,h.size,λk hk _ _=>h.block k (by omega)⟩
theorem Lk.set(h:Lk B b w w')(i:Nat)(u:Value):Lk B b w (w'.setCell ⟨b,i,none⟩ u):=
 h.trans ⟨rfl,rfl,rfl,by simp[World.setCell],λk hk hp _=>DZ _ _ _ _ hp⟩
theorem Lk.grown{row:Option Nat}(h:Lk B b w w')(hg:w'.grownBy w'' row)(hr:∀k,row=some k->B<=k/\∃cs fz,w'.heap[k]?=some (.cells cs 48 fz)\/w'.heap[k]?=some (.cells cs 5 fz)):Lk B b w w'':=
 h.trans ⟨hg.os,hg.tape,hg.output,hg.size,λk hk hp ht=>hg.block k hk (λe=>by
  obtain⟨h1,cs,fz,h2⟩:=hr k e.symm;rcases h2 with h2|h2
  ·exact(ht h1 cs fz).1 h2
  ·exact(ht h1 cs fz).2 h2)⟩
theorem Lk.below{S:Nat}(h:Lk B b w w')(hS:S<=B)(hb:S<=b)(hw:S<=w.heap.size):Below S w w':=⟨h.os,h.tape,h.output,h.size,λk hk=>h.block k (by omega) (by omega) (by omega)⟩
end
theorem ek{n sz:Nat}{E:TypeId}{bs:List Value}(h:w.ownsRow B E sz u n bs)(hb:∀k,B<=k->k<w.heap.size->Cel w k->w'.heap[k]?=w.heap[k]?):w'.ownsRow B E sz u n bs:=by
 refine⟨h.1,?_⟩;rcases h.2 with hn|⟨g,cap,cur,rfl,hbg,hgg,rest⟩
 ·exact .inl hn
 ·exact .inr ⟨g,cap,cur,rfl,hbg,(hb g hbg (h.lt g rfl).2 ⟨_,hgg,rfl⟩).trans hgg,rest⟩
def RdP(w:World)(B b:Nat)(x:Sc):Ph->Prop
 | .conf k=>Blk w b 60 #[.int .i64 x.m,.int .u64 x.sd,.int .i64 x.y,.slice none 0 0,.slice none 0 0,.int .i64 (k:Int),.pointer none,.slice none 0 0,.int .i64 0]/\x.cs=[]/\x.ac=[]/\k<=3
 | .src a f=>∃sa sv,Blk w b 60 #[.int .i64 x.m,.int .u64 x.sd,.int .i64 x.y,.slice none 0 0,.slice none 0 0,.int .i64 4,sa,sv,.int .i64 (f:Int)]/\(sa= .pointer none\/sa= .pointer (some ⟨b,6,none⟩))/\w.ownsRow B 5 1 sv a.length (Lib.byteCells a)/\(a=[]->sv= .slice none 0 0)/\x.cs=[]/\x.ac=[]
 | .acts=>∃A n c u sa sv f,Blk w b 60 #[.int .i64 x.m,.int .u64 x.sd,.int .i64 x.y,.slice A n c,u,.int .i64 5,sa,sv,.int .i64 f]/\Sl kCl w (λg=>NG B noZ w g/\u.ownBlock≠some g) x.cs A n/\Vec kAd 48 B noZ w u x.ac
theorem RdP.aK{b:Nat}{x:Sc}{p:Ph}(h:RdP w B b x p)(hs:w.heap.size<=w'.heap.size)(hb:∀k,k=b\/B<=k->k<w.heap.size->Cel w k->w'.heap[k]?=w.heap[k]?):RdP w' B b x p:=by
 have hblk:∀{cs:Array Value},Blk w b 60 cs->Blk w' b 60 cs:=λhq=>(hb b (.inl rfl) hq.lt ⟨_,hq,rfl⟩).trans hq;cases p with
 |conf k=>exact⟨hblk h.1,h.2⟩
 |src a f=>
  obtain⟨sa,sv,h1,h2,h3,h4⟩:=h;exact⟨sa,sv,hblk h1,h2,ek h3 (λk hk hl hc=>hb k (.inr hk) hl hc),h4⟩
 |acts=>
  obtain⟨A,n,c,u,sa,sv,f,h1,h2,h3⟩:=h;exact⟨A,n,c,u,sa,sv,f,hblk h1,h2.aK tq (λg hg hc=>⟨⟨hg.1.mono hs,hg.2⟩,hb g (.inr hg.1.1) hg.1.2.1 hc⟩),h3.aK tr hs (λg hg hc=>hb g (.inr hg.1) hg.2.1 hc)⟩
theorem RdP.below{b S:Nat}{x:Sc}{p:Ph}(h:RdP w B b x p)(hb:Below S w w')(hS:w.heap.size<=S):RdP w' B b x p:=h.aK hb.size λk _ hk _=>hb.block k (by omega)
end
end Go.Proofs.YtjpbckbpeblibaaGreatDoor
