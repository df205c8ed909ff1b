/- part of a proof -/
import Derived.Test.YtjpbckbpeblibaaGreatDoorCC10
namespace Go.Proofs.YtjpbckbpeblibaaGreatDoor
set_option linter.unusedVariables false
set_option linter.unusedSimpArgs false
set_option maxRecDepth 100000
set_option maxHeartbeats 64000000
section
open Go.RowKit
variable{B g i q:Nat}{Q:Ending->World->Prop}{W w w':World}{a d:Ad}{args x:Array Value}{f fd:FD}{hi lo:Int}{pd:PD}{pds:List PD}{rest ws:List ByteArray}{zs:List Int}{α β:Type}
theorem EY:type_of% @Bool.or_eq_true:=@Bool.or_eq_true
theorem Fu:type_of% @List.drop_eq_getElem_cons:=@List.drop_eq_getElem_cons
theorem FA:type_of% @List.getElem?_cons_succ:=@List.getElem?_cons_succ
theorem FI:type_of% @List.drop_eq_nil_of_le:=@List.drop_eq_nil_of_le
def jv(x:St):Nat:=ssz x-1
theorem kz:∀xs:List St,xs.length+lsz jv xs=lsz ssz xs
 |[]=>rfl
 |x::l=>by
  have h1:=kz l;have h2:=lE x;rw[aS,aS,DL];unfold jv at h1⊢;omega
theorem pM:∀(n:Nat) (xs:List St) (A:Option Addr) (m c:Nat) (w:World) (G:Nat->Prop),lsz ssz xs<=n->Sl kSt w G xs A m->(∀b,G b->b<w.heap.size)->lsz ssz xs<=100000->
 Calls Tryz.prog 138 #[.slice A m c] w λe w'=>e= .returned (.int .i64 (lsz ssz xs:Nat))/\Below w.heap.size w w':=by
 intro n;induction n with
 |zero=>
  intro xs A m c w G hn hs hG hb;have h0:=kz xs;have hx:xs=[]:=En (by omega);subst hx;obtain rfl:m=0:=hs.1.symm;go_enter Tryz.func138,Tryz.ntmps138;go_wp2_with fail;refine wp_loop_rounds 1 ?_;rw[rounds_succ];go_wp2_with fail;go_ret;exact⟨rfl,DN _ _⟩
 |succ n ih=>
  intro xs A m c w G hn hs hG hb;have h0:=kz xs;have hm:=hs.1;have HS:=H_ hs;have HIH:=H_ ih;have HG:=H_ hG;clear hs ih hG;go_enter Tryz.func138,Tryz.ntmps138;go_wp2_with fail;go_loopw [3,10] (λu i wr=>∃k:Nat,k<=m/\i= .int .i64 k/\u= .int .i64 ((m+lsz jv (xs.take k):Nat):Int)/\Hid (Below w.heap.size w wr)) (λ_ i _=>m-(intOf i).toNat)
  case atStart=>exact⟨0,Ea _,rfl,by simp[lsz],H_ (DN _ _)⟩
  case round=>
   obtain⟨k,hk,rfl,rfl,HB⟩:=hrel;have hle:=cL jv xs k;by_cases hkm:k<m
   ·have hkz:(k:Int)<(m:Int):=by omega
    have hS2:=HS.out.aA (G':=G) (w':=wr) (λb hb'=>⟨hb',HB.out.block b (HG.out b hb')⟩);obtain⟨b,off,x,cs,rfl,hgb,hx,hrd,hat⟩:=hS2.at_ hkm;obtain⟨xk,xn,xe,xb,xl⟩:=x;obtain⟨A2,n2,c2,A3,n3,c3,A4,n4,c4,rfl,hse,hsb,hsl⟩:=StC.inv hrd;have hsz:=cd ssz hx;rw[di]at hsz;have htk:=dL jv xs hx;have hsub:jv (.mk xk xn xe xb xl)=lsz esz xe+lsz ssz xb+lsz ssz xl:=by unfold jv;rw[di];omega
    rw[hsub]at htk;have hle2:=cL jv xs (k+1);have d0:wr.cell? ⟨b,off+k*5,none⟩=some (.int .i64 xk):=by have:=hat 0 _ rfl;rwa[show kSt.sz=5 from rfl,El]at this
    have d1:wr.cell? ⟨b,off+k*5+1,none⟩=some (.string xn):=by have:=hat 1 _ rfl;rwa[show kSt.sz=5 from rfl,El]at this
    have d2:wr.cell? ⟨b,off+k*5+2,none⟩=some (.slice A2 n2 c2):=by have:=hat 2 _ rfl;rwa[show kSt.sz=5 from rfl,El]at this
    have d3:wr.cell? ⟨b,off+k*5+3,none⟩=some (.slice A3 n3 c3):=by have:=hat 3 _ rfl;rwa[show kSt.sz=5 from rfl,El]at this
    have d4:wr.cell? ⟨b,off+k*5+4,none⟩=some (.slice A4 n4 c4):=by have:=hat 4 _ rfl;rwa[show kSt.sz=5 from rfl,El]at this
    have hbb:=HB.out.size;obtain⟨w1,hw1⟩:=nm_ (wr.alloc (.cells #[.int .i64 xk,.string xn,.slice A2 n2 c2,.slice A3 n3 c3,.slice A4 n4 c4] 168));obtain⟨g,hgz⟩:=nm_ (wr.heap.size);have hq1:=Blk.ng hw1 hgz;have hs1:w1.heap.size=g+1:=by rw[<-hw1,<-hgz];simp
    have hk1:∀q,q<g->w1.heap[q]?=wr.heap[q]?:=λq hq=>hw1▸EA _ _ _ (by omega);have hB1:Below w.heap.size w w1:=hw1▸HB.out.alloc hbb _;obtain⟨TT,f,hne,hf,hcov⟩:=cq w1.heap.size w1;have hkf:∀y q,q<g->(f y).heap[q]?=wr.heap[q]?:=λy q hq=>((hf y).block q (by omega)).trans (hk1 q hq);have hGf:∀y q,G q->G q/\(f y).heap[q]?=wr.heap[q]?:=λy q hq=>⟨hq,hkf y q (by have:=HG.out q hq;omega)⟩;have hGs:∀y q,G q->q<(f y).heap.size:=λy q hq=>by have:=HG.out q hq;have:=(hf y).size;omega
    have C1:=H_ (show∀y,Calls Tryz.prog 214 #[.slice A2 n2 c2] (f y) (λe w''=>e= .returned (.int .i64 (lsz esz xe:Nat))/\∃z,w''=f z)from λy=>
     (qC _ xe A2 n2 c2 (f y) G (DK _) (hse.aA (hGf y)) (hGs y) (by omega)).mono λe w'' ⟨h1,h2⟩=>⟨h1,hcov _ ((hf y).trans (h2.mono (hf y).size))⟩)
    have C2:=H_ (show∀y,Calls Tryz.prog 138 #[.slice A3 n3 c3] (f y) (λe w''=>e= .returned (.int .i64 (lsz ssz xb:Nat))/\∃z,w''=f z)from λy=>
     (HIH.out xb A3 n3 c3 (f y) G (by omega) (hsb.aA (hGf y)) (hGs y) (by omega)).mono λe w'' ⟨h1,h2⟩=>⟨h1,hcov _ ((hf y).trans (h2.mono (hf y).size))⟩)
    have C3:=H_ (show∀y,Calls Tryz.prog 138 #[.slice A4 n4 c4] (f y) (λe w''=>e= .returned (.int .i64 (lsz ssz xl:Nat))/\∃z,w''=f z)from λy=>
     (HIH.out xl A4 n4 c4 (f y) G (by omega) (hsl.aA (hGf y)) (hGs y) (by omega)).mono λe w'' ⟨h1,h2⟩=>⟨h1,hcov _ ((hf y).trans (h2.mono (hf y).size))⟩)
    have e2:=λy=>(hq1.below (hf y) (by omega)).k2;have e3:=λy=>(hq1.below (hf y) (by omega)).k3;have e4:=λy=>(hq1.below (hf y) (by omega)).k4;have HF:=H_ (λy=>hB1.trans ((hf y).mono hB1.size));have HCOV:=H_ hcov;obtain⟨v1,hv1⟩:∃v,lsz esz xe=v:=⟨_,rfl⟩;obtain⟨v2,hv2⟩:∃v,lsz ssz xb=v:=⟨_,rfl⟩;obtain⟨v3,hv3⟩:∃v,lsz ssz xl=v:=⟨_,rfl⟩;rw[hv1]at C1 htk hsz;rw[hv2]at C2 htk hsz;rw[hv3]at C3 htk hsz;obtain⟨v0,hv0⟩:∃v,lsz jv (xs.take k)=v:=⟨_,rfl⟩;rw[hv0]at htk hle⊢;clear hat hrd hse hsb hsl hS2 hf hcov hkf hGf hGs hk1 hB1 hq1;go_upto_region 5 with fail;clear hw1;refine az f (by kernel_rfl) (by kernel_rfl) (HCOV.out _ (DN _ _).drew) ?_;repeat (go_big_quiet_step (first|(go_at_call 214;exact C1.out _)|(go_at_call_of 138 (Value.slice A3 n3 c3);exact C2.out _)|(go_at_call_of 138 (Value.slice A4 n4 c4);exact C3.out _)))
    refine Fp ?_;rintro _ ⟨y,rfl⟩;go_wp2_with fail;go_roundw
    case rel=>exact⟨k+1,by omega,by go_num,by rw[htk];go_num,H_ (HF.out y)⟩
    case measure=>simp[intOf];omega
   ·obtain rfl:k=m:=by omega
    go_wp2_with fail;go_ret;have ht:xs.take k=xs:=DP (by omega);rw[ht,<-h0,hm];exact⟨rfl,HB.out⟩
def iP(x:Me):Nat:=x.params.length+lsz ssz x.body
def i7(x:Cl):Nat:=x.fields.length+lsz msz x.methods
theorem mw{α:Type}(sz sb:α->Nat)(h:∀x,sz x=1+sb x):∀xs:List α,xs.length+lsz sb xs=lsz sz xs
 |[]=>rfl
 |x::l=>by
  have h1:=mw sz sb h l;have h2:=h x;rw[aS,aS,DL];omega
theorem AV(xs:List Cl)(A:Option Addr)(m c:Nat)(w:World)(G:Nat->Prop)(hs:Sl kCl w G xs A m)(hG:∀b,G b->b<w.heap.size)(hb:lsz csz xs<=100000):
 Calls Tryz.prog 87 #[.agg #[.slice A m c]] w λe w'=>e= .returned (.int .i64 (lsz csz xs:Nat))/\Below w.heap.size w w':=by
 have h0:=mw csz i7 (λx=>by unfold csz i7;omega) xs;have hm:=hs.1;have HS:=H_ hs;have HG:=H_ hG;clear hs hG;obtain⟨p,hp⟩:=nm_ (w.heap.size);obtain⟨w0,hw0⟩:=nm_ (w.alloc (.cells #[.slice A m c] 28));have Q0:=hng hw0 hp;have B0:=H_ (show Below p w w0 from hw0▸hp▸(DN _ _).alloc (DK _) _);have hs0:w0.heap.size=p+1:=by rw[<-hw0,<-hp];simp
 have q0:=Q0.out.k0;go_enter Tryz.func87,Tryz.ntmps87;go_wp2_with fail;go_loopw [3,14] (λu i wr=>∃k:Nat,k<=m/\i= .int .i64 k/\u= .int .i64 ((m+lsz i7 (xs.take k):Nat):Int)/\Hid (Below w0.heap.size w0 wr)) (λ_ i _=>m-(intOf i).toNat)
 case atStart=>exact⟨0,Ea _,rfl,by simp[lsz],H_ (DN _ _)⟩
 case round=>
  obtain⟨k,hk,rfl,rfl,HB⟩:=hrel;have hle:=cL i7 xs k;by_cases hkm:k<m
  ·have hkz:(k:Int)<(m:Int):=by omega
   have hBw:=B0.out.trans (HB.out.mono (by omega));have hS2:=HS.out.aA (G':=G) (w':=wr) (λb hb'=>⟨hb',hBw.block b (by have:=HG.out b hb';omega)⟩);obtain⟨b,off,x,cs,rfl,hgb,hx,hrd,hat⟩:=hS2.at_ hkm;obtain⟨A2,n2,c2,A3,n3,c3,rfl,hsf,hsm⟩:=hrd;have hsz:=cd csz hx;have hcx:csz x=1+i7 x:=by unfold csz i7;omega
   have htk:=dL i7 xs hx;have hle2:=cL i7 xs (k+1);have hf:=hsf.1;have hmm:=hsm.1;have hm0:=mw msz iP (λx=>by unfold msz iP;omega) x.methods;have hsx:i7 x=n2+lsz msz x.methods:=by unfold i7;rw[hf]
   have d0:wr.cell? ⟨b,off+k*4,none⟩=some (.string x.nm):=by have:=hat 0 _ rfl;rwa[show kCl.sz=4 from rfl,El]at this
   have d1:wr.cell? ⟨b,off+k*4+1,none⟩=some (.bool x.actor):=by have:=hat 1 _ rfl;rwa[show kCl.sz=4 from rfl,El]at this
   have d2:wr.cell? ⟨b,off+k*4+2,none⟩=some (.slice A2 n2 c2):=by have:=hat 2 _ rfl;rwa[show kCl.sz=4 from rfl,El]at this
   have d3:wr.cell? ⟨b,off+k*4+3,none⟩=some (.slice A3 n3 c3):=by have:=hat 3 _ rfl;rwa[show kCl.sz=4 from rfl,El]at this
   have hbb:=HB.out.size;have HSM:=H_ hsm;have HBW:=H_ hBw;have HX:=H_ hx;obtain⟨v0,hv0⟩:∃v,lsz i7 (xs.take k)=v:=⟨_,rfl⟩;rw[hv0]at htk hle⊢;clear hat hS2 hsf hsm hBw hx;go_wp2_with fail;obtain⟨w1,hw1⟩:=nm_ (wr.alloc (.cells #[.string x.nm,.bool x.actor,.slice A2 n2 c2,.slice A3 n3 c3] 117));have hb1:=bal hw1;have B1:=H_ (HB.out.trans (hb1.mono hbb));have HSM1:=H_ (HSM.out.aA (G':=G) (w':=w1) (λq hq=>⟨hq,hb1.block q (by have:=HG.out q hq;omega)⟩));have hs1:=hb1.size;rw[hw1];clear hw1 hb1 d0 d1 d2 d3 HB HSM;go_loopw [3,30] (λu i wr=>∃r:Nat,r<=n3/\i= .int .i64 r/\u= .int .i64 ((m+v0+(n2+n3)+lsz iP (x.methods.take r):Nat):Int)/\Hid (Below w1.heap.size w1 wr)) (λ_ i _=>n3-(intOf i).toNat)
   case atStart=>exact⟨0,Ea _,rfl,by simp[lsz],H_ (DN _ _)⟩
   case round=>
    obtain⟨r,hr,rfl,rfl,HBi⟩:=hrel;have hler:=cL iP x.methods r;by_cases hrm:r<n3
    ·have hrz:(r:Int)<(n3:Int):=by omega
     have hS2:=HSM1.out.aA (G':=G) (w':=wr) (λb hb'=>⟨hb',HBi.out.block b (by have:=HG.out b hb';omega)⟩);obtain⟨b',off',y,ds,rfl,hgb',hy,hrd',hat'⟩:=hS2.at_ hrm;obtain⟨A4,n4,c4,A5,n5,c5,rfl,hsp,hsb⟩:=hrd';have hszy:=cd msz hy;have hcy:msz y=1+n4+lsz ssz y.body:=by unfold msz;rw[hsp.1]
     have htk':=dL iP x.methods hy;have hle2':=cL iP x.methods (r+1);have hsy:iP y=n4+lsz ssz y.body:=by unfold iP;rw[hsp.1]
     rw[hsy]at htk';have d0:wr.cell? ⟨b',off'+r*3,none⟩=some (.string y.nm):=by have:=hat' 0 _ rfl;rwa[show kMe.sz=3 from rfl,El]at this
     have d1:wr.cell? ⟨b',off'+r*3+1,none⟩=some (.slice A4 n4 c4):=by have:=hat' 1 _ rfl;rwa[show kMe.sz=3 from rfl,El]at this
     have d2:wr.cell? ⟨b',off'+r*3+2,none⟩=some (.slice A5 n5 c5):=by have:=hat' 2 _ rfl;rwa[show kMe.sz=3 from rfl,El]at this
     have hbi:=HBi.out.size;obtain⟨w2,hw2⟩:=nm_ (wr.alloc (.cells #[.string y.nm,.slice A4 n4 c4,.slice A5 n5 c5] 121));obtain⟨g,hgz⟩:=nm_ (wr.heap.size);have hq1:=Blk.ng hw2 hgz;have hs2:w2.heap.size=g+1:=by rw[<-hw2,<-hgz];simp
     have hB2:Below w1.heap.size w1 w2:=hw2▸HBi.out.alloc hbi _;have hk1:∀q,q<g->w2.heap[q]?=wr.heap[q]?:=λq hq=>hw2▸EA _ _ _ (by omega);obtain⟨TT,f,hne,hf',hcov⟩:=cq w2.heap.size w2;have hGf:∀z q,G q->G q/\(f z).heap[q]?=wr.heap[q]?:=λz q hq=>⟨hq,by have:=HG.out q hq;exact((hf' z).block q (by omega)).trans (hk1 q (by omega))⟩;have hGs:∀z q,G q->q<(f z).heap.size:=λz q hq=>by have:=HG.out q hq;have:=(hf' z).size;omega
     have C1:=H_ (show∀z,Calls Tryz.prog 138 #[.slice A5 n5 c5] (f z) (λe w''=>e= .returned (.int .i64 (lsz ssz y.body:Nat))/\∃z',w''=f z')from λz=>
      (pM _ y.body A5 n5 c5 (f z) G (DK _) (hsb.aA (hGf z)) (hGs z) (by omega)).mono λe w'' ⟨h1,h2⟩=>⟨h1,hcov _ ((hf' z).trans (h2.mono (hf' z).size))⟩)
     have e1:=λz=>(hq1.below (hf' z) (by omega)).k1;have e2:=λz=>(hq1.below (hf' z) (by omega)).k2;have HF:=H_ (λz=>hB2.trans ((hf' z).mono hB2.size));have HCOV:=H_ hcov;obtain⟨v1,hv1⟩:∃v,lsz ssz y.body=v:=⟨_,rfl⟩;rw[hv1]at C1 htk' hcy;obtain⟨v2,hv2⟩:∃v,lsz iP (x.methods.take r)=v:=⟨_,rfl⟩;rw[hv2]at htk' hler⊢;clear hat' hsp hsb hS2 hf' hcov hGf hGs hk1 hB2 hq1 HBi;go_upto_region 9 with fail;clear hw2;refine az f (by kernel_rfl) (by kernel_rfl) (HCOV.out _ (DN _ _).drew) ?_;repeat (go_big_quiet_step ((go_at_call 138;exact C1.out _)))
     refine Fp ?_;rintro _ ⟨z,rfl⟩;go_wp2_with fail;go_roundw
     case rel=>exact⟨r+1,by omega,by go_num,by rw[htk'];go_num,H_ (HF.out z)⟩
     case measure=>simp[intOf];omega
    ·obtain rfl:r=n3:=by omega
     have ht:x.methods.take r=x.methods:=DP (by omega);rw[ht];have B3:=H_ (B1.out.trans (HBi.out.mono (by have:=B1.out.size;omega)));obtain⟨v1,hv1⟩:∃v,lsz iP x.methods=v:=⟨_,rfl⟩;rw[hv1]at hm0⊢;clear HBi;go_wp2_with fail;go_roundw
     case rel=>exact⟨k+1,by omega,by go_num,by rw[htk,hsx,<-hm0,hmm];go_num,B3⟩
     case measure=>simp[intOf];omega
  ·obtain rfl:k=m:=by omega
   go_wp2_with fail;go_ret;have ht:xs.take k=xs:=DP (by omega);rw[ht,<-h0,hm];exact⟨rfl,hp▸B0.out.trans (HB.out.mono (by omega))⟩
inductive PR where
 |err (p e:Int):PR
 |ok (cs:List Cl):PR
def en(l:List UInt8):PR:=match dK l with
 | .err q e=> .err q e
 | .toks T=>match dr T with
   | .bad j=> .err (tk T j).2.2.2 3
   | .ok cs j=>if 4000<lsz csz cs then .err 0 8 else .ok cs
def Dj(s:ByteArray)(w:World)(e':Ending)(w':World):Prop:=Below w.heap.size w w'/\∃(v:Value) (p er:Int),e'= .returned (.tuple #[v,.int .i64 p,.int .i64 er])/\
 (match en s.data.toList with
   | .err q e=>p=q/\er=e/\v= .agg #[.slice none 0 0]/\er≠0
   | .ok cs=>p=0/\er=0/\rvP w' (Fr w w') cs v)
theorem ww{s:ByteArray}{e':Ending}(h:Di s w e' w'):Below w.heap.size w w'/\∃(A:Option Addr) (n c:Nat) (p er:Int),e'= .returned (.tuple #[.agg #[.slice A n c],.int .i64 p,.int .i64 er])/\
 ((er≠0/\en s.data.toList= .err p er/\A=none/\n=0/\c=0)\/(er=0/\p=0/\∃cs,Sl kCl w' (Fr w w') cs A n/\lsz csz cs<=20000/\en s.data.toList=if 4000<lsz csz cs then .err 0 8 else .ok cs)):=by
 obtain⟨hb,v,p,er,rfl,h⟩:=h;unfold en;cases hs:dK s.data.toList with
 |err q e=>
  rw[hs]at h;obtain⟨rfl,rfl,rfl,he⟩:=h;exact⟨hb,none,0,0,_,_,rfl,.inl ⟨he,rfl,rfl,rfl,rfl⟩⟩
 |toks T=>
  rw[hs]at h;simp only at h⊢;cases hp:dr T with
  |bad j=>
   rw[hp]at h;obtain⟨rfl,rfl,rfl⟩:=h;exact⟨hb,none,0,0,_,_,rfl,.inl ⟨by decide,rfl,rfl,rfl,rfl⟩⟩
  |ok cs j=>
   rw[hp]at h;obtain⟨rfl,rfl,⟨A,n,c,rfl,hsl⟩,hj⟩:=h;exact⟨hb,A,n,c,_,_,rfl,.inr ⟨rfl,rfl,cs,hsl,Ek (pV hp) hj,rfl⟩⟩
theorem results49(tmps:Array Value)(W:World)(a:Nat)(v u1 u2:Value)(ha:Blk W a 28 #[v])(h2:tmps.getD 2 undef= .pointer (some ⟨a,0,none⟩))(h3:tmps.getD 3 undef=u1)(h4:tmps.getD 4 undef=u2):
 (results Tryz.f49 tmps).run Tryz.prog W= .ok (.tuple #[.agg #[v],u1,u2]) W:=by
 have h1:=run_loadVar_row (P:=Tryz.prog) W a 28 28 #[v] (0,0) _ ha Tryz.underlying28 rfl (by kernel_rfl);have h2':tmps[2]?.getD undef= .pointer (some ⟨a,0,none⟩):=by simpa using h2
 have h3':tmps[3]?.getD undef=u1:=by simpa using h3
 have h4':tmps[4]?.getD undef=u2:=by simpa using h4
 simp[results,Tryz.results49,h2',h3',h4',asAddr,h1]
theorem ut(s:ByteArray)(w:World)(hg:Gl w):Calls Tryz.prog 49 #[.string s] w (Dj s w):=by
 obtain⟨w0,hw0⟩:=nm_ (w.alloc (.cells #[.slice none 0 0] 28));have A0:=hnw hw0;have b0:=bal hw0;have HR:=H_ (Cz s w0 (GlB.gl (GlB.below hg b0)));have B0:=H_ b0;clear hg b0;go_enter Tryz.func49,Tryz.ntmps49;go_upto_region 1 with(fail);obtain⟨a,haz⟩:=nm_ (w.heap.size);rw[haz]at A0 B0⊢;have hl0:=A0.out.lt;clear hw0;go_wp2_with fail;refine HR.out.mono ?_;intro e' w1 hrun;obtain⟨b1,A,n,c,p,er,rfl,hcase⟩:=ww hrun;have A1:=H_ (A0.out.below b1 (by omega));have B1:=htm B0 b1;have hs1:=b1.size;have HC:=H_ hcase;clear b1 hrun hcase A0 HR;have a1:=A1.out.k0;have af:=A1.out.frozen 0;obtain⟨w2,hw2⟩:=nm_ (w1.alloc (.cells #[.slice none 0 0] 28));obtain⟨g,hgz⟩:=nm_ (w1.heap.size);have Q2:=H_ (show Blk w2 g 28 #[.slice none 0 0]from hw2▸hgz▸(Blk.new w1 28 _));have q0:=Q2.out.k0;have qf:=Q2.out.frozen 0;obtain⟨w3,hw3⟩:=nm_ (w2.setCell ⟨g,0,none⟩ (.slice A n c));have Q3:=hs0 Q2 hw3;have q3:=Q3.out.k0
 have hk3:∀k,k<g->w3.heap[k]?=w1.heap[k]?:=λk hk=>by
  rw[<-hw3,DZ _ _ _ _ (show k≠g by omega),<-hw2,EA _ _ _ (by omega)]
 have A3:=H_ (show Blk w3 a 28 #[.slice none 0 0]from(hk3 a (by omega)).trans A1.out);have B3:=H_ (show Below a w w3 from hw3▸(hw2▸B1.out.alloc (by omega) _).setCell (p:=⟨g,0,none⟩) (by show a<=g;omega) _);have hs3:w3.heap.size=g+1:=by rw[<-hw3,<-hw2,<-hgz];simp
 have a3:=A3.out.k0;have af3:=A3.out.frozen 0;have HK3:=H_ hk3;clear hk3;rcases HC.out with⟨he,hp,rfl,rfl,rfl⟩|⟨rfl,rfl,cs,hsl,hl,hp⟩
 ·clear HC;have hne:(er==0)=false:=by simpa using he
  go_upto_region 4 with fail;clear hw2 hw3;go_wp2_with fail;refine Ej (results49 _ _ a (.slice none 0 0) _ _ (A3.out.set 0 _) rfl rfl rfl) rfl ⟨by rw[haz];exact B3.out.setCell (p:=⟨a,0,none⟩) (DK _) _,_,_,_,rfl,?_⟩;rw[hp];exact⟨rfl,rfl,rfl,he⟩
 ·clear HC;have SL3:=H_ (hsl.aA (G':=Fr w0 w3) (w':=w3) (λb hb=>⟨⟨hb.1,by have:=hb.2;omega⟩,HK3.out b (by have:=hb.2;omega)⟩));have HP:=H_ hp;have HS:=H_ (AV cs A n c w3 (Fr w0 w3) SL3.out (λb hb=>hb.2) (by omega));clear hsl hp;go_upto_region 2 with fail;clear hw2 hw3;go_wp2_with fail;refine HS.out.mono ?_;rintro e w4 ⟨rfl,b4⟩;have A4:=H_ (A3.out.below b4 (by omega));have Q4:=H_ (Q3.out.below b4 (by omega));have B4:=htm B3 b4;have hs4:=b4.size;have SL4:=H_ (SL3.out.aA (G':=Fr w0 w4) (w':=w4) (λb hb=>⟨⟨hb.1,by have:=hb.2;omega⟩,b4.block b hb.2⟩));have a4:=A4.out.k0;have af4:=A4.out.frozen 0;have q4:=Q4.out.k0;clear b4 SL3 HS A3 Q3 B3 q3 a3 af3;by_cases hb:4000<lsz csz cs
  ·have hbz:((4000:Int)<(lsz csz cs:Int)):=by omega
   go_wp2_with fail;refine Ej (results49 _ _ a (.slice none 0 0) _ _ (A4.out.set 0 _) rfl rfl rfl) rfl ⟨by rw[haz];exact B4.out.setCell (p:=⟨a,0,none⟩) (DK _) _,_,_,_,rfl,?_⟩;rw[HP.out,Ed hb];exact⟨rfl,rfl,rfl,by decide⟩
  ·have hbz:¬((4000:Int)<(lsz csz cs:Int)):=by omega
   go_wp2_with fail;refine Ej (results49 _ _ a (.slice A n c) _ _ (A4.out.set 0 _) rfl rfl rfl) rfl ⟨by rw[haz];exact B4.out.setCell (p:=⟨a,0,none⟩) (DK _) _,_,_,_,rfl,?_⟩;rw[HP.out,DS hb];refine⟨rfl,rfl,A,n,c,rfl,SL4.out.aA (λb hb=>⟨⟨?_,by simpa using hb.2⟩,DZ _ _ _ _ (show b≠a by have:=hb.1;omega)⟩)⟩;have:=hb.1;omega
theorem iq(hi:i<16):∃fd,au[i]?=some fd/\fd.k=(i:Int):=by
 obtain rfl|rfl|rfl|rfl|rfl|rfl|rfl|rfl|rfl|rfl|rfl|rfl|rfl|rfl|rfl|rfl:i=0\/i=1\/i=2\/i=3\/i=4\/i=5\/i=6\/i=7\/i=8\/i=9\/i=10\/i=11\/i=12\/i=13\/i=14\/i=15:=by omega
 all_goals exact⟨_,rfl,rfl⟩
theorem Forms.at_{b:Nat}(h:Forms W B b au)(hi:i<16):
 ∃fd g,au[i]?=some fd/\fd.k=(i:Int)/\Parts W B g fd.pds/\W.cell? ⟨b,i*3,none⟩=some (.int .i64 i)/\W.cell? ⟨b,i*3+1,none⟩=some (.string fd.word)/\W.cell? ⟨b,i*3+2,none⟩=some (.slice (some ⟨g,0,none⟩) fd.pds.length fd.pds.length):=by
 obtain⟨fd,h1,h2⟩:=iq hi;obtain⟨g,h3,h4⟩:=h.2 i fd h1;refine⟨fd,g,h1,h2,h3,?_,h4 1 _ rfl,h4 2 _ rfl⟩;have:=h4 0 _ rfl;rw[h2]at this;exact this
theorem BH(k ka:Int)(wd:ByteArray)(A:Option Addr)(n c a:Nat)(w:World)(h:w.cell? ⟨a,0,none⟩=some (.int .i64 ka))(ha:a<w.heap.size):
 Calls Tryz.prog 80 #[.agg #[.int .i64 k,.string wd,.slice A n c],.pointer (some ⟨a,0,none⟩)] w λe w'=>e= .returned (.bool (k==ka))/\Below w.heap.size w w':=by
 have hbel:Below w.heap.size w (w.alloc (.cells #[.int .i64 k,.string wd,.slice A n c] 92)):=(DN _ _).alloc (DK _) _;have c0:=(ab hbel ha 0).trans h;have HB:=H_ hbel;clear h hbel;go_enter Tryz.func80,Tryz.ntmps80;go_wp2_with fail;go_ret;exact⟨rfl,HB.out⟩
def oI(k:Int):Int:=if 0<=k/\k<=15 then k else-1
theorem CT(b a:Nat)(ka:Int)(w:World)(h:Forms w w.heap.size b au)(hc:w.cell? ⟨a,0,none⟩=some (.int .i64 ka))(ha:a<w.heap.size):
 Calls Tryz.prog 79 #[.slice (some ⟨b,0,none⟩) 16 16,.func (.func 80) #[] #[.pointer (some ⟨a,0,none⟩)]] w λe w'=>e= .returned (.int .i64 (oI ka))/\Below w.heap.size w w':=by
 have HF:=H_ h;have HC:=H_ hc;clear h hc;go_enter Tryz.func79,Tryz.ntmps79;go_wp2_with fail;go_loopw [8] (λi wr=>∃k:Nat,k<=16/\i= .int .i64 k/\Hid (Below w.heap.size w wr)/\Hid (∀j:Nat,j<k->(j:Int)≠ka)) (λi _=>16-(intOf i).toNat)
 case atStart=>exact⟨0,Ea _,rfl,H_ (DN _ _),H_ λj hj=>absurd hj (Nat.not_lt_zero _)⟩
 case round=>
  obtain⟨k,hk,rfl,HB,HN⟩:=hrel;by_cases hlt:k<16
  ·obtain⟨fd,g,h1,h2,h3,c0,c1,c2⟩:=(HF.out.below HB.out).at_ hlt;have hk0:0<=(k:Int):=by omega
   have hk1:(k:Int)<16:=by omega
   have HK:=H_ (BH k ka fd.word (some ⟨g,0,none⟩) fd.pds.length fd.pds.length a wr ((ab HB.out ha 0).trans HC.out) (by have:=HB.out.size;omega));clear h1 h2 h3;generalize fd.pds.length=n at*
   generalize fd.word=wd at*
   by_cases hka:(k:Int)=ka
   ·subst hka;have hidx:oI (k:Int)=k:=by unfold oI;rw[Ed (by omega)]
    go_wp2_with fail;refine HK.out.mono ?_;rintro e w1 ⟨rfl,b1⟩;rw[FK];have HB1:=htr HB b1;clear b1;go_wp2_with fail;go_ret;exact⟨sZ hidx.symm,HB1.out⟩
   ·go_wp2_with fail;refine HK.out.mono ?_;rintro e w1 ⟨rfl,b1⟩;rw[DM.2 hka];have HB1:=htr HB b1;clear b1;have HKA:=H_ hka;clear hka;go_wp2_with fail;go_roundw
    case rel=>exact⟨k+1,by omega,by go_num,HB1,H_ λj hj=>by
     rcases ES j k with h|h
     ·exact HN.out j h
     ·obtain rfl:j=k:=by omega
      exact HKA.out⟩
    case measure=>simp[intOf];omega
  ·obtain rfl:k=16:=by omega
   have hidx:oI ka= -1:=by
    unfold oI;rw[DS];intro h;obtain⟨q,rfl⟩:=Ei h.1;exact HN.out q (by omega) rfl
   go_wp2_with fail;go_ret;exact⟨sZ hidx.symm,HB.out⟩
def dp(d:Ad):PD->List ByteArray
 | .numA _ _=>[du d.a]
 | .numB _ _=>[du d.b]
 | .nam _=>[d.nm]
 | .met _=>[d.mt]
 | .surv=>d.surv.map du
 | .rest _=>d.args.map du
def eg(d:Ad)(f:FD):List ByteArray:=f.word::f.pds.flatMap (dp d)
def bJ(ws:List ByteArray):List (List UInt8):=ws.map (·.data.toList)
theorem eW(r:List (List UInt8)):Lib.joinTail [32] r=cD r:=by
 unfold Lib.joinTail cD;rw[List.flatMap_def];rfl
theorem eJ(h:q<=15):dG (q:Int)=au[q]?:=by
 obtain rfl|rfl|rfl|rfl|rfl|rfl|rfl|rfl|rfl|rfl|rfl|rfl|rfl|rfl|rfl|rfl:q=0\/q=1\/q=2\/q=3\/q=4\/q=5\/q=6\/q=7\/q=8\/q=9\/q=10\/q=11\/q=12\/q=13\/q=14\/q=15:=by omega
 all_goals rfl
theorem lh(h:dG d.k=some f):∃q:Nat,q<=15/\d.k=(q:Int):=by
 obtain⟨h0,h1⟩:=fP h;obtain⟨q,hq⟩:=Ei h0;exact⟨q,by omega,hq⟩
theorem sh{z:ByteArray}(h:z.toList=[]):z.data.toList=[]:=by rw[<-Ey];exact h
theorem lR(d:Ad)(f:FD)(hf:dG d.k=some f)(h:kq d f=true):Lib.join (bJ (eg d f)) [32]=dO d:=by
 have hv:ay d=true:=by rw[<-eC];unfold okD;rw[hf];exact h
 obtain⟨q,hq,hk⟩:=lh hf;unfold dO;rw[Ed hv,hk,EZ];unfold eg bJ;rw[EE,Lib.join_cons,eW]
 have he:f.word.data.toList=lP q/\bJ (f.pds.flatMap (dp d))=kU d:=by
  obtain⟨k,a,b,nm,mt,zs,ys⟩:=d;dsimp only at hk;subst hk;clear h;dsimp only at hf;rw[eJ hq]at hf;obtain rfl|rfl|rfl|rfl|rfl|rfl|rfl|rfl|rfl|rfl|rfl|rfl|rfl|rfl|rfl|rfl:q=0\/q=1\/q=2\/q=3\/q=4\/q=5\/q=6\/q=7\/q=8\/q=9\/q=10\/q=11\/q=12\/q=13\/q=14\/q=15:=by omega
  all_goals
   simp only[au,FA,ED,Option.some.injEq]at hf;subst hf;refine⟨rfl,?_⟩;simp only[ay,cB,de,EZ,Ee,Ep,EY,Bool.false_or,Bool.true_or,Ft,FB]at hv;simp[kU,sf,dp,bJ,uY,du,Function.comp_def,hv]
 rw[he.1];exact Fo (lP q++cD ·) he.2
def bN(b:UInt8)(ws:List (List UInt8)):List UInt8:=ws.flatMap λx=>b::x
theorem jO(b:UInt8)(w r:List UInt8)(h:∀c∈w,c≠b):Lib.index (w++b::r) [b]=(w.length:Int):=by
 rw[Lib.index_one];induction w with
 |nil=>simp[Lib.indexByte]
 |cons c w ih=>
  have hc:=h c (by simp);have:=ih (λx hx=>h x (by simp[hx]));simp only[EK,Lib.indexByte];rw[this];simp[hc]
theorem ia(b:UInt8):∀(ws:List (List UInt8)) (w:List UInt8),(∀x∈w::ws,∀c∈x,c≠b)->Lib.splitK [b] 0 ws.length (w++bN b ws)=w::ws
 |[],w,h=>by simp[Lib.splitK,bN]
 |y::ys,w,h=>by
  have hi:=jO b w (y++bN b ys) (h w (by simp));have hs:bN b (y::ys)=b::(y++bN b ys):=by simp[bN]
  rw[hs,DL,Lib.splitK,hi,DS (by simp),EZ];have ih:=ia b ys y (λx hx=>h x (by simp only[DY]at hx⊢;exact .inr hx));have hd:List.drop (w.length+1) w=[]:=FI (by omega);rw[List.drop_append,List.take_append];simp[hd,ih]
theorem fQ(b:UInt8):∀(ws:List (List UInt8)) (w:List UInt8),(∀x∈w::ws,∀c∈x,c≠b)->Lib.count (w++bN b ws) [b]=ws.length
 |[],w,h=>by
  rw[Lib.count_one];simp only[bN,List.flatMap_nil,Eo,DO];exact List.count_eq_zero.2 λhm=>h w (by simp) b hm rfl
 |y::ys,w,h=>by
  have ih:=fQ b ys y (λx hx=>h x (by simp only[DY]at hx⊢;exact .inr hx));rw[Lib.count_one]at ih⊢;have hs:bN b (y::ys)=b::(y++bN b ys):=by simp[bN]
  have hw:=List.count_eq_zero.2 λhm=>h w (by simp) b hm rfl;rw[hs,List.count_append,List.count_cons,ih,hw];simp
theorem re(ws:List (List UInt8))(w:List UInt8)(h:∀x∈w::ws,∀c∈x,c≠32):Lib.splitK [32] 0 ws.length (w++cD ws)=w::ws:=ia 32 ws w h
theorem sj(ws:List (List UInt8))(w:List UInt8)(h:∀x∈w::ws,∀c∈x,c≠32):Lib.count (w++cD ws) [32]=ws.length:=fQ 32 ws w h
theorem mD:∀(k:Nat) (s:List UInt8),∃x r,Lib.splitK [32] 0 k s=x::r/\x++cD r=s
 |0,s=>⟨s,[],rfl,by simp[cD]⟩
 |k+1,s=>by
  rw[Lib.splitK];by_cases hi:Lib.index s [32]= -1
  ·rw[Ed (by simpa using hi)];exact⟨s,[],rfl,by simp[cD]⟩
  ·rw[DS (by simpa using hi)];obtain⟨x,r,h1,h2⟩:=mD k (s.drop ((Lib.index s [32]).toNat+[(32:UInt8)].length));refine⟨_,_,rfl,?_⟩;rw[h1];rw[Lib.index_one]at hi h2⊢;have hge:=Lib.indexByte_ge s 32;obtain⟨j,hj⟩:∃j:Nat,Lib.indexByte s 32=(j:Int):=⟨(Lib.indexByte s 32).toNat,by omega⟩;obtain⟨h3,_⟩:=Lib.indexByte_some hj;rw[hj]at h2⊢;simp only[EZ,DL,DO,ET,FX]at h2⊢;obtain⟨h4,h5⟩:=DQ.1 h3
   have hs:cD (x::r)=32::s.drop (j+1):=by
    rw[<-h2];simp[cD]
   rw[hs,<-h5,<-Fu h4,ER]
def dC(a:Ad)(ws:List ByteArray):PD->Option (Ad×List ByteArray)
 | .numA _ _=>match ws with|[]=>none|w::r=>if bY w=true then some ({a with a:=dj w},r)else none
 | .numB _ _=>match ws with|[]=>none|w::r=>if bY w=true then some ({a with b:=dj w},r)else none
 | .nam _=>match ws with|[]=>none|w::r=>some ({a with nm:=w},r)
 | .met _=>match ws with|[]=>none|w::r=>some ({a with mt:=w},r)
 | .surv=>if ws.all bY=true then some ({a with surv:=ws.map dj},[])else none
 | .rest _=>if ws.all bY=true then some ({a with args:=ws.map dj},[])else none
def f9(a:Ad)(ws:List ByteArray):List PD->Option (Ad×List ByteArray)
 |[]=>some (a,ws)
 |p::ps=>match dC a ws p with|none=>none|some (a',ws')=>f9 a' ws' ps
def fZ(w:ByteArray):Option FD:=au.find? λf=>f.word.data.toList==w.data.toList
theorem eI(h:q<=15)(hf:au[q]?=some f):fZ f.word=some f:=by
 obtain rfl|rfl|rfl|rfl|rfl|rfl|rfl|rfl|rfl|rfl|rfl|rfl|rfl|rfl|rfl|rfl:q=0\/q=1\/q=2\/q=3\/q=4\/q=5\/q=6\/q=7\/q=8\/q=9\/q=10\/q=11\/q=12\/q=13\/q=14\/q=15:=by omega
 all_goals
  simp only[au,FA,ED,Option.some.injEq]at hf;subst hf;kernel_rfl
def cS(k:Int):Ad:=⟨k,0,0,⟨#[]⟩,⟨#[]⟩,[],[]⟩
def cF(ws:List ByteArray):Option Ad:=
 match ws with
 |[]=>none
 |w::r=>
  match fZ w with
  |none=>none
  |some f=>match f9 (cS f.k) r f.pds with
   |none=>none
   |some (a,rest)=>if okD a=true/\rest=[]then some a else none
theorem qQ(h:∀z∈zs,I64 z):(zs.map du).all bY=true:=by
 rw[Ec];intro x hx;obtain⟨z,hz,rfl⟩:=EB.1 hx;exact ji (h z hz)
theorem qg(h:∀z∈zs,I64 z):(zs.map du).map dj=zs:=by
 rw[List.map_map]
 conv=>rhs;rw[<-List.map_id zs]
 exact List.map_congr_left λz hz=>kr (h z hz)
theorem jV{z:ByteArray}(h:z.toList=[]):z=⟨#[]⟩:=Eh (sh h)
theorem xH{X:Ad}(h:X=d)(ho:okD d=true):(if okD X=true/\True then some X else none)=some d:=by
 subst h;rw[Ed ⟨ho,trivial⟩]
theorem rG(d:Ad)(f:FD)(hw:WfA d)(hf:dG d.k=some f)(h:kq d f=true):cF (eg d f)=some d:=by
 have ho:okD d=true:=by unfold okD;rw[hf];exact h
 have hv:ay d=true:=by rw[<-eC];exact ho
 obtain⟨q,hq,hk⟩:=lh hf;obtain⟨k,a,b,nm,mt,zs,ys⟩:=d;obtain⟨w1,w2,w3,w4⟩:=hw;dsimp only at hk w1 w2 w3 w4;subst hk;clear h;dsimp only at hf;rw[eJ hq]at hf;have n1:=ji w1;have n2:=ji w2;have n3:=kr w1;have n4:=kr w2;have n5:=qQ w3;have n6:=qQ w4;have n7:=qg w3;have n8:=qg w4;have hby:=eI hq hf;obtain rfl|rfl|rfl|rfl|rfl|rfl|rfl|rfl|rfl|rfl|rfl|rfl|rfl|rfl|rfl|rfl:q=0\/q=1\/q=2\/q=3\/q=4\/q=5\/q=6\/q=7\/q=8\/q=9\/q=10\/q=11\/q=12\/q=13\/q=14\/q=15:=by omega
 all_goals
  simp only[au,FA,ED,Option.some.injEq]at hf;subst hf;simp only[ay,cB,de,EZ,Ee,Ep,EY,Bool.false_or,Bool.true_or,Ft,FB]at hv;unfold eg cF;dsimp only at hby⊢;rw[hby];dsimp only;simp only[Ez,List.flatMap_nil,dp,EK,EG,Eo,f9,dC,n1,n2,n3,n4,n5,n6,n7,n8,FZ,cS];refine xH ?_ ho;have e1:nm.toList=[]->nm=⟨#[]⟩:=jV;have e2:mt.toList=[]->mt=⟨#[]⟩:=jV;rw[Ad.mk.injEq];clear ho hby n1 n2 n3 n4 n5 n6 n7 n8 w1 w2 w3 w4
  grind
theorem zj{b:Ad}(h:dC a ws (.numA lo hi)=some (b,rest)):∃w,ws=w::rest/\bY w=true/\b={a with a:=dj w}:=by
 unfold dC at h;cases ws with
 |nil=>cases h
 |cons w r=>
  dsimp only at h;split at h
  ·simp only[Option.some.injEq,Prod.mk.injEq]at h;exact⟨w,by rw[h.2],by assumption,h.1.symm⟩
  ·cases h
theorem zi{b:Ad}(h:dC a ws (.numB lo hi)=some (b,rest)):∃w,ws=w::rest/\bY w=true/\b={a with b:=dj w}:=by
 unfold dC at h;cases ws with
 |nil=>cases h
 |cons w r=>
  dsimp only at h;split at h
  ·simp only[Option.some.injEq,Prod.mk.injEq]at h;exact⟨w,by rw[h.2],by assumption,h.1.symm⟩
  ·cases h
theorem Bf{b:Ad}{k:Int}(h:dC a ws (.nam k)=some (b,rest)):∃w,ws=w::rest/\b={a with nm:=w}:=by
 unfold dC at h;cases ws with
 |nil=>cases h
 |cons w r=>
  simp only[Option.some.injEq,Prod.mk.injEq]at h;exact⟨w,by rw[h.2],h.1.symm⟩
theorem Bg{b:Ad}{k:Int}(h:dC a ws (.met k)=some (b,rest)):∃w,ws=w::rest/\b={a with mt:=w}:=by
 unfold dC at h;cases ws with
 |nil=>cases h
 |cons w r=>
  simp only[Option.some.injEq,Prod.mk.injEq]at h;exact⟨w,by rw[h.2],h.1.symm⟩
theorem zg{b:Ad}(h:dC a ws .surv=some (b,rest)):ws.all bY=true/\b={a with surv:=ws.map dj}/\rest=[]:=by
 unfold dC at h;dsimp only at h;split at h
 ·simp only[Option.some.injEq,Prod.mk.injEq]at h;exact⟨by assumption,h.1.symm,h.2.symm⟩
 ·cases h
theorem zh{b:Ad}{m:Int}(h:dC a ws (.rest m)=some (b,rest)):ws.all bY=true/\b={a with args:=ws.map dj}/\rest=[]:=by
 unfold dC at h;dsimp only at h;split at h
 ·simp only[Option.some.injEq,Prod.mk.injEq]at h;exact⟨by assumption,h.1.symm,h.2.symm⟩
 ·cases h
def Ci(n:Nat):Prop:=∀(ar:Array Value) (w:World),(callFunc n ar).run Tryz.prog w= .ok (.enter n ar) w
def RunsOn(fv:Value)(args:Array Value)(w:World)(Q:Ending->World->Prop):Prop:=∃n fvs,fv= .func (.func n) #[] fvs/\Ci n/\Calls Tryz.prog n (args++fvs) w Q
def PD.good:PD->Prop
 | .nam k=>k=2\/k=3
 | .met k=>k=2\/k=3
 |_=>True
theorem tM(p:Int->Bool):(!(zs.any λz=> !p z))=zs.all p:=by
 rw[List.any_eq_not_all_not,Bool.not_not]
 congr 1
 funext z
 exact Bool.not_not _
theorem rC{a b c d:Value}(h:PartV w B pd [a,b,c,d])(hp:pd.good)(v:Av)(dd:Ad)(hr:Reads w w.heap.size v dd)(hg:Gl w)(hn:v.n<=1152921504606846976)(hn2:v.n2<=1152921504606846976):
 RunsOn c #[.agg v.cells] w λe w'=>e= .returned (.bool (jH dd pd))/\Below w.heap.size w w':=by
 cases pd with
 |numA lo hi=>
  obtain⟨b0,b1,b2,e,h0,h1,h2,k0,k1,k2⟩:=h;simp only[List.cons.injEq,Em]at e;obtain⟨_,_,rfl,_⟩:=e;exact⟨178,_,rfl,λ_ _=>by kernel_rfl,(wU v b0 b1 b2 lo hi w k0 k1 k2).mono λe w' q=>⟨by rw[q.1];exact aa (by unfold jH;rw[hr.a]),q.2⟩⟩
 |numB lo hi=>
  obtain⟨b0,b1,b2,e,h0,h1,h2,k0,k1,k2⟩:=h;simp only[List.cons.injEq,Em]at e;obtain⟨_,_,rfl,_⟩:=e;exact⟨178,_,rfl,λ_ _=>by kernel_rfl,(wT v b0 b1 b2 lo hi w k0 k1 k2).mono λe w' q=>⟨by rw[q.1];exact aa (by unfold jH;rw[hr.b]),q.2⟩⟩
 |nam k=>
  obtain⟨b0,b1,e,h0,h1,k0,k1⟩:=h;simp only[List.cons.injEq,Em]at e;obtain⟨_,_,rfl,_⟩:=e;exact⟨182,_,rfl,λ_ _=>by kernel_rfl,(xm v b0 b1 k hp w hg k0 k1).mono λe w' q=>⟨by rw[q.1];exact aa (by unfold jH;rw[hr.nm]),q.2⟩⟩
 |met k=>
  obtain⟨b0,b1,e,h0,h1,k0,k1⟩:=h;simp only[List.cons.injEq,Em]at e;obtain⟨_,_,rfl,_⟩:=e;exact⟨182,_,rfl,λ_ _=>by kernel_rfl,(xj v b0 b1 k hp w hg k0 k1).mono λe w' q=>⟨by rw[q.1];exact aa (by unfold jH;rw[hr.mt]),q.2⟩⟩
 |surv=>
  have e:[a,b,c,d]=[fnv 185,fnv 186,fnv 187,fnv 190]:=h;simp only[List.cons.injEq,Em]at e;obtain⟨_,_,rfl,_⟩:=e;exact⟨187,_,rfl,λ_ _=>by kernel_rfl,(Bu v dd.surv w hr.surv hn2).mono λe w' q=>⟨by rw[q.1];exact aa (by unfold jH;rw[tM];congr 1;exact decide_eq_decide.2 (by omega)),q.2⟩⟩
 |rest m=>
  obtain⟨b0,e,h0,k0⟩:=h;simp only[List.cons.injEq,Em]at e;obtain⟨_,_,rfl,_⟩:=e;exact⟨194,_,rfl,λ_ _=>by kernel_rfl,(Bt v dd.args w hr.args hn b0 m k0).mono λe w' q=>⟨by rw[q.1];exact aa (by unfold jH;rw[tM];rfl),q.2⟩⟩
def PD.cell:PD->Nat
 | .numA _ _=>1
 | .numB _ _=>2
 | .nam _=>3
 | .met _=>4
 | .surv=>6
 | .rest _=>5
def PD.zero:PD->Value
 | .numA _ _=> .int .i64 0
 | .numB _ _=> .int .i64 0
 | .nam _=> .string ⟨#[]⟩
 | .met _=> .string ⟨#[]⟩
 | .surv=> .slice none 0 0
 | .rest _=> .slice none 0 0
theorem rD{a b c d:Value}(h:PartV w B pd [a,b,c,d])(L:Nat)(cs:Array Value)(hL:Blk w L 48 cs)(hx:cs.size=7):
 RunsOn d #[.pointer (some ⟨L,0,none⟩)] w λe w'=>e= .returned (.tuple #[])/\w.setCell ⟨L,pd.cell,none⟩ pd.zero=w':=by
 cases pd with
 |numA lo hi=>
  obtain⟨b0,b1,b2,e,h0,h1,h2,k0,k1,k2⟩:=h;simp only[List.cons.injEq,Em]at e;obtain⟨_,_,_,rfl⟩:=e;exact⟨179,_,rfl,λ_ _=>by kernel_rfl,wS L cs b0 w k0 hL (by omega)⟩
 |numB lo hi=>
  obtain⟨b0,b1,b2,e,h0,h1,h2,k0,k1,k2⟩:=h;simp only[List.cons.injEq,Em]at e;obtain⟨_,_,_,rfl⟩:=e;exact⟨179,_,rfl,λ_ _=>by kernel_rfl,wR L cs b0 w k0 hL (by omega)⟩
 |nam k=>
  obtain⟨b0,b1,e,h0,h1,k0,k1⟩:=h;simp only[List.cons.injEq,Em]at e;obtain⟨_,_,_,rfl⟩:=e;exact⟨184,_,rfl,λ_ _=>by kernel_rfl,xi L cs b0 w k0 hL (by omega)⟩
 |met k=>
  obtain⟨b0,b1,e,h0,h1,k0,k1⟩:=h;simp only[List.cons.injEq,Em]at e;obtain⟨_,_,_,rfl⟩:=e;exact⟨184,_,rfl,λ_ _=>by kernel_rfl,xg L cs b0 w k0 hL (by omega)⟩
 |surv=>
  have e:[a,b,c,d]=[fnv 185,fnv 186,fnv 187,fnv 190]:=h;simp only[List.cons.injEq,Em]at e;obtain⟨_,_,_,rfl⟩:=e;exact⟨190,_,rfl,λ_ _=>by kernel_rfl,Ae L cs w hL (by omega)⟩
 |rest m=>
  obtain⟨b0,e,h0,k0⟩:=h;simp only[List.cons.injEq,Em]at e;obtain⟨_,_,_,rfl⟩:=e;exact⟨197,_,rfl,λ_ _=>by kernel_rfl,Ac L cs w hL (by omega)⟩
theorem jG{s:ByteArray}{e:Ending}(h:∃g,e= .returned (.slice (some ⟨g,0,none⟩) 1 1)/\Strs w' w'.heap.size (some ⟨g,0,none⟩) 1 [s]/\Below w.heap.size w w'):tN w [s] e w':=by
 obtain⟨g,h1,h2,h3⟩:=h;exact⟨_,1,h1,h2,h3⟩
theorem rB{a b c d:Value}(h:PartV w B pd [a,b,c,d])(v:Av)(dd:Ad)(hr:Reads w w.heap.size v dd)(hw:WfA dd)(hg:Gl w)(hn:v.n<=1000000)(hn2:v.n2<=1000000):
 RunsOn b #[.agg v.cells] w (tN w (dp dd pd)):=by
 cases pd with
 |numA lo hi=>
  obtain⟨b0,b1,b2,e,h0,h1,h2,k0,k1,k2⟩:=h;simp only[List.cons.injEq,Em]at e;obtain⟨_,rfl,_,_⟩:=e;exact⟨177,_,rfl,λ_ _=>by kernel_rfl,(wW v b0 w hg (by rw[hr.a];exact hw.a) k0).mono λe w' q=>by rw[hr.a]at q;exact jG q⟩
 |numB lo hi=>
  obtain⟨b0,b1,b2,e,h0,h1,h2,k0,k1,k2⟩:=h;simp only[List.cons.injEq,Em]at e;obtain⟨_,rfl,_,_⟩:=e;exact⟨177,_,rfl,λ_ _=>by kernel_rfl,(wV v b0 w hg (by rw[hr.b];exact hw.b) k0).mono λe w' q=>by rw[hr.b]at q;exact jG q⟩
 |nam k=>
  obtain⟨b0,b1,e,h0,h1,k0,k1⟩:=h;simp only[List.cons.injEq,Em]at e;obtain⟨_,rfl,_,_⟩:=e;exact⟨181,_,rfl,λ_ _=>by kernel_rfl,(xr v b0 w k0).mono λe w' q=>by rw[hr.nm]at q;exact jG q⟩
 |met k=>
  obtain⟨b0,b1,e,h0,h1,k0,k1⟩:=h;simp only[List.cons.injEq,Em]at e;obtain⟨_,rfl,_,_⟩:=e;exact⟨181,_,rfl,λ_ _=>by kernel_rfl,(xp v b0 w k0).mono λe w' q=>by rw[hr.mt]at q;exact jG q⟩
 |surv=>
  have e:[a,b,c,d]=[fnv 185,fnv 186,fnv 187,fnv 190]:=h;simp only[List.cons.injEq,Em]at e;obtain⟨_,rfl,_,_⟩:=e;exact⟨186,_,rfl,λ_ _=>by kernel_rfl,yH v dd.surv w hg hr.surv hn2 hw.surv⟩
 |rest m=>
  obtain⟨b0,e,h0,k0⟩:=h;simp only[List.cons.injEq,Em]at e;obtain⟨_,rfl,_,_⟩:=e;exact⟨192,_,rfl,λ_ _=>by kernel_rfl,yG v dd.args w hg hr.args hn hw.args⟩
def uR(v:Av):PD->Av
 | .numA _ _=>{v with a:=0}
 | .numB _ _=>{v with b:=0}
 | .nam _=>{v with nm:=⟨#[]⟩}
 | .met _=>{v with mt:=⟨#[]⟩}
 | .surv=>{v with A2:=none,n2:=0,c2:=0}
 | .rest _=>{v with A:=none,n:=0,c:=0}
theorem so(v:Av)(p:PD):v.cells.setIfInBounds p.cell p.zero=(uR v p).cells:=by
 cases p<;>rfl
theorem Ints.none(w:World)(B:Nat):Ints w B none 0 []:=⟨rfl,λh=>absurd h (Fv 0)⟩
theorem sn{v:Av}(h:Reads w B v d)(p:PD):Reads w B (uR v p) (clr d p):=by
 cases p
 ·exact⟨h.k,rfl,h.b,h.nm,h.mt,h.args,h.surv⟩
 ·exact⟨h.k,h.a,rfl,h.nm,h.mt,h.args,h.surv⟩
 ·exact⟨h.k,h.a,h.b,rfl,h.mt,h.args,h.surv⟩
 ·exact⟨h.k,h.a,h.b,h.nm,rfl,h.args,h.surv⟩
 ·exact⟨h.k,h.a,h.b,h.nm,h.mt,h.args,Ints.none w B⟩
 ·exact⟨h.k,h.a,h.b,h.nm,h.mt,Ints.none w B,h.surv⟩
theorem mN{w:World}{B:Nat}:∀(ps:List PD) {v:Av} {d:Ad},Reads w B v d->Reads w B (ps.foldl uR v) (ps.foldl clr d)
 |[],_,_,h=>h
 |p::ps,_,_,h=>mN ps (sn h p)
theorem uM(f:β->α->β){l:List α}{k:Nat}{x:α}(b:β)(h:l[k]?=some x):(l.take (k+1)).foldl f b=f ((l.take k).foldl f b) x:=by
 rw[EQ,h,List.foldl_append];rfl
theorem sc(h:au[i]?=some fd){p:PD}(hp:p∈fd.pds):p.good:=by
 have hm:=DW h;unfold au at hm;simp only[DY,DX,Ew]at hm;rcases hm with rfl|rfl|rfl|rfl|rfl|rfl|rfl|rfl|rfl|rfl|rfl|rfl|rfl|rfl|rfl|rfl<;>(simp only[DY,DX,Ew]at hp;rcases hp with rfl|rfl|rfl|rfl)<;>simp[PD.good]
theorem iF(h:au[i]?=some fd):fd.pds.length<=4:=by
 have hm:=DW h;unfold au at hm;simp only[DY,DX,Ew]at hm;rcases hm with rfl|rfl|rfl|rfl|rfl|rfl|rfl|rfl|rfl|rfl|rfl|rfl|rfl|rfl|rfl|rfl<;>decide
theorem Parts.at_(h:Parts W B g pds){k:Nat}(hk:k<pds.length):
 ∃pd a b c d,pds[k]?=some pd/\PartV W B pd [a,b,c,d]/\W.cell? ⟨g,k*4,none⟩=some a/\W.cell? ⟨g,k*4+1,none⟩=some b/\W.cell? ⟨g,k*4+2,none⟩=some c/\W.cell? ⟨g,k*4+3,none⟩=some d:=by
 obtain⟨vs,h1,h2⟩:=h.2 k _ (DT hk);obtain⟨a,b,c,d,rfl⟩:=h1.four;exact⟨_,a,b,c,d,DT hk,h1,h2 0 a rfl,h2 1 b rfl,h2 2 c rfl,h2 3 d rfl⟩
theorem PartV.funcs{a b c d:Value}(h:PartV W B pd [a,b,c,d]):
 ∃n1 x1 n2 x2 n3 x3 n4 x4,a= .func (.func n1) #[] x1/\b= .func (.func n2) #[] x2/\c= .func (.func n3) #[] x3/\d= .func (.func n4) #[] x4:=by
 cases pd with
 |numA lo hi=>obtain⟨b0,b1,b2,e,_⟩:=h;simp only[List.cons.injEq,Em]at e;exact⟨_,_,_,_,_,_,_,_,e.1,e.2.1,e.2.2.1,e.2.2.2⟩
 |numB lo hi=>obtain⟨b0,b1,b2,e,_⟩:=h;simp only[List.cons.injEq,Em]at e;exact⟨_,_,_,_,_,_,_,_,e.1,e.2.1,e.2.2.1,e.2.2.2⟩
 |nam k=>obtain⟨b0,b1,e,_⟩:=h;simp only[List.cons.injEq,Em]at e;exact⟨_,_,_,_,_,_,_,_,e.1,e.2.1,e.2.2.1,e.2.2.2⟩
 |met k=>obtain⟨b0,b1,e,_⟩:=h;simp only[List.cons.injEq,Em]at e;exact⟨_,_,_,_,_,_,_,_,e.1,e.2.1,e.2.2.1,e.2.2.2⟩
 |surv=>
  have e:[a,b,c,d]=[fnv 185,fnv 186,fnv 187,fnv 190]:=h;simp only[List.cons.injEq,Em]at e;exact⟨_,_,_,_,_,_,_,_,e.1,e.2.1,e.2.2.1,e.2.2.2⟩
 |rest m=>obtain⟨b0,e,_⟩:=h;simp only[List.cons.injEq,Em]at e;exact⟨_,_,_,_,_,_,_,_,e.1,e.2.1,e.2.2.1,e.2.2.2⟩
theorem RunsOn.calls{n:Nat}(h:RunsOn (.func (.func n) #[] x) args w Q):Calls Tryz.prog n (args++x) w Q:=by
 obtain⟨m,y,e,_,h⟩:=h;simp only[Value.func.injEq,Fn.func.injEq]at e;obtain⟨rfl,_,rfl⟩:=e;exact h
theorem RunsOn.enters{n:Nat}(h:RunsOn (.func (.func n) #[] x) args w Q):∀(ar:Array Value) (w:World),(callFunc n ar).run Tryz.prog w= .ok (.enter n ar) w:=by
 obtain⟨m,y,e,h,_⟩:=h;simp only[Value.func.injEq,Fn.func.injEq]at e;obtain⟨rfl,_,rfl⟩:=e;exact h
theorem PartV.aA{W':World}{vs:List Value}(hk:∀b t cs,t≠92->Blk W b t cs->Blk W' b t cs)(h:PartV W B pd vs):PartV W' B pd vs:=by
 cases pd with
 |numA lo hi=>obtain⟨b0,b1,b2,e,h0,h1,h2,k0,k1,k2⟩:=h;exact⟨b0,b1,b2,e,h0,h1,h2,hk _ _ _ (by decide) k0,hk _ _ _ (by decide) k1,hk _ _ _ (by decide) k2⟩
 |numB lo hi=>obtain⟨b0,b1,b2,e,h0,h1,h2,k0,k1,k2⟩:=h;exact⟨b0,b1,b2,e,h0,h1,h2,hk _ _ _ (by decide) k0,hk _ _ _ (by decide) k1,hk _ _ _ (by decide) k2⟩
 |nam k=>obtain⟨b0,b1,e,h0,h1,k0,k1⟩:=h;exact⟨b0,b1,e,h0,h1,hk _ _ _ (by decide) k0,hk _ _ _ (by decide) k1⟩
 |met k=>obtain⟨b0,b1,e,h0,h1,k0,k1⟩:=h;exact⟨b0,b1,e,h0,h1,hk _ _ _ (by decide) k0,hk _ _ _ (by decide) k1⟩
 |surv=>exact h
 |rest m=>obtain⟨b0,e,h0,k0⟩:=h;exact⟨b0,e,h0,hk _ _ _ (by decide) k0⟩
theorem Parts.other{R:Nat}{z:Int}{s:ByteArray}{A:Option Addr}{n c:Nat}(h:Parts W B g pds)(hR:Blk W R 92 #[.int .i64 z,.string s,.slice A n c])(x0 x1 x2:Value):
 Parts (((W.setCell ⟨R,0,none⟩ x0).setCell ⟨R,1,none⟩ x1).setCell ⟨R,2,none⟩ x2) B g pds:=by
 have aA:∀b t cs,b≠R->Blk W b t cs->Blk (((W.setCell ⟨R,0,none⟩ x0).setCell ⟨R,1,none⟩ x1).setCell ⟨R,2,none⟩ x2) b t cs:=λb t cs hne hb=>
  ((hb.other ⟨R,0,none⟩ x0 hne).other ⟨R,1,none⟩ x1 hne).other ⟨R,2,none⟩ x2 hne
 refine⟨h.1,λi pd hp=>?_⟩;obtain⟨vs,h1,h2⟩:=h.2 i pd hp;refine⟨vs,h1.aA λb t cs ht hb=>aA b t cs (λe=>?_) hb,λj v hv=>?_⟩
 ·subst e;unfold Blk at hR hb;rw[hR]at hb;simp only[Option.some.injEq,Obj.cells.injEq]at hb;exact ht hb.2.1.symm
 ·have hne:g≠R:=λe=>by
   subst e;obtain⟨a,b,c',d,rfl⟩:=h1.four;obtain⟨n1,x1,_,_,_,_,_,_,rfl,_⟩:=h1.funcs;have h3:=h2 0 _ rfl;rw[hR.cell]at h3
   match i with
   |0=>simp at h3
   |i+1=>
    rw[Array.getElem?_eq_none (by show 3<=_;omega)]at h3;cases h3
  have:(((W.setCell ⟨R,0,none⟩ x0).setCell ⟨R,1,none⟩ x1).setCell ⟨R,2,none⟩ x2).heap[g]?=W.heap[g]?:=
   ((DZ _ _ _ g hne).trans (DZ _ _ _ g hne)).trans (DZ _ _ _ g hne)
  rw[<-h2 j v hv];exact F1 this
def mL(d:Ad)(w:World)(e:Ending)(w':World):Prop:=
 ∃k wd A n c,e= .returned (.tuple #[.agg #[.int .i64 k,.string wd,.slice A n c],.bool (okD d)])/\Below w.heap.size w w'/\
  (okD d=true->∃f g,dG d.k=some f/\k=f.k/\wd=f.word/\A=some ⟨g,0,none⟩/\n=f.pds.length/\c=f.pds.length/\Parts w' w'.heap.size g f.pds)
theorem Blk.aL{t:TypeId}{a b c a' b' c':Value}(h:Blk w g t #[a,b,c]):
 Blk (((w.setCell ⟨g,0,none⟩ a').setCell ⟨g,1,none⟩ b').setCell ⟨g,2,none⟩ c') g t #[a',b',c']:=
 ((h.set 0 a').set 1 b').set 2 c'
theorem gR{a:World}(h:Below B a w)(hg:B<=g)(a' b' c':Value):
 Below B a (((w.setCell ⟨g,0,none⟩ a').setCell ⟨g,1,none⟩ b').setCell ⟨g,2,none⟩ c'):=
 ((h.setCell (p:=⟨g,0,none⟩) hg a').setCell (p:=⟨g,1,none⟩) hg b').setCell (p:=⟨g,2,none⟩) hg c'
theorem mM(v:Av)(d:Ad)(w:World)(h:Reads w w.heap.size v d)(hg:Gl w)(hn:v.n<=1152921504606846976)(hn2:v.n2<=1152921504606846976):Calls Tryz.prog 43 #[.agg v.cells] w (mL d w):=by
 have hq0:=Blk.new w 48 v.cells;have hb0:Below w.heap.size w (w.alloc (.cells v.cells 48)):=(DN _ _).alloc (DK _) _;have hq1:=hq0.alloc (.cells #[.int .i64 0,.string ⟨#[]⟩,.slice none 0 0] 92);have hr1:=Blk.new (w.alloc (.cells v.cells 48)) 92 #[.int .i64 0,.string ⟨#[]⟩,.slice none 0 0];have hb1:=hb0.alloc hb0.size (.cells #[.int .i64 0,.string ⟨#[]⟩,.slice none 0 0] 92);rw[DV]at hr1;unfold Av.cells at*
 have HR:=H_ h;have HG:=H_ hg;clear h hg hq0 hb0;go_enter Tryz.func43,Tryz.ntmps43;go_upto_region 1 with fail;generalize(w.alloc (.cells #[.int .i64 v.k,.int .i64 v.a,.int .i64 v.b,.string v.nm,.string v.mt,.slice v.A v.n v.c,.slice v.A2 v.n2 v.c2] 48)).alloc (.cells #[.int .i64 0,.string ⟨#[]⟩,.slice none 0 0] 92)=W0 at hq1 hr1 hb1⊢;obtain⟨L,hL⟩:=nm_ (w.heap.size);obtain⟨R,hR⟩:=nm_ (w.heap.size+1);rw[hL]at hq1;rw[hR]at hr1⊢;rw[hL];have HL:=H_ (And.intro hL hR);have hLR:L≠R:=by omega
 have hLR2:L<=R:=by omega
 have hRw:=hr1.lt;have QL:=H_ hq1;have QR:=H_ hr1;have B1:=H_ hb1;clear hL hR hq1 hr1 hb1;go_wp2_with fail;refine(tD _).mono ?_;rintro e w1 ⟨g,rfl,hf1,b1⟩;have QL1:=hbl QL b1;have QR1:=hbl QR b1;have B2:=htr B1 b1;have HF1:=H_ hf1;have z1:=b1.size;clear QL QR B1 b1 hf1;go_wp2_with fail;refine(CT g L d.k w1 HF1.out (by rw[<-HR.out.k];exact QL1.out.cell 0) QL1.out.lt).mono ?_;rintro e w2 ⟨rfl,b2⟩;have QL2:=hbl QL1 b2;have QR2:=hbl QR1 b2;have B3:=htr B2 b2;have HF2:=H_ ((HF1.out.below b2).more b2.size);have z2:=b2.size;have z3:=HF1.out.1;clear QL1 QR1 B2 HF1 b2;obtain⟨c0,c1,c2,c3,c4,c5,c6⟩:=QL2.out.c7;obtain⟨r0,r1,r2⟩:=QR2.out.c3;obtain⟨f0,f1,f2⟩:=QR2.out.f3;by_cases hk:0<=d.k/\d.k<=15
 ·obtain⟨q,hq⟩:=Ei hk.1;have hidx:oI d.k=(q:Int):=by unfold oI;rw[Ed hk,hq]
  have hq16:q<16:=by omega
  obtain⟨fd,g2,h1,h2,h3,a0,a1,a2⟩:=HF2.out.at_ hq16;have HFD:=H_ (And.intro h1 (And.intro h2 hq));rw[hidx];have hqz:((q:Int)<0)=False:=by simp
  have hqd:decide ((q:Int)<0)=false:=by simp
  have hq0:0<=(q:Int):=by omega
  have hqi:(q:Int)<16:=by omega
  have HP:=H_ h3;clear hk hidx h1 h2 h3 hq;go_upto_region 6 with fail;obtain⟨w3,hw3⟩:=nm_ (w2.alloc (.cells #[.int .i64 (q:Int),.string fd.word,.slice (some ⟨g2,0,none⟩) fd.pds.length fd.pds.length] 92));have b3:=bal hw3;have hs3:w3.heap.size=w2.heap.size+1:=by rw[<-hw3];simp
  have hqf:=hw3▸Blk.new w2 92 #[.int .i64 (q:Int),.string fd.word,.slice (some ⟨g2,0,none⟩) fd.pds.length fd.pds.length];rw[hw3];have QL3:=hbl QL2 b3;have QR3:=hbl QR2 b3;have HP3:=H_ ((HP.out.below b3).more b3.size);have B4:=htr B3 b3;have QF3:=H_ hqf;have l2:=QL2.out.lt;have r2':=QR2.out.lt;obtain⟨F,hF⟩:=nm_ (w2.heap.size);rw[hF]at hs3 QF3 l2 r2'⊢;clear a0 a1 a2 c0 c1 c2 c3 c4 c5 c6 r0 r1 r2 f0 f1 f2 hw3 hqf b3 QL2 QR2 HP B3 HF2 hF;obtain⟨c0,c1,c2,c3,c4,c5,c6⟩:=QL3.out.c7;go_upto_region 7 with fail;have hm:=Blk.new w3 48 v.cells;have b4:Below w3.heap.size w3 (w3.alloc (.cells v.cells 48)):=(DN _ _).alloc (DK _) _;rw[hs3]at hm;have QM:=H_ hm;unfold Av.cells at b4;have QF4:=hbl QF3 b4;have B5:=H_ b4;have e2:=QF4.out.k2;unfold Av.cells at QM;generalize w3.alloc (.cells #[.int .i64 v.k,.int .i64 v.a,.int .i64 v.b,.string v.nm,.string v.mt,.slice v.A v.n v.c,.slice v.A2 v.n2 v.c2] 48)=w4 at QM QF4 B5 e2⊢;obtain⟨M,hM⟩:=nm_ (F+1);rw[hM]at hs3 QM⊢;clear c0 c1 c2 c3 c4 c5 c6 hm b4;have hLm:L<M:=by omega
  have hRm:R<M:=by omega
  have hFm:F<M:=by omega
  have hlen:=iF HFD.out.1;go_wp2_with fail;go_loopw [26] (λi wr=>∃k:Nat,k<=fd.pds.length/\i= .int .i64 k/\Hid (Blk wr M 48 ((fd.pds.take k).foldl uR v).cells)/\Hid (Below w3.heap.size w3 wr)/\Hid ((fd.pds.take k).all (jH d)=true)) (λi _=>fd.pds.length-(intOf i).toNat)
  case atStart=>exact⟨0,Ea _,rfl,QM,B5,H_ rfl⟩
  case round=>
   clear e2 QM QF4 B5;obtain⟨k,hk,rfl,HM,HB,HA⟩:=hrel;by_cases hlt:k<fd.pds.length
   ·obtain⟨pd,a,b,c,dd,hpd,hpv,a0,a1,a2,a3⟩:=(HP3.out.below HB.out).at_ hlt;have hk0:0<=(k:Int):=by omega
    have hk1:(k:Int)<(fd.pds.length:Int):=by omega
    obtain⟨n1,x1,n2,x2,n3,x3,n4,x4,rfl,rfl,rfl,rfl⟩:=hpv.funcs;have HPD:=H_ hpd;have HPV:=H_ hpv;clear hpd hpv;go_upto_region 10 with fail;have b5:Below wr.heap.size wr (wr.alloc (.cells #[.func (.func n1) #[] x1,.func (.func n2) #[] x2,.func (.func n3) #[] x3,.func (.func n4) #[] x4] 99)):=(DN _ _).alloc (DK _) _;have hn5:=Blk.new wr 99 #[.func (.func n1) #[] x1,.func (.func n2) #[] x2,.func (.func n3) #[] x3,.func (.func n4) #[] x4];generalize wr.alloc (.cells #[.func (.func n1) #[] x1,.func (.func n2) #[] x2,.func (.func n3) #[] x3,.func (.func n4) #[] x4] 99)=w5 at b5 hn5⊢;have HB5:=htr HB b5;have HM5:=hbl HM b5;have HPV5:=H_ (HPV.out.below (b5.mono HB.out.size));have HN5:=H_ hn5;have hN5:=hn5.lt;have hMN:M≠wr.heap.size:=by have:=HM.out.lt;omega
    have zr:=HB.out.size;generalize wr.heap.size=N at hn5 hN5 hMN HN5 zr⊢;have QL5:=H_ (QL3.out.below HB5.out QL3.out.lt);have B45:=H_ (B4.out.trans (HB5.out.mono B4.out.size));clear a0 a1 a2 a3 b5 HM HB;obtain⟨c0,c1,c2,c3,c4,c5,c6⟩:=QL5.out.c7;have a2:=hn5.k2;clear hn5;have hrun:=rC HPV5.out (sc HFD.out.1 (DW HPD.out)) v d ((HR.out.below B45.out).more B45.out.size) (HG.out.below B45.out) hn hn2;have hent:=hrun.enters;have HC:=H_ hrun.calls;clear hrun;go_wp2_with fail;refine HC.out.mono ?_;rintro e w6 ⟨rfl,b6⟩;have HM6:=hbl HM5 b6;have HN6:=hbl HN5 b6;have QR6:=H_ ((QR3.out.below HB5.out QR3.out.lt).below b6 (by have:=HB5.out.size;omega));have HB6:=htr HB5 b6;have zz:=b6.size;have HPV6:=H_ (HPV5.out.below (b6.mono HB5.out.size));clear HM5 HN5 HB5 b6 c0 c1 c2 c3 c4 c5 c6 a2 QL5 B45 HC hent;by_cases hok:jH d pd=true
    ·rw[hok];have HOK:=H_ hok;have a3:=HN6.out.k3;have hrun:=rD HPV6.out M _ HM6.out rfl;have hent:=hrun.enters;have HC:=H_ hrun.calls;clear hrun hok;go_wp2_with fail;refine HC.out.mono ?_;rintro e w7 ⟨rfl,rfl⟩;go_wp2_with fail;go_roundw
     case rel=>
      refine⟨k+1,by omega,by go_num,?_,?_,?_⟩
      ·rw[uM uR v HPD.out,<-so];exact H_ (HM6.out.set _ _)
      ·exact H_ (HB6.out.setCell (p:=⟨M,_,none⟩) (show w3.heap.size<=M by omega) _)
      ·exact H_ (by rw[br HPD.out,HA.out,HOK.out];rfl)
     case measure=>simp[intOf];omega
    ·have hok':jH d pd=false:=by simpa using hok
     have hokd:okD d=false:=by
      unfold okD;rw[HFD.out.2.2,eJ (by omega),HFD.out.1];show kq d fd=false;unfold kq;rw[bh HPD.out hok'];rfl
     rw[hok'];have HOK:=H_ hokd;obtain⟨r0,r1,r2⟩:=QR6.out.c3;obtain⟨f0,f1,f2⟩:=QR6.out.f3;clear hok hok' hokd;go_wp2_with fail
     (try simp only[Exit.inBlock,Exit.then])
     refine Ej (ai rfl _ _ R 92 _ _ rfl QR6.out.aL Tryz.underlying92 rfl (by kernel_rfl)) rfl ?_;exact⟨0,⟨#[]⟩,none,0,0,by rw[HOK.out];rfl,gR (B4.out.trans (HB6.out.mono B4.out.size)) (by have:=HL.out.1;omega) _ _ _,λe=>by rw[HOK.out]at e;cases e⟩
   ·obtain rfl:k=fd.pds.length:=by omega
    rw[DP (DK _)]at HM HA;obtain⟨vl,hvl⟩:=nm_ (fd.pds.foldl uR v);obtain⟨dl,hdl⟩:=nm_ (fd.pds.foldl clr d);have hrl:Reads w w.heap.size vl dl:=hvl▸hdl▸mN fd.pds HR.out
    have hokd:okD d=ko dl:=by
     unfold okD;rw[HFD.out.2.2,eJ (by omega),HFD.out.1];show kq d fd=_;unfold kq;rw[HA.out,hdl];rfl
    rw[hvl]at HM;have QF5:=H_ (QF3.out.below HB.out (by omega));have QR5:=H_ (QR3.out.below HB.out QR3.out.lt);have HRL:=H_ hrl;have HOK:=H_ hokd;clear hvl hdl hrl hokd HA;have c1:=HM.out.k1;have c2:=HM.out.k2;have c3:=HM.out.k3;have c4:=HM.out.k4;have c5:=HM.out.k5;have c6:=HM.out.k6;obtain⟨e0,e1,e2⟩:=QF5.out.c3;obtain⟨r0,r1,r2⟩:=QR5.out.c3;obtain⟨f0,f1,f2⟩:=QR5.out.f3
    have HE:=H_ (show∀x:Bool,ko dl=x->mL d w (.returned (.tuple #[.agg #[.int .i64 (q:Int),.string fd.word,.slice (some ⟨g2,0,none⟩) fd.pds.length fd.pds.length],.bool x]))
     (((wr.setCell ⟨R,0,none⟩ (.int .i64 (q:Int))).setCell ⟨R,1,none⟩ (.string fd.word)).setCell ⟨R,2,none⟩ (.slice (some ⟨g2,0,none⟩) fd.pds.length fd.pds.length))from λx hx=>by
     refine⟨_,_,_,_,_,by rw[HOK.out,hx],gR (B4.out.trans (HB.out.mono B4.out.size)) (by have:=HL.out.1;omega) _ _ _,λ_=>⟨fd,g2,by rw[HFD.out.2.2,eJ (by omega),HFD.out.1],HFD.out.2.1.symm,rfl,rfl,rfl,rfl,?_⟩⟩;have hp:=((HP3.out.below HB.out).more HB.out.size).other QR5.out (.int .i64 (q:Int)) (.string fd.word) (.slice (some ⟨g2,0,none⟩) fd.pds.length fd.pds.length);simpa using hp)
    have HV:=H_ (show ko dl=((vl.a==0)&&(vl.b==0)&&vl.nm.toList.isEmpty&&vl.mt.toList.isEmpty&&((vl.n:Int)==0)&&((vl.n2:Int)==0))from by
     unfold ko de;rw[<-HRL.out.a,<-HRL.out.b,<-HRL.out.nm,<-HRL.out.mt,HRL.out.args.len,HRL.out.surv.len];simp only[Bool.false_or]
     grind)
    clear hq0;by_cases g1:vl.a=0
    ·have g1':=FG.2 g1;by_cases g2:vl.b=0
     ·have g2':=FG.2 g2;cases g3:vl.nm.toList.isEmpty with
      |true=>
       cases g4:vl.mt.toList.isEmpty with
       |true=>
        by_cases g5:(vl.n:Int)=0
        ·have g5':=FG.2 g5;cases g6:((vl.n2:Int)==0)with
         |true=>
          have HT:=H_ (HE.out true (by rw[HV.out,g1',g2',g3,g4,g5',g6];rfl));clear HE HV;go_wp2_with fail
          (try simp only[Exit.inBlock,Exit.then])
          refine Ej (ai rfl _ _ R 92 _ _ rfl QR5.out.aL Tryz.underlying92 rfl (by kernel_rfl)) rfl ?_;exact HT.out
         |false=>
          have HT:=H_ (HE.out false (by rw[HV.out,g1',g2',g3,g4,g5',g6];rfl));clear HE HV;go_wp2_with fail
          (try simp only[Exit.inBlock,Exit.then])
          refine Ej (ai rfl _ _ R 92 _ _ rfl QR5.out.aL Tryz.underlying92 rfl (by kernel_rfl)) rfl ?_;exact HT.out
        ·have g5':=DM.2 g5;have HT:=H_ (HE.out false (by rw[HV.out,g1',g2',g3,g4,g5'];rfl));clear HE HV;go_wp2_with fail
         (try simp only[Exit.inBlock,Exit.then])
         refine Ej (ai rfl _ _ R 92 _ _ rfl QR5.out.aL Tryz.underlying92 rfl (by kernel_rfl)) rfl ?_;exact HT.out
       |false=>
        have HT:=H_ (HE.out false (by rw[HV.out,g1',g2',g3,g4];rfl));clear HE HV;go_wp2_with fail
        (try simp only[Exit.inBlock,Exit.then])
        refine Ej (ai rfl _ _ R 92 _ _ rfl QR5.out.aL Tryz.underlying92 rfl (by kernel_rfl)) rfl ?_;exact HT.out
      |false=>
       have HT:=H_ (HE.out false (by rw[HV.out,g1',g2',g3];rfl));clear HE HV;go_wp2_with fail
       (try simp only[Exit.inBlock,Exit.then])
       refine Ej (ai rfl _ _ R 92 _ _ rfl QR5.out.aL Tryz.underlying92 rfl (by kernel_rfl)) rfl ?_;exact HT.out
     ·have g2':=DM.2 g2;have HT:=H_ (HE.out false (by rw[HV.out,g1',g2'];rfl));clear HE HV;go_wp2_with fail
      (try simp only[Exit.inBlock,Exit.then])
      refine Ej (ai rfl _ _ R 92 _ _ rfl QR5.out.aL Tryz.underlying92 rfl (by kernel_rfl)) rfl ?_;exact HT.out
    ·have g1':=DM.2 g1;have HT:=H_ (HE.out false (by rw[HV.out,g1'];rfl));clear HE HV;go_wp2_with fail
     (try simp only[Exit.inBlock,Exit.then])
     refine Ej (ai rfl _ _ R 92 _ _ rfl QR5.out.aL Tryz.underlying92 rfl (by kernel_rfl)) rfl ?_;exact HT.out
 ·have hidx:oI d.k= -1:=by unfold oI;rw[DS hk]
  have hok:okD d=false:=by
   unfold okD;cases hf:dG d.k with
   |none=>rfl
   |some f=>exact absurd (fP hf) hk
  have HOK:=H_ hok;rw[hidx];clear hk hidx hok;go_wp2_with fail
  (try simp only[Exit.inBlock,Exit.then])
  refine Ej (ai rfl _ _ R 92 _ _ rfl QR2.out.aL Tryz.underlying92 rfl (by kernel_rfl)) rfl ?_;exact⟨0,⟨#[]⟩,none,0,0,by rw[HOK.out];rfl,gR B3.out (by have:=HL.out.1;omega) _ _ _,λe=>by rw[HOK.out]at e;cases e⟩
theorem lq(w:World)(ty:TypeId)(B:Nat)(v:Value)(n:Nat)(xs:List Value)(hown:w.ownsRow B 9 1 v n xs)(A:Option Addr)(m c B2:Nat)(ss:List ByteArray)(hsl:Strs w B2 A m ss)(hn:n<=1000000)(hm:m<=1000000)(hB:B<=w.heap.size):
 ∃v' w',(Builtin.append_ #[67,67] ty #[v,.slice A m c]).run Tryz.prog w= .ok v' w'/\w'.ownsRow B 9 1 v' (n+m) (xs++ss.map Value.string)/\w.grownBy w' v.ownBlock:=by
 obtain⟨i0,hi,hz0,hz1,hz2⟩:=FY xJ;have hlen:=hsl.len;cases A with
 |none=>
  obtain rfl:m=0:=by
   rcases Nat.eq_zero_or_pos m with h|h
   ·exact h
   ·obtain⟨_,_,h1,_⟩:=hsl.2 h;cases h1
  obtain rfl:ss=[]:=En hlen;refine⟨v,w,?_,by simpa using hown,World.grownBy.refl w _⟩;rcases hown.2 with⟨rfl,rfl⟩|⟨g,cap,cur,rfl,_,_,hnc,_⟩
  ·simp[Builtin.append_,run_underlying Tryz.underlying67,sizeOf,typeInfo,hi,Builtin.lenOf,Builtin.firstCells]
  ·simp[Builtin.append_,run_underlying Tryz.underlying67,sizeOf,typeInfo,hi,Builtin.lenOf,Builtin.firstCells,hnc,storeCells]
 |some ad=>
  have hnews:∀j u,(ss.map Value.string)[j]?=some u->w.cell? (ad.add j)=some u:=by
   intro j u hu;have hj:=(DQ.1 hu).1;rw[Fe,hlen]at hj;obtain⟨b,off,h1,_,h3⟩:=hsl.2 (by omega);simp only[Option.some.injEq]at h1;subst h1;rw[dh];exact h3 j u hu
  obtain⟨v',w',h1,h2,h3,_,h5⟩:=run_append_own_at (P:=Tryz.prog) w B 67 ty 9 i0 _ 1 16 Tryz.underlying67 hi hz0 hz1 hz2 rfl (by decide) v n xs hown ad m c (ss.map Value.string) (by rw[Fe,hlen];omega) hnews
   (by intro u hu;obtain⟨x,_,rfl⟩:=EB.1 hu;rfl) (by unfold maxLen;omega) (by omega) hB
  exact⟨v',w',h1,h2,h3⟩
theorem iW{ops:Array Oper}{rest:List Oper}{o:Oper}{a:Act}{Q:Exit->Act->World->Prop}(hgd:o.guard=none)(s x:Operand)(ho:o.op= .call {callee:= .builtin .append,args:= #[s,x],argTypes:= #[67,67]})
 (B:Nat) (v:Value) (n:Nat) (xs:List Value) (hs:a.eval s=v) (hown:w.ownsRow B 9 1 v n xs) (A:Option Addr) (m c B2:Nat) (ss:List ByteArray) (hx:a.eval x= .slice A m c) (hsl:Strs w B2 A m ss) (hn:n<=1000000) (hm:m<=1000000) (hB:B<=w.heap.size)
 (h:∀v' w',w'.ownsRow B 9 1 v' (n+m) (xs++ss.map Value.string)->w.grownBy w' v.ownBlock->wpList Tryz.prog ops Q rest (a.put o.dst v') w'):wpList Tryz.prog ops Q (o::rest) a w:=by
 refine wpList_plain hgd λK hK=>?_;obtain⟨v',w',hr,h2,h3⟩:=lq w o.type B v n xs hown A m c B2 ss hsl hn hm hB;unfold Oper.wp execOp;simp only[ho,resolve,invoke,builtin,Fg,Fh,EM,List.map_toArray,EE,FV,hs,hx,hr];exact hK _ _ (h v' w' h2 h3)
theorem uO(f:α->List β){l:List α}{k:Nat}{x:α}(h:l[k]?=some x):(l.take (k+1)).flatMap f=(l.take k).flatMap f++f x:=by
 rw[EQ,h,EX];simp
theorem vh(h1:d.args.length<=1000)(h2:d.surv.length<=1000)(p:PD):(dp d p).length<=1000:=by
 cases p<;>simp[dp]<;>omega
theorem mQ{d:Ad}(h1:d.args.length<=1000)(h2:d.surv.length<=1000):∀ps:List PD,(ps.flatMap (dp d)).length<=1000*ps.length
 |[]=>by simp
 |p::ps=>by
  have:=mQ h1 h2 ps;have:=vh h1 h2 p;simp only[Ez,DJ,DL];omega
theorem vg(hw:WfA d)(h1:d.nm.size<=1000)(h2:d.mt.size<=1000)(p:PD):∀x∈dp d p,x.data.toList.length<=1000:=by
 have hI:∀z,I64 z->(du z).data.toList.length<=1000:=λz hz=>by
  have:=dN hz;show(Lib.itoa z).length<=1000;omega
 intro x hx;cases p with
 |numA=>simp only[dp,DY,DX,Ew]at hx;subst hx;exact hI _ hw.a
 |numB=>simp only[dp,DY,DX,Ew]at hx;subst hx;exact hI _ hw.b
 |nam=>simp only[dp,DY,DX,Ew]at hx;subst hx;exact h1
 |met=>simp only[dp,DY,DX,Ew]at hx;subst hx;exact h2
 |surv=>
  obtain⟨z,hz,rfl⟩:=EB.1 hx;exact hI _ (hw.surv z hz)
 |rest=>
  obtain⟨z,hz,rfl⟩:=EB.1 hx;exact hI _ (hw.args z hz)
theorem tj:∀ws:List (List UInt8),(∀x∈ws,x.length<=1000)->Lib.lens ws<=1000*ws.length
 |[],_=>by simp[Lib.lens]
 |x::ws,h=>by
  have h1:=tj ws λy hy=>h y (by simp[hy]);have h2:=h x (by simp);simp only[Lib.lens,EE,List.sum_cons,DL]at h1⊢;omega
theorem rX(h:au[i]?=some fd):fd.word.data.toList.length<=1000:=by
 have hm:=DW h;unfold au at hm;simp only[DY,DX,Ew]at hm;rcases hm with rfl|rfl|rfl|rfl|rfl|rfl|rfl|rfl|rfl|rfl|rfl|rfl|rfl|rfl|rfl|rfl<;>decide
theorem qY(hf:au[i]?=some f)(hw:WfA d)(h1:d.nm.size<=1000)(h2:d.mt.size<=1000)(h3:d.args.length<=1000)(h4:d.surv.length<=1000):
 (Lib.join (bJ (eg d f)) [32]).length<=100000000:=by
 have h5:=mQ h3 h4 f.pds;have h6:=iF hf;unfold bJ eg;rw[EE,Lib.join_length]
 have h7:=tj (f.word.data.toList::(f.pds.flatMap (dp d)).map (·.data.toList)) (by
  intro x hx;rcases DY.1 hx with rfl|hx
  ·exact rX hf
  ·obtain⟨y,hy,rfl⟩:=EB.1 hx;obtain⟨p,_,hp⟩:=List.mem_flatMap.1 hy;exact vg hw h1 h2 p y hp)
 simp only[DL,Fe,DO]at h7⊢;omega
def lS(d:Ad)(f:FD)(k:Nat):List ByteArray:=f.word::(f.pds.take k).flatMap (dp d)
theorem nz(h1:d.args.length<=1000)(h2:d.surv.length<=1000)(f:FD)(k:Nat)(hk:k<=4):(lS d f k).length<=10000:=by
 have:=mQ h1 h2 (f.pds.take k);have h3:=List.length_take_le k f.pds;unfold lS;rw[DL];omega
theorem fO{k:Int}(h:dG k=some f):au[k.toNat]?=some f:=by
 obtain⟨h0,h1⟩:=fP h;obtain⟨q,rfl⟩:=Ei h0;rw[eJ (by omega)]at h;exact h
theorem oK(v:Av)(d:Ad)(w:World)(h:Reads w w.heap.size v d)(hg:Gl w)(hn:v.n<=1000)(hn2:v.n2<=1000)(hnm:v.nm.size<=1000)(hmt:v.mt.size<=1000)(hw:WfA d):
 Calls Tryz.prog 17 #[.agg v.cells] w λe w'=>e= .returned (.string ⟨(dO d).toArray⟩)/\Below w.heap.size w w':=by
 have hq0:=Blk.new w 48 v.cells;have hb0:Below w.heap.size w (w.alloc (.cells v.cells 48)):=(DN _ _).alloc (DK _) _;unfold Av.cells at hq0 hb0⊢;have HR:=H_ h;have HG:=H_ hg;have HW:=H_ hw;clear h hg hw;go_enter Tryz.func17,Tryz.ntmps17;go_upto_region 1 with fail;generalize w.alloc (.cells #[.int .i64 v.k,.int .i64 v.a,.int .i64 v.b,.string v.nm,.string v.mt,.slice v.A v.n v.c,.slice v.A2 v.n2 v.c2] 48)=W0 at hq0 hb0⊢;have hlt0:=hq0.lt;have zb0:=hb0.size;obtain⟨L,hL⟩:=nm_ (w.heap.size);rw[hL]at hq0 hlt0⊢;have HL:=H_ hL;have QL:=H_ hq0;have B0:=H_ hb0;clear hL hq0 hb0;obtain⟨c0,c1,c2,c3,c4,c5,c6⟩:=QL.out.c7;have HR0:=H_ ((HR.out.below B0.out).more B0.out.size);have HC:=H_ (mM v d W0 HR0.out (HG.out.below B0.out) (by omega) (by omega));go_wp2_with fail;refine HC.out.mono ?_;rintro e w1 ⟨fk,fw,fA,fn,fc,rfl,b1,hf⟩;have QL1:=H_ (QL.out.below b1 hlt0);have B1:=H_ (B0.out.trans (b1.mono zb0));have hs1:=b1.size;clear HC QL B0 b1 c0 c1 c2 c3 c4 c5 c6;cases hok:okD d with
 |false=>
  have HF:Hid ((dO d)=[]):=H_ (by unfold dO;rw[<-eC,hok];rfl);clear hf hok;go_wp2_with fail;go_ret;exact⟨by rw[HF.out];rfl,B1.out.alloc B1.out.size _⟩
 |true=>
  obtain⟨f,g,hf1,rfl,rfl,rfl,rfl,rfl,hp⟩:=hf hok;have HF:=H_ hf1;have HP:=H_ hp;have HOK:=H_ hok;clear hf hf1 hp hok;go_upto_region 5 with fail;obtain⟨w2,hw2⟩:=nm_ (w1.alloc (.cells #[.int .i64 f.k,.string f.word,.slice (some ⟨g,0,none⟩) f.pds.length f.pds.length] 92));have b2:=bal hw2;have hs2:w2.heap.size=w1.heap.size+1:=by rw[<-hw2];simp
  have hqf:=hw2▸Blk.new w1 92 #[.int .i64 f.k,.string f.word,.slice (some ⟨g,0,none⟩) f.pds.length f.pds.length];rw[hw2]
  have hown:(w2.alloc (.cells #[.string f.word] 9)).ownsRow w2.heap.size 9 1 (.slice (some ⟨w2.heap.size,0,none⟩) 1 1) 1 [.string f.word]:=
   ⟨rfl,.inr ⟨w2.heap.size,1,#[.string f.word],rfl,DK _,Blk.new w2 9 _,DK _,by unfold maxLen;omega,rfl,rfl⟩⟩
  have b3:Below w2.heap.size w2 (w2.alloc (.cells #[.string f.word] 9)):=(DN _ _).alloc (DK _) _;rw[<-hs2];generalize w2.alloc (.cells #[.string f.word] 9)=w3 at hown b3⊢;have QF:=H_ (Blk.below hqf b3 (by omega));have e2:=QF.out.k2;have OWN:=H_ hown;have B3:=H_ b3;have B2:=htm B1 b2;have HP2:=H_ ((HP.out.below b2).more b2.size);have QL2:=hbl QL1 b2;have hfew:=iF (fO HF.out);have HS2:=H_ hs2;clear hw2 hqf hown b2 b3 QL1 HP hs2;go_wp2_with fail;go_loopw [5,21] (λu i wr=>∃k:Nat,k<=f.pds.length/\i= .int .i64 k/\Hid (wr.ownsRow w2.heap.size 9 1 u (lS d f k).length ((lS d f k).map Value.string))/\Hid (Below w2.heap.size w2 wr)) (λ_ i _=>f.pds.length-(intOf i).toNat)
  case atStart=>exact⟨0,Ea _,rfl,OWN,B3⟩
  case round=>
   clear e2 OWN B3;obtain⟨k,hk,rfl,HO,HB⟩:=hrel;by_cases hlt:k<f.pds.length
   ·obtain⟨pd,a,b,c,dd,hpd,hpv,a0,a1,a2,a3⟩:=(HP2.out.below HB.out).at_ hlt;obtain⟨n1,x1,n2,x2,n3,x3,n4,x4,rfl,rfl,rfl,rfl⟩:=hpv.funcs;have hk0:0<=(k:Int):=by omega
    have hk1:(k:Int)<(f.pds.length:Int):=by omega
    have HPD:=H_ hpd;have HPV:=H_ hpv;clear hpd hpv;go_upto_region 8 with fail;have b5:Below wr.heap.size wr (wr.alloc (.cells #[.func (.func n1) #[] x1,.func (.func n2) #[] x2,.func (.func n3) #[] x3,.func (.func n4) #[] x4] 99)):=(DN _ _).alloc (DK _) _;have hn5:=Blk.new wr 99 #[.func (.func n1) #[] x1,.func (.func n2) #[] x2,.func (.func n3) #[] x3,.func (.func n4) #[] x4];generalize wr.alloc (.cells #[.func (.func n1) #[] x1,.func (.func n2) #[] x2,.func (.func n3) #[] x3,.func (.func n4) #[] x4] 99)=w5 at b5 hn5⊢;have HB5:=htr HB b5;have HO5:=H_ (dY HO.out b5);have HPV5:=H_ (HPV.out.below (b5.mono HB.out.size));have QL5:=H_ (QL2.out.below HB5.out QL2.out.lt);have B25:=H_ (B2.out.trans (HB5.out.mono B2.out.size));have hN5:=hn5.lt;generalize wr.heap.size=N at hn5 hN5⊢;clear a0 a1 a2 a3 b5 HB HO HPV;obtain⟨c0,c1,c2,c3,c4,c5,c6⟩:=QL5.out.c7;have a1:=hn5.k1;clear hn5;have hrun:=rB HPV5.out v d ((HR.out.below B25.out).more B25.out.size) HW.out (HG.out.below B25.out) (by omega) (by omega);have hent:=hrun.enters;have HC:=H_ hrun.calls;clear hrun;have hal:d.args.length<=1000:=by rw[HR.out.args.len];exact hn
    have hsl:d.surv.length<=1000:=by rw[HR.out.surv.len];exact hn2
    have hz2:=HB5.out.size;go_wp2_with fail;refine HC.out.mono ?_;rintro e w6 ⟨A,c,rfl,hws,b6⟩;have hz3:=b6.size;have HO6:=H_ (dY HO5.out b6);have HB6:=htr HB5 b6;have HWS:=H_ hws;have hft:=nz hal hsl f k (by omega);have hwf:=vh hal hsl pd;clear b6 hws HO5 HB5 c0 c1 c2 c3 c4 c5 c6 a1 HC hent QL5 B25;go_wp2_with (at_builtin;refine iW rfl (.tmp 25) (.tmp 29) rfl w2.heap.size _ _ _ rfl HO6.out A (dp d pd).length c _ (dp d pd) rfl HWS.out (by omega) (by omega) (by omega) ?_);intro u' w7 hown7 hgrow;have HO7:=H_ hown7;have HB7:=H_ (HB6.out.grown hgrow (by omega) (λr hr=>(HO6.out.lt r hr).1));clear hown7 hgrow HO6 HB6;go_wp2_with fail;go_roundw
    case rel=>
     refine⟨k+1,by omega,by go_num,?_,HB7⟩;have:=HO7.out;unfold lS at this⊢;rw[uO (dp d) HPD.out,<-EK,DJ,FQ];exact H_ this
    case measure=>simp[intOf];omega
   ·obtain rfl:k=f.pds.length:=by omega
    have htx:lS d f f.pds.length=eg d f:=by unfold lS eg;rw[DP (DK _)]
    rw[htx]at HO
    obtain⟨bk,cap,hu,hcap,hbk,hcells⟩:∃bk cap,u5= .slice (some ⟨bk,0,none⟩) (eg d f).length cap/\(eg d f).length<=cap/\bk<wr.heap.size/\∀(j:Nat) x,(eg d f)[j]?=some x->wr.cell? ⟨bk,0+j,none⟩=some (.string x):=by
     rcases HO.out.2 with⟨_,h0⟩|⟨bk,cap,cur,hu,_,_,hcap,_⟩
     ·exact absurd h0 (by unfold eg;simp)
     ·subst hu;refine⟨bk,cap,rfl,hcap,(HO.out.lt bk rfl).2,λj x hx=>?_⟩;have:=HO.out.cells (g:=bk) rfl j (.string x) (by rw[Eu,hx];rfl);rwa[dh]at this
    subst hu;have hjl:=qY (fO HF.out) HW.out (by rw[<-HR.out.nm];exact hnm) (by rw[<-HR.out.mt];exact hmt) (by rw[HR.out.args.len];exact hn) (by rw[HR.out.surv.len];exact hn2);have hft:=nz (d:=d) (by rw[HR.out.args.len];exact hn) (by rw[HR.out.surv.len];exact hn2) f f.pds.length (by omega);rw[htx]at hft;have hjoin:=Tryz.strings_Join bk 0 cap (eg d f) ⟨#[32]⟩ wr hcells hbk (by omega) hcap (by exact Ek hjl (by decide))
    have hres:Lib.join ((eg d f).map (·.data.toList)) [32]=dO d:=lR d f HF.out (by
     have:=HOK.out;unfold okD at this;rw[HF.out]at this;exact this)
    have hjoin':Calls Tryz.prog 44 #[.slice (some ⟨bk,0,none⟩) (eg d f).length cap,.string ⟨#[32]⟩] wr λe w'=>e= .returned (.string ⟨(dO d).toArray⟩)/\Below wr.heap.size wr w':=by
     rw[<-hres];exact hjoin
    have HJ:=H_ hjoin';clear hjoin hjoin' hres hcells hjl htx hft;generalize(eg d f).length=tl at*
    go_wp2_with fail;refine HJ.out.mono ?_;rintro e w8 ⟨rfl,b8⟩;have HB8:=H_ (B2.out.trans ((HB.out.trans (b8.mono HB.out.size)).mono B2.out.size));clear b8;go_wp2_with fail;go_ret;exact⟨rfl,HB8.out⟩
end
end Go.Proofs.YtjpbckbpeblibaaGreatDoor
