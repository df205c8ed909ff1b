/- part of a proof -/
import Derived.Test.YtjpbckbpeblibaaGreatDoorK22
namespace Go.Proofs.YtjpbckbpeblibaaGreatDoor
set_option linter.unusedVariables false
set_option linter.unusedSimpArgs false
set_option maxRecDepth 100000
set_option maxHeartbeats 64000000
section
open Go.RowKit
variable{base i n:Nat}{p:Ph}{s:ByteArray}{v:Value}{w:World}{x x':Sc}
theorem pC:∀(n:Nat) (x:Ex) (v:Value) (w:World) (G:Nat->Prop),esz x<=n->ExV w G x v->(∀b,G b->b<w.heap.size)->esz x<=100000->
 Calls Tryz.prog 225 #[v] w λe w'=>e= .returned (.int .i64 (esz x:Nat))/\Below w.heap.size w w':=by
 intro n;induction n with
 |zero=>intro x v w G hn;have:=dw x;omega
 |succ n ih=>
  intro x v w G hn hv hG hb;obtain⟨xk,xo,xz,xn,xa,args⟩:=x;obtain⟨cs,rfl,hv⟩:=hv;obtain⟨A,m,c,rfl,hs⟩:=ExC.inv hv;rw[fU]at hn hb⊢;have hm:=hs.1;have hml:=gA args;have HIH:=H_ ih;have HG:=H_ hG;obtain⟨p,hp⟩:=nm_ (w.heap.size);obtain⟨w0,hw0⟩:=nm_ (w.alloc (.cells #[.int .i64 xk,.int .i64 xo,.int .i64 xz,.string xn,.bool xa,.slice A m c] 172));have Q0:=hng hw0 hp;have B0:=H_ (show Below p w w0 from hw0▸hp▸(AC _ _).alloc (AB _) _);have hs0:w0.heap.size=p+1:=by rw[<-hw0,<-hp];simp
  have HS:=H_ (hs.aA (G':=G) (w':=w0) (λb hb'=>⟨hb',B0.out.block b (by have:=HG.out b hb';omega)⟩));clear hs ih hG hv;go_enter Tryz.func225,Tryz.ntmps225;go_upto_region 1 with fail;clear hw0;go_wp2_with fail;go_loopw [3,4] (λu i wr=>∃k:Nat,k<=m/\i= .int .i64 k/\u= .int .i64 ((1+lsz esz (args.take k):Nat):Int)/\Hid (Below w0.heap.size w0 wr)) (λ_ i _=>m-(intOf i).toNat)
  case atStart=>exact⟨0,AM _,rfl,by simp[lsz],H_ (AC _ _)⟩
  case round=>
   obtain⟨k,hk,rfl,rfl,HB⟩:=hrel;have hle:=aT esz args k;have q5:=(Q0.out.below HB.out (by omega)).k5;by_cases hkm:k<m
   ·have hkz:(k:Int)<(m:Int):=by omega
    have hS2:=HS.out.aA (G':=G) (w':=wr) (λb hb'=>⟨hb',HB.out.block b (by have:=HG.out b hb';omega)⟩);obtain⟨b,off,x,cs,rfl,hgb,hx,hrd,hat⟩:=hS2.at_ hkm;obtain⟨yk,yo,yz,yn,ya,args2⟩:=x;obtain⟨A2,n2,c2,rfl,hsa⟩:=ExC.inv hrd;have hsz:=d9 esz hx;have htk:=dr esz args hx;have hle2:=aT esz args (k+1);have d0:wr.cell? ⟨b,off+k*6,none⟩=some (.int .i64 yk):=by have:=hat 0 _ rfl;rwa[show kEx.sz=6 from rfl,AQ]at this
    have d1:wr.cell? ⟨b,off+k*6+1,none⟩=some (.int .i64 yo):=by have:=hat 1 _ rfl;rwa[show kEx.sz=6 from rfl,AQ]at this
    have d2:wr.cell? ⟨b,off+k*6+2,none⟩=some (.int .i64 yz):=by have:=hat 2 _ rfl;rwa[show kEx.sz=6 from rfl,AQ]at this
    have d3:wr.cell? ⟨b,off+k*6+3,none⟩=some (.string yn):=by have:=hat 3 _ rfl;rwa[show kEx.sz=6 from rfl,AQ]at this
    have d4:wr.cell? ⟨b,off+k*6+4,none⟩=some (.bool ya):=by have:=hat 4 _ rfl;rwa[show kEx.sz=6 from rfl,AQ]at this
    have d5:wr.cell? ⟨b,off+k*6+5,none⟩=some (.slice A2 n2 c2):=by have:=hat 5 _ rfl;rwa[show kEx.sz=6 from rfl,AQ]at this
    have hbb:=HB.out.size;have HC:=H_ (HIH.out (.mk yk yo yz yn ya args2) (.agg #[.int .i64 yk,.int .i64 yo,.int .i64 yz,.string yn,.bool ya,.slice A2 n2 c2]) wr G (by omega) ⟨_,rfl,hrd⟩ (λq hq=>by have:=HG.out q hq;omega) (by omega));obtain⟨sz,hszz⟩:=nm_ (esz (.mk yk yo yz yn ya args2));rw[hszz]at HC htk hsz;clear hat hrd hsa hS2;go_wp2_with fail;refine HC.out.mono ?_;rintro e w1 ⟨rfl,b1⟩;have B1:=H_ (HB.out.trans (b1.mono hbb));clear b1 HB;go_wp2_with fail;go_roundw
    case rel=>exact⟨k+1,by omega,by go_num,by rw[htk];go_num,B1⟩
    case measure=>simp[intOf];omega
   ·obtain rfl:k=m:=by omega
    go_wp2_with fail;go_ret;have ht:args.take k=args:=AK (by omega);rw[ht];exact⟨rfl,hp▸B0.out.trans (HB.out.mono (by omega))⟩
theorem oB:∀(n:Nat) (xs:List St) (A:Option Addr) (m c:Nat) (w:World) (G:Nat->Prop),lsz ssz xs<=n->Sl kSt w G xs A m->(∀b,G b->b<w.heap.size)->lsz ssz xs<=100000->
 Calls Tryz.prog 146 #[.slice A m c] w λe w'=>e= .returned (.int .i64 (lsz ssz xs:Nat))/\Below w.heap.size w w':=by
 intro n;induction n with
 |zero=>
  intro xs A m c w G hn hs hG hb;have h0:=fD xs;have hx:xs=[]:=Bc (by omega);subst hx;obtain rfl:m=0:=hs.1.symm;go_enter Tryz.func146,Tryz.ntmps146;go_wp2_with fail;refine D7 1 ?_;rw[Dg];go_wp2_with fail;go_ret;exact⟨rfl,AC _ _⟩
 |succ n ih=>
  intro xs A m c w G hn hs hG hb;have h0:=fD xs;have hm:=hs.1;have HS:=H_ hs;have HIH:=H_ ih;have HG:=H_ hG;clear hs ih hG;go_enter Tryz.func146,Tryz.ntmps146;go_wp2_with fail;go_loopw [3,4] (λu i wr=>∃k:Nat,k<=m/\i= .int .i64 k/\u= .int .i64 ((m+lsz eD (xs.take k):Nat):Int)/\Hid (Below w.heap.size w wr)) (λ_ i _=>m-(intOf i).toNat)
  case atStart=>exact⟨0,AM _,rfl,by simp[lsz],H_ (AC _ _)⟩
  case round=>
   obtain⟨k,hk,rfl,rfl,HB⟩:=hrel;have hle:=aT eD xs k;by_cases hkm:k<m
   ·have hkz:(k:Int)<(m:Int):=by omega
    have hS2:=HS.out.aA (G':=G) (w':=wr) (λb hb'=>⟨hb',HB.out.block b (HG.out b hb')⟩);obtain⟨b,off,x,cs,rfl,hgb,hx,hrd,hat⟩:=hS2.at_ hkm;obtain⟨xk,xn,xe,xb,xl⟩:=x;obtain⟨A2,n2,c2,A3,n3,c3,A4,n4,c4,rfl,hse,hsb,hsl⟩:=StC.inv hrd;have hsz:=d9 ssz hx;rw[gu]at hsz;have htk:=dr eD xs hx;have hsub:eD (.mk xk xn xe xb xl)=lsz esz xe+lsz ssz xb+lsz ssz xl:=by unfold eD;rw[gu];omega
    rw[hsub]at htk;have hle2:=aT eD xs (k+1)
    have HD:=H_ (show wr.cell? ⟨b,off+k*5+2,none⟩=some (.slice A2 n2 c2)/\wr.cell? ⟨b,off+k*5+3,none⟩=some (.slice A3 n3 c3)/\wr.cell? ⟨b,off+k*5+4,none⟩=some (.slice A4 n4 c4)from
     ⟨by have:=hat 2 _ rfl;rwa[show kSt.sz=5 from rfl,AQ]at this,by have:=hat 3 _ rfl;rwa[show kSt.sz=5 from rfl,AQ]at this,by have:=hat 4 _ rfl;rwa[show kSt.sz=5 from rfl,AQ]at this⟩)
    have hbb:=HB.out.size;have hbl:b<wr.heap.size:=by have:=HG.out b hgb;omega
    have hne2:=hse.1;have hml:=gA xe;have HSE:=H_ hse;have HSB:=H_ hsb;have HSL:=H_ hsl;have HGr:=H_ (show∀q,G q->q<wr.heap.size from λq hq=>by have:=HG.out q hq;omega);obtain⟨v0,hv0⟩:∃v,lsz eD (xs.take k)=v:=⟨_,rfl⟩;rw[hv0]at htk hle⊢;have HHX:=H_ hx;clear hat hrd hse hsb hsl hS2 hx;obtain⟨wa,rfl⟩:∃wa,wa=wr:=⟨_,rfl⟩;go_wp2_with fail;go_loopw [3,5] (λu i wr2=>∃r:Nat,r<=n2/\i= .int .i64 r/\u= .int .i64 ((m+v0+lsz esz (xe.take r):Nat):Int)/\Hid (Below wa.heap.size wa wr2)) (λ_ i _=>n2-(intOf i).toNat)
    case atStart=>exact⟨0,AM _,rfl,by simp[lsz],H_ (AC _ _)⟩
    case round=>
     obtain⟨r,hr,rfl,rfl,HBi⟩:=hrel;have hler:=aT esz xe r;have hbi:=HBi.out.size;have d2:=(a8 HBi.out hbl _).trans HD.out.1;by_cases hrm:r<n2
     ·have hrz:(r:Int)<(n2:Int):=by omega
      have hS3:=HSE.out.aA (G':=G) (w':=wr) (λb hb'=>⟨hb',HBi.out.block b (HGr.out b hb')⟩);obtain⟨b',off',x',cs',rfl,hgb',hx',hrd',hat'⟩:=hS3.at_ hrm;obtain⟨yk,yo,yz,yn,ya,args2⟩:=x';obtain⟨A5,n5,c5,rfl,hsa⟩:=ExC.inv hrd';have hszy:=d9 esz hx';have htk':=dr esz xe hx';have hle2':=aT esz xe (r+1);have e0:wr.cell? ⟨b',off'+r*6,none⟩=some (.int .i64 yk):=by have:=hat' 0 _ rfl;rwa[show kEx.sz=6 from rfl,AQ]at this
      have e1:wr.cell? ⟨b',off'+r*6+1,none⟩=some (.int .i64 yo):=by have:=hat' 1 _ rfl;rwa[show kEx.sz=6 from rfl,AQ]at this
      have e2:wr.cell? ⟨b',off'+r*6+2,none⟩=some (.int .i64 yz):=by have:=hat' 2 _ rfl;rwa[show kEx.sz=6 from rfl,AQ]at this
      have e3:wr.cell? ⟨b',off'+r*6+3,none⟩=some (.string yn):=by have:=hat' 3 _ rfl;rwa[show kEx.sz=6 from rfl,AQ]at this
      have e4:wr.cell? ⟨b',off'+r*6+4,none⟩=some (.bool ya):=by have:=hat' 4 _ rfl;rwa[show kEx.sz=6 from rfl,AQ]at this
      have e5:wr.cell? ⟨b',off'+r*6+5,none⟩=some (.slice A5 n5 c5):=by have:=hat' 5 _ rfl;rwa[show kEx.sz=6 from rfl,AQ]at this
      have HC:=H_ (pC _ (.mk yk yo yz yn ya args2) (.agg #[.int .i64 yk,.int .i64 yo,.int .i64 yz,.string yn,.bool ya,.slice A5 n5 c5]) wr G (AB _) ⟨_,rfl,hrd'⟩ (λq hq=>by have:=HGr.out q hq;omega) (by omega));obtain⟨sz,hszz⟩:=nm_ (esz (.mk yk yo yz yn ya args2));rw[hszz]at HC htk' hszy;clear hat' hrd' hsa hS3;go_wp2_with fail;refine HC.out.mono ?_;rintro e w1 ⟨rfl,b1⟩;have B1:=H_ (HBi.out.trans (b1.mono hbi));clear b1 HBi;go_wp2_with fail;go_roundw
      case rel=>exact⟨r+1,by omega,by go_num,by rw[htk'];go_num,B1⟩
      case measure=>simp[intOf];omega
     ·obtain rfl:r=n2:=by omega
      have ht2:xe.take r=xe:=AK (by omega);rw[ht2];obtain⟨TT,f,hne,hf,hcov⟩:=aX wr.heap.size wr;have hGf:∀y q,G q->G q/\(f y).heap[q]?=wa.heap[q]?:=λy q hq=>⟨hq,((hf y).block q (by have:=HGr.out q hq;omega)).trans (HBi.out.block q (HGr.out q hq))⟩;have hGs:∀y q,G q->q<(f y).heap.size:=λy q hq=>by have:=HGr.out q hq;have:=(hf y).size;omega
      have C2:=H_ (show∀y,Calls Tryz.prog 146 #[.slice A3 n3 c3] (f y) (λe w''=>e= .returned (.int .i64 (lsz ssz xb:Nat))/\∃z,w''=f z)from λy=>
       (HIH.out xb A3 n3 c3 (f y) G (by omega) (HSB.out.aA (hGf y)) (hGs y) (by omega)).mono λe w'' ⟨h1,h2⟩=>⟨h1,hcov _ ((hf y).trans (h2.mono (hf y).size))⟩)
      have C3:=H_ (show∀y,Calls Tryz.prog 146 #[.slice A4 n4 c4] (f y) (λe w''=>e= .returned (.int .i64 (lsz ssz xl:Nat))/\∃z,w''=f z)from λy=>
       (HIH.out xl A4 n4 c4 (f y) G (by omega) (HSL.out.aA (hGf y)) (hGs y) (by omega)).mono λe w'' ⟨h1,h2⟩=>⟨h1,hcov _ ((hf y).trans (h2.mono (hf y).size))⟩)
      have e3:=λy=>(a8 (hf y) (by omega) _).trans ((a8 HBi.out hbl _).trans HD.out.2.1);have e4:=λy=>(a8 (hf y) (by omega) _).trans ((a8 HBi.out hbl _).trans HD.out.2.2);have HF:=H_ (λy=>show Below w.heap.size w (f y)from(HB.out.trans (HBi.out.mono hbb)).trans ((hf y).mono (by omega)));have HCOV:=H_ hcov;obtain⟨v1,hv1⟩:∃v,lsz esz xe=v:=⟨_,rfl⟩;obtain⟨v2,hv2⟩:∃v,lsz ssz xb=v:=⟨_,rfl⟩;obtain⟨v3,hv3⟩:∃v,lsz ssz xl=v:=⟨_,rfl⟩;rw[hv1]at htk hsz⊢;rw[hv2]at C2 htk hsz;rw[hv3]at C3 htk hsz;clear hf hcov hGf hGs HBi HB;go_upto_region 9 with fail;clear d2;refine ah f (by kernel_rfl) (by kernel_rfl) (HCOV.out _ (AC _ _).drew) ?_;repeat (go_big_quiet_step (first|(go_at_call_of 146 (Value.slice A3 n3 c3);exact C2.out _)|(go_at_call_of 146 (Value.slice A4 n4 c4);exact C3.out _)))
      refine BL ?_;rintro _ ⟨y,rfl⟩;go_wp2_with fail;go_roundw
      case rel=>exact⟨k+1,by omega,by go_num,by rw[htk];go_num,H_ (HF.out y)⟩
      case measure=>simp[intOf];omega
   ·obtain rfl:k=m:=by omega
    go_wp2_with fail;go_ret;have ht:xs.take k=xs:=AK (by omega);rw[ht,<-h0,hm];exact⟨rfl,HB.out⟩
theorem yJ(xs:List Cl)(A:Option Addr)(m c:Nat)(w:World)(G:Nat->Prop)(hs:Sl kCl w G xs A m)(hG:∀b,G b->b<w.heap.size)(hb:lsz csz xs<=100000):
 Calls Tryz.prog 93 #[.agg #[.slice A m c]] w λe w'=>e= .returned (.int .i64 (lsz csz xs:Nat))/\Below w.heap.size w w':=by
 have h0:=gB csz dg (λx=>by unfold csz dg;omega) xs;have hm:=hs.1;have HS:=H_ hs;have HG:=H_ hG;clear hs hG;obtain⟨p,hp⟩:=nm_ (w.heap.size);obtain⟨w0,hw0⟩:=nm_ (w.alloc (.cells #[.slice A m c] 28));have Q0:=hng hw0 hp;have B0:=H_ (show Below p w w0 from hw0▸hp▸(AC _ _).alloc (AB _) _);have hs0:w0.heap.size=p+1:=by rw[<-hw0,<-hp];simp
 have q0:=Q0.out.k0;go_enter Tryz.func93,Tryz.ntmps93;go_wp2_with fail;go_loopw [3,4] (λu i wr=>∃k:Nat,k<=m/\i= .int .i64 k/\u= .int .i64 ((m+lsz dg (xs.take k):Nat):Int)/\Hid (Below w0.heap.size w0 wr)) (λ_ i _=>m-(intOf i).toNat)
 case atStart=>exact⟨0,AM _,rfl,by simp[lsz],H_ (AC _ _)⟩
 case round=>
  obtain⟨k,hk,rfl,rfl,HB⟩:=hrel;have hle:=aT dg xs k;have qr:=(Q0.out.below HB.out (by omega)).k0;by_cases hkm:k<m
  ·have hkz:(k:Int)<(m:Int):=by omega
   have hBw:=B0.out.trans (HB.out.mono (by omega));have hS2:=HS.out.aA (G':=G) (w':=wr) (λb hb'=>⟨hb',hBw.block b (by have:=HG.out b hb';omega)⟩);obtain⟨b,off,x,cs,rfl,hgb,hx,hrd,hat⟩:=hS2.at_ hkm;obtain⟨A2,n2,c2,A3,n3,c3,rfl,hsf,hsm⟩:=hrd;have hsz:=d9 csz hx;have hcx:csz x=1+dg x:=by unfold csz dg;omega
   have htk:=dr dg xs hx;have hle2:=aT dg xs (k+1);have hf:=hsf.1;have hmm:=hsm.1;have hm0:=gB msz dz (λx=>by unfold msz dz;omega) x.methods;have hsx:dg x=n2+lsz msz x.methods:=by unfold dg;rw[hf]
   have hbb:=HB.out.size;have hbl:b<wr.heap.size:=by have:=HG.out b hgb;have:=hBw.size;omega
   have hpl:p<wr.heap.size:=by omega
   have HD:=H_ (show wr.cell? ⟨b,off+k*4+2,none⟩=some (.slice A2 n2 c2)/\wr.cell? ⟨b,off+k*4+3,none⟩=some (.slice A3 n3 c3)from
    ⟨by have:=hat 2 _ rfl;rwa[show kCl.sz=4 from rfl,AQ]at this,by have:=hat 3 _ rfl;rwa[show kCl.sz=4 from rfl,AQ]at this⟩)
   have HSM:=H_ hsm;have HBW:=H_ hBw;have HQ:=H_ (Q0.out.below HB.out (by omega));have HX:=H_ hx;obtain⟨v0,hv0⟩:∃v,lsz dg (xs.take k)=v:=⟨_,rfl⟩;rw[hv0]at htk hle⊢;obtain⟨TT,f,hne,hf',hcov⟩:=aX wr.heap.size wr;have e0:=λy=>(HQ.out.below (hf' y) hpl).k0;have e2:=λy=>(a8 (hf' y) hbl _).trans HD.out.1;have e3:=λy=>(a8 (hf' y) hbl _).trans HD.out.2;have HCOV:=H_ hcov;have HF:=H_ hf';clear hat hS2 hsf hsm hBw hx hcov hf';go_upto_region 5 with fail;refine ah f (by kernel_rfl) (by kernel_rfl) (HCOV.out _ (AC _ _).drew) ?_;repeat (go_big_quiet_step (fail))
   refine BL ?_;rintro _ ⟨y,rfl⟩;have bfy:=H_ (HF.out y);generalize f y=wa at*
   clear e0 e2 e3 HF HCOV qr;have hsa:=bfy.out.size;have HSM1:=H_ (HSM.out.aA (G':=G) (w':=wa) (λq hq=>⟨hq,bfy.out.block q (by have:=HG.out q hq;omega)⟩));go_wp2_with fail;go_loopw [3,5] (λu i wr2=>∃r:Nat,r<=n3/\i= .int .i64 r/\u= .int .i64 ((m+v0+(n2+n3)+lsz dz (x.methods.take r):Nat):Int)/\Hid (Below wa.heap.size wa wr2)) (λ_ i _=>n3-(intOf i).toNat)
   case atStart=>exact⟨0,AM _,rfl,by simp[lsz]<;>go_num,H_ (AC _ _)⟩
   case round=>
    obtain⟨r,hr,rfl,rfl,HBi⟩:=hrel;have hler:=aT dz x.methods r;have hbi:=HBi.out.size;have q2:=((HQ.out.below bfy.out hpl).below HBi.out (by omega)).k0;have d3:=(a8 HBi.out (by omega) _).trans ((a8 bfy.out hbl _).trans HD.out.2);by_cases hrm:r<n3
    ·have hrz:(r:Int)<(n3:Int):=by omega
     have hS2:=HSM1.out.aA (G':=G) (w':=wr) (λb hb'=>⟨hb',HBi.out.block b (by have:=HG.out b hb';omega)⟩);obtain⟨b',off',y,ds,rfl,hgb',hy,hrd',hat'⟩:=hS2.at_ hrm;obtain⟨A4,n4,c4,A5,n5,c5,rfl,hsp,hsb⟩:=hrd';have hszy:=d9 msz hy;have hcy:msz y=1+n4+lsz ssz y.body:=by unfold msz;rw[hsp.1]
     have htk':=dr dz x.methods hy;have hle2':=aT dz x.methods (r+1);have hsy:dz y=n4+lsz ssz y.body:=by unfold dz;rw[hsp.1]
     rw[hsy]at htk';have hbl':b'<wr.heap.size:=by have:=HG.out b' hgb';omega
     have d1:wr.cell? ⟨b',off'+r*3+1,none⟩=some (.slice A4 n4 c4):=by have:=hat' 1 _ rfl;rwa[show kMe.sz=3 from rfl,AQ]at this
     have d2:wr.cell? ⟨b',off'+r*3+2,none⟩=some (.slice A5 n5 c5):=by have:=hat' 2 _ rfl;rwa[show kMe.sz=3 from rfl,AQ]at this
     obtain⟨TT,f,hne,hf',hcov⟩:=aX wr.heap.size wr;have hGf:∀z q,G q->G q/\(f z).heap[q]?=wr.heap[q]?:=λz q hq=>⟨hq,by have:=HG.out q hq;exact((hf' z).block q (by omega))⟩;have hGs:∀z q,G q->q<(f z).heap.size:=λz q hq=>by have:=HG.out q hq;have:=(hf' z).size;omega
     have C1:=H_ (show∀z,Calls Tryz.prog 146 #[.slice A5 n5 c5] (f z) (λe w''=>e= .returned (.int .i64 (lsz ssz y.body:Nat))/\∃z',w''=f z')from λz=>
      (oB _ y.body A5 n5 c5 (f z) G (AB _) (hsb.aA (hGf z)) (hGs z) (by omega)).mono λe w'' ⟨h1,h2⟩=>⟨h1,hcov _ ((hf' z).trans (h2.mono (hf' z).size))⟩)
     have c0:=λz=>(a8 (hf' z) (by omega) _).trans q2;have c3':=λz=>(a8 (hf' z) (by omega) _).trans d3;have e1:=λz=>(a8 (hf' z) hbl' _).trans d1;have e2:=λz=>(a8 (hf' z) hbl' _).trans d2;have HF:=H_ (λz=>HBi.out.trans ((hf' z).mono hbi));have HCOV:=H_ hcov;obtain⟨v1,hv1⟩:∃v,lsz ssz y.body=v:=⟨_,rfl⟩;rw[hv1]at C1 htk' hcy;obtain⟨v2,hv2⟩:∃v,lsz dz (x.methods.take r)=v:=⟨_,rfl⟩;rw[hv2]at htk' hler⊢;clear hat' hsp hsb hS2 hf' hcov hGf hGs HBi d1 d2;go_upto_region 9 with fail;clear q2 d3;refine ah f (by kernel_rfl) (by kernel_rfl) (HCOV.out _ (AC _ _).drew) ?_;repeat (go_big_quiet_step ((go_at_call 146;exact C1.out _)))
     refine BL ?_;rintro _ ⟨z,rfl⟩;go_wp2_with fail;go_roundw
     case rel=>exact⟨r+1,by omega,by go_num,by rw[htk'];go_num,H_ (HF.out z)⟩
     case measure=>simp[intOf];omega
    ·obtain rfl:r=n3:=by omega
     have ht:x.methods.take r=x.methods:=AK (by omega);rw[ht];have B3:=H_ ((HB.out.trans (bfy.out.mono hbb)).trans (HBi.out.mono (by omega)));obtain⟨v1,hv1⟩:∃v,lsz dz x.methods=v:=⟨_,rfl⟩;rw[hv1]at hm0⊢;clear HBi;go_wp2_with fail;go_roundw
     case rel=>exact⟨k+1,by omega,by go_num,by rw[htk,hsx,<-hm0,hmm];go_num,B3⟩
     case measure=>simp[intOf];omega
  ·obtain rfl:k=m:=by omega
   go_wp2_with fail;go_ret;have ht:xs.take k=xs:=AK (by omega);rw[ht,<-h0,hm];exact⟨rfl,hp▸B0.out.trans (HB.out.mono (by omega))⟩
def kTk:Kd Tk where
 sz:=4
 pos:=by decide
 rd:=λ_ _ x cs=>cs=tkC x
 len:=λh=>by rw[h];rfl
 one:=λh u hu=>by
  rw[h]at hu;simp[tkC]at hu;rcases hu with rfl|rfl|rfl|rfl<;>rfl
 aA:=λ_ h=>h
theorem yi:iz 4 155 162:=fO (z:= .agg #[.int .i64 0,.string ⟨#[]⟩,.int .i64 0,.int .i64 0]) (bytes:=40) (by kernel_rfl) (by kernel_rfl) rfl (by decide)
theorem pO{Z:Nat->Prop}{ts:List Tk}(h:Vec kTk 162 base Z w v ts):w.ownsRow base 162 4 v ts.length (dj ts):=by
 obtain⟨_,css,h1,h2,h3⟩:=h
 have hc:css=ts.map tkC:=by
  apply List.ext_getElem?;intro j;rw[Bp];rcases BI j ts.length with hj|hj
  ·have hx:ts[j]?=some ts[j]:=AI hj;have hd:css[j]?=some css[j]:=AI (by omega);rw[hx,hd];exact CU some (h3 j _ _ hx hd)
  ·rw[CA (by omega),CA hj];rfl
 rw[hc]at h1;have:dj ts=(ts.map tkC).flatten:=by unfold dj;rw[List.flatMap_def];rfl
 rw[this];exact h1
theorem ft:∀(b:Bool) (l:List UInt8),∃n,an b l=l.drop n
 |b,[]=>⟨0,by cases b<;>rfl⟩
 |true,c::l=>by
  unfold an;split
  ·obtain⟨n,h⟩:=ft false l;exact⟨n+1,h⟩
  ·obtain⟨n,h⟩:=ft true l;exact⟨n+1,h⟩
 |false,c::l=>by
  unfold an;split
  ·obtain⟨n,h⟩:=ft false l;exact⟨n+1,h⟩
  ·split
   ·obtain⟨n,h⟩:=ft true l;exact⟨n+1,h⟩
   ·exact⟨0,rfl⟩
theorem dx:∀(b:Bool) (l:List UInt8),an false (an b l)=an b l
 |b,[]=>by cases b<;>rfl
 |true,c::l=>by
  rw[show an true (c::l)=if c=10 then an false l else an true l from rfl];split
  ·exact dx false l
  ·exact dx true l
 |false,c::l=>by
  rw[show an false (c::l)=if ii c=true then an false l else if c=35 then an true l else c::l from rfl];split
  ·exact dx false l
  ·rename_i h1;split
   ·exact dx true l
   ·rename_i h2
    conv=>lhs;unfold an
    rw[AL h1,AL h2]
theorem ro{a:Nat}(ha:a<=s.size):∃q,s.size-(an false (s.data.toList.drop a)).length=q/\a<=q/\q<=s.size/\an false (s.data.toList.drop a)=s.data.toList.drop q:=by
 obtain⟨n,hn⟩:=ft false (s.data.toList.drop a);have hle:=eP false (s.data.toList.drop a);have hl:s.data.toList.length=s.size:=by simp
 have h1:(s.data.toList.drop a).length=s.size-a:=by simp
 refine⟨_,rfl,by omega,by omega,?_⟩;rw[hn,List.drop_drop];rcases BI (a+n) s.size with h|h
 ·congr 1
  rw[BY,hl];omega
 ·rw[Cw (by omega),BS,Cw (by omega)]
theorem mA(N k:Nat)(r:List UInt8)(ts:List Tk):bj N (k+1) r ts=bj N (k+1) (an false r) ts:=by
 unfold bj;rw[dx]
theorem yM(s:ByteArray)(w:World):Calls Tryz.prog 91 #[.string s] w (yw s w):=by
 have hl:s.data.toList.length=s.size:=by simp
 by_cases hbig:16384<s.size
 ·have hb':(16384:Int)<s.size:=by omega
  have HS:=H_ (show ce s.data.toList= .err 0 8 by unfold ce;rw[AP (by omega)]);clear hl hbig;go_enter Tryz.func91,Tryz.ntmps91;go_wp2_with fail;go_ret3;refine⟨_,_,_,rfl,AC _ _,?_⟩;rw[HS.out];exact⟨rfl,rfl,by decide⟩
 ·have hb':¬(16384:Int)<s.size:=by omega
  have hs:s.size<=100000:=by omega
  obtain⟨w0,hw0⟩:=nm_ (w.alloc (.cells #[] 162));have V0:=H_ (show Vec kTk 162 w.heap.size noZ w0 (.slice (some ⟨w.heap.size,0,none⟩) 0 0) []from hw0▸Vec.made kTk 162 w.heap.size noZ (AB _) (λh=>h));have B0:=H_ (show Below w.heap.size w w0 from hw0▸(AC _ _).alloc (AB _) _);obtain⟨q0,hq0,_,hqs,hsk⟩:=ro (s:=s) (a:=0) (by omega)
  have HSC:=H_ (show ce s.data.toList=bj s.size (s.size+1) (s.data.toList.drop q0) [] by
   unfold ce;rw[AL (by omega),hl,mA,<-hsk,List.drop_zero])
  have HI:=H_ (show an false (s.data.toList.drop q0)=s.data.toList.drop q0 by rw[<-hsk];exact dx _ _);have HK:=H_ (rq s 0 (by omega) hs);rw[hq0]at HK;clear hl hbig hsk hq0;go_enter Tryz.func91,Tryz.ntmps91;go_upto_region 4 with fail;obtain⟨g,hgz⟩:=nm_ (w.heap.size);rw[hgz]at V0 B0⊢;have hs0:g<w0.heap.size:=by rw[<-hw0,AR];omega
  clear hw0;go_wp2_with fail;refine(HK.out w0).mono ?_;rintro e w1 ⟨rfl,rfl⟩;go_wp2_with fail;go_loopg [5,6] (s.size-q0) (λkk u i wr=>∃(ts:List Tk) (q:Nat),kk=s.size-q/\i= .int .i64 q/\Hid (Vec kTk 162 g noZ wr u ts)/\Hid (Below g w wr)/\q<=s.size/\ts.length<=q/\Hid (an false (s.data.toList.drop q)=s.data.toList.drop q)/\Hid (∃k,s.size+1<=k+q/\ce s.data.toList=bj s.size k (s.data.toList.drop q) ts))
  case atStart=>exact⟨[],q0,rfl,rfl,V0,B0,hqs,by simp,HI,H_ ⟨_,by omega,HSC.out⟩⟩
  case round=>
   clear V0 B0 HI HSC HK hs0;obtain⟨ts,q,rfl,rfl,V1,B1,hqs,htq,HI,HEr⟩:=hrel
   obtain⟨k,hk,heq⟩:∃k,s.size+1<=k+1+q/\ce s.data.toList=bj s.size (k+1) (s.data.toList.drop q) ts:=by
    obtain⟨k,hk,heq⟩:=HEr.out;obtain⟨k,rfl⟩:∃k',k=k'+1:=⟨k-1,by omega⟩;exact⟨k,hk,heq⟩
   have HE:=H_ heq;clear HEr heq;have hgr:=B1.out.size;by_cases hlt:q<s.size
   ·have hq0:0<=(q:Int):=by omega
    have hq1:(q:Int)<s.size:=by omega
    have HNX:=H_ (wX s q hlt hs wr);have HCONS:=H_ (ct s hlt);have hlen:(s.data.toList.drop q).length=s.size-q:=by simp
    have HLEN:=H_ hlen;clear hlen;go_wp2_with fail;refine HNX.out.mono ?_;rintro e' w1 ⟨b1,k',t,v,qq,er,rfl,hm⟩;have hs1:=b1.size;have V2:=H_ (V1.out.aA b1.size (λk hk=>b1.block k hk.2.1));have B2:=htm B1 b1;have HO:=H_ V1.out.lt;clear b1 V1 B1;cases htok:ci (s.data.toList.drop q)with
    |err e'=>
     rw[htok]at hm;obtain⟨rfl,hne⟩:=hm;have hne':(er !=0)=true:=by simpa using hne
     have HSR:=H_ (show ce s.data.toList= .err q er by
      rw[HE.out];unfold bj;rw[HI.out,HCONS.out];simp only;rw[<-HCONS.out,htok];simp only;rw[HLEN.out,show s.size-(s.size-q)=q by omega])
     clear htok hne;go_wp2_with fail;go_ret3;refine⟨_,_,_,rfl,hgz▸B2.out.alloc (by omega) _,?_⟩;rw[HSR.out];exact⟨rfl,rfl,by simpa using hne'⟩
    |tok kd t' v'=>
     rw[htok]at hm;obtain⟨rfl,rfl,rfl,rfl,rfl⟩:=hm;obtain⟨hp1,hp2,hp3⟩:=oy htok;rw[HLEN.out]at hp2;obtain⟨tx,htx⟩:=nm_ (ba t');have htl:tx.size=t'.length:=by rw[<-htx];simp[ba,ByteArray.size]
     have HSR:=H_ (show ce s.data.toList=bj s.size k (s.data.toList.drop (q+tx.size)) (ts++[(k',tx,v,(q:Int))]) by
      rw[HE.out]
      conv=>lhs;unfold bj
      rw[HI.out,HCONS.out];simp only;rw[<-HCONS.out,htok];simp only;rw[HLEN.out,show s.size-(s.size-q)=q by omega,List.drop_drop,htl,htx])
     rw[htx];obtain⟨q2,hq2,hqq,hq2s,hsk⟩:=ro (s:=s) (a:=q+tx.size) (by omega);have HK:=H_ (λW=>rq s (q+tx.size) (by omega) hs W);rw[hq2]at HK;simp only[Ce]at HK
     have HSC:=H_ (show∃m,s.size+1<=m+q2/\ce s.data.toList=bj s.size m (s.data.toList.drop q2) (ts++[(k',tx,v,(q:Int))]) by
      obtain⟨m,rfl⟩:∃m,k=m+1:=⟨k-1,by omega⟩;exact⟨m+1,by omega,by rw[HSR.out,mA,hsk]⟩)
     have HI2:=H_ (show an false (s.data.toList.drop q2)=s.data.toList.drop q2 by rw[<-hsk];exact dx _ _);have hwn:IntKind.i64.wrap ((q:Int)+(tx.size:Int))=(q:Int)+(tx.size:Int):=AY _ ⟨by omega,by omega⟩;have hqt:q+tx.size<=s.size:=by omega
     have ht1:1<=tx.size:=by omega
     clear htok htx hsk hq2 HSR HE HI HCONS htl hp1 hp2 hp3;go_upto_region 7 with fail;obtain⟨e,hez⟩:=nm_ (w1.heap.size);rw[hez];obtain⟨w2,hw2⟩:=nm_ (w1.alloc (.cells #[.int .i64 k',.string tx,.int .i64 v,.int .i64 q] 162));have E2:=hng hw2 hez;have bb2:=bal hw2;have V3:=H_ (V2.out.aA bb2.size (λk hk=>bb2.block k hk.2.1));have B3:=htm B2 bb2;have hs2:=bb2.size;rw[hw2];clear hw2 bb2 V2 B2;obtain⟨⟨x0,x1,x2,x3⟩,_⟩:=Blk.aH E2.out;go_wp2_with (at_builtin;refine bv yi (K:=kTk) rfl (.tmp 29) (.tmp 31) rfl V3.out (y:=(k',tx,v,(q:Int))) (cs:=tkC (k',tx,v,(q:Int))) rfl rfl rfl (by omega) (by omega) (λb hb h=>h) ?_);intro u3 w3 hv3 hg3;have V4:=H_ hv3;have hs3:=hg3.size;have E4:=H_ (E2.out.aI hg3 (λk hk=>by have:=(HO.out k hk).2;omega));have B4:=H_ (show Below g w w3 from B3.out.trans ⟨hg3.os,hg3.tape,hg3.output,hg3.size,λk hk=>hg3.block k (by omega) (λe=>by have:=(HO.out k e.symm).1;omega)⟩);clear hv3 hg3 V3 B3 E2 x0 x1 x2 x3;have x1:w3.cell? ⟨e,1,none⟩=some (.string tx):=E4.out.cell 1;go_wp2_with fail;refine(HK.out w3).mono ?_;rintro e' w4 ⟨rfl,rfl⟩;go_wp2_with fail;go_roundg (s.size-q2)
     case rel=>
      have hlen:(ts++[(k',tx,v,(q:Int))]).length<=q2:=by rw[AT];show ts.length+1<=q2;omega
      exact⟨ts++[(k',tx,v,(q:Int))],q2,rfl,rfl,V4,B4,hq2s,hlen,HI2,HSC⟩
     case measure=>omega
   ·obtain rfl:q=s.size:=by omega
    have HSR:=H_ (show ce s.data.toList= .toks (ts++[(0,⟨#[]⟩,0,(s.size:Int))]) by
     rw[HE.out,jR];rfl)
    have HO:=H_ V1.out.lt;clear HE HI;go_wp2_with (at_builtin;refine bv yi (K:=kTk) rfl (.tmp 40) (.tmp 44) rfl V1.out (y:=(0,⟨#[]⟩,0,(s.size:Int))) (cs:=tkC (0,⟨#[]⟩,0,(s.size:Int))) rfl rfl rfl (by omega) (by omega) (λb hb h=>h) ?_);intro u3 w3 hv3 hg3;have V4:=H_ hv3;have B4:=H_ (show Below g w w3 from B1.out.trans ⟨hg3.os,hg3.tape,hg3.output,hg3.size,λk hk=>hg3.block k (by omega) (λe=>by have:=(HO.out k e.symm).1;omega)⟩);clear hv3 hg3;go_wp2_with fail;go_ret3;refine⟨_,_,_,rfl,hgz▸B4.out,?_⟩;rw[HSR.out,hgz];exact⟨rfl,rfl,pO V4.out⟩
theorem lj(s:ByteArray)(w:World):Calls Tryz.prog 53 #[.string s] w (sg s w):=sO yM (λxs A m c w G h1 h2 h3=>yJ xs A m c w G h1 h2 h3) s w
def cd(ls:List ByteArray):List UInt8:=ls.flatMap λl=>l.data.toList++[10]
theorem mX(ls:List ByteArray)(l:ByteArray):cd (ls++[l])=cd ls++l.data.toList++[10]:=by simp[cd]
def bT:List ByteArray->List ByteArray
 |[]=>[]
 |l::r=>if l=gJ then[]else l::bT r
theorem rB:∀(ls:List ByteArray) (k:Nat),k<(bT ls).length->∃l,ls[k]?=some l/\l≠gJ/\(bT ls).take (k+1)=(bT ls).take k++[l]
 |[],k,h=>by simp[bT]at h
 |l::r,k,h=>by
  unfold bT at h⊢;by_cases he:l=gJ
  ·rw[AP he]at h;simp at h
  ·rw[AL he]at h⊢;cases k with
   |zero=>exact⟨l,rfl,he,by simp⟩
   |succ k=>
    obtain⟨l',h1,h2,h3⟩:=rB r k (by simpa using h);exact⟨l',by simpa using h1,h2,by simp[h3]⟩
theorem ll:∀ls:List ByteArray,(bT ls).length=ls.length\/ls[(bT ls).length]?=some gJ
 |[]=> .inl rfl
 |l::r=>by
  unfold bT;by_cases he:l=gJ
  ·rw[AP he];right;simp[he]
  ·rw[AL he];rcases ll r with h|h
   ·left;simp[h]
   ·right;simpa using h
theorem nH:∀ls:List ByteArray,(bT ls).length<=ls.length
 |[]=>AB _
 |l::r=>by
  have:=nH r;unfold bT;split<;>simp;exact this
theorem jE:∀ls:List ByteArray,ls.take (bT ls).length=bT ls/\∀l∈bT ls,l≠gJ
 |[]=>⟨rfl,λl h=>by cases h⟩
 |l::r=>by
  obtain⟨h1,h2⟩:=jE r;unfold bT;by_cases he:l=gJ
  ·rw[AP he];exact⟨rfl,λl h=>by cases h⟩
  ·rw[AL he];refine⟨by simp[h1],λx hx=>?_⟩;rcases AV.1 hx with rfl|hx
   ·exact he
   ·exact h2 x hx
def Az(ls:List ByteArray)(i:Nat)(w:World)(e:Ending)(w':World):Prop:=Below w.heap.size w w'/\match ca (cd (bT (ls.drop i)))with
 | .err q er=>e= .returned (.tuple #[.agg #[.slice none 0 0],.int .i64 ((i+1+((cd (bT (ls.drop i))).take q.toNat).count 10:Nat):Int),.int .i64 er])/\er≠0
 | .ok cs=>if i+(bT (ls.drop i)).length=ls.length then e= .returned (.tuple #[.agg #[.slice none 0 0],.int .i64 ((ls.length+1:Nat):Int),.int .i64 3])
   else∃v,e= .returned (.tuple #[v,.int .i64 ((i+(bT (ls.drop i)).length+1:Nat):Int),.int .i64 0])/\rvP w' (λb=>w.heap.size<=b/\b<w'.heap.size) cs v
theorem results25(tmps:Array Value)(W:World)(a:Nat)(v u1 u2:Value)(ha:Blk W a 28 #[v])(h2:tmps.getD 4 undef= .pointer (some ⟨a,0,none⟩))(h3:tmps.getD 5 undef=u1)(h4:tmps.getD 6 undef=u2):
 (results Tryz.f25 tmps).run Tryz.prog W= .ok (.tuple #[.agg #[v],u1,u2]) W:=by
 have h1:=ha.cell 0;have h2':tmps[4]?.getD undef= .pointer (some ⟨a,0,none⟩):=by simpa using h2
 have h3':tmps[5]?.getD undef=u1:=by simpa using h3
 have h4':tmps[6]?.getD undef=u2:=by simpa using h4
 simp[results,Tryz.results25,go_sem,h2',h3',h4',asAddr,h1]
theorem sQ(ls:List ByteArray)(A:Option Addr)(n c i:Nat)(w:World)(hg:Gl w)(h:Strs w w.heap.size A n ls)(hi:i<=n)(hn:n<=100000)(hsz:(cd (bT (ls.drop i))).length<=100000000):
 Calls Tryz.prog 25 #[.slice A n c,.int .i64 (i:Int)] w (Az ls i w):=by
 have hln:=h.len;obtain⟨p,hp⟩:=nm_ (w.heap.size);obtain⟨w1,hw1⟩:=nm_ (w.alloc (.cells #[.slice none 0 0] 28));have b1:Below p w w1:=hw1▸(AC _ _).alloc (by omega) _;have P1:=H_ (show Blk w1 p 28 #[.slice none 0 0]from hw1▸hp▸Blk.new w 28 _);have hs1:w1.heap.size=p+1:=by rw[<-hw1,<-hp];simp
 have HS:=H_ (h.below (hp▸b1));have HB:=H_ b1;have hg1:Gl w1:=(GlB.below hg (hp▸b1)).gl;have HG:=H_ hg1;obtain⟨M,hM⟩:=nm_ ((bT (ls.drop i)).length)
 have hMl:i+M<=n:=by
  have:=nH (ls.drop i);rw[hM,BY,hln]at this;omega
 have HM:=H_ hM;have HW:=H_ hw1;have HSZ:=H_ hsz;clear b1 h hg hg1 hw1 hM hsz;go_enter Tryz.func25,Tryz.ntmps25;go_upto_region 3 with fail;rw[HW.out];have hsub:∀k,((bT (ls.drop i)).take k).length<=M:=λk=>by rw[Ck,HM.out];omega
 have hgl:∀k,(cd ((bT (ls.drop i)).take k)).length<=100000000:=λk=>by
  have h1:=HSZ.out
  have h2:cd (bT (ls.drop i))=cd ((bT (ls.drop i)).take k)++cd ((bT (ls.drop i)).drop k):=by
   unfold cd;rw[<-Cx,Bu]
  rw[h2,AT]at h1;omega
 have HGL:=H_ hgl;clear hsub hgl HSZ;go_loopw [7,8] (λsrc en wr=>∃(k:Nat) (S:ByteArray),k<=M/\en= .int .i64 ((i+k:Nat):Int)/\src= .string S/\Hid (S.data.toList=cd ((bT (ls.drop i)).take k))/\wr=w1) (λ_ en _=>i+M-(intOf en).toNat)
 case atStart=>exact⟨0,⟨#[]⟩,AM _,rfl,rfl,H_ rfl,rfl⟩
 case round=>
  obtain⟨k,S,hk,rfl,rfl,HK,rfl⟩:=hrel;by_cases hkm:k<M
  ·obtain⟨l,hl,hle,htk⟩:=rB (ls.drop i) k (by rw[HM.out];exact hkm);rw[CS]at hl;obtain⟨g,off,s',h1,h2,h3,h4⟩:=HS.out.at_ (k:=i+k) (by omega);subst h1;obtain rfl:s'=l:=Option.some.inj (h3.symm.trans hl);have hlt:((i+k:Nat):Int)<(n:Int):=by omega
   have hne:(s'.toList==[101,110,100])=false:=AD.2 λe=>hle (cQ (e.trans (Bf gJ).symm));have hgk:=HGL.out (k+1);rw[htk,mX]at hgk;have hS0:S.size=(cd ((bT (ls.drop i)).take k)).length:=by rw[<-HK.out];rfl
   have hl0:s'.size=s'.data.toList.length:=rfl;simp only[AT,BV]at hgk;obtain⟨S1,hS1,hz1,add1⟩:=ee S s' (by omega);obtain⟨S2,hS2,hz2,add2⟩:=ee S1 ⟨#[10]⟩ (by have:(⟨#[10]⟩:ByteArray).size=1:=rfl;omega);have HK2:=H_ (show S2.data.toList=cd ((bT (ls.drop i)).take (k+1)) by rw[htk,mX,hS2,hS1,HK.out]);clear hl hle htk h3 hgk hS0 hl0 hS1 hz1 hS2 hz2 h2;go_wp2_with fail;go_roundw
   case rel=>exact⟨k+1,S2,by omega,by go_num,rfl,HK2,trivial⟩
   case measure=>simp[intOf];omega
  ·obtain rfl:k=M:=by omega
   obtain⟨src,hsrc⟩:=nm_ (cd (bT (ls.drop i)));have hSs:S.data.toList=src:=by rw[<-hsrc,HK.out,AK (by rw[HM.out];exact AB _)]
   have hssz:src.length<=100000000:=by
    have:=HGL.out k;rw[<-HK.out,hSs]at this;exact this
   have hSz:S.size=src.length:=by rw[<-hSs];rfl
   have HP:=H_ (lj S wr);unfold sg at HP;rw[hSs]at HP;have HSS:=H_ hSs;have HSRC:=H_ hsrc
   have hfin:decide ((i:Int)+(k:Int)<(n:Int))=false\/∃g off,A=some ⟨g,off,none⟩/\((i+k:Nat):Int)<(n:Int)/\wr.cell? ⟨g,off+(i+k),none⟩=some (.string ⟨#[101,110,100]⟩):=by
    rcases ll (ls.drop i)with he|he
    ·left;rw[HM.out,BY,hln]at he;exact Bg (by omega)
    ·rw[HM.out,CS]at he;have hlt:i+k<n:=by rw[<-hln];exact(AH.1 he).1
     obtain⟨g,off,s',h1,_,h3,h4⟩:=HS.out.at_ (k:=i+k) hlt;obtain rfl:s'=gJ:=Option.some.inj (h3.symm.trans he);exact .inr ⟨g,off,h1,by omega,h4⟩
   have HEQ:=H_ (show(i+k=ls.length)=(i+k=n) by rw[hln]);clear hkm HS HK HGL hSs hsrc;rcases hfin with hd|⟨g,off,rfl,hlt,hc⟩
   all_goals
    go_wp2_with fail;refine HP.out.mono ?_;rintro e w2 ⟨b2,v,q,er,rfl,hcase⟩;have hs2:=b2.size;have P2:=H_ (P1.out.below b2 (by omega));have B2:=htm HB b2;have HCS:=H_ hcase;clear b2 hcase HP;cases hpp:ca src with
    |err q' er'=>
     have hc2:=HCS.out;rw[hpp]at hc2;obtain⟨rfl,rfl,rfl,hne⟩:=hc2;obtain⟨hq0,hq1⟩:=ln hpp;obtain⟨Q,rfl⟩:=Bh hq0;have hQ:Q<=S.size:=by omega
     have hne2:(er !=0)=true:=by simpa using hne
     have HNE:=H_ (And.intro hpp hne);have hw1':IntKind.i64.wrap ((i:Int)+1)=((i+1:Nat):Int):=by rw[AY _ (by omega)];rfl
     obtain⟨w3,hw3⟩:=nm_ (w2.alloc (.cells #[.slice none 0 0] 28));have b3:=bal hw3;have P3:=H_ (P2.out.below b3 (by omega));have B3:=htm B2 b3;have HW3:=H_ hw3;have hcl:∀j,(src.take j).count 10<=100000000:=λj=>AW List.count_le_length (by rw[Ck];omega);clear hw3 b3 hpp hne hq0 hq1 HCS P2 B2;go_upto_region 10 with fail;rw[HW3.out];go_loopw [12,13] (λnn j wq=>∃jj:Nat,jj<=Q/\j= .int .i64 (jj:Int)/\nn= .int .i64 ((i+1+(src.take jj).count 10:Nat):Int)/\wq=w3) (λ_ j _=>Q-(intOf j).toNat)
     case atStart=>exact⟨0,AM _,rfl,rfl,rfl⟩
     case round=>
      obtain⟨jj,hjj,rfl,rfl,rfl⟩:=hrel;have hcj:=hcl jj;by_cases hjm:jj<Q
      ·have hjs:jj<S.size:=by omega
       have hj0:(0:Int)<=(jj:Int):=by omega
       have hj1:(jj:Int)<(S.size:Int):=by omega
       have hj2:(jj:Int)<(Q:Int):=by omega
       have hcs:src[jj]?=some (S[jj]'hjs):=by rw[<-HSS.out];exact AI hjs
       have htk:(src.take (jj+1)).count 10=(src.take jj).count 10+(if(S[jj]'hjs)=10 then 1 else 0):=by
        rw[BT,hcs,List.count_append];simp[List.count_singleton]
       by_cases h10:(S[jj]'hjs)=10
       ·have hz:(((S[jj]'hjs).toNat:Int)==10)=true:=by rw[h10];rfl
        rw[AP h10]at htk;have HTK:=H_ htk;clear htk hcs h10;go_wp2_with fail;go_roundw
        case rel=>exact⟨jj+1,by omega,by go_num,by rw[HTK.out];rfl,trivial⟩
        case measure=>simp[intOf];omega
       ·have hz:(((S[jj]'hjs).toNat:Int)==10)=false:=AD.2 λe=>h10 (CD.1 (by show(S[jj]'hjs).toNat=10;omega));rw[AL h10]at htk;have HTK:=H_ htk;clear htk hcs h10;go_wp2_with fail;go_roundw
        case rel=>exact⟨jj+1,by omega,by go_num,by rw[HTK.out];rfl,trivial⟩
        case measure=>simp[intOf];omega
      ·obtain rfl:jj=Q:=by omega
       have hjd:decide ((jj:Int)<(jj:Int))=false:=by simp
       have r0:=P3.out.cell 0;have rf:=P3.out.frozen 0;go_wp2_with fail;refine AO (results25 _ _ p (.slice none 0 0) _ _ (P3.out.set 0 _) rfl rfl rfl) rfl ⟨hp▸B3.out.setCell (p:=⟨p,0,none⟩) (AB _) _,?_⟩;rw[HSRC.out,HNE.out.1];exact⟨rfl,HNE.out.2⟩
    |ok cs=>
     have hc2:=HCS.out;rw[hpp]at hc2;obtain⟨rfl,rfl,A',n',c',rfl,hsl⟩:=hc2;have HPP:=H_ hpp;obtain⟨w3,hw3⟩:=nm_ (w2.alloc (.cells #[.slice A' n' c'] 28));obtain⟨g9,hg9⟩:=nm_ (w2.heap.size);have b3:=bal hw3;have P3:=H_ (P2.out.below b3 (by omega));have B3:=htm B2 b3;have G3:=H_ (show Blk w3 g9 28 #[.slice A' n' c']from hw3▸hg9▸Blk.new w2 28 _);have hs3:=b3.size;have HSL:=H_ (hsl.aA (G':=λb=>p<=b/\b<w3.heap.size/\b≠p) (w':=w3) (λb hb=>⟨⟨by have:=hb.1;omega,by have:=hb.2;omega,by have:=hb.1;omega⟩,b3.block b hb.2⟩));have HW3:=H_ hw3;have r0:=P3.out.cell 0;have rf:=P3.out.frozen 0;have c9:=G3.out.cell 0;clear hpp hw3 b3 hsl HCS P2 B2;by_cases hin:i+k=n
     ·first
      |(exfalso;omega)
      |(have heq:((i:Int)+(k:Int)==(n:Int))=true:=CE.2 (by omega)
        go_upto_region 15 with fail;rw[HW3.out];go_wp2_with fail;refine AO (results25 _ _ p (.slice none 0 0) _ _ (P3.out.set 0 _) rfl rfl rfl) rfl ⟨hp▸B3.out.setCell (p:=⟨p,0,none⟩) (AB _) _,?_⟩;rw[HSRC.out,HPP.out];simp only[HM.out,hln];rw[AP hin];rfl)
     ·have heq:((i:Int)+(k:Int)==(n:Int))=false:=AD.2 (by omega);go_upto_region 15 with fail;rw[HW3.out];go_wp2_with fail;refine AO (results25 _ _ p (.slice A' n' c') _ _ (P3.out.set 0 _) rfl rfl rfl) rfl ⟨hp▸B3.out.setCell (p:=⟨p,0,none⟩) (AB _) _,?_⟩;rw[HSRC.out,HPP.out];simp only[HM.out,hln];rw[AL hin];exact⟨_,rfl,A',n',c',rfl,HSL.out.aA λb hb=>⟨⟨by omega,by simp[World.setCell];exact hb.2.1⟩,AG _ _ _ _ hb.2.2⟩⟩
theorem kn(b:UInt8):∀(k:Nat) (s:List UInt8),∃x r,Lib.splitK [b] 0 k s=x::r/\x++bB b r=s
 |0,s=>⟨s,[],rfl,by simp[bB]⟩
 |k+1,s=>by
  rw[Lib.splitK];by_cases hi:Lib.index s [b]= -1
  ·rw[AP (by simpa using hi)];exact⟨s,[],rfl,by simp[bB]⟩
  ·rw[AL (by simpa using hi)];obtain⟨x,r,h1,h2⟩:=kn b k (s.drop ((Lib.index s [b]).toNat+[b].length));refine⟨_,_,rfl,?_⟩;rw[h1];rw[Lib.index_one]at hi h2⊢;have hge:=Lib.indexByte_ge s b;obtain⟨j,hj⟩:∃j:Nat,Lib.indexByte s b=(j:Int):=⟨(Lib.indexByte s b).toNat,by omega⟩;obtain⟨h3,_⟩:=Lib.indexByte_some hj;rw[hj]at h2⊢;simp only[BZ,AZ,BS,By,Nat.add_zero]at h2⊢;obtain⟨h4,h5⟩:=AH.1 h3
   have hs:bB b (x::r)=b::s.drop (j+1):=by
    rw[<-h2];simp[bB]
   rw[hs,<-h5,<-Cj h4,Bu]
theorem jL(l:ByteArray)(ls:List ByteArray):(cd (l::ls)).length=l.size+1+(cd ls).length:=by
 have h:l.data.toList.length=l.size:=rfl;simp only[cd,CI,AT,BV];omega
theorem lC:∀(ls:List ByteArray) (x:List UInt8) (r:List (List UInt8)),be ls=x::r->(cd ls).length=(x++bB 10 r).length+1
 |[],x,r,h=>by cases h
 |[l],x,r,h=>by
  simp only[be,BG,Ct,List.cons.injEq]at h;obtain⟨rfl,rfl⟩:=h;rw[jL];have h2:l.data.toList.length=l.size:=rfl;simp[cd,bB,h2]
 |l::m::ls,x,r,h=>by
  have h0:be (m::ls)=m.data.toList::be ls:=rfl;have ih:=lC (m::ls) _ _ h0;simp only[be,BG,List.cons.injEq]at h;obtain⟨rfl,rfl⟩:=h;have h2:l.data.toList.length=l.size:=rfl;rw[jL,ih];simp only[be,bB,CI,AT,AZ];omega
theorem vA(s:ByteArray):(cd (cS 10 s)).length=s.size+1:=by
 obtain⟨x,r,h1,h2⟩:=kn 10 (Lib.countB s ⟨#[10]⟩) s.data.toList;rw[lC _ x r ((lN 10 s).trans h1),h2];rfl
theorem pu:∀ls:List ByteArray,(∀l∈ls,l.size<(cd ls).length)/\ls.length<=(cd ls).length
 |[]=>⟨λl h=>(by cases h),AM _⟩
 |l::ls=>by
  obtain⟨h1,h2⟩:=pu ls;have h3:=jL l ls;refine⟨λx hx=>?_,by rw[AZ];omega⟩;rcases AV.1 hx with rfl|hx
  ·omega
  ·have:=h1 x hx;omega
theorem tn(ls:List ByteArray):(cd (nb ls)).length<=(cd ls).length:=by
 unfold nb;split
 ·have h:cd ls=cd ls.dropLast++cd (ls.drop (ls.length-1)):=by
   unfold cd;rw[List.dropLast_eq_take,<-Cx,Bu]
  rw[h,AT];omega
 ·exact AB _
theorem tf(h:s.size<=2000):(cd (ag s)).length<=100000/\(∀l∈ag s,l.size<=3000)/\(ag s).length<3000:=by
 have h1:=tn (cS 10 s);rw[vA]at h1;have h2:(cd (ag s)).length<=s.size+1:=h1;obtain⟨h3,h4⟩:=pu (ag s);exact⟨by omega,λl hl=>by have:=h3 l hl;omega,by omega⟩
def Good(n:Nat)(x:Sc):Prop:=lsz csz x.cs<=4000/\(∀d∈x.ac,aR d=true)/\x.ac.length<=n
theorem Good.more{m:Nat}(h:Good n x)(hm:n<=m):Good m x:=⟨h.1,h.2.1,AW h.2.2 hm⟩
theorem nI{l:List UInt8}{cs:List Cl}(h:ca l= .ok cs):lsz csz cs<=4000:=by
 unfold ca at h;split at h
 ·cases h
 ·split at h
  ·cases h
  ·split at h
   ·cases h
   ·cases h;omega
theorem su{a:List UInt8}{f:Nat}(h:ig a f x= .go p x')(hg:Good n x):Good n x':=by
 unfold ig at h;split at h
 ·cases h
 ·rename_i cs hp;cases h;exact⟨nI hp,hg.2⟩
theorem pU{l:ByteArray}{p':Ph}(h:bm n l p x= .go p' x')(hg:Good (n-1) x)(hn:1<=n):Good n x':=by
 have hg':=hg.more (Nat.sub_le n 1);unfold bm at h;cases p with
 |src a f=>
  simp only at h;split at h
  ·exact su h hg'
  ·cases h;exact hg'
 |conf k=>
  simp only at h;split at h
  ·cases h;exact hg'
  ·split at h
   ·split at h
    ·cases h;exact hg'
    ·cases h
   ·split at h
    ·cases h
    ·cases h
     have hk:∀v,(x.set k v).cs=x.cs/\(x.set k v).ac=x.ac:=λv=>by
      match k with
      |0|1|_+2=>exact⟨rfl,rfl⟩
     exact⟨by rw[(hk _).1];exact hg'.1,by rw[(hk _).2];exact hg'.2⟩
 |acts=>
  simp only at h;split at h
  ·cases h;exact hg'
  ·split at h
   ·cases h
   ·rename_i a hp;cases h;refine⟨hg'.1,λd hd=>?_,by have:=hg.2.2;simp;omega⟩;rcases CL.1 hd with hd|hd
    ·exact hg'.2.1 d hd
    ·rw[List.mem_singleton.1 hd];exact(oO hp).1
theorem lc:∀(ls:List ByteArray) (n:Nat) (p:Ph) (x y:Sc),Good n x->cg ls n p x= .ok y->Good (n+ls.length) y
 |[],n,p,x,y,hg,h=>by
  unfold cg zx at h;cases p with
  |conf k=>cases h
  |src a f=>
   simp only at h;split at h<;>cases h
  |acts=>cases h;exact hg
 |l::ls,n,p,x,y,hg,h=>by
  unfold cg at h;split at h
  ·cases h
  ·rename_i p' x' hs;have:=lc ls (n+1) p' x' y (pU hs hg (by omega)) h;rwa[AZ,Db ls.length 1,<-Df]
theorem nC(h:bn s= .ok x):Good (ag s).length x:=by
 have:=lc (ag s) 0 (.conf 0) zSc x ⟨by decide,λd hd=>(by cases hd),AM _⟩ h;rwa[By]at this
def wB(ss:List ByteArray)(w:World)(e:Ending)(w':World):Prop:=
 ∃(A:Option Addr) (c:Nat) (zs:List Int) (ok:Bool),e= .returned (.tuple #[.slice A zs.length c,.bool ok])/\zs.length<=c/\Ints w' w'.heap.size A zs.length zs/\(∀z∈zs,I64 z)/\zs.length<=ss.length/\
  (∀b o,A=some ⟨b,o,none⟩->w.heap.size<=b)/\(∀xs:List Int,(∀x∈xs,dD x)->ss=xs.map bM->ok=true/\zs=xs)/\Below w.heap.size w w'
theorem qP(A:Option Addr)(n c:Nat)(ss:List ByteArray)(w:World)(h:Strs w w.heap.size A n ss)(hn:n<=1000000)(hsz:∀s∈ss,s.size<=1000000):Calls Tryz.prog 55 #[.slice A n c] w (wB ss w):=by
 obtain⟨i0,hi,hz0,hz1,hz2⟩:=CZ yq;have hl:=h.len;have HL:=H_ hl;have H:=H_ h;have HSZ:=H_ hsz;clear hl h hsz;go_enter Tryz.func55,Tryz.ntmps55;go_upto_region 2 with fail;have hown:(w.alloc (.cells #[] 2)).ownsRow w.heap.size 2 1 (.slice (some ⟨w.heap.size,0,none⟩) 0 0) 0 []:=World.ownsRow_made w #[] 0 (AB _) (AM _) rfl;have hb:Below w.heap.size w (w.alloc (.cells #[] 2)):=(AC _ _).alloc (AB _) _;generalize w.alloc (.cells #[] 2)=W0 at hown hb⊢;have HO:=H_ hown;have HB:=H_ hb;clear hown hb;go_wp2_with fail
 go_loopw [4,5] (λu i wr=>∃(q:Nat) (zs:List Int),q<=n/\i= .int .i64 q/\zs.length=q/\Hid (wr.ownsRow w.heap.size 2 1 u q (zs.map (Value.int .i64)))/\Hid (Below w.heap.size w wr)/\Hid (∀z∈zs,I64 z)/\
  Hid (∀xs:List Int,(∀x∈xs,dD x)->ss=xs.map bM->zs=xs.take q)) (λ_ i _=>n-(intOf i).toNat)
 case atStart=>exact⟨0,[],AM _,rfl,rfl,HO,HB,H_ (by simp),H_ λxs _ _=>by simp⟩
 case round=>
  clear HO HB;obtain⟨q,zs,hq,rfl,hzl,HO,HB,HI,HX⟩:=hrel;by_cases hlt:q<n
  ·obtain⟨b,off,s,rfl,hbb,hss,hc⟩:=H.out.at_ hlt;have hc':=(a8 HB.out hbb _).trans hc;have hk0:0<=(q:Int):=by omega
   have hk1:(q:Int)<n:=by omega
   have HSS:=H_ hss;have HC:=H_ (tj s wr (HSZ.out s (AJ hss)));clear hss hc;go_wp2_with fail;refine HC.out.mono ?_;rintro e w1 ⟨z,ok,rfl,hzI,hzx,b1⟩;have HO1:=H_ (bI HO.out b1);have HB1:=htr HB b1;have HZ:=H_ (And.intro hzI hzx)
   have HAT:=H_ (show∀xs:List Int,ss=xs.map bM->∃x,xs[q]?=some x/\s=bM x from λxs e=>by
    have h1:=HSS.out;rw[e,Bp]at h1;obtain⟨x,h2,h3⟩:=BP.1 h1;exact⟨x,h2,h3.symm⟩)
   clear hzI hzx b1 HO HB HC hc';cases ok with
   |false=>
    go_wp2_with fail;go_ret2;refine⟨none,0,[],false,rfl,AB _,Ints.none _ _,by simp,AM _,λb o e=>(by cases e),λxs hs e=>?_,HB1.out⟩;obtain⟨x,h2,h3⟩:=HAT.out xs e;exact absurd (HZ.out.2 x (hs x (AJ h2)) h3).1 (by decide)
   |true=>
    go_wp2_with (at_builtin;refine Cr _ rfl (.tmp 25) (.tmp 27) 45 rfl w.heap.size 2 i0 _ 1 8 Tryz.underlying45 hi hz0 hz1 hz2 rfl (by decide) _ _ _ rfl (HO1.out.alloc _) ⟨w1.heap.size,0,none⟩ 1 1 [.int .i64 z] rfl rfl (λj u hu=>by rw[bY,By,(Blk.new w1 2 #[.int .i64 z]).cell j];simpa using hu) (by simp[Value.oneCell']) (by unfold maxLen;omega) (by omega) (by have:=HB1.out.size;simp;omega) ?_);intro u' w3 hown3 hgrow _;have HO3:=H_ hown3;have HB3:=H_ ((HB1.out.alloc HB1.out.size (.cells #[.int .i64 z] 2)).grown hgrow (by have:=HB1.out.size;simp;omega) (λq hq=>(HO1.out.lt q hq).1));clear hown3 hgrow HO1 HB1;go_wp2_with fail;go_roundw
    case rel=>
     refine⟨q+1,zs++[z],by omega,by go_num,by rw[AT,hzl];rfl,by rw[Cg];exact HO3,HB3,H_ λy hy=>?_,H_ λxs hs e=>?_⟩
     ·rcases CL.1 hy with hy|hy
      ·exact HI.out y hy
      ·simp only[AV,AX,BU]at hy;subst hy;exact HZ.out.1
     ·obtain⟨x,h2,h3⟩:=HAT.out xs e;have h4:=(HZ.out.2 x (hs x (AJ h2)) h3).2;rw[BT,h2,<-HX.out xs hs e,h4];rfl
    case measure=>simp[intOf];omega
  ·obtain rfl:q=n:=by omega
   obtain⟨A',c',hu⟩:∃A' c',u4= .slice A' q c'/\q<=c':=by
    obtain⟨A',c',⟨hv,hc⟩|⟨hv,h0⟩⟩:=bC HO.out
    ·exact⟨A',c',hv,hc⟩
    ·exact⟨none,0,by rw[hv,h0],by omega⟩
   obtain⟨rfl,hqc⟩:=hu;go_wp2_with fail;go_ret2;subst hzl;refine⟨A',c',zs,true,rfl,hqc,Row.aL HO.out (by simp),HI.out,by rw[HL.out];exact hq,λb o e=>?_,λxs hs e=>⟨rfl,?_⟩,HB.out⟩
   ·subst e;exact(HO.out.lt b rfl).1
   ·have h1:=HX.out xs hs e;have h2:xs.length=zs.length:=by rw[<-HL.out,e,Cf]
    rw[AK (by omega)]at h1;exact h1
theorem Strs.news{B b o:Nat}{ss:List ByteArray}(h:Strs w B (some ⟨b,o,none⟩) n ss):∀j u,(ss.map Value.string)[j]?=some u->w.cell? ((⟨b,o,none⟩:Addr).add j)=some u:=by
 intro j u hu;rw[bY];have hl:=(AH.1 hu).1
 have hn:0<n:=by
  have:=h.1;omega
 obtain⟨b',o',h1,_,h3⟩:=h.2 hn;simp only[Option.some.injEq,Addr.mk.injEq,Bn]at h1;obtain⟨rfl,rfl⟩:=h1;exact h3 j u hu
theorem kJ{t:TypeId}{size:Nat}{xs:List Value}(h:w.ownsRow base t size v n xs):v≠undef:=by
 intro e;obtain⟨A,c,⟨h1,_⟩|⟨h1,_⟩⟩:=bC h
 ·rw[e]at h1;cases h1
 ·rw[e]at h1;cases h1
def F11(B0 b4 o4 n4 c4 o5 m c5:Nat)(y1:ByteArray)(ys:List Value)(i:Nat)(xs:Nat->Value)(W:World):Prop:=
 match i with
 |0=>xs 5=undef->W.ownsRow B0 9 1 (xs 0) 0 []
 |1=>xs 1= .slice (some ⟨b4,o4,none⟩) n4 c4
 |2=>xs 2= .pointer (some ⟨b4,o4,none⟩)
 |3=>xs 3= .string y1
 |4=>xs 5=undef->∃g,xs 4= .slice (some ⟨g,0,none⟩) 1 1/\W.cell? ⟨g,0,none⟩=some (.string y1)/\g<W.heap.size
 |5=>xs 5≠undef/\(xs 8=undef->W.ownsRow B0 9 1 (xs 5) 1 [.string y1])
 |6=>xs 6= .slice (some ⟨b4,o4,none⟩) n4 c4
 |7=>xs 7= .slice (some ⟨b4,o5,none⟩) m c5
 |8=>xs 8≠undef/\W.ownsRow B0 9 1 (xs 8) (1+m) (.string y1::ys)
 |9=>W.ownsRow B0 9 1 (xs 9) (1+m) (.string y1::ys)
 |_=>True
section
variable{B0 b4 o4 n4 c4 o5 m c5:Nat}{y1:ByteArray}{ys:List Value}{xs:Nat->Value}{W W':World}
theorem F11.aA(h5:i≠5)(h8:i≠8)(hb:Below W.heap.size W W')(v:Value):∀k,k≠i->F11 B0 b4 o4 n4 c4 o5 m c5 y1 ys k xs W->F11 B0 b4 o4 n4 c4 o5 m c5 y1 ys k (upd xs i v) W':=by
 intro k hk h;have e5:upd xs i v 5=xs 5:=dG _ _ h5.symm;have e8:upd xs i v 8=xs 8:=dG _ _ h8.symm;have ek:upd xs i v k=xs k:=dG _ _ hk;unfold F11 at*
 split at h<;>simp only[e5,e8,ek]at* <;>(try exact h)
 ·exact λh0=>bI (h h0) hb
 ·intro h0;obtain⟨g,h1,h2,h3⟩:=h h0;exact⟨g,h1,(a8 hb h3 0).trans h2,AF h3 hb.size⟩
 ·exact⟨h.1,λh0=>bI (h.2 h0) hb⟩
 ·exact⟨h.1,bI h.2 hb⟩
 ·exact bI h hb
theorem F11.keep5(hv:v≠undef):∀k,k≠5->k≠8->k≠9->F11 B0 b4 o4 n4 c4 o5 m c5 y1 ys k xs W->F11 B0 b4 o4 n4 c4 o5 m c5 y1 ys k (upd xs 5 v) W':=by
 intro k h5 h8 h9 h;have e5:upd xs 5 v 5=v:=iD _ _ _;have ek:upd xs 5 v k=xs k:=dG _ _ h5;unfold F11 at*
 split at h<;>simp only[e5,ek]at* <;>(try exact h)
 ·exact λh0=>absurd h0 hv
 ·exact λh0=>absurd h0 hv
 ·exact absurd rfl h5
 ·exact absurd rfl h8
 ·exact absurd rfl h9
theorem F11.keep8(hv:v≠undef)(hx:xs 5≠undef):∀k,k≠8->k≠9->F11 B0 b4 o4 n4 c4 o5 m c5 y1 ys k xs W->F11 B0 b4 o4 n4 c4 o5 m c5 y1 ys k (upd xs 8 v) W':=by
 intro k h8 h9 h;have e5:upd xs 8 v 5=xs 5:=dG _ _ (by decide);have e8:upd xs 8 v 8=v:=iD _ _ _;have ek:upd xs 8 v k=xs k:=dG _ _ h8;unfold F11 at*
 split at h<;>simp only[e5,e8,ek]at* <;>(try exact h)
 ·exact λh0=>absurd h0 hx
 ·exact λh0=>absurd h0 hx
 ·exact⟨h.1,λh0=>absurd h0 hv⟩
 ·exact absurd rfl h8
 ·exact absurd rfl h9
end
def yt(k i:Nat):Bool:=(i==5&&(k==8||k==9))||(i==8&&k==9)
def F37(B M b7 o7 n7 c7 q p:Nat)(u:Value)(z:Int)(L:List Value)(cs:Array Value)(ju:Nat->Value)(i:Nat)(xs:Nat->Option Value)(W:World):Prop:=
 match i with
 |0=>(xs 0).getD (ju 0)= .pointer (some ⟨M,6,none⟩)
 |1=>(xs 1).getD (ju 1)=u
 |2=>(xs 2).getD (ju 2)= .slice (some ⟨b7,o7,none⟩) n7 c7
 |3=>(xs 3).getD (ju 3)= .int .i64 q
 |4=>(xs 4).getD (ju 4)= .pointer (some ⟨b7,o7+q,none⟩)
 |5=>(xs 5).getD (ju 5)= .int .i64 z
 |6=>xs 7=none->∃g,(xs 6).getD (ju 6)= .slice (some ⟨g,0,none⟩) 1 1/\W.cell? ⟨g,0,none⟩=some (.int .i64 z)/\g<W.heap.size
 |7=>xs 7≠none/\(xs 9=none->W.ownsRow B 3 1 ((xs 7).getD (ju 7)) (p+1) (L++[.int .i64 z]))
 |8=>(xs 8).getD (ju 8)= .pointer (some ⟨M,6,none⟩)
 |9=>Blk W M 48 (cs.setIfInBounds 6 ((xs 7).getD (ju 7)))/\W.ownsRow B 3 1 ((xs 7).getD (ju 7)) (p+1) (L++[.int .i64 z])
 |_=>True
def J37(B M p:Nat)(u:Value)(L:List Value)(cs:Array Value)(wr:World)(xs:Nat->Option Value)(W:World):Prop:=
 (∀b,b<B->b≠M->W.heap[b]?=wr.heap[b]?)/\B<=W.heap.size/\Below M wr W/\(xs 7=none->W.ownsRow B 3 1 u p L)/\(xs 9=none->Blk W M 48 cs)
section
variable{B M b7 o7 n7 c7 q p:Nat}{u:Value}{z:Int}{L:List Value}{cs:Array Value}{ju:Nat->Value}{xs:Nat->Option Value}{W W' wr:World}
theorem J37.aA(h:J37 B M p u L cs wr xs W)(hM:M<B)(h7:i≠7)(h9:i≠9)(hb:Below W.heap.size W W')(v:Option Value):J37 B M p u L cs wr (au xs i v) W':=by
 have e7:au xs i v 7=xs 7:=aV _ _ h7.symm;have e9:au xs i v 9=xs 9:=aV _ _ h9.symm;obtain⟨h1,h2,h3,h4,h5⟩:=h;unfold J37;rw[e7,e9];exact⟨λb hbB hbM=>(hb.block b (by omega)).trans (h1 b hbB hbM),AW h2 hb.size,h3.trans (hb.mono (by omega)),λh=>bI (h4 h) hb,λh=>(h5 h).below hb (by omega)⟩
theorem F37.aA(h7:i≠7)(h9:i≠9)(hM:M<W.heap.size)(hb:Below W.heap.size W W')(v:Option Value):∀k,k≠i->F37 B M b7 o7 n7 c7 q p u z L cs ju k xs W->F37 B M b7 o7 n7 c7 q p u z L cs ju k (au xs i v) W':=by
 intro k hk h;have e7:au xs i v 7=xs 7:=aV _ _ h7.symm;have e9:au xs i v 9=xs 9:=aV _ _ h9.symm;have ek:au xs i v k=xs k:=aV _ _ hk;unfold F37 at*
 split at h<;>simp only[e7,e9,ek]at* <;>(try exact h)
 ·intro h0;obtain⟨g,h1,h2,h3⟩:=h h0;exact⟨g,h1,(a8 hb h3 0).trans h2,AF h3 hb.size⟩
 ·exact⟨h.1,λh0=>bI (h.2 h0) hb⟩
 ·exact⟨h.1.below hb hM,bI h.2 hb⟩
theorem F37.keep7:∀k,k≠7->k≠9->F37 B M b7 o7 n7 c7 q p u z L cs ju k xs W->F37 B M b7 o7 n7 c7 q p u z L cs ju k (au xs 7 (some v)) W':=by
 intro k h7 h9 h;have e7:au xs 7 (some v) 7=some v:=bO _ _ _;have ek:au xs 7 (some v) k=xs k:=aV _ _ h7;unfold F37 at*
 split at h<;>simp only[e7,ek]at* <;>(try exact h)
 ·exact λh0=>by cases h0
 ·exact absurd rfl h7
 ·exact absurd rfl h9
theorem F37.keep9(hx:xs 7≠none):∀k,k≠9->F37 B M b7 o7 n7 c7 q p u z L cs ju k xs W->F37 B M b7 o7 n7 c7 q p u z L cs ju k (au xs 9 (some v)) W':=by
 intro k h9 h;have e7:au xs 9 (some v) 7=xs 7:=aV _ _ (by decide);have e9:au xs 9 (some v) 9=some v:=bO _ _ _;have ek:au xs 9 (some v) k=xs k:=aV _ _ h9;unfold F37 at*
 split at h<;>simp only[e7,e9,ek]at* <;>(try exact h)
 ·exact λh0=>absurd h0 hx
 ·exact⟨h.1,λh0=>by cases h0⟩
 ·exact absurd rfl h9
end
def yr(k i:Nat):Bool:=i==7&&k==9
end
end Go.Proofs.YtjpbckbpeblibaaGreatDoor
