/- part of a proof -/
import Derived.Test.YtjpbckbpeblibaaGreatDoorCC16
namespace Go.Proofs.YtjpbckbpeblibaaGreatDoor
set_option linter.unusedVariables false
set_option linter.unusedSimpArgs false
set_option maxRecDepth 100000
set_option maxHeartbeats 64000000
section
open Go.RowKit
variable{B N d:Nat}{e:St}{xs:List Cl}
theorem pv:∀l:List St,vSs l=l.all vS
 |[]=>rfl
 |a::l=>by rw[vSs,pv l,List.all_cons]
theorem yt(xs:List St)(A:Option Addr)(n c:Nat)(w:World)(G:Nat->Prop)(hs:Sl gI w G xs A n)(hG:∀b,G b->b<w.heap.size)
 (H:∀x∈xs,∀cs W,Below w.heap.size w W->StK W G x cs->Calls Tryz.prog 118 #[.agg cs.toArray] W λr w'=>r= .returned (.bool (vS x))/\Below W.heap.size W w'):
 Calls Tryz.prog 77 #[.slice A n c] w λr w'=>r= .returned (.bool (vSs xs))/\Below w.heap.size w w':=by
 rw[pv];have HS:=H_ hs;have HG:=H_ hG;have HH:=H_ H;have hm:=hs.1;have hnb:n<=1152921504606846976:=hs.2.1;clear hs hG H;go_enter Tryz.func77,Tryz.ntmps77;go_wp2_with fail;go_loopw [3] (λi wr=>∃k:Nat,k<=n/\i= .int .i64 k/\Hid (Below w.heap.size w wr)/\Hid ((xs.take k).all vS=true)) (λi _=>n-(intOf i).toNat)
 case atStart=>exact⟨0,Ea _,rfl,H_ (DN _ _),H_ rfl⟩
 case round=>
  obtain⟨k,hk,rfl,HB,HV⟩:=hrel;by_cases hkm:k<n
  ·have hkz:(k:Int)<(n:Int):=by omega
   have hS2:=HS.out.aA (G':=G) (w':=wr) (λb hb'=>⟨hb',HB.out.block b (HG.out b hb')⟩);obtain⟨b,off,x,cs,rfl,hgb,hx,hrd,hat⟩:=hS2.at_ hkm;have HX:=H_ hx;have HC:=H_ (HH.out x (DW hx) cs wr HB.out hrd);obtain⟨bx,hbx⟩:=nm_ (vS x);have HVX:=H_ hbx;rw[hbx]at HC;obtain⟨yk,yn,ex,bo,el⟩:=x;obtain⟨A1,n1,c1,A2,n2,c2,A3,n3,c3,rfl,hsa⟩:=StK.inv hrd;obtain⟨d0,d1,d2,d3,d4⟩:=At.e5 hat
   clear hat hS2 hx hbx hrd hsa;go_wp2_with fail;refine HC.out.mono ?_;rintro r w1 ⟨rfl,b1⟩;have B1:=htr HB b1;clear b1 HB HC;cases bx with
   |false=>
    go_wp2_with fail;go_ret;exact⟨aa (bh HX.out HVX.out).symm,B1.out⟩
   |true=>
    go_wp2_with fail;go_roundw
    case rel=>exact⟨k+1,by omega,by go_num,B1,H_ (by rw[br HX.out,HV.out,HVX.out];rfl)⟩
    case measure=>simp[intOf];omega
  ·obtain rfl:k=n:=by omega
   have ht:xs.take k=xs:=DP (by omega);rw[ht]at HV;go_wp2_with fail;go_ret;exact⟨aa HV.out.symm,HB.out⟩
theorem CA:∀(m:Nat) (e:St) (cs:List Value) (w:World) (G:Nat->Prop),ssz e<=m->StK w G e cs->(∀b,G b->b<w.heap.size)->
 Calls Tryz.prog 118 #[.agg cs.toArray] w λr w'=>r= .returned (.bool (vS e))/\Below w.heap.size w w':=by
 intro m;induction m with
 |zero=>intro e cs w G hm;have:=i8 e;omega
 |succ m ih=>
  intro e cs w G hm hr hG;obtain⟨xk,nm,ex,bo,el⟩:=e;obtain⟨A,n,c,A2,n2,c2,A3,n3,c3,rfl,hs,hs2,hs3⟩:=StK.inv hr;rw[ssz]at hm;obtain⟨vb,hvb⟩:=nm_ (vS (.mk xk nm ex bo el));rw[hvb];have HVB:=H_ hvb;clear hvb;have hl1:=hs.1;have hl2:=hs2.1;have hl3:=hs3.1;have hnb:n<=1152921504606846976:=hs.2.1;have hnb2:n2<=1152921504606846976:=hs2.2.1;have hnb3:n3<=1152921504606846976:=hs3.2.1;obtain⟨g,hz⟩:=nm_ (w.heap.size);obtain⟨W0,hW0⟩:=nm_ (w.alloc (.cells #[.int .i64 xk,.string nm,.slice A n c,.slice A2 n2 c2,.slice A3 n3 c3] 168));have HQ:=hng hW0 hz;have HB0:=hba hW0;have hs0:W0.heap.size=g+1:=by rw[<-hW0,DV,hz]
  have hg1:w.heap.size<=W0.heap.size:=by omega
  have HS:=H_ (hs.aA (G':=G) (w':=W0) (λb hb=>⟨hb,HB0.out.block b (hG b hb)⟩));have HG:=H_ (show∀b,G b->b<W0.heap.size from λb hb=>by have:=hG b hb;omega)
  have HBO:Hid (∀W,Below W0.heap.size W0 W->Calls Tryz.prog 77 #[.slice A2 n2 c2] W λr w'=>r= .returned (.bool (vSs bo))/\Below W.heap.size W w'):=H_ λW hW=>
   yt bo A2 n2 c2 W G (hs2.aA λb hb=>⟨hb,(hW.mono hg1).block b (hG b hb)|>.trans (HB0.out.block b (hG b hb))⟩) (λb hb=>by have:=hG b hb;have:=hW.size;omega) (λx hx cs W' hW' hr=>ih x cs W' G (by have:=fe hx;omega) hr (λb hb=>by have:=hG b hb;have:=hW.size;have:=hW'.size;omega))
  have HEL:Hid (∀W,Below W0.heap.size W0 W->Calls Tryz.prog 77 #[.slice A3 n3 c3] W λr w'=>r= .returned (.bool (vSs el))/\Below W.heap.size W w'):=H_ λW hW=>
   yt el A3 n3 c3 W G (hs3.aA λb hb=>⟨hb,(hW.mono hg1).block b (hG b hb)|>.trans (HB0.out.block b (hG b hb))⟩) (λb hb=>by have:=hG b hb;have:=hW.size;omega) (λx hx cs W' hW' hr=>ih x cs W' G (by have:=fe hx;omega) hr (λb hb=>by have:=hG b hb;have:=hW.size;have:=hW'.size;omega))
  have hbe:bo.isEmpty=decide (n2=0):=by rw[<-hl2];cases bo<;>simp
  have hee:el.isEmpty=decide (n3=0):=by rw[<-hl3];cases el<;>simp
  have HA:Hid (vb=(stB xk nm n (decide (n2=0)) (decide (n3=0))&&(ex.all vE&&(vSs bo&&vSs el)))):=H_ (by rw[<-HVB.out,vS,gE,hbe,hee,hl1]);have HW:=H_ hW0;generalize vSs bo=vbo at*
  generalize vSs el=vel at*
  clear ih hs hs2 hs3 hG hr hW0 hbe hee HVB hl2 hl3;go_enter Tryz.func118,Tryz.ntmps118;rw[hz];go_upto_region 1 with fail;rw[HW.out];go_wp2_with fail;go_loopw [3] (λi wr=>∃k:Nat,k<=n/\i= .int .i64 k/\Hid (Below W0.heap.size W0 wr)/\Hid ((ex.take k).all vE=true)) (λi _=>n-(intOf i).toNat)
  case atStart=>exact⟨0,Ea _,rfl,H_ (DN _ _),H_ rfl⟩
  case round=>
   obtain⟨k,hk,rfl,HB,HV⟩:=hrel;have HQ1:=HQ.out.below HB.out (by omega);by_cases hkm:k<n
   ·have hkz:(k:Int)<(n:Int):=by omega
    have q2:=HQ1.k2;have hS2:=HS.out.aA (G':=G) (w':=wr) (λb hb'=>⟨hb',HB.out.block b (HG.out b hb')⟩);obtain⟨b,off,x,cs,rfl,hgb,hx,hrd,hat⟩:=hS2.at_ hkm;have HX:=H_ hx;obtain⟨bx,hbx'⟩:∃bx,vE x=bx:=⟨_,rfl⟩;have HVX:=H_ hbx';have hbb:=HB.out.size;have HC:=H_ (Cy _ _ _ wr G (DK _) hrd (λq hq=>by have:=HG.out q hq;omega));rw[hbx']at HC;obtain⟨yk,yo,yz,yn,ya,args2⟩:=x;obtain⟨A5,n5,c5,rfl,hsa⟩:=ExK.inv hrd;obtain⟨d0,d1,d2,d3,d4,d5⟩:=At.e6 hat
    clear hat hrd hsa hS2 hx hbx' HQ1;go_wp2_with fail;refine HC.out.mono ?_;rintro r w1 ⟨rfl,b1⟩;have B1:=H_ (HB.out.trans (b1.mono (by omega)));clear b1 HB HC;cases bx with
    |false=>
     go_wp2_with fail;go_ret;refine⟨aa ?_,hz▸HB0.out.trans (B1.out.mono (by omega))⟩;rw[HA.out,bh HX.out HVX.out,Bool.false_and,Bool.and_false]
    |true=>
     go_wp2_with fail;go_roundw
     case rel=>exact⟨k+1,by omega,by go_num,B1,H_ (by rw[br HX.out,HV.out,HVX.out];rfl)⟩
     case measure=>simp[intOf];omega
   ·obtain rfl:k=n:=by omega
    have ht:ex.take k=ex:=DP (by omega);have HA:=H_ (show vb=(stB xk nm k (decide (n2=0)) (decide (n3=0))&&(vbo&&vel)) by rw[HA.out,<-ht,HV.out,Ft]);obtain⟨q0,q1,q2,q3,q4⟩:=HQ1.c5;have HE:Hid (Below g w wr):=H_ (hz▸HB0.out.trans (HB.out.mono (by omega)));have hsz:g<=wr.heap.size:=by have:=HB.out.size;omega
    have HQW:=H_ HQ1;have HC1:Hid (∀W,Calls Tryz.prog 73 #[.string nm] W λe w'=>e= .returned (.bool (aO nm 97 122))/\Below W.heap.size W w'):=H_ λW=>eA nm W;clear HV HQ1 HG HS;go_upto_block 2 with fail;go_cut [5,6,7,8] (λv5 v6 v7 v8 U=>∃b5 b6 b7 b8:Bool,v5= .bool b5/\v6= .bool b6/\v7= .bool b7/\v8= .bool b8/\U=wr/\Hid (stB xk nm k (decide (n2=0)) (decide (n3=0))=(b8&&((if b5=true then aO nm 97 122 else decide (nm.toList=[]))&&((b6||decide (n2=0))&&(b7||decide (n3=0)))))))
    case first=>
     by_cases hkk:xk=0\/xk=1\/xk=2\/xk=3\/xk=4\/xk=5\/xk=6\/xk=7\/xk=8\/xk=9
     ·rcases hkk with rfl|rfl|rfl|rfl|rfl|rfl|rfl|rfl|rfl|rfl
      all_goals
       go_wp2_with fail;go_meet
       exact⟨_,_,_,_,rfl,rfl,rfl,rfl,rfl,H_ (by
        unfold stB;generalize decide (n2=0)=be;generalize decide (n3=0)=ee;generalize aO nm 97 122=V
        first
        |rfl
        |(rw[Bool.eq_iff_iff];cases be<;>cases ee<;>simp[aW]<;>(try generalize nm.toList=L)<;>(try omega)<;>(constructor<;>rintro h<;>(try simp_all)<;>(try omega))))⟩
     ·have n0:(xk==0)=false:=DM.2 (by omega);have n1:(xk==1)=false:=DM.2 (by omega);have n2':(xk==2)=false:=DM.2 (by omega);have n3':(xk==3)=false:=DM.2 (by omega);have n4:(xk==4)=false:=DM.2 (by omega);have n5:(xk==5)=false:=DM.2 (by omega);have n6:(xk==6)=false:=DM.2 (by omega);have n7:(xk==7)=false:=DM.2 (by omega);have n8:(xk==8)=false:=DM.2 (by omega);have n9:(xk==9)=false:=DM.2 (by omega);go_wp2_with fail;go_meet
      exact⟨_,_,_,_,rfl,rfl,rfl,rfl,rfl,H_ (by
       unfold stB;rw[DS (by omega),DS (by omega),DS (by omega),DS (by omega),DS (by omega),DS (by omega),DS (by omega),DS (by omega),Bool.false_and])⟩
    case rest=>
    obtain⟨b5,b6,b7,b8,rfl,rfl,rfl,rfl,rfl,HSB⟩:=hcut;rw[HSB.out]at HA;generalize aO nm 97 122=V at*
    clear HSB;have HB2:=H_ (DN wc.heap.size wc);have HQ2:=H_ (HQW.out);go_upto_region 28 with fail;go_cut [0,101] (λ_ v U=>v= .bool (!(b8&&((if b5=true then V else decide (nm.toList=[]))&&((b6||decide (n2=0))&&(b7||decide (n3=0))))))/\Hid (Below wc.heap.size wc U))
    case first=>
     cases b8 with
     |false=>
      go_wp2_with fail;go_meet;exact⟨rfl,HB2⟩
     |true=>
      cases b5<;>cases b6<;>cases b7
      all_goals
       go_wp2_with (go_at_call 73;refine(HC1.out _).mono ?_;rintro r w1 ⟨rfl,b1⟩;have HB2:=htr HB2 b1;clear b1;have hsz2:=HB2.out.size;obtain⟨q0,q1,q2,q3,q4⟩:=(HQ2.out.below HB2.out HQ2.out.lt).c5)
       all_goals
        go_meet;refine⟨Fo Value.bool ?_,HB2⟩
        first
        |(simp[*];done)
        |(simp[*,isE];done)
        |(rw[Bool.eq_iff_iff];simp[*];omega)
        |(rw[Bool.eq_iff_iff];simp[*,isE];omega)
    case rest=>
    obtain⟨rfl,HB2⟩:=hcut;obtain⟨cnd,hcnd⟩:∃c,(b8&&((if b5=true then V else decide (nm.toList=[]))&&((b6||decide (n2=0))&&(b7||decide (n3=0)))))=c:=⟨_,rfl⟩;rw[hcnd]at HA⊢;clear hcnd;have HB:=H_ (HB.out.trans (HB2.out.mono (by have:=HB.out.size;omega)));have hsz:=HB.out.size;obtain⟨q0,q1,q2,q3,q4⟩:=(HQ.out.below HB.out HQ.out.lt).c5;cases cnd with
    |false=>
     go_wp2_with fail;go_ret;refine⟨aa ?_,hz▸HB0.out.trans (HB.out.mono (by omega))⟩;rw[HA.out,Bool.false_and]
    |true=>
     go_wp2_with (first
      |(go_at_call_of 77 (Value.slice A2 n2 c2);refine(HBO.out _ HB.out).mono ?_;rintro r w1 ⟨rfl,b1⟩;have HB:=htr HB b1;clear b1;have hsz:=HB.out.size;obtain⟨q0,q1,q2,q3,q4⟩:=(HQ.out.below HB.out HQ.out.lt).c5)
      |(go_at_call_of 77 (Value.slice A3 n3 c3);refine(HEL.out _ HB.out).mono ?_;rintro r w1 ⟨rfl,b1⟩;have HB:=htr HB b1;clear b1;have hsz:=HB.out.size;obtain⟨q0,q1,q2,q3,q4⟩:=(HQ.out.below HB.out HQ.out.lt).c5))
     all_goals
      go_ret;refine⟨aa ?_,hz▸HB0.out.trans (HB.out.mono (by omega))⟩;rw[HA.out];simp[*]
theorem Aj(xs:List St)(A:Option Addr)(n c:Nat)(w:World)(G:Nat->Prop)(hs:Sl gI w G xs A n)(hG:∀b,G b->b<w.heap.size):
 Calls Tryz.prog 77 #[.slice A n c] w λr w'=>r= .returned (.bool (vSs xs))/\Below w.heap.size w w':=
 yt xs A n c w G hs hG λx _ cs W hW hr=>CA _ x cs W G (DK _) hr (λb hb=>by have:=hG b hb;have:=hW.size;omega)
theorem yM(cl:List Cl)(A:Option Addr)(n c:Nat)(w:World)(G:Nat->Prop)(hs:Sl fh w G cl A n)(hG:∀b,G b->b<w.heap.size):
 Calls Tryz.prog 42 #[.agg #[.slice A n c]] w λr w'=>r= .returned (.bool (vPr cl))/\Below w.heap.size w w':=by
 obtain⟨g,hz⟩:=nm_ (w.heap.size);obtain⟨W0,hW0⟩:=nm_ (w.alloc (.cells #[.slice A n c] 28));have HQ:=hng hW0 hz;have HB0:=hba hW0;have hs0:W0.heap.size=g+1:=by rw[<-hW0,DV,hz]
 have HBZ:Hid (Below g w W0):=H_ (hz▸HB0.out);have HS:=H_ (hs.aA (G':=G) (w':=W0) (λb hb=>⟨hb,HB0.out.block b (hG b hb)⟩));have HG:=H_ (show∀b,G b->b<W0.heap.size from λb hb=>by have:=hG b hb;omega);have HW:=H_ hW0;have hm:=hs.1;have hnb:n<=1152921504606846976:=hs.2.1;obtain⟨vb,hvb⟩:=nm_ (cl.all vCl);rw[show vPr cl=cl.all vCl from rfl,hvb];have HVB:=H_ hvb;clear hs hG hW0 hvb HB0;go_enter Tryz.func42,Tryz.ntmps42;rw[hz];go_upto_region 1 with fail;rw[HW.out];go_wp2_with fail;go_loopg [3] n (λkk i wr=>∃k:Nat,k<=n/\kk=n-k/\i= .int .i64 k/\Hid (Below W0.heap.size W0 wr)/\Hid ((cl.take k).all vCl=true))
 case atStart=>exact⟨0,Ea _,rfl,rfl,H_ (DN _ _),H_ rfl⟩
 case round=>
  obtain⟨k,hk,rfl,rfl,HB,HV⟩:=hrel;have hsr:=HB.out.size;have q0:=(HQ.out.below HB.out (by omega)).k0;by_cases hkm:k<n
  ·have hkz:(k:Int)<(n:Int):=by omega
   have hS2:=HS.out.aA (G':=G) (w':=wr) (λb hb'=>⟨hb',HB.out.block b (HG.out b hb')⟩);obtain⟨b,off,x,cs,rfl,hgb,hx,hrd,hat⟩:=hS2.at_ hkm;have HX:=H_ hx;obtain⟨bx,hbx⟩:=nm_ (vCl x);have HVX:=H_ hbx;obtain⟨nm,ac,fs,ms⟩:=x;obtain⟨A1,n1,c1,A2,n2,c2,rfl,hs1,hs2⟩:=ClK.inv hrd;obtain⟨d0,d1,d2,d3⟩:=At.e4 hat
   obtain⟨w3,hw3⟩:=nm_ (wr.alloc (.cells #[.string nm,.bool ac,.slice A1 n1 c1,.slice A2 n2 c2] 117));have HC:=hnw hw3;obtain⟨gc,hgc⟩:=nm_ (wr.heap.size);rw[hgc]at HC;have hs3:w3.heap.size=gc+1:=by rw[<-hw3,DV,hgc]
   have HB3:=H_ (HB.out.trans ((bal hw3).mono (by omega)));have HS1:Hid (Sl dn w3 G fs A1 n1):=H_ (hs1.aA (λq hq=>⟨hq,(bal hw3).block q (by have:=HG.out q hq;omega)⟩));have HS2:Hid (Sl nr w3 G ms A2 n2):=H_ (hs2.aA (λq hq=>⟨hq,(bal hw3).block q (by have:=HG.out q hq;omega)⟩));have HG3:=H_ (show∀b,G b->b<w3.heap.size from λb hb=>by have:=HG.out b hb;omega);have hln2:ms.length=n2:=hs2.1;have hnb2:n2<=1152921504606846976:=hs2.2.1;have hee:ms.isEmpty=decide (n2=0):=by rw[<-hln2];cases ms<;>simp
   have HA:Hid (bx=(aO nm 65 90&&(vNm fs&&((ac||decide (n2=0))&&ms.all vMe)))):=H_ (by rw[<-hbx,<-hee];rfl);have HC1:Hid (∀W,Below w3.heap.size w3 W->Calls Tryz.prog 74 #[.string nm] W λe w'=>e= .returned (.bool (aO nm 65 90))/\Below W.heap.size W w'):=H_ λW _=>lN nm W
   have HC2:Hid (∀W,Below w3.heap.size w3 W->Calls Tryz.prog 76 #[.slice A1 n1 c1] W λe w'=>e= .returned (.bool (vNm fs))/\Below W.heap.size W w'):=H_ λW hW=>
    tc fs A1 n1 c1 W G (HS1.out.aA λb hb=>⟨hb,hW.block b (HG3.out b hb)⟩) (λb hb=>by have:=HG3.out b hb;have:=hW.size;omega)
   generalize aO nm 65 90=vn at*
   generalize vNm fs=vf at*
   have HW3:=H_ hw3;obtain⟨x0,x1,x2,x3⟩:=HC.out.c4;clear hx hbx hS2 hs1 hs2 hat hgb hw3 hee HB;go_upto_region 5 with fail;rw[HW3.out];have HB4:=H_ (DN w3.heap.size w3);go_cut [39] (λv U=>v= .bool (!(vn&&(vf&&(ac||decide (n2=0)))))/\Hid (Below w3.heap.size w3 U))
   case first=>
    go_wp2_with (first
     |(go_at_call 74;refine(HC1.out _ HB4.out).mono ?_;rintro r w4 ⟨rfl,b4⟩;have HB4:=htr HB4 b4;clear b4;have hsz:=HB4.out.size;obtain⟨x0,x1,x2,x3⟩:=(HC.out.below HB4.out HC.out.lt).c4)
     |(go_at_call 76;refine(HC2.out _ HB4.out).mono ?_;rintro r w4 ⟨rfl,b4⟩;have HB4:=htr HB4 b4;clear b4;have hsz:=HB4.out.size;obtain⟨x0,x1,x2,x3⟩:=(HC.out.below HB4.out HC.out.lt).c4))
    all_goals
     go_meet;refine⟨Fo Value.bool ?_,HB4⟩
     first
     |(simp[*];done)
     |(rw[Bool.eq_iff_iff];simp[*];omega)
   case rest=>
   obtain⟨rfl,HB4⟩:=hcut;obtain⟨cnd,hcnd⟩:∃c,(vn&&(vf&&(ac||decide (n2=0))))=c:=⟨_,rfl⟩;rw[hcnd];have HA2:Hid (bx=(cnd&&ms.all vMe)):=H_ (by rw[HA.out,<-hcnd,Bool.and_assoc,Bool.and_assoc]);have hs4:=HB4.out.size;obtain⟨x0,x1,x2,x3⟩:=(HC.out.below HB4.out HC.out.lt).c4;clear hcnd HA HC1 HC2;cases cnd with
   |false=>
    have HE:Hid (Below g w wc):=H_ (HBZ.out.trans ((HB3.out.trans (HB4.out.mono (by omega))).mono (by omega)));go_wp2_with fail;go_ret;refine⟨aa ?_,HE.out⟩;rw[<-HVB.out,bh HX.out (by rw[HVX.out,HA2.out];rfl)]
   |true=>
    rw[Ft]at HA2;go_wp2_with fail;go_loopg [5] n2 (λkk i wm=>∃r:Nat,r<=n2/\kk=n2-r/\i= .int .i64 r/\Hid (Below w3.heap.size w3 wm)/\Hid ((ms.take r).all vMe=true))
    case atStart=>exact⟨0,Ea _,rfl,rfl,HB4,H_ rfl⟩
    case round=>
     clear HB4;obtain⟨r,hr,rfl,rfl,HB5,HV5⟩:=hrel;have hs5:=HB5.out.size;have x3:=(HC.out.below HB5.out HC.out.lt).k3;by_cases hrm:r<n2
     ·have hrz:(r:Int)<(n2:Int):=by omega
      have hS3:=HS2.out.aA (G':=G) (w':=wr) (λb hb'=>⟨hb',HB5.out.block b (HG3.out b hb')⟩);obtain⟨b',off',y,cs',rfl,hgb',hy,hrd',hat'⟩:=hS3.at_ hrm;have HY:=H_ hy;obtain⟨by_,hby⟩:=nm_ (vMe y);have HVY:=H_ hby;obtain⟨mn,ps,bd⟩:=y;obtain⟨A3,n3,c3,A4,n4,c4,rfl,ht1,ht2⟩:=MeK.inv hrd';obtain⟨e0,e1,e2⟩:=At.e3 hat';obtain⟨w6,hw6⟩:=nm_ (wr.alloc (.cells #[.string mn,.slice A3 n3 c3,.slice A4 n4 c4] 121));have HM:=hnw hw6;obtain⟨gm,hgm⟩:=nm_ (wr.heap.size);rw[hgm]at HM;have hs6:w6.heap.size=gm+1:=by rw[<-hw6,DV,hgm]
      have HB6:=H_ (HB5.out.trans ((bal hw6).mono (by omega)));have HT1:Hid (Sl dn w6 G ps A3 n3):=H_ (ht1.aA (λq hq=>⟨hq,(bal hw6).block q (by have:=HG3.out q hq;omega)⟩));have HT2:Hid (Sl gI w6 G bd A4 n4):=H_ (ht2.aA (λq hq=>⟨hq,(bal hw6).block q (by have:=HG3.out q hq;omega)⟩));have HG6:=H_ (show∀b,G b->b<w6.heap.size from λb hb=>by have:=HG3.out b hb;omega);have HA3:Hid (by_=(aO mn 97 122&&(vNm ps&&vSs bd))):=H_ (by rw[<-hby];rfl);have HD1:Hid (∀W,Below w6.heap.size w6 W->Calls Tryz.prog 73 #[.string mn] W λe w'=>e= .returned (.bool (aO mn 97 122))/\Below W.heap.size W w'):=H_ λW _=>eA mn W
      have HD2:Hid (∀W,Below w6.heap.size w6 W->Calls Tryz.prog 76 #[.slice A3 n3 c3] W λe w'=>e= .returned (.bool (vNm ps))/\Below W.heap.size W w'):=H_ λW hW=>
       tc ps A3 n3 c3 W G (HT1.out.aA λb hb=>⟨hb,hW.block b (HG6.out b hb)⟩) (λb hb=>by have:=HG6.out b hb;have:=hW.size;omega)
      have HD3:Hid (∀W,Below w6.heap.size w6 W->Calls Tryz.prog 77 #[.slice A4 n4 c4] W λe w'=>e= .returned (.bool (vSs bd))/\Below W.heap.size W w'):=H_ λW hW=>
       Aj bd A4 n4 c4 W G (HT2.out.aA λb hb=>⟨hb,hW.block b (HG6.out b hb)⟩) (λb hb=>by have:=HG6.out b hb;have:=hW.size;omega)
      generalize aO mn 97 122=vn2 at*
      generalize vNm ps=vp2 at*
      generalize vSs bd=vd2 at*
      have HW6:=H_ hw6;obtain⟨y0,y1,y2⟩:=HM.out.c3;clear hy hby hS3 ht1 ht2 hat' hgb' hw6 HB5;go_upto_region 11 with fail;rw[HW6.out];have HB7:=H_ (DN w6.heap.size w6);go_cut [67] (λv U=>v= .bool (!by_)/\Hid (Below w6.heap.size w6 U))
      case first=>
       go_wp2_with (first
        |(go_at_call 73;refine(HD1.out _ HB7.out).mono ?_;rintro r w4 ⟨rfl,b4⟩;have HB7:=htr HB7 b4;clear b4;have hsz:=HB7.out.size;obtain⟨y0,y1,y2⟩:=(HM.out.below HB7.out HM.out.lt).c3)
        |(go_at_call 76;refine(HD2.out _ HB7.out).mono ?_;rintro r w4 ⟨rfl,b4⟩;have HB7:=htr HB7 b4;clear b4;have hsz:=HB7.out.size;obtain⟨y0,y1,y2⟩:=(HM.out.below HB7.out HM.out.lt).c3)
        |(go_at_call 77;refine(HD3.out _ HB7.out).mono ?_;rintro r w4 ⟨rfl,b4⟩;have HB7:=htr HB7 b4;clear b4;have hsz:=HB7.out.size;obtain⟨y0,y1,y2⟩:=(HM.out.below HB7.out HM.out.lt).c3))
       all_goals
        go_meet;refine⟨Fo Value.bool ?_,HB7⟩;rw[HA3.out];simp[*]
      case rest=>
      obtain⟨rfl,HB7⟩:=hcut;have HB8:=H_ (HB6.out.trans (HB7.out.mono (by omega)));have hs8:=HB8.out.size;clear HD1 HD2 HD3 HB6 HB7;cases by_ with
      |false=>
       have HE:Hid (Below g w wc):=H_ (HBZ.out.trans ((HB3.out.trans (HB8.out.mono (by omega))).mono (by omega)));go_wp2_with fail;go_ret;refine⟨aa ?_,HE.out⟩;rw[<-HVB.out,bh HX.out (by rw[HVX.out,HA2.out,bh HY.out HVY.out])]
      |true=>
       go_wp2_with fail;go_roundg (n2-(r+1))
       case rel=>exact⟨r+1,by omega,rfl,by go_num,HB8,H_ (by rw[br HY.out,HV5.out,HVY.out];rfl)⟩
       case measure=>omega
     ·obtain rfl:r=n2:=by omega
      rw[DP (by omega)]at HV5;have HE:=H_ (HB3.out.trans (HB5.out.mono (by omega)));have hbt:bx=true:=by rw[HA2.out];exact HV5.out
      have HVX2:=H_ (HVX.out.trans hbt);clear HB5 HVX HA2 hbt;go_wp2_with fail;go_roundg (n-(k+1))
      case rel=>exact⟨k+1,by omega,rfl,by go_num,HE,H_ (by rw[br HX.out,HV.out,HVX2.out];rfl)⟩
      case measure=>omega
  ·obtain rfl:k=n:=by omega
   rw[DP (by omega)]at HV;have HE:Hid (Below g w wr):=H_ (HBZ.out.trans (HB.out.mono (by omega)));go_wp2_with fail;go_ret;exact⟨aa (by rw[<-HVB.out];exact HV.out.symm),HE.out⟩
theorem Dr(m:Me)(cs:List Value)(w:World)(G:Nat->Prop)(hr:MeK w G m cs)(hG:∀b,G b->b<w.heap.size)(hg:Gl w)(hf:GlF w):
 Calls Tryz.prog 97 #[.agg cs.toArray] w λr w'=>r= .returned (.bool (vMe m))/\Below w.heap.size w w':=by
 obtain⟨A,n,c,A2,n2,c2,rfl,hs,hs2⟩:=MeK.inv hr;obtain⟨nm,ps,bd⟩:=m;have hbig:=hg.big;obtain⟨W1,hW1⟩:=nm_ (w.alloc (.cells #[.string nm,.slice A n c,.slice A2 n2 c2] 121));have HT:=hnw hW1;have HB1:=hba hW1;have hs1:W1.heap.size=w.heap.size+1:=by rw[<-hW1,DV]
 have hs0:w.heap.size<=W1.heap.size:=by omega
 have HGl:=H_ (hg.below HB1.out);have HF2:=H_ (hf.below HB1.out hbig);have HW:=H_ hW1;have HB:=H_ (DN W1.heap.size W1)
 have HPS:Hid (∀W,Below W1.heap.size W1 W->Calls Tryz.prog 99 #[.slice A n c,.func (.func 98) #[] #[]] W λr w'=>r= .returned (.bool (vNm ps))/\Below W.heap.size W w'):=H_ λW hW=>
  Df ps _ A n c W G (hs.aA λb hb=>⟨hb,(hW.mono hs0).block b (hG b hb)|>.trans (HB1.out.block b (hG b hb))⟩) (λb hb=>by have:=hG b hb;have:=hW.size;omega) (λx _ _ W' hW' _=>pu x W' ((HGl.out.below hW).below hW'))
 have HBD:Hid (∀W,Below W1.heap.size W1 W->Calls Tryz.prog 100 #[.slice A2 n2 c2,.func (.func 101) #[] #[]] W λr w'=>r= .returned (.bool (vSs bd))/\Below W.heap.size W w'):=H_ λW hW=>by
  rw[lz];exact Ce bd _ A2 n2 c2 W G (hs2.aA λb hb=>⟨hb,(hW.mono hs0).block b (hG b hb)|>.trans (HB1.out.block b (hG b hb))⟩) (λb hb=>by have:=hG b hb;have:=hW.size;omega) (λx _ cs W' hW' hr=>Cs _ x cs W' G (DK _) hr (λb hb=>by have:=hG b hb;have:=hW.size;have:=hW'.size;omega) ((HGl.out.below hW).below hW') ((HF2.out.below hW (by omega)).below hW' (by have:=hW.size;omega)))
 have HA:Hid (vMe ⟨nm,ps,bd⟩=(aO nm 97 122&&(vNm ps&&vSs bd))):=H_ rfl;generalize vMe ⟨nm,ps,bd⟩=vb at*
 generalize vNm ps=vp at*
 generalize vSs bd=vd at*
 obtain⟨t0,t1,t2⟩:=HT.out.c3;clear hs hs2 hG hg hf hW1;go_enter Tryz.func97,Tryz.ntmps97;go_upto_region 1 with fail;rw[HW.out]
 go_wp2_with (first
  |(go_at_call 98;refine(pu nm _ (HGl.out.below HB.out)).mono ?_;rintro r w3 ⟨rfl,b3⟩;have HB:=htr HB b3;clear b3;have hsz:=HB.out.size;obtain⟨t0,t1,t2⟩:=(HT.out.below HB.out HT.out.lt).c3)
  |(go_at_call 99;refine(HPS.out _ HB.out).mono ?_;rintro r w3 ⟨rfl,b3⟩;have HB:=htr HB b3;clear b3;have hsz:=HB.out.size;obtain⟨t0,t1,t2⟩:=(HT.out.below HB.out HT.out.lt).c3)
  |(go_at_call 100;refine(HBD.out _ HB.out).mono ?_;rintro r w3 ⟨rfl,b3⟩;have HB:=htr HB b3;clear b3;have hsz:=HB.out.size;obtain⟨t0,t1,t2⟩:=(HT.out.below HB.out HT.out.lt).c3))
 all_goals
  go_ret;refine⟨aa ?_,HB1.out.trans (HB.out.mono (by omega))⟩;rw[HA.out];simp[*]
theorem D9(cl:Cl)(cs:List Value)(mb:Nat)(w:World)(G:Nat->Prop)(hr:ClK w G cl cs)(hG:∀b,G b->b<w.heap.size)(hg:Gl w)(hf:GlF w)(hm:Blk w mb 176 #[.func (.func 97) #[] #[]]):
 Calls Tryz.prog 103 #[.agg cs.toArray,.pointer (some ⟨mb,0,none⟩)] w λr w'=>r= .returned (.bool (vCl cl))/\Below w.heap.size w w':=by
 obtain⟨A,n,c,A2,n2,c2,rfl,hs,hs2⟩:=ClK.inv hr;obtain⟨nm,ac,ps,ms⟩:=cl;have hbig:=hg.big;have hl2:=hs2.1;obtain⟨W1,hW1⟩:=nm_ (w.alloc (.cells #[.string nm,.bool ac,.slice A n c,.slice A2 n2 c2] 117));have HT:=hnw hW1;have HM:=H_ (hm.al hW1);have HB1:=hba hW1;have hs1:W1.heap.size=w.heap.size+1:=by rw[<-hW1,DV]
 have hs0:w.heap.size<=W1.heap.size:=by omega
 have HGl:=H_ (hg.below HB1.out);have HF2:=H_ (hf.below HB1.out hbig);have HW:=H_ hW1;have HB:=H_ (DN W1.heap.size W1)
 have HPS:Hid (∀W,Below W1.heap.size W1 W->Calls Tryz.prog 99 #[.slice A n c,.func (.func 98) #[] #[]] W λr w'=>r= .returned (.bool (vNm ps))/\Below W.heap.size W w'):=H_ λW hW=>
  Df ps _ A n c W G (hs.aA λb hb=>⟨hb,(hW.mono hs0).block b (hG b hb)|>.trans (HB1.out.block b (hG b hb))⟩) (λb hb=>by have:=hG b hb;have:=hW.size;omega) (λx _ _ W' hW' _=>pu x W' ((HGl.out.below hW).below hW'))
 have HMS:Hid (∀W,Below W1.heap.size W1 W->Calls Tryz.prog 105 #[.slice A2 n2 c2,.func (.func 97) #[] #[]] W λr w'=>r= .returned (.bool (ms.all vMe))/\Below W.heap.size W w'):=H_ λW hW=>
  DC ms _ A2 n2 c2 W G (hs2.aA λb hb=>⟨hb,(hW.mono hs0).block b (hG b hb)|>.trans (HB1.out.block b (hG b hb))⟩) (λb hb=>by have:=hG b hb;have:=hW.size;omega) (λx _ cs W' hW' hr=>Dr x cs W' G hr (λb hb=>by have:=hG b hb;have:=hW.size;have:=hW'.size;omega) ((HGl.out.below hW).below hW') ((HF2.out.below hW (by omega)).below hW' (by have:=hW.size;omega)))
 have hee:ms.isEmpty=decide (n2=0):=by rw[<-hl2];cases ms<;>simp
 have HA:Hid (vCl ⟨nm,ac,ps,ms⟩=(aO nm 65 90&&(vNm ps&&((ac||decide (n2=0))&&ms.all vMe)))):=H_ (by rw[<-hee];rfl);have HMS0:Hid (n2=0->∀W,Below W1.heap.size W1 W->Calls Tryz.prog 105 #[.slice A2 0 c2,.func (.func 97) #[] #[]] W λr w'=>r= .returned (.bool (ms.all vMe))/\Below W.heap.size W w'):=H_ λh W hW=>by have:=HMS.out W hW;rwa[h]at this
 generalize vCl ⟨nm,ac,ps,ms⟩=vb at*
 generalize vNm ps=vp at*
 generalize ms.all vMe=vd at*
 obtain⟨t0,t1,t2,t3⟩:=HT.out.c4;have x0:=HM.out.k0;clear hs hs2 hG hg hf hW1 hm hee;go_enter Tryz.func103,Tryz.ntmps103;go_upto_region 1 with fail;rw[HW.out]
 go_wp2_with (first
  |(go_at_call 104;refine(ye nm _ (HGl.out.below HB.out)).mono ?_;rintro r w3 ⟨rfl,b3⟩;have HB:=htr HB b3;clear b3;have hsz:=HB.out.size;obtain⟨t0,t1,t2,t3⟩:=(HT.out.below HB.out HT.out.lt).c4;have x0:=(HM.out.below HB.out HM.out.lt).k0)
  |(go_at_call 99;refine(HPS.out _ HB.out).mono ?_;rintro r w3 ⟨rfl,b3⟩;have HB:=htr HB b3;clear b3;have hsz:=HB.out.size;obtain⟨t0,t1,t2,t3⟩:=(HT.out.below HB.out HT.out.lt).c4;have x0:=(HM.out.below HB.out HM.out.lt).k0)
  |(go_at_call 105;refine(HMS.out _ HB.out).mono ?_;rintro r w3 ⟨rfl,b3⟩;have HB:=htr HB b3;clear b3;have hsz:=HB.out.size;obtain⟨t0,t1,t2,t3⟩:=(HT.out.below HB.out HT.out.lt).c4;have x0:=(HM.out.below HB.out HM.out.lt).k0)
  |(go_at_call 105;refine(HMS0.out (by assumption) _ HB.out).mono ?_;rintro r w3 ⟨rfl,b3⟩;have HB:=htr HB b3;clear b3;have hsz:=HB.out.size;obtain⟨t0,t1,t2,t3⟩:=(HT.out.below HB.out HT.out.lt).c4;have x0:=(HM.out.below HB.out HM.out.lt).k0))
 all_goals
  go_ret;refine⟨aa ?_,HB1.out.trans (HB.out.mono (by omega))⟩;rw[HA.out]
  first
  |(simp[*];done)
  |(rw[Bool.eq_iff_iff];simp[*];omega)
theorem sK(cl:List Cl)(A:Option Addr)(n c:Nat)(w:World)(G:Nat->Prop)(hs:Sl fh w G cl A n)(hG:∀b,G b->b<w.heap.size)(hg:Gl w)(hf:GlF w):
 Calls Tryz.prog 62 #[.agg #[.slice A n c]] w λr w'=>r= .returned (.bool (vPr cl))/\Below w.heap.size w w':=by
 have hbig:=hg.big;obtain⟨W1,hW1⟩:=nm_ (w.alloc (.cells #[.slice A n c] 28));obtain⟨W2,hW2⟩:=nm_ (W1.alloc (.cells #[.func (.func 97) #[] #[]] 176));have HT1:=hnw hW1;have HT:=H_ (HT1.out.al hW2);have hs1:W1.heap.size=w.heap.size+1:=by rw[<-hW1,DV]
 have hs2':W2.heap.size=w.heap.size+2:=by rw[<-hW2,DV,hs1]
 have HM:=hng hW2 hs1;have HB1:Hid (Below w.heap.size w W2):=H_ ((hba hW1).out.trans ((bal hW2).mono (by omega)));have HGl:=H_ (hg.below HB1.out);have HF2:=H_ (hf.below HB1.out hbig)
 have HC:Hid (Calls Tryz.prog 102 #[.slice A n c,.func (.func 103) #[] #[.pointer (some ⟨w.heap.size+1,0,none⟩)]] W2 λr w'=>r= .returned (.bool (vPr cl))/\Below W2.heap.size W2 w'):=H_
  (DE cl vCl (w.heap.size+1) A n c W2 G (hs.aA λb hb=>⟨hb,HB1.out.block b (hG b hb)⟩) (λb hb=>by have:=hG b hb;omega) (λx _ cs W' hW' hr=>D9 x cs _ W' G hr (λb hb=>by have:=hG b hb;have:=hW'.size;omega) (HGl.out.below hW') (HF2.out.below hW' (by omega)) (HM.out.below hW' HM.out.lt)))
 have t0:=HT.out.k0;have x0:=HM.out.k0;have HW:=H_ (And.intro hW1 hW2);clear hs hG hg hf hW1 hW2 HT1;go_enter Tryz.func62,Tryz.ntmps62;go_upto_region 1 with fail;rw[HW.out.1];go_upto_region 2 with fail;rw[HW.out.2];go_wp2_with fail;refine HC.out.mono ?_;rintro r w3 ⟨rfl,b3⟩;have HB3:=H_ (HB1.out.trans (b3.mono (by omega)));clear b3;go_wp2_with fail;go_ret;exact⟨rfl,HB3.out⟩
theorem Aw{p:Nat}{a:Ex}(hv:vE a=true)(x:ByteArray)(A:Option Addr)(c g1 g2 g3:Nat)(v0 v1 v3 v4:Value)(w:World)(s:List UInt8)(hb1:Blk w g1 126 #[.pointer (some ⟨p,0,none⟩)])
 (hb3:Blk w g3 9 #[.string x]) (hb2:Blk w g2 168 #[v0,v1,.slice A 1 c,v3,v4]) (hs:Sl gX w (GB B p N) [a] A 1) (h1:g1≠p) (h2:g2≠p) (h3:g3≠p) (hp:PW w B p d s) (hg:GP w p N) (hlen:s.length+(x.size+(tE a).length+2)<=TB):
 Calls Tryz.prog 235 #[.pointer (some ⟨g1,0,none⟩),.pointer (some ⟨g3,0,none⟩),.pointer (some ⟨g2,0,none⟩)] w (Pr B p d s (x.data.toList++tE a++sBr) w):=by
 have hlt:=hp.lt;have hle:=hp.le;have hx0:x.data.toList.length=x.size:=rfl;have HC:=H_ (wr1 hp x (by omega));have HS:=H_ hs;have HB1:=H_ hb1;have HB2:=H_ hb2;have HG:=H_ hg;have f0:=hb1.k0;have f3:=hb3.k0;have HV:=H_ hv;clear hs hb1 hb2 hb3 hg hp hv;go_enter Tryz.func235,Tryz.ntmps235;go_wp2_with fail;refine HC.out.mono ?_;rintro e w1 ⟨rfl,l1,p1⟩;have hs1:=l1.size;have e0:=(HB1.out.lk l1 h1).k0;have e2:=(HB2.out.lk l1 h2).k2;obtain⟨b,off,a',cs,rfl,hgb,ha,hrd,hat⟩:=(HS.out.lk l1 hle).at_ (k:=0) (by omega);obtain rfl:a=a':=by simpa using ha
 have hbd:Below w1.heap.size w1 w1.drew:=(DN _ _).drew;have HC2:=H_ (jT HV.out 1 cs w1.drew _ (ExK.lk hrd (Lk.al hbd) (by omega)) (oX hrd) (p1.below hbd) ((HG.out.lk l1 hlt).new hbd) (by rw[am,DJ];omega));rw[am]at HC2;obtain⟨yk,yo,yz,yn,ya,args2⟩:=a;obtain⟨A2,n2,c2,rfl,hsa⟩:=ExK.inv hrd;obtain⟨d0,d1,d2,d3,d4,d5⟩:=At.e6 (k:=0) hat
 simp only[Nat.zero_mul,FX]at d0 d1 d2 d3 d4 d5;have HL1:=H_ (l1.trans (Lk.al hbd));generalize tE (.mk yk yo yz yn ya args2)=T at*
 clear hgb ha hrd hat hsa l1 p1 hbd HC HV;go_wp2_with fail;go_still_tail 5,(by kernel_rfl);change wpList _ _ _ _ _ w1.drew;go_wp2_with fail;refine HC2.out.mono ?_;rintro e w2 ⟨rfl,l2,p2⟩;have hL2:=HL1.out.trans l2;have u0:=(HB1.out.lk hL2 h1).k0;have HC3:=H_ (wr1 p2 ⟨#[32,123]⟩ (by simp only[DJ];show _+2<=TB;omega));have HL2:=H_ hL2;clear HC2 l2 p2 hL2;go_wp2_with fail;refine HC3.out.mono ?_;rintro e w3 ⟨rfl,l3,p3⟩;have HL3:=H_ (HL2.out.trans l3);have HP3:=H_ p3;clear l3 p3 HC3;go_wp2_with fail;go_end0;exact⟨rfl,HL3.out,by simpa[sBr]using HP3.out⟩
theorem Cx{p:Nat}(k:Int)(nm:ByteArray)(xs:List Ex)(hv:vS (stE k nm xs)=true)(hk:k≠3/\k≠4)(cs:List Value)(g1 g2:Nat)(w:World)(s:List UInt8)(hr:StK w (GB B p N) (stE k nm xs) cs)(hcl:lw cs)
 (hb1:Blk w g1 126 #[.pointer (some ⟨p,0,none⟩)]) (hb2:Blk w g2 168 cs.toArray) (h1:g1≠p) (h2:g2≠p) (hp:PW w B p d s) (hg:GP w p N) (hlen:s.length+((tSm k nm xs).length+1)<=TB):
 Calls Tryz.prog 237 #[.pointer (some ⟨g1,0,none⟩),.pointer (some ⟨g2,0,none⟩)] w (Pr B p d s (tSm k nm xs++[59]) w):=by
 have HC:=H_ (Cw hv cs w s hr hcl hp hg k nm xs rfl hk (by omega));obtain⟨A,n,c,A2,n2,c2,A3,n3,c3,rfl,_⟩:=StK.inv hr;have HB1:=H_ hb1;have f0:=hb1.k0;obtain⟨q0,q1,q2,q3,q4⟩:=hb2.c5;generalize tSm k nm xs=T at*
 clear hr hcl hb1 hb2 hp hg hv;go_enter Tryz.func237,Tryz.ntmps237;go_wp2_with fail;refine HC.out.mono ?_;rintro e w1 ⟨rfl,l1,p1⟩;have u0:=(HB1.out.lk l1 h1).k0;have HC3:=H_ (wr1 p1 ⟨#[59]⟩ (by simp only[DJ];show _+1<=TB;omega));have HL1:=H_ l1;clear HC l1 p1;go_wp2_with fail;refine HC3.out.mono ?_;rintro e w3 ⟨rfl,l3,p3⟩;have HL3:=H_ (HL1.out.trans l3);have HP3:=H_ p3;clear l3 p3 HC3;go_wp2_with fail;go_end0;exact⟨rfl,HL3.out,by simpa using HP3.out⟩
def lp:ByteArray:=⟨#[105,102,32]⟩
def dP:ByteArray:=⟨#[119,104,105,108,101,32]⟩
theorem oe(w:World):(underlying 261).run Tryz.prog w= .ok (.map 3 9) w:=by kernel_rfl
theorem yP(w:World):(underlying 3).run Tryz.prog w= .ok (.int .i64) w:=by kernel_rfl
theorem oW(em:Bool)(c:Int)(w:World):(Instr.checkKey em 10000 3 (.int .i64 c)).run Tryz.prog w= .ok () w:=by kernel_rfl
theorem tC(W1:World)(q:Int)(x:ByteArray)(hq:(q=3/\x=lp)\/(q=4/\x=dP)):∃W2 W3 W4,(Instr.makeMap 261 none).run Tryz.prog W1= .ok (.map (some W1.heap.size)) W2/\(Instr.mapUpdate 261 (.map (some W1.heap.size)) (.int .i64 3) (.string lp)).run Tryz.prog W2= .ok () W3/\
 (Instr.mapUpdate 261 (.map (some W1.heap.size)) (.int .i64 4) (.string dP)).run Tryz.prog W3= .ok () W4/\(Instr.lookup 261 (.map (some W1.heap.size)) (.int .i64 q) false).run Tryz.prog W4= .ok (.string x) W4/\Below W1.heap.size W1 W4:=by
 have hm0:KMap (W1.alloc (.map #[] 0)) W1.heap.size []:=heap_alloc_new W1 _;obtain⟨W3,u1,m1,g1⟩:=cM oe yP hm0 (.int .i64 3) (.string lp) (λem w=>oW em 3 w) (λ_ h=>absurd h DX)
 obtain⟨W4,u2,m2,g2⟩:=cM oe yP m1 (.int .i64 4) (.string dP) (λem w=>oW em 4 w) (λo h=>by
  simp only[EG,List.mem_singleton]at h;rw[h];rfl)
 refine⟨_,W3,W4,by kernel_rfl,u1,u2,?_,?_⟩
 ·rcases hq with⟨rfl,rfl⟩|⟨rfl,rfl⟩
  ·exact oG oe yP m2 (.int .i64 3) (.string lp) 0 (λem w=>oW em 3 w) (λt o h=>absurd h (Nat.not_lt_zero _)) ⟨_,rfl,rfl⟩
  ·exact oG oe yP m2 (.int .i64 4) (.string dP) 1 (λem w=>oW em 4 w) (λt o h ho=>by
    obtain rfl:t=0:=by omega
    simp at ho;rw[<-ho];rfl) ⟨_,rfl,rfl⟩
 ·have b0:Below W1.heap.size W1 (W1.alloc (.map #[] 0)):=(DN _ _).alloc (DK _) _;have hs0:(W1.alloc (.map #[] 0)).heap.size=W1.heap.size+1:=DV _ _
  exact⟨g2.os.trans (g1.os.trans b0.os),g2.tape.trans (g1.tape.trans b0.tape),g2.output.trans (g1.output.trans b0.output),Ek b0.size (Ek g1.size g2.size),λk hk=>by
   have h1:=g1.block k (by omega) (λe=>by simp at e;omega);have h2:=g2.block k (by have:=g1.size;omega) (λe=>by simp at e;omega);rw[h2,h1,b0.block k hk]⟩
theorem tY(d:Nat)(hv:vS e=true):(∃k nm xs,e=stE k nm xs/\(k≠3/\k≠4)/\tS e d=tLn d (tSm k nm xs++[59]))\/(∃x b f,e= .mk 3 ⟨#[]⟩ [x] b f)\/∃x b,e= .mk 4 ⟨#[]⟩ [x] b []:=by
 rcases gn hv with⟨nm,x,rfl,_,hx⟩|⟨nm,x,rfl,_,hx⟩|⟨nm,x,y,rfl,_,hx,hy⟩|⟨x,b,f,rfl,_⟩|⟨x,b,rfl,_⟩|⟨nm,x,l,rfl,_,hx,hl⟩|⟨x,rfl,hx⟩|⟨x,y,rfl,hx,hy⟩|⟨nm,x,y,rfl,_,hx,hy⟩|rfl
 ·exact .inl ⟨_,_,_,rfl,by decide,vI _ _ _⟩
 ·exact .inl ⟨_,_,_,rfl,by decide,nB _ _ _⟩
 ·exact .inl ⟨_,_,_,rfl,by decide,pE _ _ _ _⟩
 ·exact .inr (.inl ⟨x,b,f,rfl⟩)
 ·exact .inr (.inr ⟨x,b,rfl⟩)
 ·exact .inl ⟨_,_,_,rfl,by decide,sO _ _ _ _⟩
 ·exact .inl ⟨_,_,_,rfl,by decide,pF _ _⟩
 ·exact .inl ⟨_,_,_,rfl,by decide,sP _ _ _⟩
 ·exact .inl ⟨_,_,_,rfl,by decide,(pD _ _ _ _).trans (by simp[tSm,cp])⟩
 ·exact .inl ⟨_,_,_,rfl,by decide,nA _⟩
theorem AU{p:Nat}(hv:vS e=true)(hd:d<=1000000)(ih:∀x,ssz x<ssz e->vS x=true->Am B p (d+1) N x):Am B p d N e:=by
 intro cs w s hr hcl hp hg hlen;have hr0:=hr;obtain⟨k,nm,xs,bo,el⟩:=e;obtain⟨A,n,c,A2,n2,c2,A3,n3,c3,rfl,hs,hs2,hs3⟩:=StK.inv hr;obtain⟨g1,hz⟩:∃g,w.heap.size=g:=⟨_,rfl⟩;obtain⟨W0,hW0⟩:=nm_ (w.alloc (.cells #[.pointer (some ⟨p,0,none⟩)] 126));obtain⟨W1,hW1⟩:=nm_ (W0.alloc (.cells #[.int .i64 k,.string nm,.slice A n c,.slice A2 n2 c2,.slice A3 n3 c3] 168));have hlt:=hp.lt;have hle:=hp.le;have HF0:=hng hW0 hz;have hs0:W0.heap.size=g1+1:=by rw[<-hW0,DV,hz]
 have HE1:=hng hW1 hs0;have hs1:W1.heap.size=g1+2:=by rw[<-hW1,DV,hs0]
 have HF1:=H_ (HF0.out.al hW1);have l1:Lk B p w W1:=(Lk.al (bal hW0)).trans (Lk.al (bal hW1));have HL1:=H_ l1;have HP1:=H_ ((hp.below (bal hW0)).below (bal hW1));have HG1:=H_ (hg.lk l1 hlt);have HW:=H_ (And.intro hW0 hW1);have f0:=HF1.out.k0;obtain⟨e0,e1,e2,e3,e4⟩:=HE1.out.c5;have hB1:B<=W1.heap.size:=by omega
 have hpg1:g1≠p:=by omega
 have hpg2:g1+1≠p:=by omega
 rcases tY d hv with⟨k',nm',xs',he,hk,hT⟩|⟨x,b,f,he⟩|⟨x,b,he⟩
 case inl=>
  simp only[stE,St.mk.injEq]at he;obtain⟨rfl,rfl,rfl,rfl,rfl⟩:=he;have HR1:=H_ (show StK W1 (GB B p N) (stE k nm xs) _ from StK.aA (λq hq=>⟨hq,l1.gb hle hq⟩) hr0);have HCL:=H_ hcl;have HV:=H_ (show vS (stE k nm xs)=true from hv);rw[hT]at hlen⊢
  have HC:=H_ (lI (tSm k nm xs++[59]) 237 #[.pointer (some ⟨g1,0,none⟩),.pointer (some ⟨g1+1,0,none⟩)] (λ_ _=>by kernel_rfl) HP1.out hd (λw2 l2 p2=>
   Cx k nm xs HV.out hk _ g1 (g1+1) w2 _ (StK.aA (λq hq=>⟨hq,l2.gb hB1 hq⟩) HR1.out) HCL.out (HF1.out.lk l2 hpg1) (HE1.out.lk l2 hpg2) hpg1 hpg2 p2 (HG1.out.lk l2 hlt) (by
    rw[bD]at hlen;simp only[DJ,eG,DL,DO]at hlen⊢;omega)) hlen)
  have hk3:(k==3)=false:=DM.2 hk.1;have hk4:(k==4)=false:=DM.2 hk.2;generalize tLn d (tSm k nm xs++[59])=T at*
  clear hr hr0 hs hs2 hs3 hp hg hW0 hW1 l1 HF0 hv hcl ih hT;go_enter Tryz.func168,Tryz.ntmps168;go_upto_region 1 with fail;rw[HW.out.1,HW.out.2];go_wp2_with fail;refine HC.out.mono ?_;rintro e w3 ⟨rfl,l3,p3⟩;have HL3:=H_ (HL1.out.trans l3);have HP3:=H_ p3;clear l3 p3 HC;go_wp2_with fail;go_end0;exact⟨rfl,HL3.out,HP3.out⟩
 case inr.inl=>
  simp only[St.mk.injEq]at he;obtain⟨rfl,rfl,rfl,rfl,rfl⟩:=he;obtain⟨W2,W3,W4,u1,u2,u3,u4,b4⟩:=tC W1 3 lp (.inl ⟨rfl,rfl⟩);rw[hs1]at u1 u2 u3 u4;have hs4:=b4.size;have v0:=(HF1.out.below b4 (by omega)).k0;obtain⟨y0,y1,y2,y3,y4⟩:=(HE1.out.below b4 (by omega)).c5;obtain⟨W5,hW5⟩:=nm_ (W4.alloc (.cells #[.string lp] 9));have HH5:=hnw hW5;have l5:Lk B p W1 W5:=(Lk.al b4).trans (Lk.al (bal hW5));have hs5:=l5.size;have hp5:=(HP1.out.below b4).below (bal hW5);have HF5:=H_ ((HF1.out.below b4 (by omega)).al hW5);have HE5:=H_ ((HE1.out.below b4 (by omega)).al hW5);have HG5:=H_ (HG1.out.lk l5 hlt);have HX5:=H_ ((hs.lk l1 hle).lk l5 hB1);have HB5:=H_ ((hs2.lk l1 hle).lk l5 hB1);have HE5s:=H_ ((hs3.lk l1 hle).lk l5 hB1);have hn:1=n:=hs.1;subst hn;have hB5:B<=W5.heap.size:=by omega
  have hg4:W4.heap.size≠p:=by omega
  have hvx:vE x=true/\vSs bo=true/\vSs el=true:=by
   have:=hv;rw[vS]at this;simp only[Ee]at this;exact⟨iY this.2.1,this.2.2.1,this.2.2.2⟩
  have HIB:=H_ (λy (hy:y∈bo)=>ih y (by have:=fe hy;rw[ssz];omega) (ec hvx.2.1 y hy));have HIE:=H_ (λy (hy:y∈el)=>ih y (by have:=fe hy;rw[ssz];omega) (ec hvx.2.2 y hy));obtain⟨T,hT⟩:=nm_ (tS (.mk 3 ⟨#[]⟩ [x] bo el) d);rw[hT]at hlen⊢;rw[Ap]at hT;have hlen2:=hlen;rw[<-hT]at hlen2;simp only[DJ]at hlen2;have HT:=H_ hT;have hx0:(sIf++tE x++sBr).length=lp.size+(tE x).length+2:=by simp only[DJ];rfl
  have HC6:=H_ (lI (sIf++tE x++sBr) 235 #[.pointer (some ⟨g1,0,none⟩),.pointer (some ⟨W4.heap.size,0,none⟩),.pointer (some ⟨g1+1,0,none⟩)] (λ_ _=>by kernel_rfl) hp5 hd (λw6 l6 p6=>
   Aw hvx.1 lp A c g1 (g1+1) W4.heap.size _ _ _ _ w6 _ (HF5.out.lk l6 hpg1) (HH5.out.lk l6 hg4) (HE5.out.lk l6 hpg2) (HX5.out.lk l6 hB5) hpg1 hpg2 hg4 p6 (HG5.out.lk l6 hlt) (by
    rw[bD,hx0]at hlen2;rw[DJ,eG];omega)) (by omega))
  have HL5:=H_ (HL1.out.trans l5);have HW5:=H_ hW5;unfold lp at HW5;unfold lp at u2;unfold dP at u3;unfold lp at u4;clear hr hr0 hs hs2 hs3 hp hg hW0 hW1 l1 HF0 hv hcl ih hT hW5 l5 hp5 hvx;go_enter Tryz.func168,Tryz.ntmps168;go_upto_region 1 with fail;rw[HW.out.1,HW.out.2];go_upto_region 3 with fail;rw[HW5.out];have f5:=HF5.out.k0;go_wp2_with fail;refine HC6.out.mono ?_;rintro e w6 ⟨rfl,l6,p6⟩;have hs6:=l6.size;have r0:=(HF5.out.lk l6 hpg1).k0;have r3:=(HE5.out.lk l6 hpg2).k3;have HC7:=H_ (oj bo HIB.out A2 n2 c2 w6 _ (HB5.out.lk l6 hB5) p6 (HG5.out.lk l6 hlt) hd (by simp only[DJ];omega));have HR6:=H_ l6;clear l6 p6 HC6;go_wp2_with fail;refine HC7.out.mono ?_;rintro e w7 ⟨rfl,l7,p7⟩;have hs7:=l7.size;have hR7:=HR6.out.trans l7;have t0:=(HF5.out.lk hR7 hpg1).k0;have t4:=(HE5.out.lk hR7 hpg2).k4;have HR7:=H_ hR7;have HP7:=H_ p7;clear l7 p7 HC7 hR7;by_cases hel:el=[]
  ·have hn3:(n3:Int)=0:=by have h3:el.length=n3:=HE5s.out.1;rw[hel]at h3;simp at h3;omega
   have hn3':n3=0:=by omega
   subst hn3';rw[hel]at hlen2 HT;simp only[List.isEmpty_nil,FZ,DO,EG]at hlen2;have HC10:=H_ (wd1 HP7.out ⟨#[125]⟩ hd (by simp only[DJ];show _+(tLn d [125]).length<=TB;omega));go_wp2_with fail;refine HC10.out.mono ?_;rintro e w10 ⟨rfl,l10,p10⟩;have HL10:=H_ (HL5.out.trans (HR7.out.trans l10));have HP10:=H_ p10;clear l10 p10 HC10;go_wp2_with fail;go_end0;exact⟨rfl,HL10.out,by rw[<-HT.out];simpa[jt]using HP10.out⟩
  ·have hn3:(0:Int)<(n3:Int):=by have h3:el.length=n3:=HE5s.out.1;have:=List.length_pos_iff.2 hel;omega
   have hee:el.isEmpty=false:=by cases el with|nil=>exact absurd rfl hel|cons=>rfl
   rw[hee]at hlen2;simp only[FP,if_false,DJ]at hlen2;have HEE:=H_ hee;have HC8:=H_ (wd1 HP7.out ⟨#[125,32,101,108,115,101,32,123]⟩ hd (by simp only[DJ];show _+(tLn d iT).length<=TB;omega));clear hee hel;go_wp2_with fail;refine HC8.out.mono ?_;rintro e w8 ⟨rfl,l8,p8⟩;have hs8:=l8.size;have hR8:=HR7.out.trans l8;have z0:=(HF5.out.lk hR8 hpg1).k0;have z4:=(HE5.out.lk hR8 hpg2).k4;have HC9:=H_ (oj el HIE.out A3 n3 c3 w8 _ (HE5s.out.lk hR8 hB5) p8 (HG5.out.lk hR8 hlt) hd (by simp only[DJ];show _+(tLn d iT).length+_<=TB;omega));have HR8:=H_ hR8;clear l8 p8 HC8 hR8;go_wp2_with fail;refine HC9.out.mono ?_;rintro e w9 ⟨rfl,l9,p9⟩;have hs9:=l9.size;have hR9:=HR8.out.trans l9;have x0:=(HF5.out.lk hR9 hpg1).k0;have HR9:=H_ hR9;have HP9:=H_ p9;clear l9 p9 HC9 hR9;have HC10:=H_ (wd1 HP9.out ⟨#[125]⟩ hd (by simp only[DJ];show _+(tLn d iT).length+_+(tLn d [125]).length<=TB;omega));go_wp2_with fail;refine HC10.out.mono ?_;rintro e w10 ⟨rfl,l10,p10⟩;have HL10:=H_ (HL5.out.trans (HR9.out.trans l10));have HP10:=H_ p10;clear l10 p10 HC10;go_wp2_with fail;go_end0;exact⟨rfl,HL10.out,by rw[<-HT.out];simpa[HEE.out,iT]using HP10.out⟩
 case inr.inr=>
  simp only[St.mk.injEq]at he;obtain⟨rfl,rfl,rfl,rfl,rfl⟩:=he;obtain⟨W2,W3,W4,u1,u2,u3,u4,b4⟩:=tC W1 4 dP (.inr ⟨rfl,rfl⟩);rw[hs1]at u1 u2 u3 u4;have hs4:=b4.size;have v0:=(HF1.out.below b4 (by omega)).k0;obtain⟨y0,y1,y2,y3,y4⟩:=(HE1.out.below b4 (by omega)).c5;obtain⟨W5,hW5⟩:=nm_ (W4.alloc (.cells #[.string dP] 9));have HH5:=hnw hW5;have l5:Lk B p W1 W5:=(Lk.al b4).trans (Lk.al (bal hW5));have hs5:=l5.size;have hp5:=(HP1.out.below b4).below (bal hW5);have HF5:=H_ ((HF1.out.below b4 (by omega)).al hW5);have HE5:=H_ ((HE1.out.below b4 (by omega)).al hW5);have HG5:=H_ (HG1.out.lk l5 hlt);have HX5:=H_ ((hs.lk l1 hle).lk l5 hB1);have HB5:=H_ ((hs2.lk l1 hle).lk l5 hB1);have hn3:0=n3:=hs3.1;subst hn3;have hn:1=n:=hs.1;subst hn;have hB5:B<=W5.heap.size:=by omega
  have hg4:W4.heap.size≠p:=by omega
  have hvx:vE x=true/\vSs bo=true:=by
   have:=hv;rw[vS]at this;simp only[Ee]at this;exact⟨iY this.2.1,this.2.2.1⟩
  have HIB:=H_ (λy (hy:y∈bo)=>ih y (by have:=fe hy;rw[ssz];omega) (ec hvx.2 y hy));obtain⟨T,hT⟩:=nm_ (tS (.mk 4 ⟨#[]⟩ [x] bo []) d);rw[hT]at hlen⊢;rw[pC]at hT;have hlen2:=hlen;rw[<-hT]at hlen2;simp only[DJ]at hlen2;have HT:=H_ hT;have hx0:(mc++tE x++sBr).length=dP.size+(tE x).length+2:=by simp only[DJ];rfl
  have HC6:=H_ (lI (mc++tE x++sBr) 235 #[.pointer (some ⟨g1,0,none⟩),.pointer (some ⟨W4.heap.size,0,none⟩),.pointer (some ⟨g1+1,0,none⟩)] (λ_ _=>by kernel_rfl) hp5 hd (λw6 l6 p6=>
   Aw hvx.1 dP A c g1 (g1+1) W4.heap.size _ _ _ _ w6 _ (HF5.out.lk l6 hpg1) (HH5.out.lk l6 hg4) (HE5.out.lk l6 hpg2) (HX5.out.lk l6 hB5) hpg1 hpg2 hg4 p6 (HG5.out.lk l6 hlt) (by
    rw[bD,hx0]at hlen2;rw[DJ,eG];omega)) (by omega))
  have HL5:=H_ (HL1.out.trans l5);have HW5:=H_ hW5;unfold dP at HW5;unfold lp at u2;unfold dP at u3;unfold dP at u4;clear hr hr0 hs hs2 hs3 hp hg hW0 hW1 l1 HF0 hv hcl ih hT hW5 l5 hp5 hvx;go_enter Tryz.func168,Tryz.ntmps168;go_upto_region 1 with fail;rw[HW.out.1,HW.out.2];go_upto_region 3 with fail;rw[HW5.out];have f5:=HF5.out.k0;go_wp2_with fail;refine HC6.out.mono ?_;rintro e w6 ⟨rfl,l6,p6⟩;have hs6:=l6.size;have r0:=(HF5.out.lk l6 hpg1).k0;have r3:=(HE5.out.lk l6 hpg2).k3;have HC7:=H_ (oj bo HIB.out A2 n2 c2 w6 _ (HB5.out.lk l6 hB5) p6 (HG5.out.lk l6 hlt) hd (by simp only[DJ];omega));have HR6:=H_ l6;clear l6 p6 HC6;go_wp2_with fail;refine HC7.out.mono ?_;rintro e w7 ⟨rfl,l7,p7⟩;have hs7:=l7.size;have hR7:=HR6.out.trans l7;have t0:=(HF5.out.lk hR7 hpg1).k0;have t4:=(HE5.out.lk hR7 hpg2).k4;have HR7:=H_ hR7;have HP7:=H_ p7;clear l7 p7 HC7 hR7
  ·have HC10:=H_ (wd1 HP7.out ⟨#[125]⟩ hd (by simp only[DJ];show _+(tLn d [125]).length<=TB;omega));go_wp2_with fail;refine HC10.out.mono ?_;rintro e w10 ⟨rfl,l10,p10⟩;have HL10:=H_ (HL5.out.trans (HR7.out.trans l10));have HP10:=H_ p10;clear l10 p10 HC10;go_wp2_with fail;go_end0;exact⟨rfl,HL10.out,by rw[<-HT.out];simpa using HP10.out⟩
theorem pL(B p N:Nat):∀(m:Nat) (e:St) (d:Nat),ssz e<=m->d+m<=1000000->vS e=true->Am B p d N e
 |0,e,d,hm,_,_=>by have:=i8 e;omega
 |m+1,e,d,hm,hd,hv=>AU hv (by omega) λx hx hvx=>pL B p N m x (d+1) (by omega) (by omega) hvx
theorem rT(l:List ByteArray):Lib.join (l.map (·.data.toList)) [44,32]=cO l:=by
 cases l with
 |nil=>rfl
 |cons a l=>
  rw[EE,Lib.join_cons];show a.data.toList++((l.map (·.data.toList)).map ([44,32]++ ·)).flatten=a.data.toList++l.flatMap (λb=>44::32::b.data.toList);rw[List.map_map,List.flatMap_def];rfl
theorem BI(xs:List ByteArray)(A:Option Addr)(n c:Nat)(w:World)(G:Nat->Prop)(hs:Sl dn w G xs A n)(hG:∀b,G b->b<w.heap.size)(hc:n<=c)(hlen:(cO xs).length<=140737488355328)(hn:n<=140737488355328):
 Calls Tryz.prog 44 #[.slice A n c,.string ⟨#[44,32]⟩] w λe w'=>e= .returned (.string (ba (cO xs)))/\Below w.heap.size w w':=by
 have hl:=hs.1;by_cases h0:n=0
 ·subst h0;obtain rfl:xs=[]:=En hl;refine(Tryz.strings_Join_none A c ⟨#[44,32]⟩ w).mono ?_;rintro e w' ⟨rfl,rfl⟩;exact⟨rfl,DN _ _⟩
 ·obtain⟨b,off,rfl,hgb,hat⟩:=hs.2.2 (by omega);have hj:(Lib.join (xs.map (·.data.toList)) (⟨#[44,32]⟩:ByteArray).data.toList)=cO xs:=rT xs
  have:=Tryz.strings_Join b off c xs ⟨#[44,32]⟩ w (λj x hx=>by
   obtain⟨cs,hr,ha⟩:=hat j x hx;obtain rfl:cs=[.string x]:=hr;have:=ha 0 _ rfl;rwa[show dn.sz=1 from rfl,FR]at this) (hG b hgb) (by omega) (by omega) (by rw[hj];exact hlen)
  rw[hj,hl]at this;exact this
theorem ub{xs:List ByteArray}{k:Nat}{x:ByteArray}(h:xs[k]?=some x):(xs.take (k+1)).flatMap tFd=(xs.take k).flatMap tFd++tFd x:=by
 rw[EQ,h];simp
theorem tZ{xs:List Me}{k:Nat}{x:Me}(h:xs[k]?=some x):(xs.take (k+1)).flatMap tMe=(xs.take k).flatMap tMe++tMe x:=by
 rw[EQ,h];simp
theorem gL{α:Type}(f:α->List UInt8)(xs:List α)(k:Nat):((xs.take k).flatMap f).length<=(xs.flatMap f).length:=by
 have:=Fo (λl:List α=>(l.flatMap f).length) (ER k xs);simp only[EX,DJ]at this;omega
def fRow5(B:Nat)(t:TypeId)(cs:Array Value):Value->World->Prop:=λv W=>∃a,v= .slice (some ⟨a,0,none⟩) 5 5/\RowA B W a cs t
theorem fRow5.st(B:Nat)(t:TypeId)(cs:Array Value):jo B (fRow5 B t cs):=λ_ _ _ hn ⟨a,h1,h2⟩=>⟨a,h1,h2.nw hn⟩
theorem q9{W W':World}(h:Below W.heap.size W W'):Nw B W W':=⟨h.size,λk _ hk=>h.block k hk⟩
theorem C9{p:Nat}(c:Cl)(hv:vCl c=true)(hsz:csz c<=900000)(A1:Option Addr)(n1 c1:Nat)(A2:Option Addr)(n2 c2 g1 g2:Nat)(v0 v1:Value)(w:World)(s:List UInt8)(hb1:Blk w g1 126 #[.pointer (some ⟨p,0,none⟩)])(hb2:Blk w g2 117 #[v0,v1,.slice A1 n1 c1,.slice A2 n2 c2])
 (hs1:Sl dn w (GB B p N) c.fields A1 n1) (hs2:Sl nr w (GB B p N) c.methods A2 n2) (h1:g1≠p) (h2:g2≠p) (hp:PW w B p 1 s) (hg:GP w p N) (hlen:s.length+((c.fields.flatMap tFd).length+(c.methods.flatMap tMe).length)<=TB):
 Calls Tryz.prog 114 #[.pointer (some ⟨g2,0,none⟩),.pointer (some ⟨g1,0,none⟩)] w (Pr B p 1 s (c.fields.flatMap tFd++c.methods.flatMap tMe) w):=by
 have hlt:=hp.lt;have hle:=hp.le;have hnb1:n1<=1152921504606846976:=hs1.2.1;have hnb2:n2<=1152921504606846976:=hs2.2.1;have hl1:=hs1.1;have hl2:=hs2.1;have HB1:=H_ hb1;have HB2:=H_ hb2;have HS1:=H_ hs1;have HS2:=H_ hs2;have HG:=H_ hg;have HP:=H_ hp;have HV:=H_ hv;have q2:=hb2.k2;clear hb1 hb2 hs1 hs2 hg hp hv;go_enter Tryz.func114,Tryz.ntmps114;go_wp2_with fail;go_loopw [9] (λi wr=>∃k:Nat,k<=n1/\i= .int .i64 k/\Hid (Lk B p w wr)/\Hid (PW wr B p 1 (s++(c.fields.take k).flatMap tFd))) (λi _=>n1-(intOf i).toNat)
 case atStart=>exact⟨0,Ea _,rfl,H_ (Lk.refl _ _ _),H_ (by simpa using HP.out)⟩
 case round=>
  obtain⟨k,hk,rfl,HL,HPr⟩:=hrel;have hsr:=HL.out.size;by_cases hkm:k<n1
  ·have hkz:(k:Int)<(n1:Int):=by omega
   obtain⟨b,off,x,cs,rfl,hgb,hx,hrd,hat⟩:=(HS1.out.lk HL.out hle).at_ hkm;obtain rfl:cs=[.string x]:=hrd;have d0:=At.e1 hat
   have htk:=ub hx;have hmono:=gL tFd c.fields (k+1);rw[htk,DJ]at hmono;have HTK:=H_ htk;have f0:=(HB1.out.lk HL.out h1).k0;have hfd:tFd x=tLn 1 (wu++(x.data.toList++[59])):=by unfold tFd;rw[Eb]
   have HC:=H_ (wd3 HPr.out ⟨#[118,97,114,32]⟩ x ⟨#[59]⟩ (by omega) (by show _+(tLn 1 (wu++(x.data.toList++[59]))).length<=TB;rw[<-hfd,DJ];omega));have HFD:=H_ hfd;clear hx hat hgb htk hfd HPr;go_wp2_with fail;refine HC.out.mono ?_;rintro e w1 ⟨rfl,l1,p1⟩;have HL1:=H_ (HL.out.trans l1);have HP1:=H_ p1;clear l1 p1 HC HL;go_wp2_with fail;go_roundw
   case rel=>exact⟨k+1,by omega,by go_num,HL1,H_ (by rw[HTK.out,HFD.out,<-Eb];exact HP1.out)⟩
   case measure=>simp[intOf];omega
  ·obtain rfl:k=n1:=by omega
   rw[DP (by omega)]at HPr;have hsF:B<=wr.heap.size:=by omega
   have HLF:=HL;have q3:=(HB2.out.lk HL.out h2).k3;go_wp2_with fail;go_loopw [21] (λi wq=>∃k:Nat,k<=n2/\i= .int .i64 k/\Hid (Lk B p w wq)/\Hid (PW wq B p 1 (s++(c.fields.flatMap tFd++(c.methods.take k).flatMap tMe)))) (λi _=>n2-(intOf i).toNat)
   case atStart=>exact⟨0,Ea _,rfl,HLF,H_ (by simpa using HPr.out)⟩
   case round=>
    obtain⟨j,hj,rfl,HL,HPr⟩:=hrel;have hsr:=HL.out.size;by_cases hjm:j<n2
    ·have hjz:(j:Int)<(n2:Int):=by omega
     obtain⟨b,off,x,cs,rfl,hgb,hx,hrd,hat⟩:=(HS2.out.lk HL.out hle).at_ hjm;have hcap:=DA hrd;obtain⟨nm,ps,bo⟩:=x;obtain⟨A3,n3,c3,A4,n4,c4,rfl,hsp,hsb⟩:=MeK.inv hrd;obtain⟨d0,d1,d2⟩:=At.e3 hat
     have hc3:n3<=c3:=hcap A3 n3 c3 (by simp);have htk:=tZ hx;have hmono:=gL tMe c.methods (j+1);rw[htk,DJ]at hmono;have HTK:=H_ htk;have hmem:=DW hx;have hmz:=cd msz hx;have hcz:csz c=1+c.fields.length+lsz msz c.methods:=rfl;have hmsz:msz ⟨nm,ps,bo⟩=1+ps.length+eN bo:=by rw[lD];rfl
     have hv':=HV.out;unfold vCl at hv';simp only[Ee]at hv';have hme:=Ec.1 hv'.2.2.2 _ hmem;unfold vMe at hme;simp only[Ee]at hme;have hbv:vSs bo=true:=hme.2.2;have hpl:ps.length=n3:=hsp.1;have hmt:tMe ⟨nm,ps,bo⟩=tLn 1 (sOn++(nm.data.toList++([40]++(cO ps++[41,32,123]))))++(tSs bo 2++tLn 1 [125]):=by simp[tMe]
     have hml:=Fo List.length hmt;simp only[DJ]at hml;have htn:(cO ps).length<=(tLn 1 (sOn++(nm.data.toList++([40]++(cO ps++[41,32,123]))))).length:=by rw[bD];simp only[DJ];omega
     have htb:TB=1000000000:=rfl;have HMT:=H_ hmt;obtain⟨w2,hw2⟩:=nm_ (wr.alloc (.cells #[.string nm,.slice A3 n3 c3,.slice A4 n4 c4] 121));obtain⟨g5,hg5⟩:∃g,wr.heap.size=g:=⟨_,rfl⟩;have HQ:=hng hw2 hg5;have l2:Lk B p wr w2:=Lk.al (bal hw2);have hs2:w2.heap.size=g5+1:=by rw[<-hw2,DV,hg5]
     have HP2:=H_ (HPr.out.below (bal hw2));have HL2:=H_ (HL.out.trans l2);have HF2:=H_ ((HB1.out.lk HL.out h1).al hw2);have HSP:=H_ (Sl.lk hsp l2 (by omega));have HSB:=H_ (Sl.lk hsb l2 (by omega));have HW2:=H_ hw2;clear hx hat hgb hcap hsp hsb hw2 l2 htk hmt hv' hme hmem;go_upto_region 8 with fail;rw[HW2.out]
     refine cv 5 7 (λxs=>{tmps:= #[.pointer (some ⟨g2,0,none⟩),.pointer (some ⟨g1,0,none⟩),undef,u3,undef,.pointer (some ⟨g5,0,none⟩),.pointer (some ⟨g2,2,none⟩),.slice A1 k c1,.int .i64 k,.int .i64 k,.bool false,u11,u12,u13,u14,u15,u16,u17,.pointer (some ⟨g2,3,none⟩),.slice (some ⟨b,off,none⟩) n2 c2,.int .i64 n2,.int .i64 j,.bool true,.pointer (some ⟨b,off+j*3,none⟩),.agg #[.string nm,.slice A3 n3 c3,.slice A4 n4 c4],(xs 0).getD u25,(xs 1).getD u26,(xs 2).getD u27,(xs 3).getD u28,(xs 4).getD u29,(xs 5).getD u30,(xs 6).getD u31,u32,u33,u34,u35,u36,u37,u38,u39,u40],defers:=[]}) (λ_ W=>Below w2.heap.size w2 W) w2.heap.size
      (λi=>match i with
        |0=>fEq (.pointer (some ⟨p,0,none⟩))
        |1=>fEq (.pointer (some ⟨g5,0,none⟩))
        |2=>fEq (.string nm)
        |3=>fEq (.pointer (some ⟨g5,1,none⟩))
        |4=>fEq (.slice A3 n3 c3)
        |5=>fEq (.string (ba (cO ps)))
        |_=>fRow5 w2.heap.size 9 #[.string ⟨#[111,110,32]⟩,.string nm,.string ⟨#[40]⟩,.string (ba (cO ps)),.string ⟨#[41,32,123]⟩])
      (by
        intro k
        match k with
        |0=>exact fEq.st _ _
        |1=>exact fEq.st _ _
        |2=>exact fEq.st _ _
        |3=>exact fEq.st _ _
        |4=>exact fEq.st _ _
        |5=>exact fEq.st _ _
        |_+6=>exact fRow5.st _ _ _)
      (by kernel_rfl) (by kernel_rfl) (by decide) (by kernel_rfl) (by decide) rfl (DN _ _).drew ?_ ?_ ?_
     ·intro i' hi hic b xs W hJ hd;have f0:=(HF2.out.below hJ HF2.out.lt).k0;obtain⟨q0,q1,q2'⟩:=(HQ.out.below hJ HQ.out.lt).c3;obtain rfl|rfl|rfl|rfl|rfl|rfl:i'=0\/i'=1\/i'=2\/i'=3\/i'=4\/i'=6:=by omega
      ·refine DU rfl λK hK=>?_;go_simp;exact hK _ _ ⟨_,rfl,hJ,rfl,Nw.refl _ _⟩
      ·refine DU rfl λK hK=>?_;go_simp;exact hK _ _ ⟨_,rfl,hJ,rfl,Nw.refl _ _⟩
      ·obtain⟨_,h0,rfl⟩:=hd 1;refine DU rfl λK hK=>?_;go_simp;exact hK _ _ ⟨_,by simp only[bG,h0];rfl,hJ,rfl,Nw.refl _ _⟩
      ·refine DU rfl λK hK=>?_;go_simp;exact hK _ _ ⟨_,rfl,hJ,rfl,Nw.refl _ _⟩
      ·obtain⟨_,h0,rfl⟩:=hd 3;refine DU rfl λK hK=>?_;go_simp;exact hK _ _ ⟨_,by simp only[bG,h0];rfl,hJ,rfl,Nw.refl _ _⟩
      ·obtain⟨_,h2,rfl⟩:=hd 2;obtain⟨_,h5,rfl⟩:=hd 5;have hb:=(DN W.heap.size W).alloc (DK _) (.cells #[.string ⟨#[111,110,32]⟩,.string nm,.string ⟨#[40]⟩,.string (ba (cO ps)),.string ⟨#[41,32,123]⟩] 9);refine DU rfl λK hK=>?_;go_simp;exact hK _ _ ⟨.slice (some ⟨W.heap.size,0,none⟩) 5 5,by simp only[bG,h2,h5];rfl,hJ.trans (hb.mono hJ.size),⟨W.heap.size,rfl,hJ.size,Blk.new W 9 _⟩,q9 hb⟩
     ·intro xs W hJ hd;obtain⟨_,h4,rfl⟩:=hd 4;have HC:=H_ (BI ps A3 n3 c3 W (GB B p N) (HSP.out.lk (Lk.of hJ (DK _)) (by omega)) (λq hq=>by have:=hq.1;have:=hJ.size;omega) hc3 (by omega) (by omega));refine DU rfl λK hK=>?_;go_simp;refine HC.out.mono ?_;rintro e w3 ⟨rfl,b3⟩;exact hK _ _ ⟨_,by simp only[bG,h4];rfl,hJ.trans (b3.mono hJ.size),rfl,q9 b3⟩
     ·intro xs W hJ hd;obtain⟨_,h0,rfl⟩:=hd 0;obtain⟨_,h1',rfl⟩:=hd 1;obtain⟨_,h2',rfl⟩:=hd 2;obtain⟨_,h3,rfl⟩:=hd 3;obtain⟨_,h4,rfl⟩:=hd 4;obtain⟨_,h5,rfl⟩:=hd 5;obtain⟨_,h6,ra,rfl,hra⟩:=hd 6;rw[show List.range' 7 _=[7]from rfl,Fb];refine DU rfl λK hK=>?_;simp only[h0,h1',h2',h3,h4,h5,h6,Fz];have hJL:Lk B p w2 W:=Lk.of hJ (DK _);have hJs:=hJ.size
      have HC:=H_ (oc (B:=B) (p:=p) (d:=1) [⟨#[111,110,32]⟩,nm,⟨#[40]⟩,ba (cO ps),⟨#[41,32,123]⟩] ra 5 (HP2.out.below hJ) hra.2 (by have:=hra.1;omega) (by simp) (by omega) (by
       have hcat:eb [⟨#[111,110,32]⟩,nm,⟨#[40]⟩,ba (cO ps),⟨#[41,32,123]⟩]=sOn++(nm.data.toList++([40]++(cO ps++[41,32,123]))):=by simp[eb,sOn,ba]
       rw[hcat];simp only[DJ];omega))
      have HJL:=H_ hJL;clear hra hd hJ hJL;go_simp;refine HC.out.mono ?_;rintro e w4 ⟨rfl,l4,p4⟩;have hcat:eb [⟨#[111,110,32]⟩,nm,⟨#[40]⟩,ba (cO ps),⟨#[41,32,123]⟩]=sOn++(nm.data.toList++([40]++(cO ps++[41,32,123]))):=by simp[eb,sOn,ba]
      rw[hcat]at p4;have hs4:=l4.size;have hR4:=HJL.out.trans l4;have f4:=(HF2.out.lk hR4 h1).k0;obtain⟨y0,y1,y2⟩:=(HQ.out.lk hR4 (by omega)).c3
      have HC5:=H_ (oj bo (λy hy=>pL B p N _ y 2 (DK _) (by have:=fe hy;omega) (ec hbv y hy)) A4 n4 c4 w4 _ (HSB.out.lk hR4 (by omega)) p4 (HG.out.lk (HL2.out.trans hR4) hlt) (by omega) (by
       simp only[DJ];show _+(tSs bo 2).length<=TB;omega))
      have HR4:=H_ hR4;clear l4 p4 HC hR4 hcat
      refine hK _ _ ?_;unfold wpOps;go_wp2_with fail;refine HC5.out.mono ?_;rintro e w5 ⟨rfl,l5,p5⟩;have hs5:=l5.size;have hR5:=HR4.out.trans l5;have f5:=(HF2.out.lk hR5 h1).k0
      have HC6:=H_ (wd1 p5 ⟨#[125]⟩ (by omega) (by
       simp only[DJ];show _+(tSs bo 2).length+(tLn 1 [125]).length<=TB;omega))
      have HR5:=H_ hR5;clear l5 p5 HC5 hR5;go_wp2_with fail;refine HC6.out.mono ?_;rintro e w6 ⟨rfl,l6,p6⟩;have HL6:=H_ (HL2.out.trans (HR5.out.trans l6));have HP6:=H_ p6;clear l6 p6 HC6;go_wp2_with fail;go_roundw
      case rel=>exact⟨j+1,by omega,by go_num,HL6,H_ (by rw[HTK.out,HMT.out];simpa using HP6.out)⟩
      case measure=>simp[intOf];omega
    ·obtain rfl:j=n2:=by omega
     rw[DP (by omega)]at HPr;go_wp2_with fail;go_end0;exact⟨rfl,HL.out,HPr.out⟩
theorem yg:∀(ar:Array Value) (w:World),(callFunc 114 ar).run Tryz.prog w= .ok (.enter 114 ar) w:=λ_ _=>by kernel_rfl
theorem D7{p:Nat}(c:Cl)(hv:vCl c=true)(hsz:csz c<=900000)(cs:List Value)(w:World)(s:List UInt8)(hr:ClK w (GB B p N) c cs)(hp:PW w B p 0 s)(hg:GP w p N)(hlen:s.length+(tCl c).length<=TB):
 Calls Tryz.prog 66 #[.pointer (some ⟨p,0,none⟩),.agg cs.toArray] w (Pr B p 0 s (tCl c) w):=by
 obtain⟨A1,n1,c1,A2,n2,c2,rfl,hs1,hs2⟩:=ClK.inv hr;obtain⟨nm,ac,fs,ms⟩:=c;obtain⟨g1,hz⟩:∃g,w.heap.size=g:=⟨_,rfl⟩;obtain⟨W0,hW0⟩:=nm_ (w.alloc (.cells #[.pointer (some ⟨p,0,none⟩)] 126));obtain⟨W1,hW1⟩:=nm_ (W0.alloc (.cells #[.string nm,.bool ac,.slice A1 n1 c1,.slice A2 n2 c2] 117));have hlt:=hp.lt;have hle:=hp.le;have HF0:=hng hW0 hz;have hs0:W0.heap.size=g1+1:=by rw[<-hW0,DV,hz]
 have HE1:=hng hW1 hs0;have hsW:W1.heap.size=g1+2:=by rw[<-hW1,DV,hs0]
 have HF1:=H_ (HF0.out.al hW1);have l1:Lk B p w W1:=(Lk.al (bal hW0)).trans (Lk.al (bal hW1));have HL1:=H_ l1;have HP1:=H_ ((hp.below (bal hW0)).below (bal hW1));have HG1:=H_ (hg.lk l1 hlt);have HS1:=H_ (Sl.lk hs1 l1 hle);have HS2:=H_ (Sl.lk hs2 l1 hle);have HW:=H_ (And.intro hW0 hW1);have HV:=H_ hv;have f0:=HF1.out.k0;obtain⟨e0,e1,e2,e3⟩:=HE1.out.c4;have hB1:B<=W1.heap.size:=by omega
 have hpg1:g1≠p:=by omega
 have hpg2:g1+1≠p:=by omega
 obtain⟨T,hT⟩:=nm_ (tCl ⟨nm,ac,fs,ms⟩);rw[hT]at hlen⊢;obtain⟨K,hK⟩:∃K:ByteArray,K=if ac=true then⟨#[97,99,116,111,114,32]⟩else⟨#[114,101,99,111,114,100,32]⟩:=⟨_,rfl⟩
 have hT2:T=tLn 0 (K.data.toList++(nm.data.toList++[32,123]))++((fs.flatMap tFd++ms.flatMap tMe)++tLn 0 [125]):=by
  rw[<-hT,hK];unfold tCl;cases ac<;>simp[mf,jB,sBr]
 have hl2:=Fo List.length hT2;simp only[DJ]at hl2;have HT:=H_ hT2;have HC:=H_ (wd3 HP1.out K nm ⟨#[32,123]⟩ (by omega) (by show s.length+(tLn 0 (K.data.toList++(nm.data.toList++[32,123]))).length<=TB;omega));rw[hsW]at HC;clear hs1 hs2 hp hg hW0 hW1 l1 HF0 hv hT hT2;go_enter Tryz.func66,Tryz.ntmps66;go_upto_region 1 with fail;rw[HW.out.1,HW.out.2];cases ac
 all_goals
  simp only[FP,if_false,FZ]at hK;subst hK;go_wp2_with fail;refine HC.out.mono ?_;rintro e w2 ⟨rfl,l2,p2⟩;have hs2:=l2.size;have r0:=(HF1.out.lk l2 hpg1).k0;have HR2:=H_ l2
  have HCB:=H_ (qO (fs.flatMap tFd++ms.flatMap tMe) 114 #[.pointer (some ⟨g1+1,0,none⟩),.pointer (some ⟨g1,0,none⟩)] yg p2 (by omega) (λw3 l3 p3=>
   C9 _ HV.out hsz A1 n1 c1 A2 n2 c2 g1 (g1+1) _ _ w3 _ (HF1.out.lk (HR2.out.trans l3) hpg1) (HE1.out.lk (HR2.out.trans l3) hpg2) (HS1.out.lk (HR2.out.trans l3) hB1) (HS2.out.lk (HR2.out.trans l3) hB1) hpg1 hpg2 p3 (HG1.out.lk (HR2.out.trans l3) hlt) (by
    rw[DJ];show s.length+(tLn 0 _).length+((fs.flatMap tFd).length+(ms.flatMap tMe).length)<=TB;omega)))
  clear l2 p2 HC;have hen:=yg;go_wp2_with fail;refine HCB.out.mono ?_;rintro e w4 ⟨rfl,l4,p4⟩;have hs4:=l4.size;have x0:=(HF1.out.lk (HR2.out.trans l4) hpg1).k0
  have HC5:=H_ (wd1 p4 ⟨#[125]⟩ (by omega) (by
   simp only[DJ];show s.length+(tLn 0 _).length+_+(tLn 0 [125]).length<=TB;omega))
  have HR4:=H_ (HR2.out.trans l4);clear l4 p4 HCB;go_wp2_with fail;refine HC5.out.mono ?_;rintro e w5 ⟨rfl,l5,p5⟩;have HL5:=H_ (HL1.out.trans (HR4.out.trans l5));have HP5:=H_ p5;clear l5 p5 HC5;go_wp2_with fail;go_end0;exact⟨rfl,HL5.out,by rw[HT.out];simpa using HP5.out⟩
theorem vJ{k:Nat}{x:Cl}(h:xs[k]?=some x):tPr (xs.take (k+1))=tPr (xs.take k)++tCl x:=by
 rw[EQ,h];simp[tPr]
theorem pG:∀(xs:List Cl) (k:Nat),(tPr (xs.take k)).length<=(tPr xs).length
 |[],k=>by simp
 |a::l,0=>by simp[tPr]
 |a::l,k+1=>by
  have:=pG l k;simp only[tPr,List.take_succ_cons,Ez,DJ]at*
  omega
theorem AR(c:Cl):tCl c≠[]:=by unfold tCl;simp[tLn]
theorem AP(h:xs≠[]):tPr xs≠[]:=by
 cases xs with
 |nil=>exact absurd rfl h
 |cons a l=>simp[tPr,AR]
theorem pS{a b:List UInt8}(h:a=b):Ending.returned (.string ⟨a.toArray⟩)= .returned (.string ⟨b.toArray⟩):=by rw[h]
def pgT(cl:List Cl):List UInt8:=if vPr cl=true then tPr cl else[]
theorem Bh(cl:List Cl)(A:Option Addr)(n c:Nat)(w:World)(N:Nat)(hs:Sl fh w (λb=>b<N) cl A n)(hN:N<=w.heap.size)(hg:Gl w)(hf:GlF w)(hcap:Cap w N)(hz:∀c∈cl,csz c<=900000)(hlen:vPr cl=true->(tPr cl).length<=TB):
 Calls Tryz.prog 34 #[.agg #[.slice A n c]] w λe w'=>e= .returned (.string ⟨(pgT cl).toArray⟩)/\Below w.heap.size w w':=by
 have hbig:=hg.big;obtain⟨g,hgz⟩:=nm_ (w.heap.size);obtain⟨W1,hW1⟩:=nm_ (w.alloc (.cells #[.slice A n c] 28));have HT:=hng hW1 hgz;have HB1:=hba hW1;have hs1:W1.heap.size=g+1:=by rw[<-hW1,DV,hgz]
 have HGl:=H_ (hg.below HB1.out);have HF:=H_ (hf.below HB1.out hbig);have HS1:Hid (Sl fh W1 (λb=>b<N) cl A n):=H_ (hs.aA λb hb=>⟨hb,HB1.out.block b (by omega)⟩);have HCP:Hid (Cap W1 N):=H_ (hcap.aA λb hb=>HB1.out.block b (by omega));have HV:=H_ (sK cl A n c W1 _ HS1.out (λb hb=>by omega) HGl.out HF.out);have HW:=H_ hW1;have hln:=hs.1;have hnb:n<=1152921504606846976:=hs.2.1;have t0:=HT.out.k0;obtain⟨vb,hvb⟩:=nm_ (vPr cl);have hpt:pgT cl=if vb=true then tPr cl else[]:=by rw[<-hvb];rfl
 have HPT:=H_ hpt;have HVB:=H_ hvb;rw[hvb]at HV;have HLE:=H_ hlen;have HZ:=H_ hz;clear hs hg hf hcap hz hlen hvb hpt hW1;go_enter Tryz.func34,Tryz.ntmps34;rw[hgz];go_upto_region 1 with fail;rw[HW.out];go_wp2_with fail;refine HV.out.mono ?_;rintro r w2 ⟨rfl,b2⟩;have hs2:=b2.size;have HB2:=H_ (HB1.out.trans (b2.mono (by omega)));have HT2:=hbl HT b2;have HS2:Hid (Sl fh w2 (λb=>b<N) cl A n):=H_ (HS1.out.aA λb hb=>⟨hb,b2.block b (by omega)⟩);have HCP2:Hid (Cap w2 N):=H_ (HCP.out.aA λb hb=>b2.block b (by omega));have HGl2:=H_ (HGl.out.below b2);have HF2:=H_ (HF.out.below b2 (by omega));have t0:=HT2.out.k0;clear b2 HV;by_cases hv:vb=true
 ·subst hv;rw[Ed rfl]at HPT;have hlen:=HLE.out HVB.out;obtain⟨p,hp⟩:=nm_ (w2.heap.size);obtain⟨W3,hW3⟩:=nm_ (w2.alloc (.cells #[.pointer none,.slice none 0 0,.int .i64 0] 128));have HP3:=hng hW3 hp;have HB3:=hba hW3;have hs3:W3.heap.size=p+1:=by rw[<-hW3,DV,hp]
  have HPW:Hid (PW W3 (p+1) p 0 []):=H_ ⟨⟨_,_,HP3.out,.inl rfl,Fi _ _ _ _⟩,by omega,by omega⟩;have HT3:=H_ (HT2.out.al hW3);have HS3:Hid (Sl fh W3 (GB (p+1) p N) cl A n):=H_ (HS2.out.aA λb hb=>⟨⟨by omega,by omega,hb⟩,HB3.out.block b (by omega)⟩);have HG3:Hid (GP W3 p N):=H_ ⟨GlB.below (hp▸HGl2.out) (hp▸HB3.out),HF2.out.below HB3.out (by omega),by omega,HCP2.out.aA λb hb=>HB3.out.block b (by omega)⟩;have HW3:=H_ hW3;have t0:=HT3.out.k0;have x0:=HP3.out.k0;have hgp:g≠p:=by omega
  clear hW3;go_upto_region 4 with fail;rw[HW3.out];go_wp2_with fail;go_loopw [14] (λi wr=>∃k:Nat,k<=n/\i= .int .i64 k/\Hid (Lk (p+1) p W3 wr)/\Hid (PW wr (p+1) p 0 (tPr (cl.take k)))/\Hid (k=0->wr=W3)) (λi _=>n-(intOf i).toNat)
  case atStart=>exact⟨0,Ea _,rfl,H_ (Lk.refl _ _ _),H_ (by simpa[tPr]using HPW.out),H_ λ_=>rfl⟩
  case round=>
   obtain⟨k,hk,rfl,HL,HP,HK0⟩:=hrel;have hsr:=HL.out.size;by_cases hkm:k<n
   ·have hkz:(k:Int)<(n:Int):=by omega
    obtain⟨b,off,a,cs,rfl,hgb,ha,hrd,hat⟩:=(HS3.out.lk HL.out (by omega)).at_ hkm;have hmem:=DW ha;have hva:vCl a=true:=Ec.mp HVB.out a hmem;have hmono:=pG cl (k+1);have htk:=vJ ha;rw[htk,DJ]at hmono;have HTK:=H_ htk;have HR:=H_ hrd;obtain⟨nm,ac,fs,ms⟩:=a;obtain⟨A1,n1,c1,A2,n2,c2,rfl,hsa⟩:=ClK.inv hrd;obtain⟨d0,d1,d2,d3⟩:=At.e4 hat
    obtain⟨w3,hw3⟩:=nm_ (wr.alloc (.cells #[.string nm,.bool ac,.slice A1 n1 c1,.slice A2 n2 c2] 117));have HW5:=H_ hw3;obtain⟨q0,q1,q2,q3⟩:=(hnw hw3).out.c4;have l3:Lk (p+1) p wr w3:=Lk.al (bal hw3);have u0:=((HT3.out.lk HL.out hgp).al hw3).k0;have HC:=H_ (D7 _ hva (HZ.out _ hmem) _ w3 _ (fh.aA (λq hq=>⟨hq,l3.gb (by omega) hq⟩) HR.out) (HP.out.below (bal hw3)) ((HG3.out.lk HL.out (by omega)).lk l3 (by omega)) (by omega));have HL3:=H_ (HL.out.trans l3);clear ha hat hsa hmem hgb hw3 l3 htk HP HL HK0 hva HR;go_upto_region 7 with fail;rw[HW5.out];go_wp2_with fail;refine HC.out.mono ?_;rintro e w4 ⟨rfl,l4,p4⟩;have HL4:=H_ (HL3.out.trans l4);have HP4:=H_ p4;clear l4 p4 HC HL3;go_wp2_with fail;go_roundw
    case rel=>exact⟨k+1,by omega,by go_num,HL4,H_ (by rw[HTK.out];exact HP4.out),H_ λh=>absurd h (by omega)⟩
    case measure=>simp[intOf];omega
   ·obtain rfl:k=n:=by omega
    rw[DP (by omega)]at HP
    have HC:Hid (Calls Tryz.prog 35 #[.pointer (some ⟨p,0,none⟩)] wr λe w'=>e= .returned (.string ⟨(tPr cl).toArray⟩)/\Lk (p+1) p wr w'):=by
     by_cases h0:k=0
     ·have h00:cl=[]:=En (by omega);have hwr:=HK0.out h0;subst h00;refine H_ ?_;rw[hwr];exact vX (o:=0) (T:=128) (cs:= #[.pointer none,.slice none 0 0,.int .i64 0]) (sv:= .slice none 0 0) [] W3 HP3.out rfl (Fi _ _ _ _) (λ_=>rfl) (by omega) (by simp)
     ·exact H_ (HP.out.str (AP λe=>by subst e;simp at hln;omega) hlen)
    have HLB:=H_ HL.out;clear HP HL HK0;go_wp2_with fail;refine HC.out.mono ?_;rintro e w4 ⟨rfl,l4⟩;have HE:Hid (Below g w w4):=H_ (hgz▸(HB2.out.trans ((HB3.out.mono (by omega)).trans ((HLB.out.trans l4).below (by omega) (by omega) (by omega)))));clear l4 HC;go_wp2_with fail;go_ret;exact⟨pS HPT.out.symm,HE.out⟩
 ·rw[DS hv]at HPT;go_wp2_with fail;go_ret;exact⟨pS HPT.out.symm,hgz▸HB2.out⟩

end
end Go.Proofs.YtjpbckbpeblibaaGreatDoor
