/- part of a proof -/
import Derived.Test.YtjpbckbpeblibaaGreatDoorK18
namespace Go.Proofs.YtjpbckbpeblibaaGreatDoor
set_option linter.unusedVariables false
set_option linter.unusedSimpArgs false
set_option maxRecDepth 100000
set_option maxHeartbeats 64000000
section
open Go.RowKit
variable{a j l m q r:Nat}{b1 b2 b3 b4 b5:Bool}{e:TypeId}{s:ByteArray}{w:World}{x y:Ex}
def bh(g f e:Nat):Nat->Prop:=λb=>b=g\/b=f\/b=e
set_option pp.deepTerms true
set_option pp.maxSteps 10000000
section
variable{T:List Tk}{ex:Nat->Nat->R Ex}{i:Nat}{b:Bool}
theorem nf{k:Int}(h1:Is (lif (aj T 2) i b) s j b1)(h2:Is (lif (ap T cj) j b1) () l b2)(h3:Is (lif (ex 0) l b2) x m b3):Is (lif (cR T ex k) i b) (stE k s [x]) m b3:=by
 cases b with
 |true=>
  obtain⟨rfl,rfl⟩:=Is.aD h1;obtain⟨rfl,rfl⟩:=Is.aD h2;obtain⟨rfl,rfl⟩:=Is.aD h3;rfl
 |false=>
  rw[aU];unfold cR;have e0:aj T 2 i=if b1=true then .bad j else .ok s j:=h1;rw[e0];cases b1 with
  |true=>
   obtain⟨rfl,rfl⟩:=Is.aD h2;obtain⟨rfl,rfl⟩:=Is.aD h3;rfl
  |false=>
   simp only[AU,BO];have e1:ap T cj j=if b2=true then .bad l else .ok () l:=h2;rw[e1];cases b2 with
   |true=>
    obtain⟨rfl,rfl⟩:=Is.aD h3;rfl
   |false=>
    simp only[AU,BO];have e2:ex 0 l=if b3=true then .bad m else .ok x m:=h3;rw[e2];cases b3<;>rfl
theorem xd(h1:Is (lif (ex 0) i b) x j b1)(h2:Is (lif (ap T kTo) j b1) () l b2)(h3:Is (lif (ex 0) l b2) y m b3):Is (lif (i8 T ex) i b) (stE 7 ⟨#[]⟩ [x,y]) m b3:=by
 cases b with
 |true=>
  obtain⟨rfl,rfl⟩:=Is.aD h1;obtain⟨rfl,rfl⟩:=Is.aD h2;obtain⟨rfl,rfl⟩:=Is.aD h3;rfl
 |false=>
  rw[aU];unfold i8;have e0:ex 0 i=if b1=true then .bad j else .ok x j:=h1;rw[e0];cases b1 with
  |true=>
   obtain⟨rfl,rfl⟩:=Is.aD h2;obtain⟨rfl,rfl⟩:=Is.aD h3;rfl
  |false=>
   simp only[AU,BO];have e1:ap T kTo j=if b2=true then .bad l else .ok () l:=h2;rw[e1];cases b2 with
   |true=>
    obtain⟨rfl,rfl⟩:=Is.aD h3;rfl
   |false=>
    simp only[AU,BO];have e2:ex 0 l=if b3=true then .bad m else .ok y m:=h3;rw[e2];cases b3<;>rfl
theorem tN{t:Nat}{b6:Bool}(h1:Is (lif (ex 0) i b) x j b1)(h2:Is (lif (ap T kBy) j b1) () l b2)(h3:Is (lif (aj T 2) l b2) s m b3)(h4:Is (lif (ap T eA) m b3) () q b4)(h5:Is (lif (ex 0) q b4) y r b5)(h6:Is (lif (ap T eg) r b5) () t b6):Is (lif (dU T ex) i b) (stE 8 s [x,y]) t b6:=by
 cases b with
 |true=>
  obtain⟨rfl,rfl⟩:=Is.aD h1;obtain⟨rfl,rfl⟩:=Is.aD h2;obtain⟨rfl,rfl⟩:=Is.aD h3;obtain⟨rfl,rfl⟩:=Is.aD h4;obtain⟨rfl,rfl⟩:=Is.aD h5;obtain⟨rfl,rfl⟩:=Is.aD h6;rfl
 |false=>
  rw[aU];unfold dU;have e0:ex 0 i=if b1=true then .bad j else .ok x j:=h1;rw[e0];cases b1 with
  |true=>
   obtain⟨rfl,rfl⟩:=Is.aD h2;obtain⟨rfl,rfl⟩:=Is.aD h3;obtain⟨rfl,rfl⟩:=Is.aD h4;obtain⟨rfl,rfl⟩:=Is.aD h5;obtain⟨rfl,rfl⟩:=Is.aD h6;rfl
  |false=>
   simp only[AU,BO];have e1:ap T kBy j=if b2=true then .bad l else .ok () l:=h2;rw[e1];cases b2 with
   |true=>
    obtain⟨rfl,rfl⟩:=Is.aD h3;obtain⟨rfl,rfl⟩:=Is.aD h4;obtain⟨rfl,rfl⟩:=Is.aD h5;obtain⟨rfl,rfl⟩:=Is.aD h6;rfl
   |false=>
    simp only[AU,BO];have e2:aj T 2 l=if b3=true then .bad m else .ok s m:=h3;rw[e2];cases b3 with
    |true=>
     obtain⟨rfl,rfl⟩:=Is.aD h4;obtain⟨rfl,rfl⟩:=Is.aD h5;obtain⟨rfl,rfl⟩:=Is.aD h6;rfl
    |false=>
     simp only[AU,BO];have e3:ap T eA m=if b4=true then .bad q else .ok () q:=h4;rw[e3];cases b4 with
     |true=>
      obtain⟨rfl,rfl⟩:=Is.aD h5;obtain⟨rfl,rfl⟩:=Is.aD h6;rfl
     |false=>
      simp only[AU,BO];have e4:ex 0 q=if b5=true then .bad r else .ok y r:=h5;rw[e4];cases b5 with
      |true=>
       obtain⟨rfl,rfl⟩:=Is.aD h6;rfl
      |false=>
       simp only[AU,BO];have e5:ap T eg r=if b6=true then .bad t else .ok () t:=h6;rw[e5];cases b6<;>rfl
theorem tZ(h1:Is (lif (ex 8) i b) x j b1)(h2:Is (lif (ap T DOT) j b1) () l b2)(h3:Is (lif (aj T 2) l b2) s m b3)(h4:Is (lif (ap T cj) m b3) () q b4)(h5:Is (lif (ex 0) q b4) y r b5):Is (lif (dV T ex) i b) (stE 2 s [x,y]) r b5:=by
 cases b with
 |true=>
  obtain⟨rfl,rfl⟩:=Is.aD h1;obtain⟨rfl,rfl⟩:=Is.aD h2;obtain⟨rfl,rfl⟩:=Is.aD h3;obtain⟨rfl,rfl⟩:=Is.aD h4;obtain⟨rfl,rfl⟩:=Is.aD h5;rfl
 |false=>
  rw[aU];unfold dV;have e0:ex 8 i=if b1=true then .bad j else .ok x j:=h1;rw[e0];cases b1 with
  |true=>
   obtain⟨rfl,rfl⟩:=Is.aD h2;obtain⟨rfl,rfl⟩:=Is.aD h3;obtain⟨rfl,rfl⟩:=Is.aD h4;obtain⟨rfl,rfl⟩:=Is.aD h5;rfl
  |false=>
   simp only[AU,BO];have e1:ap T DOT j=if b2=true then .bad l else .ok () l:=h2;rw[e1];cases b2 with
   |true=>
    obtain⟨rfl,rfl⟩:=Is.aD h3;obtain⟨rfl,rfl⟩:=Is.aD h4;obtain⟨rfl,rfl⟩:=Is.aD h5;rfl
   |false=>
    simp only[AU,BO];have e2:aj T 2 l=if b3=true then .bad m else .ok s m:=h3;rw[e2];cases b3 with
    |true=>
     obtain⟨rfl,rfl⟩:=Is.aD h4;obtain⟨rfl,rfl⟩:=Is.aD h5;rfl
    |false=>
     simp only[AU,BO];have e3:ap T cj m=if b4=true then .bad q else .ok () q:=h4;rw[e3];cases b4 with
     |true=>
      obtain⟨rfl,rfl⟩:=Is.aD h5;rfl
     |false=>
      simp only[AU,BO];have e4:ex 0 q=if b5=true then .bad r else .ok y r:=h5;rw[e4];cases b5<;>rfl
theorem pX(HX:∀j,i<j->EAt T (ex 0) 0 j)(HT:isT T eu i=true)(p c:Nat)(A:Option Addr)(w:World)(h:RS w p A c T i false):
 Calls Tryz.prog 259 #[.pointer (some ⟨p,0,none⟩)] w (ROut rvS p A c T w i (ak T ex i)):=by
 have HX':=H_ HX;clear HX;have hp:=h.aG.lt;obtain⟨w0,hw0,q0,b0,P0⟩:=ki h;have hs0:=b0.size;have Q0:=H_ q0;have B0:=H_ b0;have HP0:=H_ P0;have hg0:=q0.lt;clear h q0 b0 P0;go_enter Tryz.func259,Tryz.ntmps259;go_upto_region 2 with(fail);obtain⟨f,hfz⟩:=nm_ (w0.heap.size);obtain⟨w1,hw1⟩:=nm_ (w0.alloc (.cells #[.int .i64 0,.string ⟨#[]⟩,.slice none 0 0,.slice none 0 0,.slice none 0 0] 168));have b1:Bx w0.heap.size p w0 w1:=bxn hw1;have F1:=hng hw1 hfz;have Q1:=hbx Q0 b1 hg0;have B1:=hth B0 b1;have HP1:=H_ (HP0.out.al hw1);have hs1:=b1.size;rw[hw1,hfz];clear hw0 hw1 b1 Q0 B0 HP0;obtain⟨g,hgz⟩:=nm_ (w.heap.size);rw[hgz]at Q1 hg0 hs0;try rw[hgz]
 have qlt1:=Q1.out.lt;have flt1:=F1.out.lt;go_wp2_with fail;refine am HP1.out _ (λ_ _ w2 P2 b2=>?_) (λht _ _ _=>by rcases ht with h|h;cases h;exact absurd (show isT T eu i=false from h) (by rw[HT];decide));obtain⟨hs2,B2,Q2,qlt2,F2,flt2⟩:=fr2 B1 Q1 F1 b2;have HP2:=H_ P2;clear Q1 F1 B1 HP1 P2 b2;go_wp2_with fail;have hfl:=cX;refine du HP2.out 2 (by decide) (λkk3 s3 zz3 qq3 j3 e3 w3 P3 hr hij3 b3=>?_);have HR3:=H_ hr;clear hr;obtain⟨hs3,B3,Q3,qlt3,F3,flt3⟩:=fr2 B2 Q2 F2 b3;have HP3:=H_ P3;clear Q2 F2 B2 HP2 P3 b3;obtain⟨f0',f1',f2',f3',f4'⟩:=F3.out.aE.2;have x1:=F3.out.k1;go_upto_region 4 with fail;obtain⟨w4,hw4⟩:=nm_ (w3.setCell ⟨f,1,none⟩ (.string s3));have b4:=bx1 hw4;have F4:=H_ (show Blk w4 f 168 #[.int .i64 0,.string s3,.slice none 0 0,.slice none 0 0,.slice none 0 0]from hw4▸F3.out.set 1 _);have Q4:=hbx Q3 b4;have HP4:=H_ (HP3.out.aA b4 (by omega));have B4:=H_ (B3.out.put b4 (by omega) (AB _));have hs4:=b4.size;have hz4:w4.heap.size=w3.heap.size:=by rw[<-hw4];simp
 have qlt4:=Q4.out.lt;have flt4:=F4.out.lt;rw[hw4];clear hw4 b4 F3 Q3 HP3 B3;clear f0' f1' f2' f3' f4' x1;go_wp2_with fail;refine bA HP4.out cj (λj5 e5 w5 P5 hr hij5 b5=>?_);have HR5:=H_ hr;clear hr;obtain⟨hs5,B5,Q5,qlt5,F5,flt5⟩:=fr2 B4 Q4 F4 b5;have HP5:=H_ P5;clear Q4 F4 B4 HP4 P5 b5;go_wp2_with fail;refine ROut.use (HX'.out j5 (by omega) p c A e5 w5 HP5.out) (λv x j6 e6 w6 hv P6 hr hij6 b6=>?_);obtain⟨k6,op6,z6,nm6,at6,A6,n6,c6,rfl,hv'⟩:=ExV.inv hv;have HV6:=H_ hv';have HR6:=H_ hr;clear hv hv' hr;obtain⟨hs6,B6,Q6,qlt6,F6,flt6⟩:=fr2 B5 Q5 F5 b6;have HP6:=H_ P6;clear Q5 F5 B5 HP5 P6 b6;obtain⟨f0',f1',f2',f3',f4'⟩:=F6.out.aE.2;have x1:=F6.out.k2;go_upto_region 6 with fail;obtain⟨a,haz⟩:=nm_ (w6.heap.size);rw[haz];have hzs:(w6.setCell ⟨f,2,none⟩ (.slice (some ⟨a,0,none⟩) 1 1)).heap.size=a:=by simp[haz]
 obtain⟨w7,hw7⟩:=nm_ ((w6.setCell ⟨f,2,none⟩ (.slice (some ⟨a,0,none⟩) 1 1)).alloc (.cells #[.int .i64 k6,.int .i64 op6,.int .i64 z6,.string nm6,.bool at6,.slice A6 n6 c6] 172));have b7:Bx w6.heap.size f w6 w7:=hw7▸((Bx.refl _ _ _).aJ (.inr rfl) _).alloc (by omega) _
 have A7:Blk w7 a 172 #[.int .i64 k6,.int .i64 op6,.int .i64 z6,.string nm6,.bool at6,.slice A6 n6 c6]:=by
  have:=Blk.new (w6.setCell ⟨f,2,none⟩ (.slice (some ⟨a,0,none⟩) 1 1)) 172 #[.int .i64 k6,.int .i64 op6,.int .i64 z6,.string nm6,.bool at6,.slice A6 n6 c6];rw[hzs,hw7]at this;exact this
 have F7:=H_ (show Blk w7 f 168 #[.int .i64 0,.string s3,.slice (some ⟨a,0,none⟩) 1 1,.slice none 0 0,.slice none 0 0]from hw7▸(F6.out.set 2 _).alloc _);have hz7:w7.heap.size=a+1:=by rw[<-hw7,AR,hzs]
 have X7:=H_ (show Sl kEx w7 (NG g (two g f) w7) [x] (some ⟨a,0,none⟩) 1 from
  dW (K:=kEx) A7 ⟨by omega,by omega,λh=>by unfold two at h;omega⟩ (ExC.aA (λb hb=>⟨⟨by have:=hb.1;omega,by have:=hb.2;omega,λh=>by have:=hb.1;have:=hb.2;unfold two at h;omega⟩,b7.block b hb.2 (by have:=hb.1;omega)⟩) HV6.out))
 have Q7:=hbx Q6 b7;have HP7:=H_ (HP6.out.aA b7 (by omega));have B7:=H_ (B6.out.put b7 (by omega) (AB _));have hs7:=b7.size;have qlt7:=Q7.out.lt;have flt7:=F7.out.lt;rw[hw7];clear hw7 b7 F6 Q6 HP6 B6 HV6 A7;clear f0' f1' f2' f3' f4' x1
 have HR:=H_ (show Is (ak T ex i) (stE 0 s3 [x]) j6 e6 by
  unfold ak;rw[cG HT];exact nf HR3.out HR5.out HR6.out)
 have VE:=H_ (StC.of 0 s3 1 0 0 X7.out (Sl.nil _ _ none) (Sl.nil _ _ none));clear X7 HR3 HR5 HR6;obtain⟨g0',g1',g2',g3',g4'⟩:=F7.out.aE.1;obtain⟨⟨d0,d1,d2,d3,d4⟩,f0,f1,f2,f3,f4⟩:=Q7.out.aE;go_wp2_with fail;exact lI rfl (by simp) Q7.out VE.out (λb hb=>⟨by have:=hb.1;have:=hb.2.2;unfold two at this;omega,hb.2.1⟩) HP7.out HR.out (by omega) (hgz▸B7.out) hgz (by omega)
theorem nu(HX:∀j,i<j->EAt T (ex 0) 0 j)(N1:isT T eu i=false)(N2:isT T cW i=false)(HT:isT T cD i=true)(p c:Nat)(A:Option Addr)(w:World)(h:RS w p A c T i false):
 Calls Tryz.prog 259 #[.pointer (some ⟨p,0,none⟩)] w (ROut rvS p A c T w i (ak T ex i)):=by
 have HX':=H_ HX;clear HX;have hp:=h.aG.lt;obtain⟨w0,hw0,q0,b0,P0⟩:=ki h;have hs0:=b0.size;have Q0:=H_ q0;have B0:=H_ b0;have HP0:=H_ P0;have hg0:=q0.lt;clear h q0 b0 P0;go_enter Tryz.func259,Tryz.ntmps259;go_upto_region 2 with(fail);obtain⟨f,hfz⟩:=nm_ (w0.heap.size);obtain⟨w1,hw1⟩:=nm_ (w0.alloc (.cells #[.int .i64 0,.string ⟨#[]⟩,.slice none 0 0,.slice none 0 0,.slice none 0 0] 168));have b1:Bx w0.heap.size p w0 w1:=bxn hw1;have F1:=hng hw1 hfz;have Q1:=hbx Q0 b1 hg0;have B1:=hth B0 b1;have HP1:=H_ (HP0.out.al hw1);have hs1:=b1.size;rw[hw1,hfz];clear hw0 hw1 b1 Q0 B0 HP0;obtain⟨g,hgz⟩:=nm_ (w.heap.size);rw[hgz]at Q1 hg0 hs0;try rw[hgz]
 have qlt1:=Q1.out.lt;have flt1:=F1.out.lt;go_wp2_with fail;refine am HP1.out _ (λ_ ht _ _ _=>absurd (show isT T eu i=true from ht) (by rw[N1];decide)) (λ_ w2 P2 b2=>?_);obtain⟨hs2,B2,Q2,qlt2,F2,flt2⟩:=fr2 B1 Q1 F1 b2;have HP2:=H_ P2;clear Q1 F1 B1 HP1 P2 b2;go_wp2_with fail;refine am HP2.out _ (λ_ ht _ _ _=>absurd (show isT T cW i=true from ht) (by rw[N2];decide)) (λ_ w3 P3 b3=>?_);obtain⟨hs3,B3,Q3,qlt3,F3,flt3⟩:=fr2 B2 Q2 F2 b3;have HP3:=H_ P3;clear Q2 F2 B2 HP2 P3 b3;go_wp2_with fail;refine am HP3.out _ (λ_ _ w4 P4 b4=>?_) (λht _ _ _=>by rcases ht with h|h;cases h;exact absurd (show isT T cD i=false from h) (by rw[HT];decide));obtain⟨hs4,B4,Q4,qlt4,F4,flt4⟩:=fr2 B3 Q3 F3 b4;have HP4:=H_ P4;clear Q3 F3 B3 HP3 P4 b4;go_wp2_with fail;refine ROut.use (HX'.out (i+1) (by omega) p c A false w4 HP4.out) (λv x j5 e5 w5 hv P5 hr hij5 b5=>?_);obtain⟨k5,op5,z5,nm5,at5,A5,n5,c5,rfl,hv'⟩:=ExV.inv hv;have HV5:=H_ hv';have HR5:=H_ hr;clear hv hv' hr;obtain⟨hs5,B5,Q5,qlt5,F5,flt5⟩:=fr2 B4 Q4 F4 b5;have HP5:=H_ P5;clear Q4 F4 B4 HP4 P5 b5
 have HR:=H_ (show Is (ak T ex i) (stE 6 ⟨#[]⟩ [x]) j5 e5 by
  unfold ak;rw[az N1,az N2,cG HT];have e1:ex 0 (i+1)=if e5=true then .bad j5 else .ok x j5:=HR5.out;rw[e1];cases e5<;>rfl)
 obtain⟨⟨d0,d1,d2,d3,d4⟩,f0,f1,f2,f3,f4⟩:=Q5.out.aE;go_wp2_with fail;obtain⟨N1',N2',N3'⟩:=ub Q5.out HV5.out (λb hb=>⟨hb.2,by have:=hb.1;omega⟩) 6 ⟨#[]⟩ _ rfl;exact gj rfl (by simp) N1' ⟨_,_,j5,e5,rfl,⟨_,rfl,N3'.aA (iw N2' (by omega) (by omega))⟩,HP5.out.aA N2' (by omega),HR.out,by omega,B5.out.put N2' (by omega) (AB _)⟩
theorem lY(HX:∀j,i<j->EAt T (ex 0) 0 j)(N1:isT T eu i=false)(N2:isT T cW i=false)(N3:isT T cD i=false)(N4:isT T et i=false)(N5:isT T dN i=false)(HT:isT T dO i=true)(p c:Nat)(A:Option Addr)(w:World)(h:RS w p A c T i false):
 Calls Tryz.prog 259 #[.pointer (some ⟨p,0,none⟩)] w (ROut rvS p A c T w i (ak T ex i)):=by
 have HX':=H_ HX;clear HX;have hp:=h.aG.lt;obtain⟨w0,hw0,q0,b0,P0⟩:=ki h;have hs0:=b0.size;have Q0:=H_ q0;have B0:=H_ b0;have HP0:=H_ P0;have hg0:=q0.lt;clear h q0 b0 P0;go_enter Tryz.func259,Tryz.ntmps259;go_upto_region 2 with(fail);obtain⟨f,hfz⟩:=nm_ (w0.heap.size);obtain⟨w1,hw1⟩:=nm_ (w0.alloc (.cells #[.int .i64 0,.string ⟨#[]⟩,.slice none 0 0,.slice none 0 0,.slice none 0 0] 168));have b1:Bx w0.heap.size p w0 w1:=bxn hw1;have F1:=hng hw1 hfz;have Q1:=hbx Q0 b1 hg0;have B1:=hth B0 b1;have HP1:=H_ (HP0.out.al hw1);have hs1:=b1.size;rw[hw1,hfz];clear hw0 hw1 b1 Q0 B0 HP0;obtain⟨g,hgz⟩:=nm_ (w.heap.size);rw[hgz]at Q1 hg0 hs0;try rw[hgz]
 have qlt1:=Q1.out.lt;have flt1:=F1.out.lt;go_wp2_with fail;refine am HP1.out _ (λ_ ht _ _ _=>absurd (show isT T eu i=true from ht) (by rw[N1];decide)) (λ_ w2 P2 b2=>?_);obtain⟨hs2,B2,Q2,qlt2,F2,flt2⟩:=fr2 B1 Q1 F1 b2;have HP2:=H_ P2;clear Q1 F1 B1 HP1 P2 b2;go_wp2_with fail;refine am HP2.out _ (λ_ ht _ _ _=>absurd (show isT T cW i=true from ht) (by rw[N2];decide)) (λ_ w3 P3 b3=>?_);obtain⟨hs3,B3,Q3,qlt3,F3,flt3⟩:=fr2 B2 Q2 F2 b3;have HP3:=H_ P3;clear Q2 F2 B2 HP2 P3 b3;go_wp2_with fail;refine am HP3.out _ (λ_ ht _ _ _=>absurd (show isT T cD i=true from ht) (by rw[N3];decide)) (λ_ w4 P4 b4=>?_);obtain⟨hs4,B4,Q4,qlt4,F4,flt4⟩:=fr2 B3 Q3 F3 b4;have HP4:=H_ P4;clear Q3 F3 B3 HP3 P4 b4;go_wp2_with fail;refine am HP4.out _ (λ_ ht _ _ _=>absurd (show isT T et i=true from ht) (by rw[N4];decide)) (λ_ w5 P5 b5=>?_);obtain⟨hs5,B5,Q5,qlt5,F5,flt5⟩:=fr2 B4 Q4 F4 b5;have HP5:=H_ P5;clear Q4 F4 B4 HP4 P5 b5;go_wp2_with fail;refine am HP5.out _ (λ_ ht _ _ _=>absurd (show isT T dN i=true from ht) (by rw[N5];decide)) (λ_ w6 P6 b6=>?_);obtain⟨hs6,B6,Q6,qlt6,F6,flt6⟩:=fr2 B5 Q5 F5 b6;have HP6:=H_ P6;clear Q5 F5 B5 HP5 P6 b6;go_wp2_with fail;refine am HP6.out _ (λ_ _ w7 P7 b7=>?_) (λht _ _ _=>by rcases ht with h|h;cases h;exact absurd (show isT T dO i=false from h) (by rw[HT];decide));obtain⟨hs7,B7,Q7,qlt7,F7,flt7⟩:=fr2 B6 Q6 F6 b7;have HP7:=H_ P7;clear Q6 F6 B6 HP6 P7 b7
 have HR:=H_ (show Is (ak T ex i) (stE 9 ⟨#[]⟩ []) (i+1) false by
  unfold ak;rw[az N1,az N2,az N3,az N4,az N5,cG HT];rfl)
 obtain⟨⟨d0,d1,d2,d3,d4⟩,f0,f1,f2,f3,f4⟩:=Q7.out.aE;go_wp2_with fail;exact lI rfl (by simp) Q7.out (StC.of (G:=λ_=>False) 9 ⟨#[]⟩ 0 0 0 (Sl.nil _ _ none) (Sl.nil _ _ none) (Sl.nil _ _ none)) (λb hb=>hb.elim) HP7.out HR.out (by omega) (hgz▸B7.out) hgz (by omega)
theorem oE(HX:∀j,i<j->EAt T (ex 0) 0 j)(N1:isT T eu i=false)(N2:isT T cW i=false)(N3:isT T cD i=false)(HT:isT T et i=true)(p c:Nat)(A:Option Addr)(w:World)(h:RS w p A c T i false):
 Calls Tryz.prog 259 #[.pointer (some ⟨p,0,none⟩)] w (ROut rvS p A c T w i (ak T ex i)):=by
 have HX':=H_ HX;clear HX;have hp:=h.aG.lt;obtain⟨w0,hw0,q0,b0,P0⟩:=ki h;have hs0:=b0.size;have Q0:=H_ q0;have B0:=H_ b0;have HP0:=H_ P0;have hg0:=q0.lt;clear h q0 b0 P0;go_enter Tryz.func259,Tryz.ntmps259;go_upto_region 2 with(fail);obtain⟨f,hfz⟩:=nm_ (w0.heap.size);obtain⟨w1,hw1⟩:=nm_ (w0.alloc (.cells #[.int .i64 0,.string ⟨#[]⟩,.slice none 0 0,.slice none 0 0,.slice none 0 0] 168));have b1:Bx w0.heap.size p w0 w1:=bxn hw1;have F1:=hng hw1 hfz;have Q1:=hbx Q0 b1 hg0;have B1:=hth B0 b1;have HP1:=H_ (HP0.out.al hw1);have hs1:=b1.size;rw[hw1,hfz];clear hw0 hw1 b1 Q0 B0 HP0;obtain⟨g,hgz⟩:=nm_ (w.heap.size);rw[hgz]at Q1 hg0 hs0;try rw[hgz]
 have qlt1:=Q1.out.lt;have flt1:=F1.out.lt;go_wp2_with fail;refine am HP1.out _ (λ_ ht _ _ _=>absurd (show isT T eu i=true from ht) (by rw[N1];decide)) (λ_ w2 P2 b2=>?_);obtain⟨hs2,B2,Q2,qlt2,F2,flt2⟩:=fr2 B1 Q1 F1 b2;have HP2:=H_ P2;clear Q1 F1 B1 HP1 P2 b2;go_wp2_with fail;refine am HP2.out _ (λ_ ht _ _ _=>absurd (show isT T cW i=true from ht) (by rw[N2];decide)) (λ_ w3 P3 b3=>?_);obtain⟨hs3,B3,Q3,qlt3,F3,flt3⟩:=fr2 B2 Q2 F2 b3;have HP3:=H_ P3;clear Q2 F2 B2 HP2 P3 b3;go_wp2_with fail;refine am HP3.out _ (λ_ ht _ _ _=>absurd (show isT T cD i=true from ht) (by rw[N3];decide)) (λ_ w4 P4 b4=>?_);obtain⟨hs4,B4,Q4,qlt4,F4,flt4⟩:=fr2 B3 Q3 F3 b4;have HP4:=H_ P4;clear Q3 F3 B3 HP3 P4 b4;go_wp2_with fail;refine am HP4.out _ (λ_ _ w5 P5 b5=>?_) (λht _ _ _=>by rcases ht with h|h;cases h;exact absurd (show isT T et i=false from h) (by rw[HT];decide));obtain⟨hs5,B5,Q5,qlt5,F5,flt5⟩:=fr2 B4 Q4 F4 b5;have HP5:=H_ P5;clear Q4 F4 B4 HP4 P5 b5;go_wp2_with fail;refine ROut.use (HX'.out (i+1) (by omega) p c A false w5 HP5.out) (λv x j6 e6 w6 hv P6 hr hij6 b6=>?_);obtain⟨k6,op6,z6,nm6,at6,A6,n6,c6,rfl,hv'⟩:=ExV.inv hv;have HV6:=H_ hv';have HR6:=H_ hr;clear hv hv' hr;obtain⟨hs6,B6,Q6,qlt6,F6,flt6⟩:=fr2 B5 Q5 F5 b6;have HP6:=H_ P6;clear Q5 F5 B5 HP5 P6 b6;go_upto_region 21 with fail;obtain⟨e,hez⟩:=nm_ (w6.heap.size);rw[hez];obtain⟨w7,hw7⟩:=nm_ (w6.alloc (.cells #[.int .i64 k6,.int .i64 op6,.int .i64 z6,.string nm6,.bool at6,.slice A6 n6 c6] 172));have b7:Bx w6.heap.size p w6 w7:=bxn hw7;have E7:=hng hw7 hez;have elt7:=E7.out.lt;have HV7:=H_ (ExC.aA (G':=NG g (bh g f e) w7) (λb hb=>⟨⟨by have:=hb.1;omega,by have:=hb.2;omega,λh=>by have:=hb.1;have:=hb.2;unfold bh at h;omega⟩,b7.block b hb.2 (by have:=hb.1;omega)⟩) HV6.out);have P7:=HP6.out.alloc (.cells #[.int .i64 k6,.int .i64 op6,.int .i64 z6,.string nm6,.bool at6,.slice A6 n6 c6] 172);rw[hw7]at P7⊢;clear hw7 HV6;obtain⟨hs7,B7,Q7,qlt7,F7,flt7⟩:=fr2 B6 Q6 F6 b7;have HP7:=H_ P7;clear Q6 F6 B6 HP6 P7 b7;go_wp2_with fail;refine bA HP7.out kTo (λj8 e8 w8 P8 hr hij8 b8=>?_);have HR8:=H_ hr;clear hr;have HV8:=H_ (HV7.out.aA (G':=NG g (bh g f e) w8) (λb hb=>⟨hb.mono b8.size,b8.block b hb.2.1 (by have:=hb.1;omega)⟩));clear HV7;obtain⟨hs8,B8,Q8,qlt8,F8,flt8,E8,elt8⟩:=fr3 B7 Q7 F7 E7 b8;have HP8:=H_ P8;clear Q7 F7 E7 B7 HP7 P8 b8;go_upto_region 22 with fail;obtain⟨j9,e9,hsj⟩:=Is.known (lif (ex 0) j8 e8)
 refine aW 2 5 (λxs=>{tmps:= #[.pointer (some ⟨p,0,none⟩),undef,.pointer (some ⟨g,0,none⟩),.pointer (some ⟨f,0,none⟩),undef,.pointer (some ⟨e,0,none⟩),undef,undef,undef,.agg #[.int .i64 0,.string ⟨#[]⟩,.slice none 0 0,.slice none 0 0,.slice none 0 0],.bool false,.pointer (some ⟨p,0,none⟩),.bool false,undef,undef,undef,undef,undef,undef,undef,undef,undef,undef,undef,.bool false,.pointer (some ⟨p,0,none⟩),.bool false,undef,undef,undef,undef,undef,undef,undef,undef,undef,undef,undef,undef,undef,undef,undef,undef,undef,undef,undef,undef,undef,undef,undef,undef,undef,undef,undef,.bool false,.pointer (some ⟨p,0,none⟩),.bool false,undef,undef,undef,undef,.bool true,.pointer (some ⟨p,0,none⟩),.bool true,.pointer (some ⟨p,0,none⟩),.agg #[.int .i64 k6,.int .i64 op6,.int .i64 z6,.string nm6,.bool at6,.slice A6 n6 c6],.pointer (some ⟨p,0,none⟩),.tuple #[],(xs 0).getD undef,(xs 1).getD undef,(xs 2).getD undef,(xs 3).getD undef,(xs 4).getD undef,undef,undef,undef,undef,undef,undef,undef,undef,undef,undef,undef,undef,undef,undef,undef,undef,undef,undef,undef,undef,undef,undef,undef,undef,undef,undef,undef,undef,undef,undef,undef,undef,undef,undef,undef,undef,undef,undef,undef,undef,undef,undef,undef,undef,undef,undef,undef,undef,undef,undef,undef,undef,undef,undef,undef,undef,undef,undef,undef,undef,undef,undef,undef,undef,undef,undef,undef,undef,undef],defers:=[]})
  (RQ w8 p A c T j8 e8 j9 e9) g
  (λi=>match i with
    |0=>fEq (.agg #[.int .i64 k6,.int .i64 op6,.int .i64 z6,.string nm6,.bool at6,.slice A6 n6 c6])
    |1=>fEq (.pointer (some ⟨p,0,none⟩))
    |2=>fEx (NG g (bh g f e)) (lif (ex 0) j8 e8) j9 e9 (λy=>y)
    |3=>λv W=>∃AA y,v= .slice AA 2 2/\Sl kEx W (NG g (bh g f e) W) [x,y] AA 2/\Is (lif (ex 0) j8 e8) y j9 e9
    |_=>λv W=>∃AA y,v= .agg #[.int .i64 7,.string ⟨#[]⟩,.slice AA 2 2,.slice none 0 0,.slice none 0 0]/\Sl kEx W (NG g (bh g f e) W) [x,y] AA 2/\Is (lif (ex 0) j8 e8) y j9 e9)
  (by
    intro k
    match k with
    |0=>exact fEq.st _ _
    |1=>exact fEq.st _ _
    |2=>exact fEx.st
    |3=>exact λ_ _ _ hn ⟨AA,y,h1,h2,h3⟩=>⟨AA,y,h1,h2.aA λb hb=>⟨hb.mono hn.size,hn.block b hb.1 hb.2.1⟩,h3⟩
    |_+4=>exact λ_ _ _ hn ⟨AA,y,h1,h2,h3⟩=>⟨AA,y,h1,h2.aA λb hb=>⟨hb.mono hn.size,hn.block b hb.1 hb.2.1⟩,h3⟩)
  (by kernel_rfl) (by kernel_rfl) rfl (by kernel_rfl) (by decide) rfl ⟨(Bx.refl _ _ _).drew,HP8.out.drew⟩ ?_ ?_ ?_
 ·intro i' hi hic b xs W hJ hd;obtain rfl|rfl|rfl|rfl:i'=0\/i'=1\/i'=3\/i'=4:=by omega
  ·refine stp rfl (by kernel_rfl) λK hK=>?_;refine iT (x:= .tmp 5) rfl rfl (ja (E8.out.bx hJ.1 (by omega) (by omega))) ?_;exact hK _ _ ⟨_,rfl,hJ,rfl,Nw.refl _ _⟩
  ·exact mvO hJ
  ·obtain⟨_,h0,rfl⟩:=hd 0;obtain⟨_,h2,y,hy,hyi⟩:=hd 2;obtain⟨ky,opy,zy,nmy,aty,Ay,ny,cy,rfl,hy'⟩:=ExV.inv hy;have hb:=(AC W.heap.size W).alloc (AB _) (.cells #[.int .i64 k6,.int .i64 op6,.int .i64 z6,.string nm6,.bool at6,.slice A6 n6 c6,.int .i64 ky,.int .i64 opy,.int .i64 zy,.string nmy,.bool aty,.slice Ay ny cy] 172);have hsW:=hJ.1.size;refine stp rfl (by kernel_rfl) λK hK=>?_;refine qB (x:= .tmp 68) (y:= .tmp 70) rfl (gd h0 _) (gd h2 _) (iL W _ _ _ _ _ _ _ _ _ _ _ _) ?_;refine hK _ _ ⟨.slice (some ⟨W.heap.size,0,none⟩) 2 2,rfl,hJ.below hb,⟨_,y,rfl,?_,hyi⟩,Nw.below hb⟩
   exact kH (Blk.new W 172 _) ⟨by omega,by simp,λh=>by unfold bh at h;omega⟩
    (ExC.aA (λb hb'=>⟨⟨hb'.1,by have:=hb'.2.1;simp;omega,hb'.2.2⟩,(hb.block b (by have:=hb'.2.1;omega)).trans (hJ.1.block b hb'.2.1 (by have:=hb'.1;omega))⟩) HV8.out)
    (ExC.aA (λb hb'=>⟨⟨hb'.1,by have:=hb'.2.1;simp;omega,hb'.2.2⟩,hb.block b hb'.2.1⟩) hy')
  ·obtain⟨_,h3,AA,y,rfl,hy,hyi⟩:=hd 3;refine stp rfl (by kernel_rfl) λK hK=>?_;refine yY (x:= .const (.int .i64 7)) (y:= .tmp 71) rfl rfl (gd h3 _) (oK W _ _ _ _) ?_;exact hK _ _ ⟨_,rfl,hJ,⟨AA,y,rfl,hy,hyi⟩,Nw.refl _ _⟩
 ·intro xs W hJ hd;obtain⟨_,h1,rfl⟩:=hd 1;have hsW:=hJ.1.size;refine stp rfl (by kernel_rfl) λK hK=>?_;refine cV (n:=258) (x:= .tmp 69) (y:= .const (.int .i64 0)) rfl (gd h1 _) rfl (by kernel_rfl) ?_;refine ROut.use (HX'.out j8 (by omega) p c A e8 W hJ.2) (λv y jj bb ww hv PP hr hqj bx=>?_);obtain⟨rfl,rfl⟩:=hsj _ _ _ hr;exact hK _ _ ⟨v,rfl,⟨hJ.1.aB bx,PP,hqj⟩,⟨y,rvC.aA (λb hb=>⟨⟨by have:=hb.1;omega,hb.2,λh=>by have:=hb.1;unfold bh at h;omega⟩,rfl⟩) hv,hr⟩,Nw.of bx (by omega)⟩
 ·intro xs W hJ hd;obtain⟨_,h4,AA,y,rfl,hy,hyi⟩:=hd 4;have hW:=hJ.1.size;have HGW:=H_ (Q8.out.bx hJ.1 (by omega) (by omega))
  have HR:=H_ (show Is (ak T ex i) (stE 7 ⟨#[]⟩ [x,y]) j9 e9 by
   unfold ak;rw[az N1,az N2,az N3,cG HT];exact xd HR6.out HR8.out hyi)
  have HPW:=H_ hJ.2.1;have hjj:=hJ.2.2;have BW:=H_ (B8.out.aB hJ.1);have VE:=H_ (StC.of 7 ⟨#[]⟩ 2 0 0 hy (Sl.nil _ _ none) (Sl.nil _ _ none));clear hJ hd hy hyi;obtain⟨⟨d0,d1,d2,d3,d4⟩,f0,f1,f2,f3,f4⟩:=HGW.out.aE;refine AE rfl λK hK=>?_;go_simp;refine hK _ _ ?_;go_wp2_with fail;exact lI rfl (by simp) HGW.out VE.out (λb hb=>⟨by have:=hb.1;have:=hb.2.2;unfold bh at this;omega,hb.2.1⟩) HPW.out HR.out (by omega) (hgz▸BW.out) hgz (by omega)
theorem nt(HX:∀j,i<j->EAt T (ex 0) 0 j)(N1:isT T eu i=false)(N2:isT T cW i=false)(N3:isT T cD i=false)(N4:isT T et i=false)(HT:isT T dN i=true)(p c:Nat)(A:Option Addr)(w:World)(h:RS w p A c T i false):
 Calls Tryz.prog 259 #[.pointer (some ⟨p,0,none⟩)] w (ROut rvS p A c T w i (ak T ex i)):=by
 have HX':=H_ HX;clear HX;have hp:=h.aG.lt;obtain⟨w0,hw0,q0,b0,P0⟩:=ki h;have hs0:=b0.size;have Q0:=H_ q0;have B0:=H_ b0;have HP0:=H_ P0;have hg0:=q0.lt;clear h q0 b0 P0;go_enter Tryz.func259,Tryz.ntmps259;go_upto_region 2 with(fail);obtain⟨f,hfz⟩:=nm_ (w0.heap.size);obtain⟨w1,hw1⟩:=nm_ (w0.alloc (.cells #[.int .i64 0,.string ⟨#[]⟩,.slice none 0 0,.slice none 0 0,.slice none 0 0] 168));have b1:Bx w0.heap.size p w0 w1:=bxn hw1;have F1:=hng hw1 hfz;have Q1:=hbx Q0 b1 hg0;have B1:=hth B0 b1;have HP1:=H_ (HP0.out.al hw1);have hs1:=b1.size;rw[hw1,hfz];clear hw0 hw1 b1 Q0 B0 HP0;obtain⟨g,hgz⟩:=nm_ (w.heap.size);rw[hgz]at Q1 hg0 hs0;try rw[hgz]
 have qlt1:=Q1.out.lt;have flt1:=F1.out.lt;go_wp2_with fail;refine am HP1.out _ (λ_ ht _ _ _=>absurd (show isT T eu i=true from ht) (by rw[N1];decide)) (λ_ w2 P2 b2=>?_);obtain⟨hs2,B2,Q2,qlt2,F2,flt2⟩:=fr2 B1 Q1 F1 b2;have HP2:=H_ P2;clear Q1 F1 B1 HP1 P2 b2;go_wp2_with fail;refine am HP2.out _ (λ_ ht _ _ _=>absurd (show isT T cW i=true from ht) (by rw[N2];decide)) (λ_ w3 P3 b3=>?_);obtain⟨hs3,B3,Q3,qlt3,F3,flt3⟩:=fr2 B2 Q2 F2 b3;have HP3:=H_ P3;clear Q2 F2 B2 HP2 P3 b3;go_wp2_with fail;refine am HP3.out _ (λ_ ht _ _ _=>absurd (show isT T cD i=true from ht) (by rw[N3];decide)) (λ_ w4 P4 b4=>?_);obtain⟨hs4,B4,Q4,qlt4,F4,flt4⟩:=fr2 B3 Q3 F3 b4;have HP4:=H_ P4;clear Q3 F3 B3 HP3 P4 b4;go_wp2_with fail;refine am HP4.out _ (λ_ ht _ _ _=>absurd (show isT T et i=true from ht) (by rw[N4];decide)) (λ_ w5 P5 b5=>?_);obtain⟨hs5,B5,Q5,qlt5,F5,flt5⟩:=fr2 B4 Q4 F4 b5;have HP5:=H_ P5;clear Q4 F4 B4 HP4 P5 b5;go_wp2_with fail;refine am HP5.out _ (λ_ _ w6 P6 b6=>?_) (λht _ _ _=>by rcases ht with h|h;cases h;exact absurd (show isT T dN i=false from h) (by rw[HT];decide));obtain⟨hs6,B6,Q6,qlt6,F6,flt6⟩:=fr2 B5 Q5 F5 b6;have HP6:=H_ P6;clear Q5 F5 B5 HP5 P6 b6;obtain⟨f0',f1',f2',f3',f4'⟩:=F6.out.aE.2;have x1:=F6.out.k0;go_upto_region 25 with fail;obtain⟨w7,hw7⟩:=nm_ (w6.setCell ⟨f,0,none⟩ (.int .i64 8));have b7:=bx1 hw7;have F7:=H_ (show Blk w7 f 168 #[.int .i64 8,.string ⟨#[]⟩,.slice none 0 0,.slice none 0 0,.slice none 0 0]from hw7▸F6.out.set 0 _);have Q7:=hbx Q6 b7;have HP7:=H_ (HP6.out.aA b7 (by omega));have B7:=H_ (B6.out.put b7 (by omega) (AB _));have hs7:=b7.size;have hz7:w7.heap.size=w6.heap.size:=by rw[<-hw7];simp
 have qlt7:=Q7.out.lt;have flt7:=F7.out.lt;rw[hw7];clear hw7 b7 F6 Q6 HP6 B6;clear f0' f1' f2' f3' f4' x1;go_wp2_with fail;refine ROut.use (HX'.out (i+1) (by omega) p c A false w7 HP7.out) (λv x j8 e8 w8 hv P8 hr hij8 b8=>?_);obtain⟨k8,op8,z8,nm8,at8,A8,n8,c8,rfl,hv'⟩:=ExV.inv hv;have HV8:=H_ hv';have HR8:=H_ hr;clear hv hv' hr;obtain⟨hs8,B8,Q8,qlt8,F8,flt8⟩:=fr2 B7 Q7 F7 b8;have HP8:=H_ P8;clear Q7 F7 B7 HP7 P8 b8;go_upto_region 26 with fail;obtain⟨e,hez⟩:=nm_ (w8.heap.size);rw[hez];obtain⟨w9,hw9⟩:=nm_ (w8.alloc (.cells #[.int .i64 k8,.int .i64 op8,.int .i64 z8,.string nm8,.bool at8,.slice A8 n8 c8] 172));have b9:Bx w8.heap.size p w8 w9:=bxn hw9;have E9:=hng hw9 hez;have elt9:=E9.out.lt;have HV9:=H_ (ExC.aA (G':=NG g (bh g f e) w9) (λb hb=>⟨⟨by have:=hb.1;omega,by have:=hb.2;omega,λh=>by have:=hb.1;have:=hb.2;unfold bh at h;omega⟩,b9.block b hb.2 (by have:=hb.1;omega)⟩) HV8.out);have P9:=HP8.out.alloc (.cells #[.int .i64 k8,.int .i64 op8,.int .i64 z8,.string nm8,.bool at8,.slice A8 n8 c8] 172);rw[hw9]at P9⊢;clear hw9 HV8;obtain⟨hs9,B9,Q9,qlt9,F9,flt9⟩:=fr2 B8 Q8 F8 b9;have HP9:=H_ P9;clear Q8 F8 B8 HP8 P9 b9;go_wp2_with fail;refine bA HP9.out kBy (λj10 e10 w10 P10 hr hij10 b10=>?_);have HR10:=H_ hr;clear hr;have HV10:=H_ (HV9.out.aA (G':=NG g (bh g f e) w10) (λb hb=>⟨hb.mono b10.size,b10.block b hb.2.1 (by have:=hb.1;omega)⟩));clear HV9;obtain⟨hs10,B10,Q10,qlt10,F10,flt10,E10,elt10⟩:=fr3 B9 Q9 F9 E9 b10;have HP10:=H_ P10;clear Q9 F9 E9 B9 HP9 P10 b10;go_wp2_with fail;have hfl:=cX;refine du HP10.out 2 (by decide) (λkk11 s11 zz11 qq11 j11 e11 w11 P11 hr hij11 b11=>?_);have HR11:=H_ hr;clear hr;have HV11:=H_ (HV10.out.aA (G':=NG g (bh g f e) w11) (λb hb=>⟨hb.mono b11.size,b11.block b hb.2.1 (by have:=hb.1;omega)⟩));clear HV10;obtain⟨hs11,B11,Q11,qlt11,F11,flt11,E11,elt11⟩:=fr3 B10 Q10 F10 E10 b11;have HP11:=H_ P11;clear Q10 F10 E10 B10 HP10 P11 b11;obtain⟨f0',f1',f2',f3',f4'⟩:=F11.out.aE.2;have x1:=F11.out.k1;go_upto_region 28 with fail;have E12:=H_ (show Blk (w11.setCell ⟨f,1,none⟩ (.string s11)) e 172 _ from(AG _ _ _ _ (show e≠f by omega)).trans E11.out);have HV12:=H_ (HV11.out.aA (w':=w11.setCell ⟨f,1,none⟩ (.string s11)) (G':=NG g (bh g f e) (w11.setCell ⟨f,1,none⟩ (.string s11))) (λb hb=>⟨⟨hb.1,by have:=hb.2.1;simpa using this,hb.2.2⟩,AG _ _ _ _ (show b≠f from λh=>hb.2.2 (by unfold bh;omega))⟩));obtain⟨w12,hw12⟩:=nm_ (w11.setCell ⟨f,1,none⟩ (.string s11));have b12:=bx1 hw12;have F12:=H_ (show Blk w12 f 168 #[.int .i64 8,.string s11,.slice none 0 0,.slice none 0 0,.slice none 0 0]from hw12▸F11.out.set 1 _);have Q12:=hbx Q11 b12;have HP12:=H_ (HP11.out.aA b12 (by omega));have B12:=H_ (B11.out.put b12 (by omega) (AB _));have hs12:=b12.size;have hz12:w12.heap.size=w11.heap.size:=by rw[<-hw12];simp
 have qlt12:=Q12.out.lt;have flt12:=F12.out.lt;rw[hw12]at E12 HV12⊢;clear hw12 b12 F11 Q11 HP11 B11;clear E11 HV11 hfl;have elt12:=E12.out.lt;clear f0' f1' f2' f3' f4' x1;go_wp2_with fail;refine bA HP12.out eA (λj13 e13 w13 P13 hr hij13 b13=>?_);have HR13:=H_ hr;clear hr;have HV13:=H_ (HV12.out.aA (G':=NG g (bh g f e) w13) (λb hb=>⟨hb.mono b13.size,b13.block b hb.2.1 (by have:=hb.1;omega)⟩));clear HV12;obtain⟨hs13,B13,Q13,qlt13,F13,flt13,E13,elt13⟩:=fr3 B12 Q12 F12 E12 b13;have HP13:=H_ P13;clear Q12 F12 E12 B12 HP12 P13 b13;go_upto_region 29 with fail;obtain⟨j14,e14,hsj⟩:=Is.known (lif (ex 0) j13 e13)
 refine aW 2 5 (λxs=>{tmps:= #[.pointer (some ⟨p,0,none⟩),undef,.pointer (some ⟨g,0,none⟩),.pointer (some ⟨f,0,none⟩),undef,undef,.pointer (some ⟨e,0,none⟩),undef,undef,.agg #[.int .i64 0,.string ⟨#[]⟩,.slice none 0 0,.slice none 0 0,.slice none 0 0],.bool false,.pointer (some ⟨p,0,none⟩),.bool false,undef,undef,undef,undef,undef,undef,undef,undef,undef,undef,undef,.bool false,.pointer (some ⟨p,0,none⟩),.bool false,undef,undef,undef,undef,undef,undef,undef,undef,undef,undef,undef,undef,undef,undef,undef,undef,undef,undef,undef,undef,undef,undef,undef,undef,undef,undef,undef,.bool false,.pointer (some ⟨p,0,none⟩),.bool false,undef,undef,undef,undef,.bool false,.pointer (some ⟨p,0,none⟩),.bool false,undef,undef,undef,undef,undef,undef,undef,undef,undef,.bool true,.pointer (some ⟨p,0,none⟩),.bool true,.pointer (some ⟨f,0,none⟩),.pointer (some ⟨p,0,none⟩),.agg #[.int .i64 k8,.int .i64 op8,.int .i64 z8,.string nm8,.bool at8,.slice A8 n8 c8],.pointer (some ⟨p,0,none⟩),.tuple #[],.pointer (some ⟨p,0,none⟩),.agg #[.int .i64 kk11,.string s11,.int .i64 zz11,.int .i64 qq11],.string s11,.pointer (some ⟨f,1,none⟩),.pointer (some ⟨p,0,none⟩),.tuple #[],(xs 0).getD undef,(xs 1).getD undef,(xs 2).getD undef,(xs 3).getD undef,(xs 4).getD undef,undef,undef,undef,undef,undef,undef,undef,undef,undef,undef,undef,undef,undef,undef,undef,undef,undef,undef,undef,undef,undef,undef,undef,undef,undef,undef,undef,undef,undef,undef,undef,undef,undef,undef,undef,undef,undef,undef,undef,undef,undef,undef,undef,undef,undef,undef,undef,undef,undef,undef],defers:=[]})
  (RQ w13 p A c T j13 e13 j14 e14) g
  (λi=>match i with
    |0=>fEq (.agg #[.int .i64 k8,.int .i64 op8,.int .i64 z8,.string nm8,.bool at8,.slice A8 n8 c8])
    |1=>fEq (.pointer (some ⟨p,0,none⟩))
    |2=>fEx (NG g (bh g f e)) (lif (ex 0) j13 e13) j14 e14 (λy=>y)
    |3=>λv W=>∃AA y,v= .slice AA 2 2/\Sl kEx W (NG g (bh g f e) W) [x,y] AA 2/\Is (lif (ex 0) j13 e13) y j14 e14
    |_=>fEq (.pointer (some ⟨f,2,none⟩)))
  (by
    intro k
    match k with
    |0=>exact fEq.st _ _
    |1=>exact fEq.st _ _
    |2=>exact fEx.st
    |3=>exact λ_ _ _ hn ⟨AA,y,h1,h2,h3⟩=>⟨AA,y,h1,h2.aA λb hb=>⟨hb.mono hn.size,hn.block b hb.1 hb.2.1⟩,h3⟩
    |_+4=>exact fEq.st _ _)
  (by kernel_rfl) (by kernel_rfl) rfl (by kernel_rfl) (by decide) rfl ⟨(Bx.refl _ _ _).drew,HP13.out.drew⟩ ?_ ?_ ?_
 ·intro i' hi hic b xs W hJ hd;obtain rfl|rfl|rfl|rfl:i'=0\/i'=1\/i'=3\/i'=4:=by omega
  ·refine stp rfl (by kernel_rfl) λK hK=>?_;refine iT (x:= .tmp 6) rfl rfl (ja (E13.out.bx hJ.1 (by omega) (by omega))) ?_;exact hK _ _ ⟨_,rfl,hJ,rfl,Nw.refl _ _⟩
  ·exact mvO hJ
  ·obtain⟨_,h0,rfl⟩:=hd 0;obtain⟨_,h2,y,hy,hyi⟩:=hd 2;obtain⟨ky,opy,zy,nmy,aty,Ay,ny,cy,rfl,hy'⟩:=ExV.inv hy;have hb:=(AC W.heap.size W).alloc (AB _) (.cells #[.int .i64 k8,.int .i64 op8,.int .i64 z8,.string nm8,.bool at8,.slice A8 n8 c8,.int .i64 ky,.int .i64 opy,.int .i64 zy,.string nmy,.bool aty,.slice Ay ny cy] 172);have hsW:=hJ.1.size;refine stp rfl (by kernel_rfl) λK hK=>?_;refine qB (x:= .tmp 87) (y:= .tmp 89) rfl (gd h0 _) (gd h2 _) (iL W _ _ _ _ _ _ _ _ _ _ _ _) ?_;refine hK _ _ ⟨.slice (some ⟨W.heap.size,0,none⟩) 2 2,rfl,hJ.below hb,⟨_,y,rfl,?_,hyi⟩,Nw.below hb⟩
   exact kH (Blk.new W 172 _) ⟨by omega,by simp,λh=>by unfold bh at h;omega⟩
    (ExC.aA (λb hb'=>⟨⟨hb'.1,by have:=hb'.2.1;simp;omega,hb'.2.2⟩,(hb.block b (by have:=hb'.2.1;omega)).trans (hJ.1.block b hb'.2.1 (by have:=hb'.1;omega))⟩) HV13.out)
    (ExC.aA (λb hb'=>⟨⟨hb'.1,by have:=hb'.2.1;simp;omega,hb'.2.2⟩,hb.block b hb'.2.1⟩) hy')
  ·exact rdO hJ
 ·intro xs W hJ hd;obtain⟨_,h1,rfl⟩:=hd 1;have hsW:=hJ.1.size;refine stp rfl (by kernel_rfl) λK hK=>?_;refine cV (n:=258) (x:= .tmp 88) (y:= .const (.int .i64 0)) rfl (gd h1 _) rfl (by kernel_rfl) ?_;refine ROut.use (HX'.out j13 (by omega) p c A e13 W hJ.2) (λv y jj bb ww hv PP hr hqj bx=>?_);obtain⟨rfl,rfl⟩:=hsj _ _ _ hr;exact hK _ _ ⟨v,rfl,⟨hJ.1.aB bx,PP,hqj⟩,⟨y,rvC.aA (λb hb=>⟨⟨by have:=hb.1;omega,hb.2,λh=>by have:=hb.1;unfold bh at h;omega⟩,rfl⟩) hv,hr⟩,Nw.of bx (by omega)⟩
 ·intro xs W hJ hd;obtain⟨_,h3,AA,y,rfl,hy,hyi⟩:=hd 3;obtain⟨_,h4,rfl⟩:=hd 4;have hW:=hJ.1.size;have Q14:=H_ (Q13.out.bx hJ.1 (by omega) (by omega));have F14:=H_ (F13.out.bx hJ.1 (by omega) (by omega));have HR14:=H_ hyi;have HP14:=H_ hJ.2.1;have hjj:=hJ.2.2;have B14:=H_ (B13.out.aB hJ.1);have X14:=H_ hy;obtain⟨w14,rfl⟩:∃w14,w14=W:=⟨_,rfl⟩;have qlt14:=Q14.out.lt;have flt14:=F14.out.lt;clear hJ hd hy hyi Q13 F13 HP13 B13 E13 HV13;obtain⟨f0',f1',f2',f3',f4'⟩:=F14.out.aE.2;have x1:=F14.out.k2;refine AE rfl λK hK=>?_;go_simp;refine hK _ _ ?_;obtain⟨w15,hw15⟩:=nm_ (w14.setCell ⟨f,2,none⟩ (.slice AA 2 2));have b15:=bx1 hw15;have F15:=H_ (show Blk w15 f 168 #[.int .i64 8,.string s11,.slice AA 2 2,.slice none 0 0,.slice none 0 0]from hw15▸F14.out.set 2 _);have Q15:=hbx Q14 b15;have HP15:=H_ (HP14.out.aA b15 (by omega));have B15:=H_ (B14.out.put b15 (by omega) (AB _));have hs15:=b15.size;have hz15:w15.heap.size=w14.heap.size:=by rw[<-hw15];simp
  have qlt15:=Q15.out.lt;have flt15:=F15.out.lt;have X15:=H_ (X14.out.aA (G':=NG g (bh g f e) w15) (λb hb=>NG.put b15 (.inr (.inl rfl)) hb));rw[hw15];clear hw15 b15 F14 Q14 HP14 B14 X14;clear f0' f1' f2' f3' f4' x1;go_wp2_with fail;refine bA HP15.out eg (λj16 e16 w16 P16 hr hij16 b16=>?_);have HR16:=H_ hr;clear hr;have X16:=H_ (X15.out.aA (G':=NG g (bh g f e) w16) (λb hb=>⟨hb.mono b16.size,b16.block b hb.2.1 (by have:=hb.1;omega)⟩));clear X15;obtain⟨hs16,B16,Q16,qlt16,F16,flt16⟩:=fr2 B15 Q15 F15 b16;have HP16:=H_ P16;clear Q15 F15 B15 HP15 P16 b16
  have HR:=H_ (show Is (ak T ex i) (stE 8 s11 [x,y]) j16 e16 by
   unfold ak;rw[az N1,az N2,az N3,az N4,cG HT];exact tN HR8.out HR10.out HR11.out HR13.out HR14.out HR16.out)
  have VE:=H_ (StC.of 8 s11 2 0 0 X16.out (Sl.nil _ _ none) (Sl.nil _ _ none));obtain⟨g0',g1',g2',g3',g4'⟩:=F16.out.aE.1;obtain⟨⟨d0,d1,d2,d3,d4⟩,f0,f1,f2,f3,f4⟩:=Q16.out.aE;go_wp2_with fail;exact lI rfl (by simp) Q16.out VE.out (λb hb=>⟨by have:=hb.1;have:=hb.2.2;unfold bh at this;omega,hb.2.1⟩) HP16.out HR.out (by omega) (hgz▸B16.out) hgz (by omega)
end
set_option pp.deepTerms true
set_option pp.maxSteps 10000000
theorem kr{sz:Nat}{t:TypeId}(hR:iz sz t e)(ty:TypeId){c:Nat}{B:Option Addr}:(Builtin.append_ #[t,t] ty #[.slice (some ⟨a,0,none⟩) 1 1,.slice B 0 c]).run Tryz.prog w= .ok (.slice (some ⟨a,0,none⟩) 1 1) w:=by
 obtain⟨ht,i,z,hi,hz,hsz,hby,hzs⟩:=hR;cases B<;>simp[Builtin.append_,run_underlying ht,sizeOf,typeInfo,hi,Builtin.lenOf,Builtin.firstCells,storeCells,loadCells,loadCellsFrom,Result.andThen]
theorem jB{α:Type}{K:Kd α}{t:TypeId}(hR:iz K.sz t e)(ty:TypeId){G:Nat->Prop}{base:Nat}{x:α}{cs:List Value}{u:Value}{ys:List α}(ha:Blk w a e cs.toArray)(hx:K.rd w G x cs)(hGa:G a)
 (hy:Vec K e base noZ w u ys) (hyG:∀b,NG base noZ w b->G b) (hG:∀b,G b->b<w.heap.size) (hn:ys.length<=20000):
 ∃v' w',(Builtin.append_ #[t,t] ty #[.slice (some ⟨a,0,none⟩) 1 1,u]).run Tryz.prog w= .ok v' w'/\Below w.heap.size w w'/\rvSl K w' (λb=>G b\/Fr w w' b) (x::ys) v':=by
 by_cases hys:ys=[]
 ·subst hys;obtain⟨B,c,rfl,_⟩:=hy.sl (by simp[BD]);exact⟨_,w,kr hR ty,AC _ _,⟨_,_,_,rfl,dW ha (.inl hGa) (K.aA (λb hb=>⟨.inl hb,rfl⟩) hx)⟩⟩
 ·exact gc hR ty ha hx hGa hy hyG hG (λh=>absurd h hys) hn
section
variable{T:List Tk}{ex:Nat->Nat->R Ex}{i:Nat}{b:Bool}
theorem sA(h1:Is (lif (ex 8) i b) x j b1)(h2:Is (lif (ap T DOT) j b1) () l b2)(h3:Is (lif (aj T 2) l b2) s q b3):
 lif (fu T ex) i b=lif (cA (T:=T) ex T.length x s) q b3:=by
 cases b with
 |true=>
  obtain⟨rfl,rfl⟩:=Is.aD h1;obtain⟨rfl,rfl⟩:=Is.aD h2;obtain⟨rfl,rfl⟩:=Is.aD h3;rfl
 |false=>
  have e1:ex 8 i=if b1=true then .bad j else .ok x j:=h1;rw[aU];unfold fu;rw[e1];cases b1 with
  |true=>
   obtain⟨rfl,rfl⟩:=Is.aD h2;obtain⟨rfl,rfl⟩:=Is.aD h3;rfl
  |false=>
   simp only[AU,BO];rw[nB];have e2:ap T DOT j=if b2=true then .bad l else .ok () l:=h2;rw[e2];cases b2 with
   |true=>
    obtain⟨rfl,rfl⟩:=Is.aD h3;rfl
   |false=>
    simp only[AU,BO];have e3:aj T 2 l=if b3=true then .bad q else .ok s q:=h3;rw[e3];cases b3<;>rfl
theorem sB{r:R St}{s2:ByteArray}(hr:r=lif (cA (T:=T) ex (m+1) x s) q false)(ht:isT T DOT q=true)(h:Is (lif (aj T 2) (q+1) false) s2 j b1):
 r=lif (cA (T:=T) ex m (cY s x) s2) j b1:=by
 rw[hr,aU,nA ht];have e3:aj T 2 (q+1)=if b1=true then .bad j else .ok s2 j:=h;rw[e3];cases b1<;>rfl
theorem uf{r:R St}{bq:Bool}{ys:List Ex}(hr:r=lif (cA (T:=T) ex m x s) q bq)(ht:bq=true\/isT T DOT q=false)(h:Is (lif (bg T (ex 0)) q bq) ys j b1):Is r (stE 5 s (x::ys)) j b1:=by
 unfold Is;rw[hr];cases bq with
 |true=>
  obtain⟨rfl,rfl⟩:=Is.aD h;rfl
 |false=>
  rw[aU,nx (by rcases ht with h|h;cases h;exact h)];have e:bg T (ex 0) q=if b1=true then .bad j else .ok ys j:=h;rw[e];cases b1<;>rfl
theorem oD(HX:∀j,i<j->EAt T (ex 0) 0 j)(HO:∀j,i<j->RAt rvE 283 T (ex 8) j)(N1:isT T eu i=false)(HT:isT T cW i=true)(p c:Nat)(A:Option Addr)(w:World)(h:RS w p A c T i false):
 Calls Tryz.prog 259 #[.pointer (some ⟨p,0,none⟩)] w (ROut rvS p A c T w i (ak T ex i)):=by
 have HX':=H_ HX;have HO':=H_ HO;clear HX HO;have hp:=h.aG.lt;obtain⟨w0,hw0,q0,b0,P0⟩:=ki h;have hs0:=b0.size;have Q0:=H_ q0;have B0:=H_ b0;have HP0:=H_ P0;have hg0:=q0.lt;clear h q0 b0 P0;go_enter Tryz.func259,Tryz.ntmps259;go_upto_region 2 with(fail);obtain⟨f,hfz⟩:=nm_ (w0.heap.size);obtain⟨w1,hw1⟩:=nm_ (w0.alloc (.cells #[.int .i64 0,.string ⟨#[]⟩,.slice none 0 0,.slice none 0 0,.slice none 0 0] 168));have b1:Bx w0.heap.size p w0 w1:=bxn hw1;have F1:=hng hw1 hfz;have Q1:=hbx Q0 b1 hg0;have B1:=hth B0 b1;have HP1:=H_ (HP0.out.al hw1);have hs1:=b1.size;rw[hw1,hfz];clear hw0 hw1 b1 Q0 B0 HP0;obtain⟨g,hgz⟩:=nm_ (w.heap.size);rw[hgz]at Q1 hg0 hs0;try rw[hgz]
 have qlt1:=Q1.out.lt;have flt1:=F1.out.lt;go_wp2_with fail;refine am HP1.out _ (λ_ ht _ _ _=>absurd (show isT T eu i=true from ht) (by rw[N1];decide)) (λ_ w2 P2 b2=>?_);obtain⟨hs2,B2,Q2,qlt2,F2,flt2⟩:=fr2 B1 Q1 F1 b2;have HP2:=H_ P2;clear Q1 F1 B1 HP1 P2 b2;go_wp2_with fail;refine am HP2.out _ (λ_ _ w3 P3 b3=>?_) (λht _ _ _=>by rcases ht with h|h;cases h;exact absurd (show isT T cW i=false from h) (by rw[HT];decide));obtain⟨hs3,B3,Q3,qlt3,F3,flt3⟩:=fr2 B2 Q2 F2 b3;have HP3:=H_ P3;clear Q2 F2 B2 HP2 P3 b3;obtain⟨f0',f1',f2',f3',f4'⟩:=F3.out.aE.2;have x1:=F3.out.k0;go_upto_region 9 with fail;obtain⟨w4,hw4⟩:=nm_ (w3.setCell ⟨f,0,none⟩ (.int .i64 5));have b4:=bx1 hw4;have F4:=H_ (show Blk w4 f 168 #[.int .i64 5,.string ⟨#[]⟩,.slice none 0 0,.slice none 0 0,.slice none 0 0]from hw4▸F3.out.set 0 _);have Q4:=hbx Q3 b4;have HP4:=H_ (HP3.out.aA b4 (by omega));have B4:=H_ (B3.out.put b4 (by omega) (AB _));have hs4:=b4.size;have hz4:w4.heap.size=w3.heap.size:=by rw[<-hw4];simp
 have qlt4:=Q4.out.lt;have flt4:=F4.out.lt;rw[hw4];clear hw4 b4 F3 Q3 HP3 B3;clear f0' f1' f2' f3' f4' x1;go_wp2_with fail;refine ROut.use (HO'.out (i+1) (by omega) p c A false w4 HP4.out) (λv x j5 e5 w5 hv P5 hr hij5 b5=>?_);obtain⟨k5,op5,z5,nm5,at5,A5,n5,c5,rfl,hv'⟩:=ExV.inv hv;have HV5:=H_ hv';have HR5:=H_ hr;clear hv hv' hr;obtain⟨hs5,B5,Q5,qlt5,F5,flt5⟩:=fr2 B4 Q4 F4 b5;have HP5:=H_ P5;clear Q4 F4 B4 HP4 P5 b5;go_upto_region 10 with fail;obtain⟨e,hez⟩:=nm_ (w5.heap.size);rw[hez];obtain⟨w6,hw6⟩:=nm_ (w5.alloc (.cells #[.int .i64 k5,.int .i64 op5,.int .i64 z5,.string nm5,.bool at5,.slice A5 n5 c5] 172));have b6:Bx w5.heap.size p w5 w6:=bxn hw6;have E6:=hng hw6 hez;have elt6:=E6.out.lt;have HV6:=H_ (ExC.aA (G':=NG g (bh g f e) w6) (λb hb=>⟨⟨by have:=hb.1;omega,by have:=hb.2;omega,λh=>by have:=hb.1;have:=hb.2;unfold bh at h;omega⟩,b6.block b hb.2 (by have:=hb.1;omega)⟩) HV5.out);have P6:=HP5.out.alloc (.cells #[.int .i64 k5,.int .i64 op5,.int .i64 z5,.string nm5,.bool at5,.slice A5 n5 c5] 172);rw[hw6]at P6⊢;clear hw6 HV5;obtain⟨hs6,B6,Q6,qlt6,F6,flt6⟩:=fr2 B5 Q5 F5 b6;have HP6:=H_ P6;clear Q5 F5 B5 HP5 P6 b6;go_wp2_with fail;refine bA HP6.out DOT (λj7 e7 w7 P7 hr hij7 b7=>?_);have HR7:=H_ hr;clear hr;have HV7:=H_ (HV6.out.aA (G':=NG g (bh g f e) w7) (λb hb=>⟨hb.mono b7.size,b7.block b hb.2.1 (by have:=hb.1;omega)⟩));clear HV6;obtain⟨hs7,B7,Q7,qlt7,F7,flt7,E7,elt7⟩:=fr3 B6 Q6 F6 E6 b7;have HP7:=H_ P7;clear Q6 F6 E6 B6 HP6 P7 b7;go_wp2_with fail;have hfl:=cX;refine du HP7.out 2 (by decide) (λkk8 s8 zz8 qq8 j8 e8 w8 P8 hr hij8 b8=>?_);have HR8:=H_ hr;clear hr;have HV8:=H_ (HV7.out.aA (G':=NG g (bh g f e) w8) (λb hb=>⟨hb.mono b8.size,b8.block b hb.2.1 (by have:=hb.1;omega)⟩));clear HV7;obtain⟨hs8,B8,Q8,qlt8,F8,flt8,E8,elt8⟩:=fr3 B7 Q7 F7 E7 b8;have HP8:=H_ P8;clear Q7 F7 E7 B7 HP7 P8 b8;obtain⟨f0',f1',f2',f3',f4'⟩:=F8.out.aE.2;have x1:=F8.out.k1;go_upto_region 12 with fail;have E9:=H_ (show Blk (w8.setCell ⟨f,1,none⟩ (.string s8)) e 172 _ from(AG _ _ _ _ (show e≠f by omega)).trans E8.out);have HV9:=H_ (HV8.out.aA (w':=w8.setCell ⟨f,1,none⟩ (.string s8)) (G':=NG g (bh g f e) (w8.setCell ⟨f,1,none⟩ (.string s8))) (λb hb=>⟨⟨hb.1,by have:=hb.2.1;simpa using this,hb.2.2⟩,AG _ _ _ _ (show b≠f from λh=>hb.2.2 (by unfold bh;omega))⟩));obtain⟨w9,hw9⟩:=nm_ (w8.setCell ⟨f,1,none⟩ (.string s8));have b9:=bx1 hw9;have F9:=H_ (show Blk w9 f 168 #[.int .i64 5,.string s8,.slice none 0 0,.slice none 0 0,.slice none 0 0]from hw9▸F8.out.set 1 _);have Q9:=hbx Q8 b9;have HP9:=H_ (HP8.out.aA b9 (by omega));have B9:=H_ (B8.out.put b9 (by omega) (AB _));have hs9:=b9.size;have hz9:w9.heap.size=w8.heap.size:=by rw[<-hw9];simp
 have qlt9:=Q9.out.lt;have flt9:=F9.out.lt;rw[hw9]at E9 HV9⊢;clear hw9 b9 F8 Q8 HP8 B8;clear E8 HV8;have elt9:=E9.out.lt;clear f0' f1' f2' f3' f4' x1
 have HSO:=H_ (show ak T ex i=lif (cA (T:=T) ex T.length x s8) j8 e8 by
  unfold ak;rw[az N1,cG HT];exact sA HR5.out HR7.out HR8.out)
 clear HR5 HR7 HR8;go_wp2_with fail
 go_loopg [] (T.length-j8) (λkk wr=>∃(x:Ex) (s:ByteArray) (q:Nat) (bq:Bool) (k op z:Int) (nm:ByteArray) (at_:Bool) (A':Option Addr) (n c':Nat),kk=T.length-q/\Hid (Blk wr e 172 #[.int .i64 k,.int .i64 op,.int .i64 z,.string nm,.bool at_,.slice A' n c'])/\Hid (ExC wr (NG g (bh g f e) wr) x [.int .i64 k,.int .i64 op,.int .i64 z,.string nm,.bool at_,.slice A' n c'])/\
  Hid (Blk wr g 168 #[.int .i64 0,.string ⟨#[]⟩,.slice none 0 0,.slice none 0 0,.slice none 0 0])/\Hid (Blk wr f 168 #[.int .i64 5,.string s,.slice none 0 0,.slice none 0 0,.slice none 0 0])/\Hid (RS wr p A c T q bq)/\Hid (Bx w.heap.size p w wr)/\i<q/\Hid (∃m,T.length+1<=m+q/\ak T ex i=lif (cA (T:=T) ex m x s) q bq))
 case atStart=>exact⟨x,s8,j8,e8,k5,op5,z5,nm5,at5,A5,n5,c5,rfl,E9,HV9,Q9,F9,HP9,B9,by omega,H_ ⟨_,by omega,HSO.out⟩⟩
 case round=>
  clear E9 HV9 Q9 F9 HP9 B9 HSO;obtain⟨x,s,q,bq,k,op,z,nm,at_,A',n,c',rfl,Er,HVr,Qr,Fr_,HPr,Br,hiq,HEr⟩:=hrel;have hqT:=HPr.out.lt;have eltr:=Er.out.lt;have qltr:=Qr.out.lt;have fltr:=Fr_.out.lt;have hsr:=Br.out.size;go_wp2_with fail;refine am HPr.out DOT (λhbq ht w10 P10 b10=>?_) (λht w10 P10 b10=>?_)
  ·subst hbq;have HT10:=H_ ht;obtain⟨-,Q10,-,F10,-,E10,-⟩:=fn3 Qr Fr_ Er b10;have HV10:=H_ (HVr.out.aA (G':=NG g (bh g f e) w10) (λb hb=>⟨hb.mono b10.size,b10.block b hb.2.1 (by have:=hb.1;omega)⟩));have B10:=hth Br b10;have HP10:=H_ P10;have hs10:=b10.size;have elt10:=E10.out.lt;have qlt10:=Q10.out.lt;have flt10:=F10.out.lt;clear Qr Fr_ Er HVr Br HPr P10 b10 ht;have y1:=F10.out.k1;obtain⟨⟨d0,d1,d2,d3,d4,d5⟩,k0,k1,k2,k3,k4,k5'⟩:=E10.out.aC;go_upto_region 14 with fail;obtain⟨w11,hw11⟩:=nm_ (((((((w10.setCell ⟨e,0,none⟩ (.int .i64 4)).setCell ⟨e,1,none⟩ (.int .i64 0)).setCell ⟨e,2,none⟩ (.int .i64 0)).setCell ⟨e,3,none⟩ (.string s)).setCell ⟨e,4,none⟩ (.bool false)).setCell ⟨e,5,none⟩ (.slice (some ⟨w10.heap.size,0,none⟩) 1 1)).alloc (.cells #[.int .i64 k,.int .i64 op,.int .i64 z,.string nm,.bool at_,.slice A' n c'] 172));obtain⟨M1,M2,M3⟩:=mL E10.out HV10.out (λb hb=>⟨hb.2.1,λh=>hb.2.2 (by unfold bh;omega)⟩) 4 0 0 s false w11 hw11.symm;have hz11:w11.heap.size=w10.heap.size+1:=by rw[<-hw11,AR];simp
   rw[hw11];clear hw11 d0 d1 d2 d3 d4 d5 k0 k1 k2 k3 k4 k5' y1;have E11:=H_ M1
   have HV11:=H_ (M3.aA (G':=NG g (bh g f e) w11) (λb hb=>⟨by
    rcases hb with hb|hb
    ·exact hb.mono M2.size
    ·exact⟨by omega,by omega,λh=>by unfold bh at h;omega⟩,rfl⟩))
   have Q11:=hbx Q10 M2;have F11:=hbx F10 M2;have HP11:=H_ (HP10.out.aA M2 (by omega));have B11:=H_ (B10.out.put M2 (by omega) (AB _));have elt11:=E11.out.lt;have qlt11:=Q11.out.lt;have flt11:=F11.out.lt;clear M1 M2 M3 E10 HV10 Q10 F10 HP10 B10;have hfl:=cX;go_wp2_with fail;refine du HP11.out 2 (by decide) (λkk12 s12 zz12 qq12 j12 e12 w12 P12 hr hij12 b12=>?_);have HR12:=H_ hr;clear hr;have HV12:=H_ (HV11.out.aA (G':=NG g (bh g f e) w12) (λb hb=>⟨hb.mono b12.size,b12.block b hb.2.1 (by have:=hb.1;omega)⟩));clear HV11;obtain⟨hs12,B12,Q12,qlt12,F12,flt12,E12,elt12⟩:=fr3 B11 Q11 F11 E11 b12;have HP12:=H_ P12;clear Q11 F11 E11 B11 HP11 P12 b12;obtain⟨f0',f1',f2',f3',f4'⟩:=F12.out.aE.2;have x1:=F12.out.k1
   have HEQ:=H_ (show∃m,T.length+1<=m+j12/\ak T ex i=lif (cA (T:=T) ex m (cY s x) s12) j12 e12 by
    obtain⟨m,hm,heq⟩:=HEr.out;obtain⟨m,rfl⟩:∃m',m=m'+1:=⟨m-1,by omega⟩;exact⟨m,by omega,sB heq HT10.out HR12.out⟩)
   have hj12:=HP12.out.lt;clear HEr HR12;have E13:=H_ (show Blk (w12.setCell ⟨f,1,none⟩ (.string s12)) e 172 _ from(AG _ _ _ _ (show e≠f by omega)).trans E12.out);have HV13:=H_ (HV12.out.aA (w':=w12.setCell ⟨f,1,none⟩ (.string s12)) (G':=NG g (bh g f e) (w12.setCell ⟨f,1,none⟩ (.string s12))) (λb hb=>⟨⟨hb.1,by have:=hb.2.1;simpa using this,hb.2.2⟩,AG _ _ _ _ (show b≠f from λh=>hb.2.2 (by unfold bh;omega))⟩));have F13:=H_ (show Blk (w12.setCell ⟨f,1,none⟩ (.string s12)) f 168 #[.int .i64 5,.string s12,.slice none 0 0,.slice none 0 0,.slice none 0 0]from F12.out.set 1 _);have bb13:Bx w12.heap.size f w12 (w12.setCell ⟨f,1,none⟩ (.string s12)):=(Bx.refl _ _ _).aJ (.inr rfl) _;have Q13:=hbx Q12 bb13;have HP13:=H_ (HP12.out.aA bb13 (by omega));have B13:=H_ (B12.out.put bb13 (by omega) (AB _));clear bb13 E12 HV12 F12 Q12 HP12 B12;go_wp2_with fail;go_roundg (T.length-j12)
   case rel=>exact⟨cY s x,s12,j12,e12,4,0,0,s,false,_,_,_,rfl,E13,HV13,Q13,F13,HP13,B13,by omega,HEQ⟩
   case measure=>omega
  ·obtain⟨-,Q10,-,F10,-,E10,-⟩:=fn3 Qr Fr_ Er b10;have HV10:=H_ (HVr.out.aA (G':=NG g (bh g f e) w10) (λb hb=>⟨hb.mono b10.size,b10.block b hb.2.1 (by have:=hb.1;omega)⟩));have B10:=hth Br b10;have HP10:=H_ P10;have HT10:=H_ ht;have hs10:=b10.size;have elt10:=E10.out.lt;have qlt10:=Q10.out.lt;have flt10:=F10.out.lt;clear Qr Fr_ Er HVr Br HPr P10 b10 ht;go_upto_region 15 with fail;obtain⟨j11,e11,hsj⟩:=Is.known (lif (bg T (ex 0)) q bq)
   refine aW 3 6 (λxs=>{tmps:= #[.pointer (some ⟨p,0,none⟩),undef,.pointer (some ⟨g,0,none⟩),.pointer (some ⟨f,0,none⟩),.pointer (some ⟨e,0,none⟩),undef,undef,undef,undef,.agg #[.int .i64 0,.string ⟨#[]⟩,.slice none 0 0,.slice none 0 0,.slice none 0 0],.bool false,.pointer (some ⟨p,0,none⟩),.bool false,undef,undef,undef,undef,undef,undef,undef,undef,undef,undef,undef,.bool true,.pointer (some ⟨p,0,none⟩),.bool true,.pointer (some ⟨f,0,none⟩),.pointer (some ⟨p,0,none⟩),.agg #[.int .i64 k5,.int .i64 op5,.int .i64 z5,.string nm5,.bool at5,.slice A5 n5 c5],.pointer (some ⟨p,0,none⟩),.tuple #[],.pointer (some ⟨p,0,none⟩),.agg #[.int .i64 kk8,.string s8,.int .i64 zz8,.int .i64 qq8],.string s8,.pointer (some ⟨f,1,none⟩),.pointer (some ⟨p,0,none⟩),.bool false,u38,u39,u40,u41,u42,u43,u44,u45,u46,(xs 0).getD undef,(xs 1).getD undef,(xs 2).getD undef,(xs 3).getD undef,(xs 4).getD undef,(xs 5).getD undef,undef,undef,undef,undef,undef,undef,undef,undef,undef,undef,undef,undef,undef,undef,undef,undef,undef,undef,undef,undef,undef,undef,undef,undef,undef,undef,undef,undef,undef,undef,undef,undef,undef,undef,undef,undef,undef,undef,undef,undef,undef,undef,undef,undef,undef,undef,undef,undef,undef,undef,undef,undef,undef,undef,undef,undef,undef,undef,undef,undef,undef,undef,undef,undef,undef,undef,undef,undef,undef,undef,undef,undef,undef,undef,undef,undef,undef,undef,undef,undef,undef,undef,undef,undef,undef,undef,undef,undef,undef],defers:=[]})
    (RQ w10 p A c T q bq j11 e11) g
    (λi=>match i with
      |0=>fEq (.agg #[.int .i64 k,.int .i64 op,.int .i64 z,.string nm,.bool at_,.slice A' n c'])
      |1=>fRow w10.heap.size 172 #[.int .i64 k,.int .i64 op,.int .i64 z,.string nm,.bool at_,.slice A' n c']
      |2=>fEq (.pointer (some ⟨p,0,none⟩))
      |3=>λv W=>∃ys,Vec kEx 172 w10.heap.size noZ W v ys/\ys.length<=20000/\Is (lif (bg T (ex 0)) q bq) ys j11 e11
      |4=>λv W=>∃AA n c ys,v= .slice AA n c/\Sl kEx W (NG g (bh g f e) W) (x::ys) AA n/\Is (lif (bg T (ex 0)) q bq) ys j11 e11
      |_=>fEq (.pointer (some ⟨f,2,none⟩)))
    (by
      intro k
      match k with
      |0=>exact fEq.st _ _
      |1=>exact λv W W' hn h=>fRow.st w10.heap.size 172 _ v W W' ⟨hn.size,λk hk=>hn.block k (by omega)⟩ h
      |2=>exact fEq.st _ _
      |3=>exact λ_ _ _ hn ⟨ys,h1,h2,h3⟩=>⟨ys,h1.aA hn.size (λk hk=>hn.block k (by have:=hk.1;omega) hk.2.1),h2,h3⟩
      |4=>exact λ_ _ _ hn ⟨AA,n,c,ys,h1,h2,h3⟩=>⟨AA,n,c,ys,h1,h2.aA λb hb=>⟨hb.mono hn.size,hn.block b hb.1 hb.2.1⟩,h3⟩
      |_+5=>exact fEq.st _ _)
    (by kernel_rfl) (by kernel_rfl) rfl (by kernel_rfl) (by decide) rfl ⟨(Bx.refl _ _ _).drew,HP10.out.drew⟩ ?_ ?_ ?_
   ·intro i' hi hic b xs W hJ hd;obtain rfl|rfl|rfl|rfl|rfl:i'=0\/i'=1\/i'=2\/i'=4\/i'=5:=by omega
    ·refine stp rfl (by kernel_rfl) λK hK=>?_;refine iT (x:= .tmp 4) rfl rfl (ja (E10.out.bx hJ.1 (by omega) (by omega))) ?_;exact hK _ _ ⟨_,rfl,hJ,rfl,Nw.refl _ _⟩
    ·obtain⟨_,h0,rfl⟩:=hd 0;refine stp rfl (by kernel_rfl) λK hK=>?_;refine ip (x:= .tmp 47) rfl (gd h0 _) (nF W _ _ _ _ _ _) ?_;have hb:=(AC W.heap.size W).alloc (AB _) (.cells #[.int .i64 k,.int .i64 op,.int .i64 z,.string nm,.bool at_,.slice A' n c'] 172);exact hK _ _ ⟨.slice (some ⟨W.heap.size,0,none⟩) 1 1,rfl,hJ.below hb,⟨W.heap.size,rfl,hJ.1.size,Blk.new W 172 _⟩,Nw.below hb⟩
    ·exact mvO hJ
    ·obtain⟨_,h1,a,rfl,hra⟩:=hd 1;obtain⟨vy,h3,ys,hvec,hyl,hyi⟩:=hd 3;have hsW:=hJ.1.size;have hal:=hra.2.lt;have hab:=hra.1;obtain⟨v',w',hr,hb,AA,n9,c9,rfl,hsl⟩:=jB (K:=kEx) (G:=NG g (bh g f e) W) iM 166 hra.2 (ExC.aA (λb hb=>⟨hb.mono hJ.1.size,hJ.1.block b hb.2.1 (by have:=hb.1;omega)⟩) HV10.out) ⟨by omega,hal,λh=>by unfold bh at h;omega⟩ hvec (λb hb=>⟨by have:=hb.1;omega,hb.2.1,λh=>by have:=hb.1;unfold bh at h;omega⟩) (λb hb=>hb.2.1) hyl;refine stp rfl (by kernel_rfl) λK hK=>?_;refine cM (.tmp 48) (.tmp 50) 166 rfl (gd h1 _) (gd h3 _) hr ?_
     exact hK _ _ ⟨_,rfl,hJ.below hb,⟨AA,n9,c9,ys,rfl,hsl.aA (λb hb'=>⟨by
      rcases hb' with hb'|hb'
      ·exact hb'.mono hb.size
      ·exact⟨by have:=hb'.1;omega,hb'.2,λh=>by have:=hb'.1;unfold bh at h;omega⟩,rfl⟩),hyi⟩,Nw.below hb⟩
    ·exact rdO hJ
   ·intro xs W hJ hd;obtain⟨_,h2,rfl⟩:=hd 2;have hsW:=hJ.1.size;refine stp rfl (by kernel_rfl) λK hK=>?_;refine iU (n:=284) (x:= .tmp 49) rfl (gd h2 _) (by kernel_rfl) ?_;refine ROut.use (pA (f:=ex 0) (λj' hj'=>HX'.out j' (by omega)) p c A W hJ.2) (λv ys jj bb ww hv PP hr hqj bx=>?_);obtain⟨rfl,rfl⟩:=hsj _ _ _ hr;exact hK _ _ ⟨v,rfl,⟨hJ.1.aB bx,PP,hqj⟩,⟨ys,hv.1.lower hsW,hv.2,hr⟩,Nw.of bx (by omega)⟩
   ·intro xs W hJ hd;obtain⟨_,h4,AA,n9,c9,ys,rfl,hsl,hyi⟩:=hd 4;obtain⟨_,h5,rfl⟩:=hd 5;have hW:=hJ.1.size;have Q14:=H_ (Q10.out.bx hJ.1 (by omega) (by omega));have F14:=H_ (F10.out.bx hJ.1 (by omega) (by omega))
    have HR:=H_ (show Is (ak T ex i) (stE 5 s (x::ys)) j11 e11 by
     obtain⟨m,hm,heq⟩:=HEr.out;exact uf heq HT10.out hyi)
    have HP14:=H_ hJ.2.1;have hjj:=hJ.2.2;have B14:=H_ (B10.out.aB hJ.1);have X14:=H_ hsl;obtain⟨w14,rfl⟩:∃w14,w14=W:=⟨_,rfl⟩;have qlt14:=Q14.out.lt;have flt14:=F14.out.lt;clear hJ hd hsl hyi Q10 F10 HP10 B10 E10 HV10 HEr;obtain⟨f0',f1',f2',f3',f4'⟩:=F14.out.aE.2;have x1:=F14.out.k2;refine AE rfl λK hK=>?_;go_simp;refine hK _ _ ?_;obtain⟨w15,hw15⟩:=nm_ (w14.setCell ⟨f,2,none⟩ (.slice AA n9 c9));have b15:=bx1 hw15;have F15:=H_ (show Blk w15 f 168 #[.int .i64 5,.string s,.slice AA n9 c9,.slice none 0 0,.slice none 0 0]from hw15▸F14.out.set 2 _);have Q15:=hbx Q14 b15;have HP15:=H_ (HP14.out.aA b15 (by omega));have B15:=H_ (B14.out.put b15 (by omega) (AB _));have hs15:=b15.size;have hz15:w15.heap.size=w14.heap.size:=by rw[<-hw15];simp
    have qlt15:=Q15.out.lt;have flt15:=F15.out.lt;have X15:=H_ (X14.out.aA (G':=NG g (bh g f e) w15) (λb hb=>NG.put b15 (.inr (.inl rfl)) hb));rw[hw15];clear hw15 b15 F14 Q14 HP14 B14 X14;clear f0' f1' f2' f3' f4' x1;have VE:=H_ (StC.of 5 s c9 0 0 X15.out (Sl.nil _ _ none) (Sl.nil _ _ none));obtain⟨g0',g1',g2',g3',g4'⟩:=F15.out.aE.1;obtain⟨⟨d0,d1,d2,d3,d4⟩,f0,f1,f2,f3,f4⟩:=Q15.out.aE;go_wp2_with fail;exact lI rfl (by simp) Q15.out VE.out (λb hb=>⟨by have:=hb.1;have:=hb.2.2;unfold bh at this;omega,hb.2.1⟩) HP15.out HR.out (by omega) (hgz▸B15.out) hgz (by omega)
end
end
end Go.Proofs.YtjpbckbpeblibaaGreatDoor
