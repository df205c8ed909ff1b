/- part of a proof -/
import Derived.Test.YtjpbckbpeblibaaGreatDoorK09
import Derived.ArgAppend
namespace Go.Proofs.YtjpbckbpeblibaaGreatDoor
set_option linter.unusedVariables false
set_option linter.unusedSimpArgs false
set_option maxRecDepth 100000
set_option maxHeartbeats 64000000
section
open Go.RowKit
variable{T:List Tk}{base:Nat}{u:Value}{w:World}{α:Type}
theorem Bg:type_of% @decide_eq_false:=@decide_eq_false
section
variable{T:List Tk}{ex:Nat->Nat->R Ex}{st:Nat->R St}{i:Nat}
theorem rM{a b:ByteArray}{i:Nat}(h:isT T a i=true)(hne:a≠b):isT T b i=false:=by
 unfold isT at h⊢;simp only[Ba,Bk]at h;rw[h.1,Bg hne,Bool.false_and]
theorem jQ{st:Nat->R St}(i:Nat)(x:List St)(j:Nat)(hup:Up st)(h:bp T st i= .ok x j):i<j:=by
 unfold bp at h;split at h
 ·cases h
 ·have h0:=cm _ _ _ _ ‹ap _ _ _=_›
  have h1:∀k ss i ys j,ck T st k ss i= .ok ys j->i<j:=by
   intro k;induction k with
   |zero=>intro ss i ys j h;cases h
   |succ k ih=>
    intro ss i ys j h;unfold ck at h;split at h
    ·cases h;omega
    ·split at h
     ·cases h
     ·have h1:=hup _ _ _ ‹_›;have h2:=ih _ _ _ _ h;omega
  have:=h1 _ _ _ _ _ h;unfold bF at h0;omega
theorem tC(HX:∀j,i<j->RdAt rvE 293 T (ex 0) j)(hux:Up (ex 0))(HS:∀j,i<j->RdAt rvS 255 T st j)(hus:Up st)(hb:isT T kIf i=true\/isT T gD i=true)(p c:Nat)(A:Option Addr)(w:World)(h:PS w p A c T i):
 Calls Tryz.prog 277 #[.pointer (some ⟨p,0,none⟩)] w (Out rvS p A c T w (cL T ex st i)):=by
 have HS':=H_ (show∀m,i<m->∀j,m<j->RdAt rvS 255 T st j from λm hm j hj=>HS j (by omega));have HUX:=H_ hux;have HUS:=H_ hus;have HB:=H_ hb;clear hux hus hb HS;have hp:=h.aG.lt;obtain⟨w0,hw0,q0,b0,P0⟩:=uR h;have Q0:=H_ q0;have B0:=H_ b0;have HP0:=H_ P0;have HX':=H_ HX;clear h HX q0 b0 P0;go_enter Tryz.func277,Tryz.ntmps277;go_upto_region 1 with(fail);have hsz:=B0.out.size;have hg0:=Q0.out.lt;obtain⟨g,hgz⟩:=nm_ (w.heap.size);rw[hgz]at Q0 hg0⊢;clear hw0;go_wp2_with fail;refine bd HP0.out gD (λht w1 P1 b1=>?_) (λht w1 P1 b1=>?_)
 ·obtain⟨hs1,B1,Q1,hg1⟩:=fr1 B0 Q0 b1;have HP1:=H_ P1;have HT:=H_ ht;clear Q0 B0 HP0 P1 b1 ht;have HNI:=H_ (rM (a:=gD) HT.out (λh=>absurd (show gD.size=kIf.size from CU ByteArray.size h) (by decide)));go_wp2_with fail;refine Out.use (HX'.out (i+1) (by omega) p c A w1 HP1.out) (λj w2 hr b2=>?_) (λx j v w2 hr hv P2 b2=>?_)
  ·exact⟨rfl,Out.bad (by unfold cL ie;rw[AL (by rw[HNI.out];simp),AP HT.out];rw[hr]) (B1.out.aB b2)⟩
  ·obtain⟨k1,op1,z1,nm1,at1,A1,n1,c1',rfl,hv'⟩:=ExV.inv hv;have HV:=H_ hv';have H1:=H_ hr;have hij:=HUX.out _ _ _ hr;clear hv hv' hr;obtain⟨hs2,B2,Q2,hg2⟩:=fr1 B1 Q1 b2;have HP2:=H_ P2;clear Q1 B1 HP1 P2 b2;go_wp2_with fail;refine Out.use (jp (HS'.out j (by omega)) HUS.out p c A _ (HP2.out.alloc _)) (λj2 w3 hr b3=>?_) (λys j2 v w3 hr hv P3 b3=>?_)
   ·exact⟨rfl,Out.bad (by unfold cL ie;rw[AL (by rw[HNI.out];simp),AP HT.out];rw[H1.out];simp only;rw[hr]) ((B2.out.new _ (AB _)).aB b3)⟩
   ·obtain⟨hvec,hyl⟩:=hv;obtain⟨A2,c2,rfl,hs2'⟩:=hvec.sl (by unfold BD;omega);have hij2:=jQ _ _ _ HUS.out hr;have H2:=H_ hr;obtain⟨a,haz⟩:=nm_ (w2.heap.size);have RA:=H_ (show Blk w3 a 172 #[.int .i64 k1,.int .i64 op1,.int .i64 z1,.string nm1,.bool at1,.slice A1 n1 c1']from haz▸(Blk.new w2 172 _).bx b3 (by simp) (by omega));replace b3:=((Bx.refl w2.heap.size p w2).new _ (AB _)).aB b3;have HV2:=H_ (show ExC w3 (NG g (two g g) w3) x [.int .i64 k1,.int .i64 op1,.int .i64 z1,.string nm1,.bool at1,.slice A1 n1 c1']from ExC.aA (λb hb=>⟨⟨by have:=hb.1;omega,AF hb.2 b3.size,λh=>by have:=hb.1;unfold two at h;omega⟩,b3.block b hb.2 (by have:=hb.1;omega)⟩) HV.out);have SB:=H_ (show Sl kSt w3 (NG g (two g g) w3) ys A2 ys.length from hs2'.aA (λb hb=>⟨⟨by have:=hb.1;simp at this;omega,hb.2.1,λh=>by have:=hb.1;simp at this;unfold two at h;omega⟩,rfl⟩));clear hvec hs2' hr HV;obtain⟨hs3,B3,Q3,hg3⟩:=fr1 B2 Q2 b3;have HP3:=H_ P3;clear Q2 B2 HP2 P3 b3;have SX:=H_ (dW (K:=kEx) RA.out ⟨by omega,RA.out.lt,λh=>by unfold two at h;omega⟩ HV2.out);rw[haz];clear RA HV2;obtain⟨⟨d0,d1,d2,d3,d4⟩,f0,f1,f2,f3,f4⟩:=Q3.out.aE;go_wp2_with fail;obtain⟨N1,N2⟩:=hH Q3.out (.int .i64 4) (.string ⟨#[]⟩) (.slice (some ⟨a,0,none⟩) 1 1) (.slice A2 ys.length c2) (.slice none 0 0);have HV:=StC.of 4 ⟨#[]⟩ 1 c2 0 SX.out SB.out (Sl.nil _ _ none);exact gj rfl (by simp) N1 (Out.ok (by unfold cL ie;rw[AL (by rw[HNI.out];simp),AP HT.out];rw[H1.out];simp only;rw[H2.out]) ⟨_,rfl,HV.aA (λb hb=>⟨⟨by have:=hb.1;omega,AF hb.2.1 N2.size⟩,N2.block b hb.2.1 (λh=>hb.2.2 (.inl h))⟩)⟩ (HP3.out.put N2 (by omega)) (B3.out.put N2 (by omega) (AB _)))
 ·obtain⟨hs1,B1,Q1,hg1⟩:=fr1 B0 Q0 b1;have HP1:=H_ P1;have HNW:=H_ ht;clear Q0 B0 HP0 P1 b1 ht
  have HT:=H_ (show isT T kIf i=true from by
   rcases HB.out with h|h
   ·exact h
   ·rw[HNW.out]at h;cases h)
  go_wp2_with fail;refine bR (HP1.out.alloc _) ((Blk.new w1 _ _).cell 0) (λj2 w2 hr b2=>?_) (λj2 w2 hr P2 b2=>?_)
  ·have:=vI hr;rw[show isT T kIf i=false from this.1]at HT;exact absurd HT.out (by simp)
  ·have hij2:=(bV hr).2;subst hij2;replace b2:=((Bx.refl w1.heap.size p w1).new _ (AB _)).aB b2;clear hr;obtain⟨hs2,B2,Q2,hg2⟩:=fr1 B1 Q1 b2;have HP2:=H_ P2;clear Q1 B1 HP1 P2 b2;go_wp2_with fail;refine Out.use (HX'.out (i+1) (by omega) p c A w2 HP2.out) (λj w3 hr b3=>?_) (λx j v w3 hr hv P3 b3=>?_)
   ·exact⟨rfl,Out.bad (by unfold cL ifT;rw[AP HT.out];rw[hr]) (B2.out.aB b3)⟩
   ·obtain⟨k1,op1,z1,nm1,at1,A1,n1,c1',rfl,hv'⟩:=ExV.inv hv;have HV:=H_ hv';have H1:=H_ hr;have hij:=HUX.out _ _ _ hr;clear hv hv' hr;obtain⟨hs3,B3,Q3,hg3⟩:=fr1 B2 Q2 b3;have HP3:=H_ P3;clear Q2 B2 HP2 P3 b3;go_wp2_with fail;refine Out.use (jp (HS'.out j (by omega)) HUS.out p c A _ (HP3.out.alloc _)) (λj2 w4 hr b4=>?_) (λys j2 v w4 hr hv P4 b4=>?_)
    ·exact⟨rfl,Out.bad (by unfold cL ifT;rw[AP HT.out];rw[H1.out];simp only;rw[hr]) ((B3.out.new _ (AB _)).aB b4)⟩
    ·obtain⟨hvec,hyl⟩:=hv;obtain⟨A2,c2,rfl,hs2'⟩:=hvec.sl (by unfold BD;omega);have hij2:=jQ _ _ _ HUS.out hr;have H2:=H_ hr;obtain⟨a,haz⟩:=nm_ (w3.heap.size);have RA:=H_ (show Blk w4 a 172 #[.int .i64 k1,.int .i64 op1,.int .i64 z1,.string nm1,.bool at1,.slice A1 n1 c1']from haz▸(Blk.new w3 172 _).bx b4 (by simp) (by omega));replace b4:=((Bx.refl w3.heap.size p w3).new _ (AB _)).aB b4;have HV2:=H_ (show ExC w4 (NG g (two g g) w4) x [.int .i64 k1,.int .i64 op1,.int .i64 z1,.string nm1,.bool at1,.slice A1 n1 c1']from ExC.aA (λb hb=>⟨⟨by have:=hb.1;omega,AF hb.2 b4.size,λh=>by have:=hb.1;unfold two at h;omega⟩,b4.block b hb.2 (by have:=hb.1;omega)⟩) HV.out);have SB:=H_ (show Sl kSt w4 (NG g (two g g) w4) ys A2 ys.length from hs2'.aA (λb hb=>⟨⟨by have:=hb.1;simp at this;omega,hb.2.1,λh=>by have:=hb.1;simp at this;unfold two at h;omega⟩,rfl⟩));clear hvec hs2' hr HV;obtain⟨hs4,B4,Q4,hg4⟩:=fr1 B3 Q3 b4;have HP4:=H_ P4;clear Q3 B3 HP3 P4 b4;have SX:=H_ (dW (K:=kEx) RA.out ⟨by omega,RA.out.lt,λh=>by unfold two at h;omega⟩ HV2.out);rw[haz];clear RA HV2;go_upto_region 5 with fail;obtain⟨e,hez⟩:=nm_ (w4.heap.size);rw[hez];obtain⟨w5,hw5⟩:=nm_ (w4.alloc (.cells #[.int .i64 3,.string ⟨#[]⟩,.slice (some ⟨a,0,none⟩) 1 1,.slice A2 ys.length c2,.slice none 0 0] 168));have E5:=H_ (show Blk w5 e 168 _ from hw5▸hez▸Blk.new w4 168 #[.int .i64 3,.string ⟨#[]⟩,.slice (some ⟨a,0,none⟩) 1 1,.slice A2 ys.length c2,.slice none 0 0]);have b5:Bx w4.heap.size p w4 w5:=bxn hw5;have P5:=HP4.out.al hw5;have SX5:=H_ (show Sl kEx w5 (NG g (two g e) w5) [x] (some ⟨a,0,none⟩) 1 from SX.out.aA λb hb=>⟨⟨hb.1,AF hb.2.1 b5.size,λh=>by have:=hb.2.1;have:=hb.2.2;unfold two at h this;omega⟩,b5.block b hb.2.1 (by have:=hb.1;omega)⟩);have SB5:=H_ (show Sl kSt w5 (NG g (two g e) w5) ys A2 ys.length from SB.out.aA λb hb=>⟨⟨hb.1,AF hb.2.1 b5.size,λh=>by have:=hb.2.1;have:=hb.2.2;unfold two at h this;omega⟩,b5.block b hb.2.1 (by have:=hb.1;omega)⟩);obtain⟨hs5,B5,Q5,hg5⟩:=fr1 B4 Q4 b5;have HP5:=H_ P5;clear Q4 B4 HP4 P5 b5;have he5:=E5.out.lt;rw[hw5];clear hw5 SX SB;go_wp2_with fail;refine bd HP5.out pc (λht w6 P6 b6=>?_) (λht w6 P6 b6=>?_)
     ·have E6:=hbx E5 b6 he5;have SX6:=H_ (SX5.out.aA (G':=NG g (two g e) w6) λb hb=>⟨hb.mono b6.size,b6.block b hb.2.1 (by have:=hb.1;omega)⟩);have SB6:=H_ (SB5.out.aA (G':=NG g (two g e) w6) λb hb=>⟨hb.mono b6.size,b6.block b hb.2.1 (by have:=hb.1;omega)⟩);clear E5 SX5 SB5;obtain⟨hs6,B6,Q6,hg6⟩:=fr1 B5 Q5 b6;have HP6:=H_ P6;have HTE:=H_ ht;clear Q5 B5 HP5 P6 b6 ht;have he6:=E6.out.lt;go_wp2_with fail;refine Out.use (jp (HS'.out (j2+1) (by omega)) HUS.out p c A _ HP6.out) (λj7 w7 hr b7=>?_) (λzs j7 v w7 hr hv P7 b7=>?_)
      ·exact⟨rfl,Out.bad (by unfold cL ifT;rw[AP HT.out];rw[H1.out];simp only;rw[H2.out];simp only;rw[AP HTE.out,hr]) (B6.out.aB b7)⟩
      ·obtain⟨hvec,hzl⟩:=hv;obtain⟨A3,c3,rfl,hs3'⟩:=hvec.sl (by unfold BD;omega);have H3:=H_ hr;have E7:=hbx E6 b7 he6;have SX7:=H_ (SX6.out.aA (G':=NG g (two g e) w7) λb hb=>⟨hb.mono b7.size,b7.block b hb.2.1 (by have:=hb.1;omega)⟩);have SB7:=H_ (SB6.out.aA (G':=NG g (two g e) w7) λb hb=>⟨hb.mono b7.size,b7.block b hb.2.1 (by have:=hb.1;omega)⟩);have SC7:=H_ (show Sl kSt w7 (NG g (two g e) w7) zs A3 zs.length from hs3'.aA (λb hb=>⟨⟨by have:=hb.1;omega,hb.2.1,λh=>by have:=hb.1;unfold two at h;omega⟩,rfl⟩));clear hvec hs3' hr E6 SX6 SB6;obtain⟨hs7,B7,Q7,hg7⟩:=fr1 B6 Q6 b7;have HP7:=H_ P7;clear Q6 B6 HP6 P7 b7;obtain⟨⟨y0,y1,y2,y3,y4⟩,_,_,_,_,yf⟩:=E7.out.aE;obtain⟨⟨c0,c1,c2',c3',c4⟩,f0,f1,f2,f3,f4⟩:=Q7.out.aE;have hge:g≠e:=by omega
       have heg:e≠g:=by omega
       go_wp2_with fail;have bw:=(Bx.refl w7.heap.size e w7).aJ (o:=4) (.inr rfl) (.slice A3 zs.length c3);have E8:=E7.out.set 4 (.slice A3 zs.length c3);have Q8:=Q7.out.bx bw hg7 (by omega);have HP8:=HP7.out.put bw (by omega);have B8:=B7.out.put bw (by omega) (AB _);obtain⟨N1,N2⟩:=hH Q8 (.int .i64 3) (.string ⟨#[]⟩) (.slice (some ⟨a,0,none⟩) 1 1) (.slice A2 ys.length c2) (.slice A3 zs.length c3);have HV:=StC.of 3 ⟨#[]⟩ 1 c2 c3 SX7.out SB7.out SC7.out;exact gj rfl (by simp) N1 (Out.ok (by unfold cL ifT;rw[AP HT.out];rw[H1.out];simp only;rw[H2.out];simp only;rw[AP HTE.out,H3.out]) ⟨_,rfl,HV.aA (λb hb=>⟨⟨by have:=hb.1;omega,AF hb.2.1 (AW bw.size N2.size)⟩,(N2.block b (AF hb.2.1 bw.size) (λh=>hb.2.2 (.inl h))).trans (bw.block b hb.2.1 (λh=>hb.2.2 (.inr h)))⟩)⟩ (HP8.put N2 (by omega)) (B8.put N2 (by omega) (AB _)))
     ·have E6:=hbx E5 b6 he5;have SX6:=H_ (SX5.out.aA (G':=NG g (two g e) w6) λb hb=>⟨hb.mono b6.size,b6.block b hb.2.1 (by have:=hb.1;omega)⟩);have SB6:=H_ (SB5.out.aA (G':=NG g (two g e) w6) λb hb=>⟨hb.mono b6.size,b6.block b hb.2.1 (by have:=hb.1;omega)⟩);clear E5 SX5 SB5;obtain⟨hs6,B6,Q6,hg6⟩:=fr1 B5 Q5 b6;have HP6:=H_ P6;have HTE:=H_ ht;clear Q5 B5 HP5 P6 b6 ht;obtain⟨y0,y1,y2,y3,y4⟩:=E6.out.aE.1;obtain⟨⟨c0,c1,c2',c3',c4⟩,f0,f1,f2,f3,f4⟩:=Q6.out.aE;go_wp2_with fail;obtain⟨N1,N2⟩:=hH Q6.out (.int .i64 3) (.string ⟨#[]⟩) (.slice (some ⟨a,0,none⟩) 1 1) (.slice A2 ys.length c2) (.slice none 0 0);have HV:=StC.of 3 ⟨#[]⟩ 1 c2 0 SX6.out SB6.out (Sl.nil _ _ none);exact gj rfl (by simp) N1 (Out.ok (by unfold cL ifT;rw[AP HT.out];rw[H1.out];simp only;rw[H2.out];simp only;rw[AL (by rw[HTE.out];simp)]) ⟨_,rfl,HV.aA (λb hb=>⟨⟨by have:=hb.1;omega,AF hb.2.1 N2.size⟩,N2.block b hb.2.1 (λh=>hb.2.2 (.inl h))⟩)⟩ (HP6.out.put N2 (by omega)) (B6.out.put N2 (by omega) (AB _)))
theorem wJ(HX:∀j,i<j->RdAt rvE 293 T (ex 0) j)(hux:Up (ex 0))(HS:∀j,i<j->RdAt rvS 255 T st j)(hus:Up st)(HM:RdAt rvS 278 T (ak T ex) i):RdAt rvS 255 T (cL T ex st) i:=by
 intro p c A w h;have HBR:=H_ (λhb=>tC HX hux HS hus hb p c A);clear HX hux HS hus;have hp:=h.aG.lt;obtain⟨w0,hw0,q0,b0,P0⟩:=uR h;have Q0:=H_ q0;have B0:=H_ b0;have HP0:=H_ P0;have HM':=H_ HM;clear h HM q0 b0 P0;go_enter Tryz.func255,Tryz.ntmps255;go_upto_region 1 with(fail);have hsz:=B0.out.size;have hg0:=Q0.out.lt;obtain⟨g,hgz⟩:=nm_ (w.heap.size);rw[hgz]at Q0 hg0⊢;clear hw0;go_wp2_with fail;refine lA HP0.out kIf (λht w1 P1 b1=>?_) (λht w1 P1 b1=>?_)
 ·obtain⟨hs1,B1,Q1,hg1⟩:=fr1 B0 Q0 b1;have HP1:=H_ P1;have HT:=H_ ht;clear Q0 B0 HP0 P1 b1 ht;go_wp2_with fail;refine Out.use (HBR.out (.inl HT.out) w1 HP1.out) (λj w2 hr b2=>?_) (λx j v w2 hr hv P2 b2=>?_)
  ·exact⟨rfl,Out.bad hr (B1.out.aB b2)⟩
  ·obtain⟨k0,nm,A1,n1,c1',A2,n2,c2',A3,n3,c3',rfl,hv'⟩:=SV.inv hv;have HV:=H_ hv';have H1:=H_ hr;clear hv hv' hr;obtain⟨hs2,B2,Q2,hg2⟩:=fr1 B1 Q1 b2;have HP2:=H_ P2;clear Q1 B1 HP1 P2 b2;obtain⟨⟨d0,d1,d2,d3,d4⟩,f0,f1,f2,f3,f4⟩:=Q2.out.aE;go_wp2_with fail;obtain⟨N1,N2⟩:=hH Q2.out (.int .i64 k0) (.string nm) (.slice A1 n1 c1') (.slice A2 n2 c2') (.slice A3 n3 c3');exact gj rfl (by simp) N1 (Out.ok H1.out ⟨_,rfl,HV.out.aA (Fr.aA N2 (by omega) hg1)⟩ (HP2.out.put N2 (by omega)) (B2.out.put N2 (by omega) (AB _)))
 ·obtain⟨hs1,B1,Q1,hg1⟩:=fr1 B0 Q0 b1;have HP1:=H_ P1;have HN1:=H_ ht;clear Q0 B0 HP0 P1 b1 ht;go_wp2_with fail;refine lA HP1.out gD (λht w2 P2 b2=>?_) (λht w2 P2 b2=>?_)
  ·obtain⟨hs2,B2,Q2,hg2⟩:=fr1 B1 Q1 b2;have HP2:=H_ P2;have HT:=H_ ht;clear Q1 B1 HP1 P2 b2 ht;go_wp2_with fail;refine Out.use (HBR.out (.inr HT.out) w2 HP2.out) (λj w3 hr b3=>?_) (λx j v w3 hr hv P3 b3=>?_)
   ·exact⟨rfl,Out.bad hr (B2.out.aB b3)⟩
   ·obtain⟨k0,nm,A1,n1,c1',A2,n2,c2',A3,n3,c3',rfl,hv'⟩:=SV.inv hv;have HV:=H_ hv';have H1:=H_ hr;clear hv hv' hr;obtain⟨hs3,B3,Q3,hg3⟩:=fr1 B2 Q2 b3;have HP3:=H_ P3;clear Q2 B2 HP2 P3 b3;obtain⟨⟨d0,d1,d2,d3,d4⟩,f0,f1,f2,f3,f4⟩:=Q3.out.aE;go_wp2_with fail;obtain⟨N1,N2⟩:=hH Q3.out (.int .i64 k0) (.string nm) (.slice A1 n1 c1') (.slice A2 n2 c2') (.slice A3 n3 c3');exact gj rfl (by simp) N1 (Out.ok H1.out ⟨_,rfl,HV.out.aA (Fr.aA N2 (by omega) hg2)⟩ (HP3.out.put N2 (by omega)) (B3.out.put N2 (by omega) (AB _)))
  ·obtain⟨hs2,B2,Q2,hg2⟩:=fr1 B1 Q1 b2;have HP2:=H_ P2;have HN2:=H_ ht;clear Q1 B1 HP1 P2 b2 ht;go_wp2_with fail;refine Out.use (HM'.out p c A w2 HP2.out) (λj w3 hr b3=>?_) (λx j v w3 hr hv P3 b3=>?_)
   ·exact⟨rfl,Out.bad (by unfold cL;rw[AL (by rw[HN1.out];simp),AL (by rw[HN2.out];simp)];rw[hr]) (B2.out.aB b3)⟩
   ·obtain⟨k0,nm,A1,n1,c1',A2,n2,c2',A3,n3,c3',rfl,hv'⟩:=SV.inv hv;have HV:=H_ hv';have H1:=H_ hr;clear hv hv' hr;obtain⟨hs3,B3,Q3,hg3⟩:=fr1 B2 Q2 b3;have HP3:=H_ P3;clear Q2 B2 HP2 P3 b3;go_upto_region 5 with fail;obtain⟨e,hez⟩:=nm_ (w3.heap.size);rw[hez];obtain⟨w4,hw4⟩:=nm_ (w3.alloc (.cells #[.int .i64 k0,.string nm,.slice A1 n1 c1',.slice A2 n2 c2',.slice A3 n3 c3'] 168));have E4:=H_ (show Blk w4 e 168 _ from hw4▸hez▸Blk.new w3 168 #[.int .i64 k0,.string nm,.slice A1 n1 c1',.slice A2 n2 c2',.slice A3 n3 c3']);have b4:Bx w3.heap.size p w3 w4:=bxn hw4;have P4:=HP3.out.al hw4;have HV4:=H_ (StC.aA (G':=NG g (two g e) w4) (λb hb=>⟨⟨by have:=hb.1;omega,AF hb.2 b4.size,λh=>by have:=hb.1;have:=hb.2;unfold two at h;omega⟩,b4.block b hb.2 (by have:=hb.1;omega)⟩) HV.out);obtain⟨hs4,B4,Q4,hg4⟩:=fr1 B3 Q3 b4;have HP4:=H_ P4;clear Q3 B3 HP3 P4 b4;rw[hw4];clear hw4 HV;go_wp2_with fail;refine bR (s:=mi) (HP4.out.alloc _) ((Blk.new w4 _ _).cell 0) (λj5 w5 hr b5=>?_) (λj5 w5 hr P5 b5=>?_)
    ·exact⟨rfl,Out.bad (by unfold cL;rw[AL (by rw[HN1.out];simp),AL (by rw[HN2.out];simp)];rw[H1.out];simp only;rw[show ap T mi j= .bad j5 from hr]) ((B4.out.new _ (AB _)).aB b5)⟩
    ·have H5:=H_ hr;replace b5:=((Bx.refl w4.heap.size p w4).new _ (AB _)).aB b5;have E5:=H_ (E4.out.bx b5 E4.out.lt (by omega));have HV5:=H_ (HV4.out.aA (G':=NG g (two g e) w5) λb hb=>⟨hb.mono b5.size,b5.block b hb.2.1 (by have:=hb.1;omega)⟩);clear hr E4 HV4;obtain⟨hs5,B5,Q5,hg5⟩:=fr1 B4 Q4 b5;have HP5:=H_ P5;clear Q4 B4 HP4 P5 b5;obtain⟨y0,y1,y2,y3,y4⟩:=E5.out.aE.1;obtain⟨⟨d0,d1,d2,d3,d4⟩,f0,f1,f2,f3,f4⟩:=Q5.out.aE;go_wp2_with fail;obtain⟨N1,N2⟩:=hH Q5.out (.int .i64 k0) (.string nm) (.slice A1 n1 c1') (.slice A2 n2 c2') (.slice A3 n3 c3');exact gj rfl (by simp) N1 (Out.ok (by unfold cL;rw[AL (by rw[HN1.out];simp),AL (by rw[HN2.out];simp)];rw[H1.out];simp only;rw[H5.out]) ⟨_,rfl,HV5.out.aA (λb hb=>⟨⟨by have:=hb.1;omega,AF hb.2.1 N2.size⟩,N2.block b hb.2.1 (λh=>hb.2.2 (.inl h))⟩)⟩ (HP5.out.put N2 (by omega)) (B5.out.put N2 (by omega) (AB _)))
end
theorem Below.grownN{B:Nat}{w':World}(h:w.grownBy w' none)(hB:B<=w.heap.size):Below B w w':=⟨h.os,h.tape,h.output,h.size,λk hk=>h.block k (by omega) (λe=>by cases e)⟩
theorem gc{K:Kd α}{t e:TypeId}(hR:iz K.sz t e)(ty:TypeId){G:Nat->Prop}{a:Nat}{x:α}{cs:List Value}{ys:List α}(ha:Blk w a e cs.toArray)(hx:K.rd w G x cs)(hGa:G a)
 (hy:Vec K e base noZ w u ys) (hyG:∀b,NG base noZ w b->G b) (hG:∀b,G b->b<w.heap.size) (hnil:ys=[]->u= .slice none 0 0) (hn:ys.length<=20000):
 ∃v' w',(Builtin.append_ #[t,t] ty #[.slice (some ⟨a,0,none⟩) 1 1,u]).run Tryz.prog w= .ok v' w'/\Below w.heap.size w w'/\rvSl K w' (λb=>G b\/Fr w w' b) (x::ys) v':=by
 obtain⟨ht,i,z,hi,hz,hsz,hby,hzs⟩:=hR;have hcl:=K.len hx;have hal:=ha.lt;by_cases hys:ys=[]
 ·have hu:=hnil hys;subst hys;subst hu;refine⟨_,w,run_append_owned_none (P:=Tryz.prog) w 0 t ty e i K.sz ht hi _ 1 cs ⟨by rw[hcl];omega,.inr ⟨a,1,cs.toArray,rfl,AM _,ha,AB _,by decide,by simp[hcl],?_⟩⟩,AC _ _,⟨_,_,_,rfl,?_⟩⟩
  ·rw[Nat.one_mul];exact AK (by simp[hcl])
  ·exact dW ha (.inl hGa) (K.aA (λb hb=>⟨.inl hb,rfl⟩) hx)
 ·obtain⟨hp,css,h1,h2,h3⟩:=hy;have hy0:=List.length_pos_iff.2 hys;rcases h1.2 with⟨_,h0⟩|⟨g,cap,cur,rfl,hbg,hgg,hle,hcm,hcs,htk⟩
  ·omega
  ·obtain⟨v',w',hr,hown,hgr⟩:=run_append_arg_grows (P:=Tryz.prog) w t ty e i z K.sz i.bytes ht hi hz hsz rfl hzs K.pos ⟨a,0,none⟩ 1 1 cs (by rw[hcl];omega) (λj v hv=>by rw[fY];exact At.aG ha j v hv)
    ⟨g,0,none⟩ ys.length cap css.flatten h1.1 (λj v hv=>h1.cells (g:=g) rfl j v hv) (by omega) (by simp only[maxLen];omega) (by have:(1+ys.length)*i.bytes<=20001*128:=Nat.mul_le_mul (by omega) hby;omega)
   have hb:=Below.grownN hgr (AB _);refine⟨v',w',hr,hb,?_⟩;rcases hown.2 with⟨_,h0⟩|⟨g',cap',cur',rfl,hbg',hgg',hle',hcm',hcs',htk'⟩
   ·omega
   ·have hg'lt:=(hown.lt g' rfl).2;refine⟨_,_,_,rfl,?_⟩;have hlen:(x::ys).length=1+ys.length:=by simp;omega
    rw[<-hlen];refine Sl.of (css:=cs::css) (by simp[h2]) (by simp[BD];omega) (.inr ⟨hbg',hg'lt⟩) ?_ ?_
    ·intro j v hv;have:=hown.cells (g:=g') rfl j v (by simpa using hv);rwa[fY]at this
    ·intro j y ds hy' hd';cases j with
     |zero=>
      simp at hy' hd';subst hy' hd';exact K.aA (λb hb'=>⟨.inl hb',hb.block b (hG b hb')⟩) hx
     |succ j=>
      simp at hy' hd';exact K.aA (λb hb'=>⟨.inl (hyG b hb'.1),hb.block b hb'.1.2.1⟩) (h3 j y ds hy' hd')
theorem Vec.lower{K:Kd α}{E base':Nat}{xs:List α}(h:Vec K E base noZ w u xs)(hb:base'<=base):Vec K E base' noZ w u xs:=by
 obtain⟨hp,css,h1,h2,h3⟩:=h;refine⟨hp,css,⟨h1.1,?_⟩,h2,λj x cs hx hc=>K.aA (λb hG=>⟨⟨⟨by have:=hG.1.1;omega,hG.1.2.1,hG.1.2.2⟩,hG.2⟩,rfl⟩) (h3 j x cs hx hc)⟩;rcases h1.2 with hn|⟨g,cap,cur,rfl,hbg,rest⟩
 ·exact .inl hn
 ·exact .inr ⟨g,cap,cur,rfl,by omega,rest⟩
section
variable{T:List Tk}{ex:Nat->Nat->R Ex}{i:Nat}
theorem wO(HO:RdAt rvE 296 T (ex 8) i)(huo:Up (ex 8))(HX:∀j,i<j->RdAt rvE 293 T (ex 0) j)(hux:Up (ex 0)):RdAt rvS 295 T (fu T ex) i:=by
 intro p c A w h;have hp:=h.aG.lt;obtain⟨w0,hw0,q0,b0,P0⟩:=uR h;have Q0:=H_ q0;have B0:=H_ b0;have HP0:=H_ P0;have HO':=H_ HO;have HX':=H_ HX;have HU:=H_ huo;have HUX:=H_ hux;clear h HO HX huo hux q0 b0 P0;go_enter Tryz.func295,Tryz.ntmps295;go_upto_region 1 with(fail);have hsz:=B0.out.size;have hg0:=Q0.out.lt;obtain⟨g,hgz⟩:=nm_ (w.heap.size);rw[hgz]at Q0 hg0⊢;clear hw0;go_wp2_with fail;refine Out.use (HO'.out p c A w0 HP0.out) (λj w1 hr b1=>?_) (λx j v w1 hr hv P1 b1=>?_)
 ·exact⟨rfl,Out.bad (by unfold fu;rw[hr]) (B0.out.aB b1)⟩
 ·obtain⟨-,B1,Q1,hg1⟩:=fr1 B0 Q0 b1;have HP1:=H_ P1;have hij:=HU.out _ _ _ hr;obtain⟨k0,op0,z0,nm0,at0,A0,n0,c0,rfl,hv'⟩:=ExV.inv hv;have HV:=H_ hv';have HR1:=H_ hr;clear hv hv' hr Q0 B0 HP0 P1 b1;go_wp2_with fail;obtain⟨e,hez⟩:=nm_ (w1.heap.size);rw[hez];obtain⟨w2,hw2⟩:=nm_ (w1.alloc (.cells #[.int .i64 k0,.int .i64 op0,.int .i64 z0,.string nm0,.bool at0,.slice A0 n0 c0] 172));have b2:=bal hw2;have Q2:=H_ (Q1.out.below b2 hg1);have E2:=H_ (show Blk w2 e 172 _ from hw2▸hez▸Blk.new w1 172 #[.int .i64 k0,.int .i64 op0,.int .i64 z0,.string nm0,.bool at0,.slice A0 n0 c0]);have B2:=H_ (B1.out.aB (Bx.of b2));have HP2:=H_ (HP1.out.below b2);have V2:=H_ (ExC.aA (G':=NG g (two g e) w2) (λb hb=>⟨⟨by have:=hb.1;omega,AF hb.2 b2.size,λh=>by have:=hb.1;have:=hb.2;unfold two at h;omega⟩,b2.block b hb.2⟩) HV.out);rw[hw2];clear hw2 b2 Q1 B1 HP1 HV
  go_loopg [] (T.length-j) (λkk wr=>∃(x:Ex) (q:Nat) (k op z:Int) (nm:ByteArray) (at_:Bool) (A':Option Addr) (n c':Nat),kk=T.length-q/\Hid (Blk wr e 172 #[.int .i64 k,.int .i64 op,.int .i64 z,.string nm,.bool at_,.slice A' n c'])/\Hid (ExC wr (NG g (two g e) wr) x [.int .i64 k,.int .i64 op,.int .i64 z,.string nm,.bool at_,.slice A' n c'])/\
   Hid (Blk wr g 168 #[.int .i64 0,.string ⟨#[]⟩,.slice none 0 0,.slice none 0 0,.slice none 0 0])/\Hid (PS wr p A c T q)/\Hid (Bx g p w wr)/\i<q/\Hid (∃m,T.length+1<=m+q/\fu T ex i=bW T ex m x q))
  case atStart=>exact⟨x,j,k0,op0,z0,nm0,at0,A0,n0,c0,rfl,E2,V2,Q2,HP2,hgz▸B2,hij,H_ ⟨T.length+1,by omega,show fu T ex i=bW T ex (T.length+1) x j by unfold fu;rw[HR1.out]⟩⟩
  case round=>
   clear E2 V2 Q2 HP2 B2 HR1;obtain⟨x,q,k,op,z,nm,at_,A',n',c',rfl,HE,HV,HG,HPr,HBr,hiq,HEr⟩:=hrel;obtain⟨m,hm,heq⟩:=HEr.out;have hqT:=HPr.out.lt;obtain⟨m,rfl⟩:∃m',m=m'+1:=⟨m-1,by omega⟩;have HE1:=H_ heq;have her:=HE.out.lt;have hgr:=HG.out.lt;have hsr:=HBr.out.size;clear HEr heq;go_wp2_with fail;refine bR (s:=DOT) (HPr.out.alloc _) ((Blk.new wr _ _).cell 0) (λj5 w5 hr b5=>?_) (λj5 w5 hr P5 b5=>?_)
   ·exact⟨rfl,Out.bad (by rw[HE1.out];unfold bW;rw[show ap T DOT q= .bad j5 from hr]) (hgz▸HBr.out.trans ((((Bx.refl wr.heap.size p wr).new _ (AB _)).aB b5).mono (by omega)))⟩
   ·have hq5:=(bV hr).2;subst hq5;have H5:=H_ hr;replace b5:=((Bx.refl wr.heap.size p wr).new _ (AB _)).aB b5;have HE5:=hbx HE b5 her;have HG5:=hbx HG b5 hgr;have HV5:=H_ (ExC.aA (G':=NG g (two g e) w5) (λb hb=>⟨hb.mono b5.size,b5.block b hb.2.1 (by have:=hb.1;omega)⟩) HV.out);have HB5:=H_ (HBr.out.trans (b5.mono (by omega)));have HP5:=H_ P5;have her5:=HE5.out.lt;have hgr5:=HG5.out.lt;have hs5:=b5.size;clear hr P5 b5 HE HG HV HBr HPr;go_wp2_with fail;refine Out.use (dL HP5.out) (λj6 w6 hr b6=>?_) (λs j6 v w6 hr hv P6 b6=>?_)
    ·exact⟨rfl,Out.bad (by rw[HE1.out];unfold bW;rw[H5.out];simp only;rw[hr]) (hgz▸HB5.out.trans (b6.mono (by omega)))⟩
    ·obtain rfl:v= .string s:=hv;have hq6:=(dm hr).2.2;subst hq6;have H6:=H_ hr;have HE6:=hbx HE5 b6 her5;have HG6:=hbx HG5 b6 hgr5;have HV6:=H_ (ExC.aA (G':=NG g (two g e) w6) (λb hb=>⟨hb.mono b6.size,b6.block b hb.2.1 (by have:=hb.1;omega)⟩) HV5.out);have HB6:=H_ (HB5.out.trans (b6.mono (by omega)));have HP6:=H_ P6;have her6:=HE6.out.lt;have hgr6:=HG6.out.lt;have hs6:=b6.size;clear hr P6 b6 HE5 HG5 HV5 HB5 HP5;go_wp2_with fail;refine lA HP6.out eA (λht w7 P7 b7=>?_) (λht w7 P7 b7=>?_)
     ·have HT:=H_ ht;have HE7:=hbx HE6 b7 her6;have HG7:=hbx HG6 b7 hgr6;have HV7:=H_ (ExC.aA (G':=NG g (two g e) w7) (λb hb=>⟨hb.mono b7.size,b7.block b hb.2.1 (by have:=hb.1;omega)⟩) HV6.out);have HB7:=H_ (HB6.out.trans (b7.mono (by omega)));have HP7:=H_ P7;have her7:=HE7.out.lt;have hgr7:=HG7.out.lt;have hs7:=b7.size;clear ht P7 b7 HE6 HG6 HV6 HB6 HP6;go_upto_region 5 with fail;obtain⟨ys,jy,hsj⟩:=R.known (bg T (ex 0) (q+1+1)) [];have HLL:=H_ (λ(W:World) (hP:PS W p A c T (q+1+1))=>rG (n:=293) (f:=ex 0) (λ_ _=>by kernel_rfl) (λj hj=>HX'.out j (by omega)) HUX.out p c A W hP)
      refine ay 6 8 (λxs=>{tmps:= #[.pointer (some ⟨p,0,none⟩),undef,.pointer (some ⟨g,0,none⟩),.pointer (some ⟨e,0,none⟩),.string s,.pointer (some ⟨p,0,none⟩),.agg #[.int .i64 k0,.int .i64 op0,.int .i64 z0,.string nm0,.bool at0,.slice A0 n0 c0],.pointer (some ⟨p,0,none⟩),.slice (some ⟨wr.heap.size,0,none⟩) 1 1,.tuple #[],.pointer (some ⟨p,0,none⟩),.string s,.pointer (some ⟨p,0,none⟩),.bool true,(xs 0).getD u14,(xs 1).getD u15,(xs 2).getD u16,(xs 3).getD u17,(xs 4).getD u18,(xs 5).getD u19,(xs 6).getD u20,(xs 7).getD u21,u22,u23,u24,u25,u26],defers:=[]})
       (RJ w7 p A c T (q+1+1) jy (bg T (ex 0) (q+1+1)= .ok ys jy)) g
       (λi=>match i with
         |0=>fEq (.string s)
         |1=>fEq (.agg #[.int .i64 k,.int .i64 op,.int .i64 z,.string nm,.bool at_,.slice A' n' c'])
         |2=>fRow w7.heap.size 172 #[.int .i64 k,.int .i64 op,.int .i64 z,.string nm,.bool at_,.slice A' n' c']
         |3=>fEq (.pointer (some ⟨p,0,none⟩))
         |4=>fEq (.pointer (some ⟨p,0,none⟩))
         |5=>fEq (.func (.func 293) #[.pointer (some ⟨p,0,none⟩)] #[])
         |6=>λv W=>Vec kEx 172 w7.heap.size noZ W v ys/\ys.length<=20000/\(ys=[]->v= .slice none 0 0)
         |_=>λv W=>rvSl kEx W (NG g (two g e) W) (x::ys) v)
       (by
         intro k
         match k with
         |0=>exact fEq.st _ _
         |1=>exact fEq.st _ _
         |2=>exact λv W W' hn ⟨a,h1,h2⟩=>⟨a,h1,h2.1,(hn.block a (by have:=h2.1;omega) h2.2.lt).trans h2.2⟩
         |3=>exact fEq.st _ _
         |4=>exact fEq.st _ _
         |5=>exact fEq.st _ _
         |6=>exact λv W W' hn ⟨h1,h2⟩=>⟨h1.aA hn.size (λb hb=>hn.block b (by have:=hb.1;omega) hb.2.1),h2⟩
         |_+7=>exact λv W W' hn h=>rvSl.aA (λb hb=>⟨hb.mono hn.size,hn.block b hb.1 hb.2.1⟩) h)
       (by kernel_rfl) (by kernel_rfl) (by decide) (by kernel_rfl) (by decide) rfl ⟨(Bx.refl _ _ _).drew,HP7.out.drew⟩ ?_ ?_ ?_
      ·intro i' hi hic b xs W hJ hd;obtain rfl|rfl|rfl|rfl|rfl|rfl|rfl:i'=0\/i'=1\/i'=2\/i'=3\/i'=4\/i'=5\/i'=7:=by omega
       ·refine AE rfl λK hK=>?_;go_simp;exact hK _ _ ⟨_,rfl,hJ,rfl,Nw.refl _ _⟩
       ·obtain⟨⟨d0,d1,d2,d3,d4,d5⟩,_⟩:=(HE7.out.bx hJ.1 her7 (by omega)).aC;refine AE rfl λK hK=>?_;go_simp;exact hK _ _ ⟨_,rfl,hJ,rfl,Nw.refl _ _⟩
       ·obtain⟨_,h1,rfl⟩:=hd 1;refine AE rfl λK hK=>?_;go_simp;have hb:=(AC W.heap.size W).alloc (AB _) (.cells #[.int .i64 k,.int .i64 op,.int .i64 z,.string nm,.bool at_,.slice A' n' c'] 172);exact hK _ _ ⟨.slice (some ⟨W.heap.size,0,none⟩) 1 1,by simp only[au,h1];rfl,hJ.below hb,⟨W.heap.size,rfl,hJ.1.size,Blk.new W 172 _⟩,Nw.below hb⟩
       ·refine AE rfl λK hK=>?_;go_simp;exact hK _ _ ⟨_,rfl,hJ,rfl,Nw.refl _ _⟩
       ·refine AE rfl λK hK=>?_;go_simp;exact hK _ _ ⟨_,rfl,hJ,rfl,Nw.refl _ _⟩
       ·obtain⟨_,h4,rfl⟩:=hd 4;refine AE rfl λK hK=>?_;go_simp;exact hK _ _ ⟨_,by simp only[au,h4];rfl,hJ,rfl,Nw.refl _ _⟩
       ·obtain⟨_,h2,a,rfl,hra⟩:=hd 2;obtain⟨u,h6,hvu,hyl,hyn⟩:=hd 6;have hWs:=hJ.1.size;have hra1:=hra.1;have hXW:ExC W (NG g (two g e) W) x _:=ExC.aA (λb hb=>⟨hb.mono hWs,hJ.1.block b hb.2.1 (by have:=hb.1;omega)⟩) HV7.out;obtain⟨v',W',hrun,hb',hsl⟩:=gc iM 166 hra.2 hXW ⟨by omega,hra.2.lt,λh=>by unfold two at h;omega⟩ hvu (λb hb=>⟨by have:=hb.1;omega,hb.2.1,λh=>by have:=hb.1;unfold two at h;omega⟩) (λb hb=>hb.2.1) hyn hyl;have HJ:=H_ (hJ.below hb');have HSL:=H_ hsl;have HBB:=H_ hb';have HRUN:=H_ hrun;clear hJ hsl hb' hvu hXW hra hrun;refine AE rfl λK hK=>?_;simp only[h2,h6,Bz];rw[AP (by kernel_rfl)];refine cM (.tmp 16) (.tmp 20) 166 rfl rfl rfl HRUN.out ?_
        exact hK _ _ ⟨v',by simp only[au,h2,h6];rfl,HJ.out,rvSl.aA (λb hb=>⟨by
         rcases hb with hb|hb
         ·exact hb.mono HBB.out.size
         ·exact⟨by have:=hb.1;omega,hb.2,λh=>by have:=hb.1;unfold two at h;omega⟩,rfl⟩) HSL.out,Nw.below HBB.out⟩
      ·intro xs W hJ hd;obtain⟨_,h3,rfl⟩:=hd 3;obtain⟨_,h5,rfl⟩:=hd 5;have hWs:=hJ.1.size;refine AE rfl λK hK=>?_;go_simp;refine Out.use (HLL.out W hJ.2) (λj9 w9 hr b9=>?_) (λys' j9 v w9 hr hv P9 b9=>?_)
       ·exact⟨rfl,Out.bad (by rw[HE1.out];unfold bW;rw[H5.out];simp only;rw[H6.out];simp only;rw[AP HT.out,hr]) (hgz▸(HB7.out.trans ((hJ.1.aB b9).mono (by omega))))⟩
       ·obtain⟨rfl,rfl⟩:=hsj _ _ hr;exact hK _ _ ⟨v,by simp only[au,h3,h5];rfl,⟨hJ.1.aB b9,P9,hr⟩,⟨hv.1.1.lower hWs,hv.1.2,hv.2⟩,Nw.of b9 (by omega)⟩
      ·intro xs W hJ hd;obtain⟨_,h0,rfl⟩:=hd 0;obtain⟨v7,h7,A7,n7,c7,hv7,hsl7⟩:=hd 7;subst hv7;have hW:=hJ.1.size;have HGW:=H_ (HG7.out.bx hJ.1 hgr7 (by omega));have HJ:=H_ hJ;have HSL:=H_ hsl7;clear hJ hsl7 hd;obtain⟨⟨d0,d1,d2,d3,d4⟩,f0,f1,f2,f3,f4⟩:=HGW.out.aE;rw[show List.range' 8 _=[8,9]from rfl,Bl];refine AE rfl λK hK=>?_;go_simp;refine hK _ _ ?_;rw[Bl];refine AE rfl λK hK=>?_;go_simp;refine hK _ _ ?_;unfold wpOps;obtain⟨N1,N2⟩:=hH HGW.out (.int .i64 5) (.string s) (.slice A7 n7 c7) (.slice none 0 0) (.slice none 0 0);have HV:=StC.of 5 s c7 0 0 HSL.out (Sl.nil _ _ none) (Sl.nil _ _ none);go_wp2_with fail;exact gj rfl (by simp) N1 (Out.ok (by rw[HE1.out];unfold bW;rw[H5.out];simp only;rw[H6.out];simp only;rw[AP HT.out,HJ.out.2.2];rfl) ⟨_,rfl,HV.aA (λb hb=>⟨⟨by have:=hb.1;omega,AF hb.2.1 N2.size⟩,N2.block b hb.2.1 (λh=>hb.2.2 (.inl h))⟩)⟩ (HJ.out.2.1.put N2 (by omega)) (hgz▸(HB7.out.trans (HJ.out.1.mono (by omega))).put N2 (by omega) (by omega)))
     ·have HT:=H_ ht;have HE7:=hbx HE6 b7 her6;have HG7:=hbx HG6 b7 hgr6;have HV7:=H_ (ExC.aA (G':=NG g (two g e) w7) (λb hb=>⟨hb.mono b7.size,b7.block b hb.2.1 (by have:=hb.1;omega)⟩) HV6.out);have HB7:=H_ (HB6.out.trans (b7.mono (by omega)));have HP7:=H_ P7;have her7:=HE7.out.lt;have hgr7:=HG7.out.lt;have hs7:=b7.size;clear ht P7 b7 HE6 HG6 HV6 HB6 HP6;obtain⟨⟨y0,y1,y2,y3,y4,y5⟩,f0,f1,f2,f3,f4,f5⟩:=HE7.out.aC;go_wp2_with fail;obtain⟨N1,N2,N3⟩:=mL HE7.out HV7.out (λb hb=>⟨hb.2.1,λh=>hb.2.2 (.inr h)⟩) 4 0 0 s false _ rfl;have HQ8:=H_ (show fu T ex i=bW T ex m (cY s x) (q+1+1) by rw[HE1.out];conv=>lhs;unfold bW;rw[H5.out];simp only;rw[H6.out];simp only;rw[AL (by rw[HT.out];simp)]);generalize(World.alloc _ _)=W at N1 N2 N3⊢;have HE8:=H_ N1;have HG8:=hbx HG7 N2;have HP8:=H_ (HP7.out.put N2 (by omega));have HB8:=H_ (HB7.out.put N2 (by omega) (by omega))
      have HV8:=H_ (N3.aA (G':=NG g (two g e) W) (λb hb=>⟨by
       rcases hb with hb|⟨rfl,hb⟩
       ·exact hb.mono N2.size
       ·exact⟨by omega,hb,λh=>by unfold two at h;omega⟩,rfl⟩))
      have hq8:=HP8.out.lt;clear N1 N2 N3 HE7 HG7 HV7 HB7 HP7;go_roundg (T.length-(q+1+1))
      case rel=>exact⟨cY s x,q+1+1,4,0,0,s,false,_,_,_,rfl,HE8,HV8,HG8,HP8,HB8,by omega,H_ ⟨m,by omega,HQ8.out⟩⟩
      case measure=>omega
end
end
end Go.Proofs.YtjpbckbpeblibaaGreatDoor
