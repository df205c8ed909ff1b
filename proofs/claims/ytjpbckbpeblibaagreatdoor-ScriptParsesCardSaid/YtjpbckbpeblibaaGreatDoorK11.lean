/- part of a proof -/
import Derived.Test.YtjpbckbpeblibaaGreatDoorK10
namespace Go.Proofs.YtjpbckbpeblibaaGreatDoor
set_option linter.unusedVariables false
set_option linter.unusedSimpArgs false
set_option maxRecDepth 100000
set_option maxHeartbeats 64000000
section
open Go.RowKit
variable{K:Act->World->Prop}{P:Program}{Q:Exit->Act->World->Prop}{a:Act}{i j n:Nat}{o:Oper}{u v z:Value}{w w':World}{x y:Operand}
theorem aX(B:Nat)(w0:World):∃(T:Type) (f:T->World),Nonempty T/\(∀x,Below B w0 (f x))/\(∀W,Below B w0 W->∃x,W=f x):=
 ⟨{W//Below B w0 W},Subtype.val,⟨⟨w0,AC _ _⟩⟩,λx=>x.2,λW h=>⟨⟨W,h⟩,rfl⟩⟩
theorem ah{T:Type}(f:T->World){id:Nat}{l:List Oper}(hm:P.follows .mixedOrders=true)(hB:Region.lexB .any l.toArray=true)(hC:∃x,w.drew=f x)
 (h:wpQuiet P l.toArray (λW=>∃x,W=f x) (λa'=>∀w',(∃x,w'=f x)->Q .normal a' w') l a):(Code.region id l.toArray true).wp P Q a w:=
 wp_region_quiet (C:=λW=>∃x,W=f x) hm hB hC (by simpa using h)
theorem nK(hr:(execOp a.eval o).run P w= .ok (.value v) w')(h:K (a.put o.dst v) w'):Oper.wp P o a w K Q:=by
 unfold Oper.wp;rw[hr];exact h
theorem iU{t:Array TypeId}(ho:o.op= .call {callee:= .value (.func n),args:= #[x],argTypes:=t})(hx:a.eval x=v)
 (he:(callFunc n #[v]).run P w= .ok (.enter n #[v]) w) (h:Calls P n #[v] w λe w''=>match e,w'' with
   | .returned u,w''=>K (a.put o.dst u) w''
   | .panicked chain,w''=>Q (.panic chain) a w''
   | .outgrown,_=>LetsOut Q):Oper.wp P o a w K Q:=by
 have hr:(execOp a.eval o).run P w= .ok (.enter n #[v]) w:=by
  have hf:a.eval (.func n)= .func (.func n) #[] #[]:=rfl;simp[execOp,ho,resolve,invoke,hx,hf,he,BC,Bv,Deferred.ofValue]
 unfold Oper.wp;rw[hr];exact h
theorem rS{t:TypeId}(ho:o.op= .buildSlice t n #[(i,x),(j,y)])(hx:a.eval x=u)(hy:a.eval y=z)
 (hr:(Instr.buildSlice t n #[(i,u),(j,z)]).run P w= .ok v w'):(execOp a.eval o).run P w= .ok (.value v) w':=by
 simp only[execOp,ho,BC,Bv,Cm,BG,Ct,hx,hy,hr,Bi]
theorem vK{t:TypeId}(ho:o.op= .build t #[(i,x),(j,y)])(hx:a.eval x=u)(hy:a.eval y=z)
 (hr:(Instr.build t #[(i,u),(j,z)]).run P w= .ok v w'):(execOp a.eval o).run P w= .ok (.value v) w':=by
 simp only[execOp,ho,BC,Bv,Cm,BG,Ct,hx,hy,hr,Bi]
theorem vJ{t:TypeId}{k:Nat}{s:Operand}{r:Value}(ho:o.op= .build t #[(i,x),(j,y),(k,s)])(hx:a.eval x=u)(hy:a.eval y=z)(hs:a.eval s=r)
 (hr:(Instr.build t #[(i,u),(j,z),(k,r)]).run P w= .ok v w'):(execOp a.eval o).run P w= .ok (.value v) w':=by
 simp only[execOp,ho,BC,Bv,Cm,BG,Ct,hx,hy,hs,hr,Bi]
theorem iL(w:World)(u0 u1 u2 u3 u4 u5 v0 v1 v2 v3 v4 v5:Value):
 (Instr.buildSlice 166 2 #[(0,.agg #[u0,u1,u2,u3,u4,u5]),(1,.agg #[v0,v1,v2,v3,v4,v5])]).run Tryz.prog w= .ok (.slice (some ⟨w.heap.size,0,none⟩) 2 2) (w.alloc (.cells #[u0,u1,u2,u3,u4,u5,v0,v1,v2,v3,v4,v5] 172)):=by
 kernel_rfl
theorem oK(w:World)(k:Int)(A:Option Addr)(n c:Nat):(Instr.build 168 #[(0,.int .i64 k),(2,.slice A n c)]).run Tryz.prog w= .ok (.agg #[.int .i64 k,.string ⟨#[]⟩,.slice A n c,.slice none 0 0,.slice none 0 0]) w:=by kernel_rfl
theorem ld(w:World)(k:Int)(s:ByteArray)(A:Option Addr)(n c:Nat):(Instr.build 168 #[(0,.int .i64 k),(1,.string s),(2,.slice A n c)]).run Tryz.prog w= .ok (.agg #[.int .i64 k,.string s,.slice A n c,.slice none 0 0,.slice none 0 0]) w:=by kernel_rfl
theorem kH{G:Nat->Prop}{x y:Ex}{a:Nat}{u0 u1 u2 u3 u4 u5 v0 v1 v2 v3 v4 v5:Value}(hb:Blk w a 172 #[u0,u1,u2,u3,u4,u5,v0,v1,v2,v3,v4,v5])(hg:G a)(hx:ExC w G x [u0,u1,u2,u3,u4,u5])(hy:ExC w G y [v0,v1,v2,v3,v4,v5]):Sl kEx w G [x,y] (some ⟨a,0,none⟩) 2:=
 l6 (K:=kEx) (cs:=[u0,u1,u2,u3,u4,u5]) (ds:=[v0,v1,v2,v3,v4,v5]) hb hg hx hy
section
variable{T:List Tk}{ex:Nat->Nat->R Ex}{i:Nat}
theorem sp0(h:isT T eu i=true):ak T ex i=cR T ex 0 (i+1):=by unfold ak;rw[AP h]
theorem sp1(h0:isT T eu i=false)(h:isT T cW i=true):ak T ex i=fu T ex (i+1):=by unfold ak;rw[AL (by rw[h0];decide),AP h]
theorem sp2(h0:isT T eu i=false)(h1:isT T cW i=false)(h:isT T cD i=true):ak T ex i=(match ex 0 (i+1)with| .bad j=> .bad j| .ok x j=> .ok (stE 6 ⟨#[]⟩ [x]) j):=by unfold ak;rw[AL (by rw[h0];decide),AL (by rw[h1];decide),AP h];rfl
theorem sp3(h0:isT T eu i=false)(h1:isT T cW i=false)(h2:isT T cD i=false)(h:isT T et i=true):ak T ex i=i8 T ex (i+1):=by unfold ak;rw[AL (by rw[h0];decide),AL (by rw[h1];decide),AL (by rw[h2];decide),AP h]
theorem sp4(h0:isT T eu i=false)(h1:isT T cW i=false)(h2:isT T cD i=false)(h3:isT T et i=false)(h:isT T dN i=true):ak T ex i=dU T ex (i+1):=by unfold ak;rw[AL (by rw[h0];decide),AL (by rw[h1];decide),AL (by rw[h2];decide),AL (by rw[h3];decide),AP h]
theorem sp5(h0:isT T eu i=false)(h1:isT T cW i=false)(h2:isT T cD i=false)(h3:isT T et i=false)(h4:isT T dN i=false)(h:isT T dO i=true):ak T ex i= .ok (stE 9 ⟨#[]⟩ []) (i+1):=by unfold ak;rw[AL (by rw[h0];decide),AL (by rw[h1];decide),AL (by rw[h2];decide),AL (by rw[h3];decide),AL (by rw[h4];decide),AP h]
theorem sw(HX:∀j,i<j->RdAt rvE 293 T (ex 0) j)(hux:Up (ex 0))(HA:∀j,i<=j->∀(k:Int) (p c:Nat) (A:Option Addr) (w:World),PS w p A c T j->Calls Tryz.prog 294 #[.pointer (some ⟨p,0,none⟩),.int .i64 k] w (Out rvS p A c T w (cR T ex k j)))
 (HS:∀j,i<j->RdAt rvS 295 T (fu T ex) j) (HO:RdAt rvE 296 T (ex 8) i) (huo:Up (ex 8)):RdAt rvS 278 T (ak T ex) i:=by
 intro p c A w h;have HU:=H_ hux;have HUO:=H_ huo;clear hux huo;have hp:=h.aG.lt;have hT:=h.wf.few;have hiT:=h.lt;have HWF:=H_ h.wf;obtain⟨w0,hw0,q0,b0,P0⟩:=uR h;have Q0:=H_ q0;have B0:=H_ b0;have HP0:=H_ P0;have HX':=H_ HX;have HA':=H_ HA;have HS':=H_ HS;have HO':=H_ HO;clear h HX HA HS HO q0 b0 P0;go_enter Tryz.func278,Tryz.ntmps278;go_upto_region 1 with(fail);have hsz:=B0.out.size;have hg0:=Q0.out.lt;obtain⟨g,hgz⟩:=nm_ (w.heap.size);rw[hgz]at Q0 hg0⊢;clear hw0;go_wp2_with fail;refine bd HP0.out eu (λht w1 P1 b1=>?_) (λht w1 P1 b1=>?_)
 ·obtain⟨hs1,B1,Q1,hg1⟩:=fr1 B0 Q0 b1;have HP1:=H_ P1;have HT:=H_ ht;clear Q0 B0 HP0 P1 b1 ht;go_wp2_with fail;refine Out.use (HA'.out (i+1) (by omega) 0 p c A w1 HP1.out) (λj w2 hr b2=>?_) (λx j v w2 hr hv P2 b2=>?_)
  ·exact⟨rfl,Out.bad (by rw[sp0 HT.out];rw[hr]) (B1.out.aB b2)⟩
  ·obtain⟨k0,nm,A1,n1,c1,A2,n2,c2,A3,n3,c3,rfl,hv'⟩:=SV.inv hv;have HV:=H_ hv';have H1:=H_ hr;clear hv hv' hr;obtain⟨hs2,B2,Q2,hg2⟩:=fr1 B1 Q1 b2;have HP2:=H_ P2;clear Q1 B1 HP1 P2 b2;obtain⟨⟨d0,d1,d2,d3,d4⟩,f0,f1,f2,f3,f4⟩:=Q2.out.aE;go_wp2_with fail;obtain⟨N1,N2⟩:=hH Q2.out (.int .i64 k0) (.string nm) (.slice A1 n1 c1) (.slice A2 n2 c2) (.slice A3 n3 c3);exact gj rfl (by simp) N1 (Out.ok (by rw[sp0 HT.out];rw[H1.out]) ⟨_,rfl,HV.out.aA (Fr.aA N2 (by omega) hg1)⟩ (HP2.out.put N2 (by omega)) (B2.out.put N2 (by omega) (AB _)))
 ·obtain⟨hs1,B1,Q1,hg1⟩:=fr1 B0 Q0 b1;have HP1:=H_ P1;have HN0:=H_ ht;clear Q0 B0 HP0 P1 b1 ht;go_wp2_with fail;refine bd HP1.out cW (λht w2 P2 b2=>?_) (λht w2 P2 b2=>?_)
  ·obtain⟨hs2,B2,Q2,hg2⟩:=fr1 B1 Q1 b2;have HP2:=H_ P2;have HT:=H_ ht;clear Q1 B1 HP1 P2 b2 ht;go_wp2_with fail;refine Out.use (HS'.out (i+1) (by omega) p c A w2 HP2.out) (λj w3 hr b3=>?_) (λx j v w3 hr hv P3 b3=>?_)
   ·exact⟨rfl,Out.bad (by rw[sp1 HN0.out HT.out];rw[hr]) (B2.out.aB b3)⟩
   ·obtain⟨k0,nm,A1,n1,c1,A2,n2,c2,A3,n3,c3,rfl,hv'⟩:=SV.inv hv;have HV:=H_ hv';have H1:=H_ hr;clear hv hv' hr;obtain⟨hs3,B3,Q3,hg3⟩:=fr1 B2 Q2 b3;have HP3:=H_ P3;clear Q2 B2 HP2 P3 b3;obtain⟨⟨d0,d1,d2,d3,d4⟩,f0,f1,f2,f3,f4⟩:=Q3.out.aE;go_wp2_with fail;obtain⟨N1,N2⟩:=hH Q3.out (.int .i64 k0) (.string nm) (.slice A1 n1 c1) (.slice A2 n2 c2) (.slice A3 n3 c3);exact gj rfl (by simp) N1 (Out.ok (by rw[sp1 HN0.out HT.out];rw[H1.out]) ⟨_,rfl,HV.out.aA (Fr.aA N2 (by omega) hg2)⟩ (HP3.out.put N2 (by omega)) (B3.out.put N2 (by omega) (AB _)))
  ·obtain⟨hs2,B2,Q2,hg2⟩:=fr1 B1 Q1 b2;have HP2:=H_ P2;have HN1:=H_ ht;clear Q1 B1 HP1 P2 b2 ht;go_wp2_with fail;refine bd HP2.out cD (λht w3 P3 b3=>?_) (λht w3 P3 b3=>?_)
   ·obtain⟨hs3,B3,Q3,hg3⟩:=fr1 B2 Q2 b3;have HP3:=H_ P3;have HT:=H_ ht;clear Q2 B2 HP2 P3 b3 ht;go_wp2_with fail;refine Out.use (HX'.out (i+1) (by omega) p c A w3 HP3.out) (λj1 w4 hr b4=>?_) (λx1 j1 v w4 hr hv P4 b4=>?_)
    ·exact⟨rfl,Out.bad (by rw[sp2 HN0.out HN1.out HT.out];rw[hr]) (B3.out.aB b4)⟩
    ·obtain⟨k1,op1,z1,nm1,at1,A1,n1,c1,rfl,hv'⟩:=ExV.inv hv;have HV1:=H_ hv';have H1:=H_ hr;have hi1:=HU.out _ _ _ hr;clear hv hv' hr;obtain⟨hs4,B4,Q4,hg4⟩:=fr1 B3 Q3 b4;have HP4:=H_ P4;clear Q3 B3 HP3 P4 b4;obtain⟨⟨d0,d1,d2,d3,d4⟩,f0,f1,f2,f3,f4⟩:=Q4.out.aE;go_wp2_with fail;obtain⟨N1,N2,N3⟩:=ub Q4.out HV1.out (λb hb=>⟨hb.2,by have:=hb.1;omega⟩) 6 ⟨#[]⟩ _ rfl;exact gj rfl (by simp) N1 (Out.ok (by rw[sp2 HN0.out HN1.out HT.out];rw[H1.out]) ⟨_,rfl,N3.aA (iw N2 (by omega) (by omega))⟩ (HP4.out.put N2 (by omega)) (B4.out.put N2 (by omega) (AB _)))
   ·obtain⟨hs3,B3,Q3,hg3⟩:=fr1 B2 Q2 b3;have HP3:=H_ P3;have HN2:=H_ ht;clear Q2 B2 HP2 P3 b3 ht;go_wp2_with fail;refine bd HP3.out et (λht w4 P4 b4=>?_) (λht w4 P4 b4=>?_)
    ·obtain⟨hs4,B4,Q4,hg4⟩:=fr1 B3 Q3 b4;have HP4:=H_ P4;have HT:=H_ ht;clear Q3 B3 HP3 P4 b4 ht;go_wp2_with fail;refine Out.use (HX'.out (i+1) (by omega) p c A w4 HP4.out) (λj1 w5 hr b5=>?_) (λx1 j1 v w5 hr hv P5 b5=>?_)
     ·exact⟨rfl,Out.bad (by rw[sp3 HN0.out HN1.out HN2.out HT.out];unfold i8;rw[hr]) (B4.out.aB b5)⟩
     ·obtain⟨k1,op1,z1,nm1,at1,A1,n1,c1,rfl,hv'⟩:=ExV.inv hv;have HV1:=H_ hv';have H1:=H_ hr;have hi1:=HU.out _ _ _ hr;clear hv hv' hr;obtain⟨hs5,B5,Q5,hg5⟩:=fr1 B4 Q4 b5;have HP5:=H_ P5;clear Q4 B4 HP4 P5 b5;go_upto_region 9 with fail;obtain⟨e,hez⟩:=nm_ (w5.heap.size);rw[hez];obtain⟨w6,hw6⟩:∃w',w5.alloc (.cells #[.int .i64 k1,.int .i64 op1,.int .i64 z1,.string nm1,.bool at1,.slice A1 n1 c1] 172)=w':=⟨_,rfl⟩;have E16:=H_ (show Blk w6 e 172 _ from hw6▸hez▸Blk.new w5 172 #[.int .i64 k1,.int .i64 op1,.int .i64 z1,.string nm1,.bool at1,.slice A1 n1 c1]);have b6:Bx w5.heap.size p w5 w6:=bxn hw6;have P6:=HP5.out.al hw6;have V16:=H_ (ExC.aA (G':=NG g (two g e) w6) (λb hb=>⟨⟨by have:=hb.1;omega,AF hb.2 b6.size,λh=>by have:=hb.1;have:=hb.2;unfold two at h;omega⟩,b6.block b hb.2 (by have:=hb.1;omega)⟩) HV1.out);obtain⟨hs6,B6,Q6,hg6⟩:=fr1 B5 Q5 b6;have HP6:=H_ P6;clear Q5 B5 HP5 P6 b6;have he6:=E16.out.lt;rw[hw6];clear hw6 HV1;go_wp2_with fail;refine bR (s:=kTo) (HP6.out.alloc _) ((Blk.new w6 _ _).cell 0) (λj2 w7 hr b7=>?_) (λj2 w7 hr P7 b7=>?_)
      ·exact⟨rfl,Out.bad (by rw[sp3 HN0.out HN1.out HN2.out HT.out];unfold i8;rw[H1.out];simp only;rw[show ap T kTo j1= .bad j2 from hr]) ((B6.out.new _ (AB _)).aB b7)⟩
      ·have H2:=H_ hr;have hij2:=(bV hr).2;replace b7:=((Bx.refl w6.heap.size p w6).new _ (AB _)).aB b7;clear hr;have E17:=hbx E16 b7 he6;have V17:=H_ (V16.out.aA (G':=NG g (two g e) w7) λb hb=>⟨hb.mono b7.size,b7.block b hb.2.1 (by have:=hb.1;omega)⟩);have he7:=E17.out.lt;clear E16 V16;obtain⟨hs7,B7,Q7,hg7⟩:=fr1 B6 Q6 b7;have HP7:=H_ P7;clear Q6 B6 HP6 P7 b7;go_upto_region 10 with fail;obtain⟨y,jy,hsj⟩:=R.known (ex 0 j2) (lJ 0)
       refine aW 2 5 (λxs=>{tmps:= #[.pointer (some ⟨p,0,none⟩),undef,.pointer (some ⟨g,0,none⟩),.pointer (some ⟨e,0,none⟩),undef,undef,undef,undef,undef,.bool false,.pointer (some ⟨p,0,none⟩),.bool false,undef,undef,.bool false,.pointer (some ⟨p,0,none⟩),.bool false,undef,undef,.bool false,.pointer (some ⟨p,0,none⟩),.bool false,undef,undef,undef,undef,.bool true,.pointer (some ⟨p,0,none⟩),.bool true,.pointer (some ⟨p,0,none⟩),.agg #[.int .i64 k1,.int .i64 op1,.int .i64 z1,.string nm1,.bool at1,.slice A1 n1 c1],.pointer (some ⟨p,0,none⟩),.slice (some ⟨w6.heap.size,0,none⟩) 1 1,.tuple #[],(xs 0).getD undef,(xs 1).getD undef,(xs 2).getD undef,(xs 3).getD undef,(xs 4).getD undef,undef,undef,undef,undef,undef,undef,undef,undef,undef,undef,undef,undef,undef,undef,undef,undef,undef,undef,undef,undef,undef,undef,undef,undef,undef,undef,undef,undef,undef,undef,undef,undef,undef,undef,undef,undef,undef,undef,undef,undef,undef,undef,undef,undef,undef,undef,undef,undef,undef,undef,undef,undef,undef,undef,undef,undef,undef,undef,undef,undef,undef,undef,undef,undef,undef,undef,undef,undef,undef,undef,undef,undef,undef,undef,undef,undef,undef,undef,undef,undef,undef,undef,undef,undef,undef,undef,undef,undef,undef,undef,undef,undef,undef],defers:=[]})
        (RJ w7 p A c T j2 jy (ex 0 j2= .ok y jy)) w7.heap.size
        (λi=>match i with
          |0=>fEq (.agg #[.int .i64 k1,.int .i64 op1,.int .i64 z1,.string nm1,.bool at1,.slice A1 n1 c1])
          |1=>fEq (.pointer (some ⟨p,0,none⟩))
          |2=>λv W=>ExV W (NG w7.heap.size noZ W) y v
          |3=>λv W=>∃a ds,v= .slice (some ⟨a,0,none⟩) 2 2/\w7.heap.size<=a/\Blk W a 172 ([.int .i64 k1,.int .i64 op1,.int .i64 z1,.string nm1,.bool at1,.slice A1 n1 c1]++ds:List Value).toArray/\ExC W (NG w7.heap.size noZ W) y ds
          |_=>λv W=>∃a ds,v= .agg #[.int .i64 7,.string ⟨#[]⟩,.slice (some ⟨a,0,none⟩) 2 2,.slice none 0 0,.slice none 0 0]/\w7.heap.size<=a/\Blk W a 172 ([.int .i64 k1,.int .i64 op1,.int .i64 z1,.string nm1,.bool at1,.slice A1 n1 c1]++ds:List Value).toArray/\ExC W (NG w7.heap.size noZ W) y ds)
        (by
          intro k
          match k with
          |0=>exact fEq.st _ _
          |1=>exact fEq.st _ _
          |2=>exact ExV.st
          |3=>exact λ_ _ _ hn ⟨a,ds,h1,h2,h3,h4⟩=>⟨a,ds,h1,h2,(hn.block a h2 (Blk.lt h3)).trans h3,h4.aA λb hb=>⟨hb.mono hn.size,hn.block b hb.1 hb.2.1⟩⟩
          |_+4=>exact λ_ _ _ hn ⟨a,ds,h1,h2,h3,h4⟩=>⟨a,ds,h1,h2,(hn.block a h2 (Blk.lt h3)).trans h3,h4.aA λb hb=>⟨hb.mono hn.size,hn.block b hb.1 hb.2.1⟩⟩)
        (by kernel_rfl) (by kernel_rfl) rfl (by kernel_rfl) (by decide) rfl ⟨(Bx.refl _ _ _).drew,HP7.out.drew⟩ ?_ ?_ ?_
       ·intro i' hi hic b xs W hJ hd;obtain rfl|rfl|rfl|rfl:i'=0\/i'=1\/i'=3\/i'=4:=by omega
        ·obtain⟨⟨d0,d1,d2,d3,d4,d5⟩,_⟩:=(E17.out.bx hJ.1 he7 (by omega)).aC;refine AE rfl λK hK=>?_;go_simp;exact hK _ _ ⟨_,rfl,hJ,rfl,Nw.refl _ _⟩
        ·refine AE rfl λK hK=>?_;go_simp;exact hK _ _ ⟨_,rfl,hJ,rfl,Nw.refl _ _⟩
        ·obtain⟨_,h1,rfl⟩:=hd 0;obtain⟨_,h3,hy⟩:=hd 2;obtain⟨ky,opy,zy,nmy,aty,Ay,ny,cy,rfl,hy'⟩:=ExV.inv hy;have hb:=(AC W.heap.size W).alloc (AB _) (.cells ([.int .i64 k1,.int .i64 op1,.int .i64 z1,.string nm1,.bool at1,.slice A1 n1 c1]++[.int .i64 ky,.int .i64 opy,.int .i64 zy,.string nmy,.bool aty,.slice Ay ny cy]:List Value).toArray 172);have HY:=H_ hy';have HJ:=H_ hJ;have HB:=H_ hb;clear hJ hy hy' hb;refine stp rfl (by kernel_rfl) λK hK=>?_;refine nK (rS (x:= .tmp 34) (y:= .tmp 36) rfl (gd h1 _) (gd h3 _) (iL W _ _ _ _ _ _ _ _ _ _ _ _)) ?_;exact hK _ _ ⟨.slice (some ⟨W.heap.size,0,none⟩) 2 2,rfl,HJ.out.below HB.out,⟨W.heap.size,[.int .i64 ky,.int .i64 opy,.int .i64 zy,.string nmy,.bool aty,.slice Ay ny cy],rfl,HJ.out.1.size,Blk.new W 172 _,HY.out.aA λb hb'=>⟨hb'.mono HB.out.size,HB.out.block b hb'.2.1⟩⟩,Nw.below HB.out⟩
        ·obtain⟨_,h3,a,ds,rfl,hra,hrb,hrc⟩:=hd 3;refine stp rfl (by kernel_rfl) λK hK=>?_;refine nK (vK (x:= .const (.int .i64 7)) (y:= .tmp 37) rfl rfl (gd h3 _) (oK W _ _ _ _)) ?_;exact hK _ _ ⟨_,rfl,hJ,⟨a,ds,rfl,hra,hrb,hrc⟩,Nw.refl _ _⟩
       ·intro xs W hJ hd;obtain⟨_,h2,rfl⟩:=hd 1;have hsW:=hJ.1.size;refine stp rfl (by kernel_rfl) λK hK=>?_;refine iU (n:=293) (x:= .tmp 35) rfl (gd h2 _) (by kernel_rfl) ?_;refine Out.use (HX'.out j2 (by omega) p c A W hJ.2) (λj7 w7 hr b7=>?_) (λx' j7 v w7 hr hv P7 b7=>?_)
        ·exact⟨rfl,Out.bad (by rw[sp3 HN0.out HN1.out HN2.out HT.out];unfold i8;rw[H1.out];simp only;rw[H2.out];simp only;rw[hr]) (B7.out.trans ((hJ.1.aB b7).mono (by omega)))⟩
        ·obtain⟨rfl,rfl⟩:=hsj _ _ hr;exact hK _ _ ⟨v,rfl,⟨hJ.1.aB b7,P7,hr⟩,rvC.aA (λb hb=>⟨⟨by have:=hb.1;omega,hb.2,λh=>h⟩,rfl⟩) hv,Nw.of b7 (by omega)⟩
       ·intro xs W hJ hd;obtain⟨_,h4,a,ds,rfl,hra,hrb,hrc⟩:=hd 4;have hW:=hJ.1.size;have HGW:=H_ (Q7.out.bx hJ.1 hg7 (by omega))
        have SX:=H_ (show Sl kEx W (NG g (two g e) W) [x1,y] (some ⟨a,0,none⟩) 2 from l6 (K:=kEx) hrb ⟨by omega,Blk.lt hrb,λh=>by unfold two at h;omega⟩
         (V17.out.aA λb hb=>⟨hb.mono hJ.1.size,hJ.1.block b hb.2.1 (by have:=hb.1;omega)⟩) (hrc.aA λb hb=>⟨⟨by have:=hb.1;omega,hb.2.1,λh=>by have:=hb.1;unfold two at h;omega⟩,rfl⟩))
        have HJ:=H_ hJ;clear hJ hrb hrc hd;obtain⟨⟨d0,d1,d2,d3,d4⟩,f0,f1,f2,f3,f4⟩:=HGW.out.aE;refine AE rfl λK hK=>?_;go_simp;refine hK _ _ ?_;obtain⟨N1,N2⟩:=hH HGW.out (.int .i64 7) (.string ⟨#[]⟩) (.slice (some ⟨a,0,none⟩) 2 2) (.slice none 0 0) (.slice none 0 0);have HV:=StC.of 7 ⟨#[]⟩ 2 0 0 SX.out (Sl.nil _ _ none) (Sl.nil _ _ none);go_wp2_with fail;exact gj rfl (by simp) N1 (Out.ok (by rw[sp3 HN0.out HN1.out HN2.out HT.out];unfold i8;rw[H1.out];simp only;rw[H2.out];simp only;rw[HJ.out.2.2]<;>rfl) ⟨_,rfl,HV.aA (λb hb=>⟨⟨by have:=hb.1;omega,AF hb.2.1 N2.size⟩,N2.block b hb.2.1 (λh=>hb.2.2 (.inl h))⟩)⟩ (HJ.out.2.1.put N2 (by omega)) ((B7.out.trans (HJ.out.1.mono (by omega))).put N2 (by omega) (by omega)))
    ·obtain⟨hs4,B4,Q4,hg4⟩:=fr1 B3 Q3 b4;have HP4:=H_ P4;have HN3:=H_ ht;clear Q3 B3 HP3 P4 b4 ht;go_wp2_with fail;refine bd HP4.out dN (λht w5 P5 b5=>?_) (λht w5 P5 b5=>?_)
     ·obtain⟨hs5,B5,Q5,hg5⟩:=fr1 B4 Q4 b5;have HP5:=H_ P5;have HT:=H_ ht;clear Q4 B4 HP4 P5 b5 ht;go_wp2_with fail;refine Out.use (HX'.out (i+1) (by omega) p c A w5 HP5.out) (λj1 w6 hr b6=>?_) (λx1 j1 v w6 hr hv P6 b6=>?_)
      ·exact⟨rfl,Out.bad (by rw[sp4 HN0.out HN1.out HN2.out HN3.out HT.out];unfold dU;rw[hr]) (B5.out.aB b6)⟩
      ·obtain⟨k1,op1,z1,nm1,at1,A1,n1,c1,rfl,hv'⟩:=ExV.inv hv;have HV1:=H_ hv';have H1:=H_ hr;have hi1:=HU.out _ _ _ hr;clear hv hv' hr;obtain⟨hs6,B6,Q6,hg6⟩:=fr1 B5 Q5 b6;have HP6:=H_ P6;clear Q5 B5 HP5 P6 b6;go_upto_region 13 with fail;obtain⟨e,hez⟩:=nm_ (w6.heap.size);rw[hez];obtain⟨w7,hw7⟩:∃w',w6.alloc (.cells #[.int .i64 k1,.int .i64 op1,.int .i64 z1,.string nm1,.bool at1,.slice A1 n1 c1] 172)=w':=⟨_,rfl⟩;have E17:=H_ (show Blk w7 e 172 _ from hw7▸hez▸Blk.new w6 172 #[.int .i64 k1,.int .i64 op1,.int .i64 z1,.string nm1,.bool at1,.slice A1 n1 c1]);have b7:Bx w6.heap.size p w6 w7:=bxn hw7;have P7:=HP6.out.al hw7;have V17:=H_ (ExC.aA (G':=NG g (two g e) w7) (λb hb=>⟨⟨by have:=hb.1;omega,AF hb.2 b7.size,λh=>by have:=hb.1;have:=hb.2;unfold two at h;omega⟩,b7.block b hb.2 (by have:=hb.1;omega)⟩) HV1.out);obtain⟨hs7,B7,Q7,hg7⟩:=fr1 B6 Q6 b7;have HP7:=H_ P7;clear Q6 B6 HP6 P7 b7;have he7:=E17.out.lt;rw[hw7];clear hw7 HV1;go_wp2_with fail;refine bR (s:=kBy) (HP7.out.alloc _) ((Blk.new w7 _ _).cell 0) (λj2 w8 hr b8=>?_) (λj2 w8 hr P8 b8=>?_)
       ·exact⟨rfl,Out.bad (by rw[sp4 HN0.out HN1.out HN2.out HN3.out HT.out];unfold dU;rw[H1.out];simp only;rw[show ap T kBy j1= .bad j2 from hr]) ((B7.out.new _ (AB _)).aB b8)⟩
       ·have H2:=H_ hr;have hij2:=(bV hr).2;replace b8:=((Bx.refl w7.heap.size p w7).new _ (AB _)).aB b8;clear hr;have E18:=hbx E17 b8 he7;have V18:=H_ (V17.out.aA (G':=NG g (two g e) w8) λb hb=>⟨hb.mono b8.size,b8.block b hb.2.1 (by have:=hb.1;omega)⟩);have he8:=E18.out.lt;clear E17 V17;obtain⟨hs8,B8,Q8,hg8⟩:=fr1 B7 Q7 b8;have HP8:=H_ P8;clear Q7 B7 HP7 P8 b8;go_wp2_with fail;refine Out.use (dL HP8.out) (λj3 w9 hr b9=>?_) (λs3 j3 v w9 hr hv P9 b9=>?_)
        ·exact⟨rfl,Out.bad (by rw[sp4 HN0.out HN1.out HN2.out HN3.out HT.out];unfold dU;rw[H1.out];simp only;rw[H2.out];simp only;rw[hr]) (B8.out.aB b9)⟩
        ·obtain rfl:v= .string s3:=hv;have H3:=H_ hr;have hij3:=(dm hr).2.2;clear hr;have E19:=hbx E18 b9 he8;have V19:=H_ (V18.out.aA (G':=NG g (two g e) w9) λb hb=>⟨hb.mono b9.size,b9.block b hb.2.1 (by have:=hb.1;omega)⟩);have he9:=E19.out.lt;clear E18 V18;obtain⟨hs9,B9,Q9,hg9⟩:=fr1 B8 Q8 b9;have HP9:=H_ P9;clear Q8 B8 HP8 P9 b9;go_wp2_with fail;refine bR (s:=eA) (HP9.out.alloc _) ((Blk.new w9 _ _).cell 0) (λj4 w10 hr b10=>?_) (λj4 w10 hr P10 b10=>?_)
         ·exact⟨rfl,Out.bad (by rw[sp4 HN0.out HN1.out HN2.out HN3.out HT.out];unfold dU;rw[H1.out];simp only;rw[H2.out];simp only;rw[H3.out];simp only;rw[show ap T eA j3= .bad j4 from hr]) ((B9.out.new _ (AB _)).aB b10)⟩
         ·have H4:=H_ hr;have hij4:=(bV hr).2;replace b10:=((Bx.refl w9.heap.size p w9).new _ (AB _)).aB b10;clear hr;have E110:=hbx E19 b10 he9;have V110:=H_ (V19.out.aA (G':=NG g (two g e) w10) λb hb=>⟨hb.mono b10.size,b10.block b hb.2.1 (by have:=hb.1;omega)⟩);have he10:=E110.out.lt;clear E19 V19;obtain⟨hs10,B10,Q10,hg10⟩:=fr1 B9 Q9 b10;have HP10:=H_ P10;clear Q9 B9 HP9 P10 b10;go_wp2_with fail;refine Out.use (HX'.out j4 (by omega) p c A w10 HP10.out) (λj5 w11 hr b11=>?_) (λx5 j5 v w11 hr hv P11 b11=>?_)
          ·exact⟨rfl,Out.bad (by rw[sp4 HN0.out HN1.out HN2.out HN3.out HT.out];unfold dU;rw[H1.out];simp only;rw[H2.out];simp only;rw[H3.out];simp only;rw[H4.out];simp only;rw[hr]) (B10.out.aB b11)⟩
          ·obtain⟨k5,op5,z5,nm5,at5,A5,n5,c5,rfl,hv'⟩:=ExV.inv hv;have HV5:=H_ hv';have H5:=H_ hr;have hi5:=HU.out _ _ _ hr;clear hv hv' hr;have E111:=hbx E110 b11 he10;have V111:=H_ (V110.out.aA (G':=NG g (two g e) w11) λb hb=>⟨hb.mono b11.size,b11.block b hb.2.1 (by have:=hb.1;omega)⟩);have he11:=E111.out.lt;clear E110 V110;obtain⟨hs11,B11,Q11,hg11⟩:=fr1 B10 Q10 b11;have HP11:=H_ P11;clear Q10 B10 HP10 P11 b11;go_upto_region 17 with fail;obtain⟨f,hfz⟩:∃e,w11.heap.size=e:=⟨_,rfl⟩;rw[hfz];obtain⟨w12,hw12⟩:∃w',w11.alloc (.cells #[.int .i64 k5,.int .i64 op5,.int .i64 z5,.string nm5,.bool at5,.slice A5 n5 c5] 172)=w':=⟨_,rfl⟩;have E512:=H_ (show Blk w12 f 172 _ from hw12▸hfz▸Blk.new w11 172 #[.int .i64 k5,.int .i64 op5,.int .i64 z5,.string nm5,.bool at5,.slice A5 n5 c5]);have b12:Bx w11.heap.size p w11 w12:=bxn hw12;have P12:=HP11.out.al hw12;have V512:=H_ (ExC.aA (G':=NG g (two g f) w12) (λb hb=>⟨⟨by have:=hb.1;omega,AF hb.2 b12.size,λh=>by have:=hb.1;have:=hb.2;unfold two at h;omega⟩,b12.block b hb.2 (by have:=hb.1;omega)⟩) HV5.out);have E112:=hbx E111 b12 he11;have V112:=H_ (V111.out.aA (G':=NG g (two g e) w12) λb hb=>⟨hb.mono b12.size,b12.block b hb.2.1 (by have:=hb.1;omega)⟩);have he12:=E112.out.lt;clear E111 V111;obtain⟨hs12,B12,Q12,hg12⟩:=fr1 B11 Q11 b12;have HP12:=H_ P12;clear Q11 B11 HP11 P12 b12;have hf12:=E512.out.lt;rw[hw12];clear hw12 HV5;go_wp2_with fail;refine bR (s:=eg) (HP12.out.alloc _) ((Blk.new w12 _ _).cell 0) (λj6 w13 hr b13=>?_) (λj6 w13 hr P13 b13=>?_)
           ·exact⟨rfl,Out.bad (by rw[sp4 HN0.out HN1.out HN2.out HN3.out HT.out];unfold dU;rw[H1.out];simp only;rw[H2.out];simp only;rw[H3.out];simp only;rw[H4.out];simp only;rw[H5.out];simp only;rw[show ap T eg j5= .bad j6 from hr]) ((B12.out.new _ (AB _)).aB b13)⟩
           ·have H6:=H_ hr;have hij6:=(bV hr).2;replace b13:=((Bx.refl w12.heap.size p w12).new _ (AB _)).aB b13;clear hr;have E113:=hbx E112 b13 he12;have V113:=H_ (V112.out.aA (G':=NG g (two g e) w13) λb hb=>⟨hb.mono b13.size,b13.block b hb.2.1 (by have:=hb.1;omega)⟩);have he13:=E113.out.lt;clear E112 V112;have E513:=hbx E512 b13 hf12;have V513:=H_ (V512.out.aA (G':=NG g (two g f) w13) λb hb=>⟨hb.mono b13.size,b13.block b hb.2.1 (by have:=hb.1;omega)⟩);have hf13:=E513.out.lt;clear E512 V512;obtain⟨hs13,B13,Q13,hg13⟩:=fr1 B12 Q12 b13;have HP13:=H_ P13;clear Q12 B12 HP12 P13 b13;obtain⟨y0,y1,y2,y3,y4,y5⟩:=E113.out.aC.1;obtain⟨u0,u1,u2,u3,u4,u5⟩:=E513.out.aC.1;obtain⟨⟨d0,d1,d2,d3,d4⟩,f0,f1,f2,f3,f4⟩:=Q13.out.aE;go_wp2_with fail;obtain⟨N1,N2⟩:=hH Q13.out (.int .i64 8) (.string s3) (.slice (some ⟨w13.heap.size,0,none⟩) 2 2) (.slice none 0 0) (.slice none 0 0);have hsz2:(((((w13.setCell ⟨g,0,none⟩ (.int .i64 8)).setCell ⟨g,1,none⟩ (.string s3)).setCell ⟨g,2,none⟩ (.slice (some ⟨w13.heap.size,0,none⟩) 2 2)).setCell ⟨g,3,none⟩ (.slice none 0 0)).setCell ⟨g,4,none⟩ (.slice none 0 0)).heap.size=w13.heap.size:=by simp
            generalize(((((w13.setCell ⟨g,0,none⟩ (.int .i64 8)).setCell ⟨g,1,none⟩ (.string s3)).setCell ⟨g,2,none⟩ (.slice (some ⟨w13.heap.size,0,none⟩) 2 2)).setCell ⟨g,3,none⟩ (.slice none 0 0)).setCell ⟨g,4,none⟩ (.slice none 0 0))=Y at N1 N2 hsz2⊢;have N3:=N2.alloc (by omega) (.cells #[.int .i64 k1,.int .i64 op1,.int .i64 z1,.string nm1,.bool at1,.slice A1 n1 c1,.int .i64 k5,.int .i64 op5,.int .i64 z5,.string nm5,.bool at5,.slice A5 n5 c5] 172);have hnew:=Blk.new Y 172 #[.int .i64 k1,.int .i64 op1,.int .i64 z1,.string nm1,.bool at1,.slice A1 n1 c1,.int .i64 k5,.int .i64 op5,.int .i64 z5,.string nm5,.bool at5,.slice A5 n5 c5];rw[hsz2]at hnew;have hkp:∀b,NG g (λb=>b=g) w13 b->NG g (λb=>b=g) (Y.alloc (.cells #[.int .i64 k1,.int .i64 op1,.int .i64 z1,.string nm1,.bool at1,.slice A1 n1 c1,.int .i64 k5,.int .i64 op5,.int .i64 z5,.string nm5,.bool at5,.slice A5 n5 c5] 172)) b/\(Y.alloc (.cells #[.int .i64 k1,.int .i64 op1,.int .i64 z1,.string nm1,.bool at1,.slice A1 n1 c1,.int .i64 k5,.int .i64 op5,.int .i64 z5,.string nm5,.bool at5,.slice A5 n5 c5] 172)).heap[b]?=w13.heap[b]?:=λb hb=>NG.put N3 rfl hb;have HV:=StC.of 8 s3 2 0 0 (kH hnew (G:=NG g (λb=>b=g) _) ⟨by omega,hnew.lt,λh=>by omega⟩ (V113.out.aA λb hb=>hkp b ⟨hb.1,hb.2.1,λh=>hb.2.2 (.inl h)⟩) (V513.out.aA λb hb=>hkp b ⟨hb.1,hb.2.1,λh=>hb.2.2 (.inl h)⟩)) (Sl.nil _ _ none) (Sl.nil _ _ none);exact gj rfl (by simp) (N1.alloc _) (Out.ok (by rw[sp4 HN0.out HN1.out HN2.out HN3.out HT.out];unfold dU;rw[H1.out];simp only;rw[H2.out];simp only;rw[H3.out];simp only;rw[H4.out];simp only;rw[H5.out];simp only;rw[H6.out];rfl) ⟨_,rfl,HV.aA (λb hb=>⟨⟨by have:=hb.1;omega,hb.2.1⟩,rfl⟩)⟩ (HP13.out.put N3 (by omega)) (B13.out.put N3 (by omega) (AB _)))
     ·obtain⟨hs5,B5,Q5,hg5⟩:=fr1 B4 Q4 b5;have HP5:=H_ P5;have HN4:=H_ ht;clear Q4 B4 HP4 P5 b5 ht;go_wp2_with fail;refine bd HP5.out dO (λht w6 P6 b6=>?_) (λht w6 P6 b6=>?_)
      ·obtain⟨hs6,B6,Q6,hg6⟩:=fr1 B5 Q5 b6;have HP6:=H_ P6;have HT:=H_ ht;clear Q5 B5 HP5 P6 b6 ht;obtain⟨⟨d0,d1,d2,d3,d4⟩,f0,f1,f2,f3,f4⟩:=Q6.out.aE;go_wp2_with fail;obtain⟨N1,N2⟩:=hH Q6.out (.int .i64 9) (.string ⟨#[]⟩) (.slice none 0 0) (.slice none 0 0) (.slice none 0 0);exact gj rfl (by simp) N1 (Out.ok (by rw[sp5 HN0.out HN1.out HN2.out HN3.out HN4.out HT.out];rfl) ⟨_,rfl,StC.of 9 ⟨#[]⟩ 0 0 0 (Sl.nil _ _ none) (Sl.nil _ _ none) (Sl.nil _ _ none)⟩ (HP6.out.put N2 (by omega)) (B6.out.put N2 (by omega) (AB _)))
      ·obtain⟨hs6,B6,Q6,hg6⟩:=fr1 B5 Q5 b6;have HP6:=H_ P6;have HN5:=H_ ht;clear Q5 B5 HP5 P6 b6 ht;have HPRE:=H_ (show ak T ex i=if(tk T i).1=2/\(tk T (i+1)).1=5/\(tk T (i+1)).2.1=cj then cR T ex 1 i else dV T ex i by unfold ak;rw[AL (show ¬isT T eu i=true from by rw[HN0.out];simp)];rw[AL (show ¬isT T cW i=true from by rw[HN1.out];simp)];rw[AL (show ¬isT T cD i=true from by rw[HN2.out];simp)];rw[AL (show ¬isT T et i=true from by rw[HN3.out];simp)];rw[AL (show ¬isT T dN i=true from by rw[HN4.out];simp)];rw[AL (show ¬isT T dO i=true from by rw[HN5.out];simp)]);clear HN0 HN1 HN2 HN3 HN4 HN5;go_upto_region 21 with fail;go_cut [66] (λv wx=>v= .bool (decide ((tk T i).1=2/\(tk T (i+1)).1=5/\(tk T (i+1)).2.1=cj))/\Below w6.heap.size w6 wx)
       case first=>
        have hfew:=hT;obtain⟨⟨k,s,z,q⟩,htk⟩:∃x,tk T i=x:=⟨_,rfl⟩;obtain⟨⟨k2,s2,z2,q2⟩,htk2⟩:∃x,tk T (i+1)=x:=⟨_,rfl⟩;obtain⟨TT,f,hne,hf,hcov⟩:=aX w6.heap.size w6
        have hcall:∀x,Calls Tryz.prog 134 #[.pointer (some ⟨p,0,none⟩)] (f x) (λe w''=>e= .returned (.agg #[.int .i64 k,.string s,.int .i64 z,.int .i64 q])/\∃y,w''=f y):=λx=>
         (fP p i c A T (f x) (HP6.out.below (hf x))).mono λe w'' ⟨h1,h2⟩=>⟨by rw[h1,htk];rfl,hcov _ ((hf x).trans (h2.mono (hf x).size))⟩
        have HC:=H_ hcall;have HF:=H_ hf;have HCOV:=H_ hcov;have a0:=λx=>(HP6.out.aG.below (hf x) HP6.out.aG.lt).k0;have a1:=λx=>(HP6.out.aG.below (hf x) HP6.out.aG.lt).k1;have hfld:=py;clear hcall hf hcov;by_cases h2:k=2
        ·subst h2;have hi1:=HWF.out.next hiT (by rw[htk];show(2:Int)≠0;decide);obtain⟨bt,off,hA,hb,hat⟩:=HP6.out.tok.cell hi1;subst hA;rw[htk2]at hat
         have hpl:=HP6.out.aG.lt;have e0:∀x,(f x).cell? ⟨bt,off+(i+1)*4,none⟩=some (.int .i64 k2):=λx=>(a8 (HF.out x) (by omega) _).trans (by have:=hat 0 _ rfl;rwa[AQ]at this);have e1:∀x,(f x).cell? ⟨bt,off+(i+1)*4+1,none⟩=some (.string s2):=λx=>(a8 (HF.out x) (by omega) _).trans (by have:=hat 1 _ rfl;rwa[AQ]at this);have g1:decide (((i:Int)+1)<(T.length:Int))=true:=by simp;omega
         have g2:decide (i+1<T.length)=true:=by simp;omega
         clear hat
         by_cases h5:k2=5
         ·subst h5;by_cases hs:s2=cj
          ·subst hs;refine ah f (by kernel_rfl) (by kernel_rfl) (HCOV.out _ (AC _ _).drew) ?_;repeat (go_big_quiet_step ((go_at_call 134;exact HC.out _)))
           refine BL ?_;rintro _ ⟨xq,rfl⟩;go_wp2_with fail;go_meet;exact⟨by rw[htk,htk2];simp;decide+kernel,HF.out xq⟩
          ·have hne:=rj hs;refine ah f (by kernel_rfl) (by kernel_rfl) (HCOV.out _ (AC _ _).drew) ?_;repeat (go_big_quiet_step ((go_at_call 134;exact HC.out _)))
           refine BL ?_;rintro _ ⟨xq,rfl⟩;go_wp2_with fail;go_meet
           exact⟨by
            rw[htk,htk2];simp[hs];have h9:=AD.1 hne;rwa[show cj.toList=[61] by decide+kernel]at h9,HF.out xq⟩
         ·have h5':=nZ h5;refine ah f (by kernel_rfl) (by kernel_rfl) (HCOV.out _ (AC _ _).drew) ?_;repeat (go_big_quiet_step ((go_at_call 134;exact HC.out _)))
          refine BL ?_;rintro _ ⟨xq,rfl⟩;go_wp2_with fail;go_meet;exact⟨by rw[htk,htk2];simp[h5],HF.out xq⟩
        ·have h2':=nZ h2;refine ah f (by kernel_rfl) (by kernel_rfl) (HCOV.out _ (AC _ _).drew) ?_;repeat (go_big_quiet_step ((go_at_call 134;exact HC.out _)))
         refine BL ?_;rintro _ ⟨xq,rfl⟩;go_wp2_with fail;go_meet;exact⟨by rw[htk];simp[h2],HF.out xq⟩
       case rest=>
        obtain⟨rfl,hb7⟩:=hcut;obtain⟨w7,rfl⟩:∃w7,w7=wc:=⟨_,rfl⟩;have b7:Bx w6.heap.size p w6 w7:=Bx.of hb7;have P7:=HP6.out.below hb7;clear hb7;obtain⟨hs7,B7,Q7,hg7⟩:=fr1 B6 Q6 b7;have HP7:=H_ P7;clear Q6 B6 HP6 P7 b7;by_cases hcond:(tk T i).1=2/\(tk T (i+1)).1=5/\(tk T (i+1)).2.1=cj
        ·rw[BJ hcond];have HCO:=H_ hcond;clear hcond;go_wp2_with fail;refine Out.use (HA'.out i (AB _) 1 p c A w7 HP7.out) (λj w8 hr b8=>?_) (λx j v w8 hr hv P8 b8=>?_)
         ·exact⟨rfl,Out.bad (by rw[HPRE.out,AP HCO.out];rw[hr]) (B7.out.aB b8)⟩
         ·obtain⟨k0,nm,A1,n1,c1,A2,n2,c2,A3,n3,c3,rfl,hv'⟩:=SV.inv hv;have HV:=H_ hv';have H1:=H_ hr;clear hv hv' hr;obtain⟨hs8,B8,Q8,hg8⟩:=fr1 B7 Q7 b8;have HP8:=H_ P8;clear Q7 B7 HP7 P8 b8;obtain⟨⟨d0,d1,d2,d3,d4⟩,f0,f1,f2,f3,f4⟩:=Q8.out.aE;go_wp2_with fail;obtain⟨N1,N2⟩:=hH Q8.out (.int .i64 k0) (.string nm) (.slice A1 n1 c1) (.slice A2 n2 c2) (.slice A3 n3 c3);exact gj rfl (by simp) N1 (Out.ok (by rw[HPRE.out,AP HCO.out];rw[H1.out]) ⟨_,rfl,HV.out.aA (Fr.aA N2 (by omega) hg7)⟩ (HP8.out.put N2 (by omega)) (B8.out.put N2 (by omega) (AB _)))
        ·rw[Bg hcond];have HCO:=H_ hcond;clear hcond;go_wp2_with fail;refine Out.use (HO'.out p c A w7 HP7.out) (λj1 w8 hr b8=>?_) (λx1 j1 v w8 hr hv P8 b8=>?_)
         ·exact⟨rfl,Out.bad (by rw[HPRE.out,AL HCO.out];unfold dV;rw[hr]) (B7.out.aB b8)⟩
         ·obtain⟨k1,op1,z1,nm1,at1,A1,n1,c1,rfl,hv'⟩:=ExV.inv hv;have HV1:=H_ hv';have H1:=H_ hr;have hi1:=HUO.out _ _ _ hr;clear hv hv' hr;obtain⟨hs8,B8,Q8,hg8⟩:=fr1 B7 Q7 b8;have HP8:=H_ P8;clear Q7 B7 HP7 P8 b8;go_upto_region 24 with fail;obtain⟨e,hez⟩:=nm_ (w8.heap.size);rw[hez];obtain⟨w9,hw9⟩:∃w',w8.alloc (.cells #[.int .i64 k1,.int .i64 op1,.int .i64 z1,.string nm1,.bool at1,.slice A1 n1 c1] 172)=w':=⟨_,rfl⟩;have E19:=H_ (show Blk w9 e 172 _ from hw9▸hez▸Blk.new w8 172 #[.int .i64 k1,.int .i64 op1,.int .i64 z1,.string nm1,.bool at1,.slice A1 n1 c1]);have b9:Bx w8.heap.size p w8 w9:=bxn hw9;have P9:=HP8.out.al hw9;have V19:=H_ (ExC.aA (G':=NG g (two g e) w9) (λb hb=>⟨⟨by have:=hb.1;omega,AF hb.2 b9.size,λh=>by have:=hb.1;have:=hb.2;unfold two at h;omega⟩,b9.block b hb.2 (by have:=hb.1;omega)⟩) HV1.out);obtain⟨hs9,B9,Q9,hg9⟩:=fr1 B8 Q8 b9;have HP9:=H_ P9;clear Q8 B8 HP8 P9 b9;have he9:=E19.out.lt;rw[hw9];clear hw9 HV1;go_wp2_with fail;refine bR (s:=DOT) (HP9.out.alloc _) ((Blk.new w9 _ _).cell 0) (λj2 w10 hr b10=>?_) (λj2 w10 hr P10 b10=>?_)
          ·exact⟨rfl,Out.bad (by rw[HPRE.out,AL HCO.out];unfold dV;rw[H1.out];simp only;rw[show ap T DOT j1= .bad j2 from hr]) ((B9.out.new _ (AB _)).aB b10)⟩
          ·have H2:=H_ hr;have hij2:=(bV hr).2;replace b10:=((Bx.refl w9.heap.size p w9).new _ (AB _)).aB b10;clear hr;have E110:=hbx E19 b10 he9;have V110:=H_ (V19.out.aA (G':=NG g (two g e) w10) λb hb=>⟨hb.mono b10.size,b10.block b hb.2.1 (by have:=hb.1;omega)⟩);have he10:=E110.out.lt;clear E19 V19;obtain⟨hs10,B10,Q10,hg10⟩:=fr1 B9 Q9 b10;have HP10:=H_ P10;clear Q9 B9 HP9 P10 b10;go_wp2_with fail;refine Out.use (dL HP10.out) (λj3 w11 hr b11=>?_) (λs3 j3 v w11 hr hv P11 b11=>?_)
           ·exact⟨rfl,Out.bad (by rw[HPRE.out,AL HCO.out];unfold dV;rw[H1.out];simp only;rw[H2.out];simp only;rw[hr]) (B10.out.aB b11)⟩
           ·obtain rfl:v= .string s3:=hv;have H3:=H_ hr;have hij3:=(dm hr).2.2;clear hr;have E111:=hbx E110 b11 he10;have V111:=H_ (V110.out.aA (G':=NG g (two g e) w11) λb hb=>⟨hb.mono b11.size,b11.block b hb.2.1 (by have:=hb.1;omega)⟩);have he11:=E111.out.lt;clear E110 V110;obtain⟨hs11,B11,Q11,hg11⟩:=fr1 B10 Q10 b11;have HP11:=H_ P11;clear Q10 B10 HP10 P11 b11;go_wp2_with fail;refine bR (s:=cj) (HP11.out.alloc _) ((Blk.new w11 _ _).cell 0) (λj4 w12 hr b12=>?_) (λj4 w12 hr P12 b12=>?_)
            ·exact⟨rfl,Out.bad (by rw[HPRE.out,AL HCO.out];unfold dV;rw[H1.out];simp only;rw[H2.out];simp only;rw[H3.out];simp only;rw[show ap T cj j3= .bad j4 from hr]) ((B11.out.new _ (AB _)).aB b12)⟩
            ·have H4:=H_ hr;have hij4:=(bV hr).2;replace b12:=((Bx.refl w11.heap.size p w11).new _ (AB _)).aB b12;clear hr;have E112:=hbx E111 b12 he11;have V112:=H_ (V111.out.aA (G':=NG g (two g e) w12) λb hb=>⟨hb.mono b12.size,b12.block b hb.2.1 (by have:=hb.1;omega)⟩);have he12:=E112.out.lt;clear E111 V111;obtain⟨hs12,B12,Q12,hg12⟩:=fr1 B11 Q11 b12;have HP12:=H_ P12;clear Q11 B11 HP11 P12 b12;go_upto_region 27 with fail;obtain⟨y,jy,hsj⟩:=R.known (ex 0 j4) (lJ 0)
             refine aW 3 6 (λxs=>{tmps:= #[.pointer (some ⟨p,0,none⟩),undef,.pointer (some ⟨g,0,none⟩),undef,undef,undef,undef,.pointer (some ⟨e,0,none⟩),.string s3,.bool false,u10,u11,u12,u13,.bool false,u15,u16,u17,u18,.bool false,u20,u21,u22,u23,u24,u25,.bool false,u27,u28,u29,u30,u31,u32,u33,u34,u35,u36,u37,u38,.bool false,u40,u41,u42,u43,u44,u45,u46,u47,u48,u49,u50,u51,u52,u53,u54,u55,u56,u57,u58,u59,u60,u61,.bool false,u63,u64,u65,.bool false,u67,u68,u69,u70,u71,u72,u73,u74,u75,u76,u77,u78,u79,u80,u81,u82,u83,u84,u85,u86,u87,u88,u89,u90,u91,u92,u93,u94,u95,u96,u97,u98,u99,u100,u101,u102,u103,u104,u105,u106,u107,u108,u109,u110,u111,u112,u113,u114,u115,.pointer (some ⟨p,0,none⟩),.agg #[.int .i64 k1,.int .i64 op1,.int .i64 z1,.string nm1,.bool at1,.slice A1 n1 c1],.pointer (some ⟨p,0,none⟩),.slice (some ⟨w9.heap.size,0,none⟩) 1 1,.tuple #[],.pointer (some ⟨p,0,none⟩),.string s3,.pointer (some ⟨p,0,none⟩),.slice (some ⟨w11.heap.size,0,none⟩) 1 1,.tuple #[],(xs 0).getD u126,(xs 1).getD u127,(xs 2).getD u128,(xs 3).getD u129,(xs 4).getD u130,(xs 5).getD u131],defers:=[]})
              (RJ w12 p A c T j4 jy (ex 0 j4= .ok y jy)) w12.heap.size
              (λi=>match i with
                |0=>fEq (.string s3)
                |1=>fEq (.agg #[.int .i64 k1,.int .i64 op1,.int .i64 z1,.string nm1,.bool at1,.slice A1 n1 c1])
                |2=>fEq (.pointer (some ⟨p,0,none⟩))
                |3=>λv W=>ExV W (NG w12.heap.size noZ W) y v
                |4=>λv W=>∃a ds,v= .slice (some ⟨a,0,none⟩) 2 2/\w12.heap.size<=a/\Blk W a 172 ([.int .i64 k1,.int .i64 op1,.int .i64 z1,.string nm1,.bool at1,.slice A1 n1 c1]++ds:List Value).toArray/\ExC W (NG w12.heap.size noZ W) y ds
                |_=>λv W=>∃a ds,v= .agg #[.int .i64 2,.string s3,.slice (some ⟨a,0,none⟩) 2 2,.slice none 0 0,.slice none 0 0]/\w12.heap.size<=a/\Blk W a 172 ([.int .i64 k1,.int .i64 op1,.int .i64 z1,.string nm1,.bool at1,.slice A1 n1 c1]++ds:List Value).toArray/\ExC W (NG w12.heap.size noZ W) y ds)
              (by
                intro k
                match k with
                |0=>exact fEq.st _ _
                |1=>exact fEq.st _ _
                |2=>exact fEq.st _ _
                |3=>exact ExV.st
                |4=>exact λ_ _ _ hn ⟨a,ds,h1,h2,h3,h4⟩=>⟨a,ds,h1,h2,(hn.block a h2 (Blk.lt h3)).trans h3,h4.aA λb hb=>⟨hb.mono hn.size,hn.block b hb.1 hb.2.1⟩⟩
                |_+5=>exact λ_ _ _ hn ⟨a,ds,h1,h2,h3,h4⟩=>⟨a,ds,h1,h2,(hn.block a h2 (Blk.lt h3)).trans h3,h4.aA λb hb=>⟨hb.mono hn.size,hn.block b hb.1 hb.2.1⟩⟩)
              (by kernel_rfl) (by kernel_rfl) rfl (by kernel_rfl) (by decide) rfl ⟨(Bx.refl _ _ _).drew,HP12.out.drew⟩ ?_ ?_ ?_
             ·intro i' hi hic b xs W hJ hd;obtain rfl|rfl|rfl|rfl|rfl:i'=0\/i'=1\/i'=2\/i'=4\/i'=5:=by omega
              ·refine AE rfl λK hK=>?_;go_simp;exact hK _ _ ⟨_,rfl,hJ,rfl,Nw.refl _ _⟩
              ·obtain⟨⟨d0,d1,d2,d3,d4,d5⟩,_⟩:=(E112.out.bx hJ.1 he12 (by omega)).aC;refine AE rfl λK hK=>?_;go_simp;exact hK _ _ ⟨_,rfl,hJ,rfl,Nw.refl _ _⟩
              ·refine AE rfl λK hK=>?_;go_simp;exact hK _ _ ⟨_,rfl,hJ,rfl,Nw.refl _ _⟩
              ·obtain⟨_,h1,rfl⟩:=hd 1;obtain⟨_,h3,hy⟩:=hd 3;obtain⟨ky,opy,zy,nmy,aty,Ay,ny,cy,rfl,hy'⟩:=ExV.inv hy;have hb:=(AC W.heap.size W).alloc (AB _) (.cells ([.int .i64 k1,.int .i64 op1,.int .i64 z1,.string nm1,.bool at1,.slice A1 n1 c1]++[.int .i64 ky,.int .i64 opy,.int .i64 zy,.string nmy,.bool aty,.slice Ay ny cy]:List Value).toArray 172);have HY:=H_ hy';have HJ:=H_ hJ;have HB:=H_ hb;clear hJ hy hy' hb;refine stp rfl (by kernel_rfl) λK hK=>?_;refine nK (rS (x:= .tmp 127) (y:= .tmp 129) rfl (gd h1 _) (gd h3 _) (iL W _ _ _ _ _ _ _ _ _ _ _ _)) ?_;exact hK _ _ ⟨.slice (some ⟨W.heap.size,0,none⟩) 2 2,rfl,HJ.out.below HB.out,⟨W.heap.size,[.int .i64 ky,.int .i64 opy,.int .i64 zy,.string nmy,.bool aty,.slice Ay ny cy],rfl,HJ.out.1.size,Blk.new W 172 _,HY.out.aA λb hb'=>⟨hb'.mono HB.out.size,HB.out.block b hb'.2.1⟩⟩,Nw.below HB.out⟩
              ·obtain⟨_,h3,a,ds,rfl,hra,hrb,hrc⟩:=hd 4;obtain⟨_,h0,rfl⟩:=hd 0;refine stp rfl (by kernel_rfl) λK hK=>?_;refine nK (vJ (x:= .const (.int .i64 2)) (y:= .tmp 126) (s:= .tmp 130) rfl rfl (gd h0 _) (gd h3 _) (ld W _ _ _ _ _)) ?_;exact hK _ _ ⟨_,rfl,hJ,⟨a,ds,rfl,hra,hrb,hrc⟩,Nw.refl _ _⟩
             ·intro xs W hJ hd;obtain⟨_,h2,rfl⟩:=hd 2;have hsW:=hJ.1.size;refine stp rfl (by kernel_rfl) λK hK=>?_;refine iU (n:=293) (x:= .tmp 128) rfl (gd h2 _) (by kernel_rfl) ?_;refine Out.use (HX'.out j4 (by omega) p c A W hJ.2) (λj7 w7 hr b7=>?_) (λx' j7 v w7 hr hv P7 b7=>?_)
              ·exact⟨rfl,Out.bad (by rw[HPRE.out,AL HCO.out];unfold dV;rw[H1.out];simp only;rw[H2.out];simp only;rw[H3.out];simp only;rw[H4.out];simp only;rw[hr]) (B12.out.trans ((hJ.1.aB b7).mono (by omega)))⟩
              ·obtain⟨rfl,rfl⟩:=hsj _ _ hr;exact hK _ _ ⟨v,rfl,⟨hJ.1.aB b7,P7,hr⟩,rvC.aA (λb hb=>⟨⟨by have:=hb.1;omega,hb.2,λh=>h⟩,rfl⟩) hv,Nw.of b7 (by omega)⟩
             ·intro xs W hJ hd;obtain⟨_,h4,a,ds,rfl,hra,hrb,hrc⟩:=hd 5;have hW:=hJ.1.size;have HGW:=H_ (Q12.out.bx hJ.1 hg12 (by omega))
              have SX:=H_ (show Sl kEx W (NG g (two g e) W) [x1,y] (some ⟨a,0,none⟩) 2 from l6 (K:=kEx) hrb ⟨by omega,Blk.lt hrb,λh=>by unfold two at h;omega⟩
               (V112.out.aA λb hb=>⟨hb.mono hJ.1.size,hJ.1.block b hb.2.1 (by have:=hb.1;omega)⟩) (hrc.aA λb hb=>⟨⟨by have:=hb.1;omega,hb.2.1,λh=>by have:=hb.1;unfold two at h;omega⟩,rfl⟩))
              have HJ:=H_ hJ;clear hJ hrb hrc hd;obtain⟨⟨d0,d1,d2,d3,d4⟩,f0,f1,f2,f3,f4⟩:=HGW.out.aE;refine AE rfl λK hK=>?_;go_simp;refine hK _ _ ?_;obtain⟨N1,N2⟩:=hH HGW.out (.int .i64 2) (.string s3) (.slice (some ⟨a,0,none⟩) 2 2) (.slice none 0 0) (.slice none 0 0);have HV:=StC.of 2 s3 2 0 0 SX.out (Sl.nil _ _ none) (Sl.nil _ _ none);go_wp2_with fail;exact gj rfl (by simp) N1 (Out.ok (by rw[HPRE.out,AL HCO.out];unfold dV;rw[H1.out];simp only;rw[H2.out];simp only;rw[H3.out];simp only;rw[H4.out];simp only;rw[HJ.out.2.2]<;>rfl) ⟨_,rfl,HV.aA (λb hb=>⟨⟨by have:=hb.1;omega,AF hb.2.1 N2.size⟩,N2.block b hb.2.1 (λh=>hb.2.2 (.inl h))⟩)⟩ (HJ.out.2.1.put N2 (by omega)) ((B12.out.trans (HJ.out.1.mono (by omega))).put N2 (by omega) (by omega)))
end
def eD(x:St):Nat:=ssz x-1
theorem fD:∀xs:List St,xs.length+lsz eD xs=lsz ssz xs
 |[]=>rfl
 |x::l=>by
  have h1:=fD l;have h2:=nr x;rw[ep,ep,AZ];unfold eD at h1⊢;omega
theorem oC:∀(n:Nat) (xs:List St) (A:Option Addr) (m c:Nat) (w:World) (G:Nat->Prop),lsz ssz xs<=n->Sl kSt w G xs A m->(∀b,G b->b<w.heap.size)->lsz ssz xs<=100000->
 Calls Tryz.prog 138 #[.slice A m c] w λe w'=>e= .returned (.int .i64 (lsz ssz xs:Nat))/\Below w.heap.size w w':=by
 intro n;induction n with
 |zero=>
  intro xs A m c w G hn hs hG hb;have h0:=fD xs;have hx:xs=[]:=Bc (by omega);subst hx;obtain rfl:m=0:=hs.1.symm;go_enter Tryz.func138,Tryz.ntmps138;go_wp2_with fail;refine D7 1 ?_;rw[Dg];go_wp2_with fail;go_ret;exact⟨rfl,AC _ _⟩
 |succ n ih=>
  intro xs A m c w G hn hs hG hb;have h0:=fD xs;have hm:=hs.1;have HS:=H_ hs;have HIH:=H_ ih;have HG:=H_ hG;clear hs ih hG;go_enter Tryz.func138,Tryz.ntmps138;go_wp2_with fail;go_loopw [3,10] (λu i wr=>∃k:Nat,k<=m/\i= .int .i64 k/\u= .int .i64 ((m+lsz eD (xs.take k):Nat):Int)/\Hid (Below w.heap.size w wr)) (λ_ i _=>m-(intOf i).toNat)
  case atStart=>exact⟨0,AM _,rfl,by simp[lsz],H_ (AC _ _)⟩
  case round=>
   obtain⟨k,hk,rfl,rfl,HB⟩:=hrel;have hle:=aT eD xs k;by_cases hkm:k<m
   ·have hkz:(k:Int)<(m:Int):=by omega
    have hS2:=HS.out.aA (G':=G) (w':=wr) (λb hb'=>⟨hb',HB.out.block b (HG.out b hb')⟩);obtain⟨b,off,x,cs,rfl,hgb,hx,hrd,hat⟩:=hS2.at_ hkm;obtain⟨xk,xn,xe,xb,xl⟩:=x;obtain⟨A2,n2,c2,A3,n3,c3,A4,n4,c4,rfl,hse,hsb,hsl⟩:=StC.inv hrd;have hsz:=d9 ssz hx;rw[gu]at hsz;have htk:=dr eD xs hx;have hsub:eD (.mk xk xn xe xb xl)=lsz esz xe+lsz ssz xb+lsz ssz xl:=by unfold eD;rw[gu];omega
    rw[hsub]at htk;have hle2:=aT eD xs (k+1);have d0:wr.cell? ⟨b,off+k*5,none⟩=some (.int .i64 xk):=by have:=hat 0 _ rfl;rwa[show kSt.sz=5 from rfl,AQ]at this
    have d1:wr.cell? ⟨b,off+k*5+1,none⟩=some (.string xn):=by have:=hat 1 _ rfl;rwa[show kSt.sz=5 from rfl,AQ]at this
    have d2:wr.cell? ⟨b,off+k*5+2,none⟩=some (.slice A2 n2 c2):=by have:=hat 2 _ rfl;rwa[show kSt.sz=5 from rfl,AQ]at this
    have d3:wr.cell? ⟨b,off+k*5+3,none⟩=some (.slice A3 n3 c3):=by have:=hat 3 _ rfl;rwa[show kSt.sz=5 from rfl,AQ]at this
    have d4:wr.cell? ⟨b,off+k*5+4,none⟩=some (.slice A4 n4 c4):=by have:=hat 4 _ rfl;rwa[show kSt.sz=5 from rfl,AQ]at this
    have hbb:=HB.out.size;obtain⟨w1,hw1⟩:=nm_ (wr.alloc (.cells #[.int .i64 xk,.string xn,.slice A2 n2 c2,.slice A3 n3 c3,.slice A4 n4 c4] 168));obtain⟨g,hgz⟩:=nm_ (wr.heap.size);have hq1:=Blk.ng hw1 hgz;have hs1:w1.heap.size=g+1:=by rw[<-hw1,<-hgz];simp
    have hk1:∀q,q<g->w1.heap[q]?=wr.heap[q]?:=λq hq=>hw1▸BR _ _ _ (by omega);have hB1:Below w.heap.size w w1:=hw1▸HB.out.alloc hbb _;obtain⟨TT,f,hne,hf,hcov⟩:=aX w1.heap.size w1;have hkf:∀y q,q<g->(f y).heap[q]?=wr.heap[q]?:=λy q hq=>((hf y).block q (by omega)).trans (hk1 q hq);have hGf:∀y q,G q->G q/\(f y).heap[q]?=wr.heap[q]?:=λy q hq=>⟨hq,hkf y q (by have:=HG.out q hq;omega)⟩;have hGs:∀y q,G q->q<(f y).heap.size:=λy q hq=>by have:=HG.out q hq;have:=(hf y).size;omega
    have C1:=H_ (show∀y,Calls Tryz.prog 214 #[.slice A2 n2 c2] (f y) (λe w''=>e= .returned (.int .i64 (lsz esz xe:Nat))/\∃z,w''=f z)from λy=>
     (pD _ xe A2 n2 c2 (f y) G (AB _) (hse.aA (hGf y)) (hGs y) (by omega)).mono λe w'' ⟨h1,h2⟩=>⟨h1,hcov _ ((hf y).trans (h2.mono (hf y).size))⟩)
    have C2:=H_ (show∀y,Calls Tryz.prog 138 #[.slice A3 n3 c3] (f y) (λe w''=>e= .returned (.int .i64 (lsz ssz xb:Nat))/\∃z,w''=f z)from λy=>
     (HIH.out xb A3 n3 c3 (f y) G (by omega) (hsb.aA (hGf y)) (hGs y) (by omega)).mono λe w'' ⟨h1,h2⟩=>⟨h1,hcov _ ((hf y).trans (h2.mono (hf y).size))⟩)
    have C3:=H_ (show∀y,Calls Tryz.prog 138 #[.slice A4 n4 c4] (f y) (λe w''=>e= .returned (.int .i64 (lsz ssz xl:Nat))/\∃z,w''=f z)from λy=>
     (HIH.out xl A4 n4 c4 (f y) G (by omega) (hsl.aA (hGf y)) (hGs y) (by omega)).mono λe w'' ⟨h1,h2⟩=>⟨h1,hcov _ ((hf y).trans (h2.mono (hf y).size))⟩)
    have e2:=λy=>(hq1.below (hf y) (by omega)).k2;have e3:=λy=>(hq1.below (hf y) (by omega)).k3;have e4:=λy=>(hq1.below (hf y) (by omega)).k4;have HF:=H_ (λy=>hB1.trans ((hf y).mono hB1.size));have HCOV:=H_ hcov;obtain⟨v1,hv1⟩:∃v,lsz esz xe=v:=⟨_,rfl⟩;obtain⟨v2,hv2⟩:∃v,lsz ssz xb=v:=⟨_,rfl⟩;obtain⟨v3,hv3⟩:∃v,lsz ssz xl=v:=⟨_,rfl⟩;rw[hv1]at C1 htk hsz;rw[hv2]at C2 htk hsz;rw[hv3]at C3 htk hsz;obtain⟨v0,hv0⟩:∃v,lsz eD (xs.take k)=v:=⟨_,rfl⟩;rw[hv0]at htk hle⊢;clear hat hrd hse hsb hsl hS2 hf hcov hkf hGf hGs hk1 hB1 hq1;go_upto_region 5 with fail;clear hw1;refine ah f (by kernel_rfl) (by kernel_rfl) (HCOV.out _ (AC _ _).drew) ?_;repeat (go_big_quiet_step (first|(go_at_call 214;exact C1.out _)|(go_at_call_of 138 (Value.slice A3 n3 c3);exact C2.out _)|(go_at_call_of 138 (Value.slice A4 n4 c4);exact C3.out _)))
    refine BL ?_;rintro _ ⟨y,rfl⟩;go_wp2_with fail;go_roundw
    case rel=>exact⟨k+1,by omega,by go_num,by rw[htk];go_num,H_ (HF.out y)⟩
    case measure=>simp[intOf];omega
   ·obtain rfl:k=m:=by omega
    go_wp2_with fail;go_ret;have ht:xs.take k=xs:=AK (by omega);rw[ht,<-h0,hm];exact⟨rfl,HB.out⟩
def dz(x:Me):Nat:=x.params.length+lsz ssz x.body
def dg(x:Cl):Nat:=x.fields.length+lsz msz x.methods
theorem gB{α:Type}(sz sb:α->Nat)(h:∀x,sz x=1+sb x):∀xs:List α,xs.length+lsz sb xs=lsz sz xs
 |[]=>rfl
 |x::l=>by
  have h1:=gB sz sb h l;have h2:=h x;rw[ep,ep,AZ];omega
theorem yK(xs:List Cl)(A:Option Addr)(m c:Nat)(w:World)(G:Nat->Prop)(hs:Sl kCl w G xs A m)(hG:∀b,G b->b<w.heap.size)(hb:lsz csz xs<=100000):
 Calls Tryz.prog 87 #[.agg #[.slice A m c]] w λe w'=>e= .returned (.int .i64 (lsz csz xs:Nat))/\Below w.heap.size w w':=by
 have h0:=gB csz dg (λx=>by unfold csz dg;omega) xs;have hm:=hs.1;have HS:=H_ hs;have HG:=H_ hG;clear hs hG;obtain⟨p,hp⟩:=nm_ (w.heap.size);obtain⟨w0,hw0⟩:=nm_ (w.alloc (.cells #[.slice A m c] 28));have Q0:=hng hw0 hp;have B0:=H_ (show Below p w w0 from hw0▸hp▸(AC _ _).alloc (AB _) _);have hs0:w0.heap.size=p+1:=by rw[<-hw0,<-hp];simp
 have q0:=Q0.out.k0;go_enter Tryz.func87,Tryz.ntmps87;go_wp2_with fail;go_loopw [3,14] (λu i wr=>∃k:Nat,k<=m/\i= .int .i64 k/\u= .int .i64 ((m+lsz dg (xs.take k):Nat):Int)/\Hid (Below w0.heap.size w0 wr)) (λ_ i _=>m-(intOf i).toNat)
 case atStart=>exact⟨0,AM _,rfl,by simp[lsz],H_ (AC _ _)⟩
 case round=>
  obtain⟨k,hk,rfl,rfl,HB⟩:=hrel;have hle:=aT dg xs k;by_cases hkm:k<m
  ·have hkz:(k:Int)<(m:Int):=by omega
   have hBw:=B0.out.trans (HB.out.mono (by omega));have hS2:=HS.out.aA (G':=G) (w':=wr) (λb hb'=>⟨hb',hBw.block b (by have:=HG.out b hb';omega)⟩);obtain⟨b,off,x,cs,rfl,hgb,hx,hrd,hat⟩:=hS2.at_ hkm;obtain⟨A2,n2,c2,A3,n3,c3,rfl,hsf,hsm⟩:=hrd;have hsz:=d9 csz hx;have hcx:csz x=1+dg x:=by unfold csz dg;omega
   have htk:=dr dg xs hx;have hle2:=aT dg xs (k+1);have hf:=hsf.1;have hmm:=hsm.1;have hm0:=gB msz dz (λx=>by unfold msz dz;omega) x.methods;have hsx:dg x=n2+lsz msz x.methods:=by unfold dg;rw[hf]
   have d0:wr.cell? ⟨b,off+k*4,none⟩=some (.string x.nm):=by have:=hat 0 _ rfl;rwa[show kCl.sz=4 from rfl,AQ]at this
   have d1:wr.cell? ⟨b,off+k*4+1,none⟩=some (.bool x.actor):=by have:=hat 1 _ rfl;rwa[show kCl.sz=4 from rfl,AQ]at this
   have d2:wr.cell? ⟨b,off+k*4+2,none⟩=some (.slice A2 n2 c2):=by have:=hat 2 _ rfl;rwa[show kCl.sz=4 from rfl,AQ]at this
   have d3:wr.cell? ⟨b,off+k*4+3,none⟩=some (.slice A3 n3 c3):=by have:=hat 3 _ rfl;rwa[show kCl.sz=4 from rfl,AQ]at this
   have hbb:=HB.out.size;have HSM:=H_ hsm;have HBW:=H_ hBw;have HX:=H_ hx;obtain⟨v0,hv0⟩:∃v,lsz dg (xs.take k)=v:=⟨_,rfl⟩;rw[hv0]at htk hle⊢;clear hat hS2 hsf hsm hBw hx;go_wp2_with fail;obtain⟨w1,hw1⟩:=nm_ (wr.alloc (.cells #[.string x.nm,.bool x.actor,.slice A2 n2 c2,.slice A3 n3 c3] 117));have hb1:=bal hw1;have B1:=H_ (HB.out.trans (hb1.mono hbb));have HSM1:=H_ (HSM.out.aA (G':=G) (w':=w1) (λq hq=>⟨hq,hb1.block q (by have:=HG.out q hq;omega)⟩));have hs1:=hb1.size;rw[hw1];clear hw1 hb1 d0 d1 d2 d3 HB HSM;go_loopw [3,30] (λu i wr=>∃r:Nat,r<=n3/\i= .int .i64 r/\u= .int .i64 ((m+v0+(n2+n3)+lsz dz (x.methods.take r):Nat):Int)/\Hid (Below w1.heap.size w1 wr)) (λ_ i _=>n3-(intOf i).toNat)
   case atStart=>exact⟨0,AM _,rfl,by simp[lsz],H_ (AC _ _)⟩
   case round=>
    obtain⟨r,hr,rfl,rfl,HBi⟩:=hrel;have hler:=aT dz x.methods r;by_cases hrm:r<n3
    ·have hrz:(r:Int)<(n3:Int):=by omega
     have hS2:=HSM1.out.aA (G':=G) (w':=wr) (λb hb'=>⟨hb',HBi.out.block b (by have:=HG.out b hb';omega)⟩);obtain⟨b',off',y,ds,rfl,hgb',hy,hrd',hat'⟩:=hS2.at_ hrm;obtain⟨A4,n4,c4,A5,n5,c5,rfl,hsp,hsb⟩:=hrd';have hszy:=d9 msz hy;have hcy:msz y=1+n4+lsz ssz y.body:=by unfold msz;rw[hsp.1]
     have htk':=dr dz x.methods hy;have hle2':=aT dz x.methods (r+1);have hsy:dz y=n4+lsz ssz y.body:=by unfold dz;rw[hsp.1]
     rw[hsy]at htk';have d0:wr.cell? ⟨b',off'+r*3,none⟩=some (.string y.nm):=by have:=hat' 0 _ rfl;rwa[show kMe.sz=3 from rfl,AQ]at this
     have d1:wr.cell? ⟨b',off'+r*3+1,none⟩=some (.slice A4 n4 c4):=by have:=hat' 1 _ rfl;rwa[show kMe.sz=3 from rfl,AQ]at this
     have d2:wr.cell? ⟨b',off'+r*3+2,none⟩=some (.slice A5 n5 c5):=by have:=hat' 2 _ rfl;rwa[show kMe.sz=3 from rfl,AQ]at this
     have hbi:=HBi.out.size;obtain⟨w2,hw2⟩:=nm_ (wr.alloc (.cells #[.string y.nm,.slice A4 n4 c4,.slice A5 n5 c5] 121));obtain⟨g,hgz⟩:=nm_ (wr.heap.size);have hq1:=Blk.ng hw2 hgz;have hs2:w2.heap.size=g+1:=by rw[<-hw2,<-hgz];simp
     have hB2:Below w1.heap.size w1 w2:=hw2▸HBi.out.alloc hbi _;have hk1:∀q,q<g->w2.heap[q]?=wr.heap[q]?:=λq hq=>hw2▸BR _ _ _ (by omega);obtain⟨TT,f,hne,hf',hcov⟩:=aX w2.heap.size w2;have hGf:∀z q,G q->G q/\(f z).heap[q]?=wr.heap[q]?:=λz q hq=>⟨hq,by have:=HG.out q hq;exact((hf' z).block q (by omega)).trans (hk1 q (by omega))⟩;have hGs:∀z q,G q->q<(f z).heap.size:=λz q hq=>by have:=HG.out q hq;have:=(hf' z).size;omega
     have C1:=H_ (show∀z,Calls Tryz.prog 138 #[.slice A5 n5 c5] (f z) (λe w''=>e= .returned (.int .i64 (lsz ssz y.body:Nat))/\∃z',w''=f z')from λz=>
      (oC _ y.body A5 n5 c5 (f z) G (AB _) (hsb.aA (hGf z)) (hGs z) (by omega)).mono λe w'' ⟨h1,h2⟩=>⟨h1,hcov _ ((hf' z).trans (h2.mono (hf' z).size))⟩)
     have e1:=λz=>(hq1.below (hf' z) (by omega)).k1;have e2:=λz=>(hq1.below (hf' z) (by omega)).k2;have HF:=H_ (λz=>hB2.trans ((hf' z).mono hB2.size));have HCOV:=H_ hcov;obtain⟨v1,hv1⟩:∃v,lsz ssz y.body=v:=⟨_,rfl⟩;rw[hv1]at C1 htk' hcy;obtain⟨v2,hv2⟩:∃v,lsz dz (x.methods.take r)=v:=⟨_,rfl⟩;rw[hv2]at htk' hler⊢;clear hat' hsp hsb hS2 hf' hcov hGf hGs hk1 hB2 hq1 HBi;go_upto_region 9 with fail;clear hw2;refine ah f (by kernel_rfl) (by kernel_rfl) (HCOV.out _ (AC _ _).drew) ?_;repeat (go_big_quiet_step ((go_at_call 138;exact C1.out _)))
     refine BL ?_;rintro _ ⟨z,rfl⟩;go_wp2_with fail;go_roundw
     case rel=>exact⟨r+1,by omega,by go_num,by rw[htk'];go_num,H_ (HF.out z)⟩
     case measure=>simp[intOf];omega
    ·obtain rfl:r=n3:=by omega
     have ht:x.methods.take r=x.methods:=AK (by omega);rw[ht];have B3:=H_ (B1.out.trans (HBi.out.mono (by have:=B1.out.size;omega)));obtain⟨v1,hv1⟩:∃v,lsz dz x.methods=v:=⟨_,rfl⟩;rw[hv1]at hm0⊢;clear HBi;go_wp2_with fail;go_roundw
     case rel=>exact⟨k+1,by omega,by go_num,by rw[htk,hsx,<-hm0,hmm];go_num,B3⟩
     case measure=>simp[intOf];omega
  ·obtain rfl:k=m:=by omega
   go_wp2_with fail;go_ret;have ht:xs.take k=xs:=AK (by omega);rw[ht,<-h0,hm];exact⟨rfl,hp▸B0.out.trans (HB.out.mono (by omega))⟩
end
end Go.Proofs.YtjpbckbpeblibaaGreatDoor
