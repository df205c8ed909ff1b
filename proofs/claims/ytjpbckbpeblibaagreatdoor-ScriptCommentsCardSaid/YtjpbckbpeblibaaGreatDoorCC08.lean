/- part of a proof -/
import Derived.Test.YtjpbckbpeblibaaGreatDoorCC07
import Derived.ArgAppend
namespace Go.Proofs.YtjpbckbpeblibaaGreatDoor
set_option linter.unusedVariables false
set_option linter.unusedSimpArgs false
set_option maxRecDepth 100000
set_option maxHeartbeats 64000000
section
open Go.RowKit
variable{A:Option Addr}{B base g i o:Nat}{G Z:Nat->Prop}{T:List Tk}{W w w' w2:World}{a d e u v v0 v1 v2 v3 v4:Value}{α:Type}
theorem Fy:type_of% @decide_eq_false:=@decide_eq_false
theorem Fz:type_of% @Option.getD_some:=@Option.getD_some
theorem Bx.aG{p:Nat}(h:Bx B p w w2)(hg:B<=g\/g=p)(v:Value):Bx B p w (w2.setCell ⟨g,o,none⟩ v):=h.setCell (q:=⟨g,o,none⟩) hg v
theorem bx1{p:Nat}(e:w.setCell ⟨p,o,none⟩ v=w'):Bx w.heap.size p w w':=e▸(Bx.refl _ _ _).aG (.inr rfl) _
theorem oS{a b:Int}(h:¬a=b):(a==b)=false:=DM.2 h
theorem qi{f:Nat->R α}(i:Nat)(x:List α)(j:Nat)(hup:Up f)(h:bZ T f i= .ok x j):i<j:=by
 have:=jL (sz:=λ_=>0) (λi x j h=>by have:=hup i x j h;simp;omega) i x j h;omega
theorem Vec.slice{K:Kd α}{E n c:Nat}{xs:List α}(h:Vec K E base Z w (.slice A n c) xs)(hb:xs.length<=BD):Sl K w (NG base Z w) xs A n:=by
 obtain⟨A',c',h1,h2⟩:=h.sl hb;simp only[Value.slice.injEq]at h1;obtain⟨rfl,rfl,rfl⟩:=h1;exact h2
theorem tm(w:World)(G:Nat->Prop)(k z:Int)(nm:ByteArray):ExC w G (.mk k 0 z nm false []) [.int .i64 k,.int .i64 0,.int .i64 z,.string nm,.bool false,.slice none 0 0]:=ExC.of k 0 z nm false 0 (Sl.nil _ _ _)
section
variable{T:List Tk}{rec:Nat->Nat->R Ex}{i:Nat}
theorem rI(HR:∀j,i<j->RdAt rvE 293 T (rec 0) j)(HU:∀j,i<j->RdAt rvE 303 T (rec 6) j)(hup:Up (rec 0)):RdAt rvE 296 T (aw T rec) i:=by
 intro p c A w h;have hp:=h.aE.lt;obtain⟨w0,hw0,q0,b0,P0⟩:=nn h;have HWF:=H_ h.wf;have hiT:=h.lt;have hT:=h.wf.few;have Q0:=H_ q0;have B0:=H_ b0;have HP0:=H_ P0;have HR':=H_ HR;have HU':=H_ HU;have HUP:=H_ hup;clear h HR HU hup q0 b0 P0;go_enter Tryz.func296,Tryz.ntmps296;go_upto_region 1 with(fail);have hsz:=B0.out.size;have hg0:=Q0.out.lt;obtain⟨g,hgz⟩:=nm_ (w.heap.size);rw[hgz]at Q0 hg0⊢;clear hw0;go_wp2_with fail;refine(gG p i c A T w0 HP0.out).mono ?_;rintro e' w1 ⟨rfl,b1⟩;have P1:=HP0.out.below b1;replace b1:Bx w0.heap.size p w0 w1:=Bx.of b1;obtain⟨hs1,B1,Q1,hg1⟩:=fr1 B0 Q0 b1;have HP1:=H_ P1;clear Q0 B0 HP0 P1 b1;unfold tkV;obtain⟨⟨k,s,z,q⟩,htk⟩:∃x,tk T i=x:=⟨_,rfl⟩;rw[htk];simp only;have HTK:=H_ htk;clear htk;go_upto_region 2 with fail;obtain⟨e,hez⟩:=nm_ (w1.heap.size);rw[hez];obtain⟨w2,hw2⟩:=nm_ (w1.alloc (.cells #[.int .i64 k,.string s,.int .i64 z,.int .i64 q] 162));have E2:=H_ (show Blk w2 e 162 _ from hw2▸hez▸Blk.new w1 162 #[.int .i64 k,.string s,.int .i64 z,.int .i64 q]);have b2:Bx w1.heap.size p w1 w2:=bxn hw2;have P2:=HP1.out.al hw2;obtain⟨hs2,B2,Q2,hg2⟩:=fr1 B1 Q1 b2;have HP2:=H_ P2;clear Q1 B1 HP1 P2 b2;rw[hw2];clear hw2;have e0:=E2.out.k0;have e2:=E2.out.k2;by_cases h1:k=1
 ·subst h1;have HI:=H_ (HWF.out.next hiT (by rw[HTK.out];show(1:Int)≠0;decide));have p1:=HP2.out.aE.k1;have pf:=HP2.out.aE.frozen 1;have hpe:p≠e:=by omega
  have hep:e≠p:=by omega
  have hpg:p≠g:=by omega
  have hgp:g≠p:=by omega
  obtain⟨⟨c0,c1,c2,c3,c4,c5⟩,f0,f1,f2,f3,f4,f5⟩:=Q2.out.aC;go_wp2_with fail;have P3:=HP2.out.move HI.out;simp only[Int.natCast_add,Int.cast_ofNat_Int]at P3;have Q3:Blk (w2.setCell ⟨p,1,none⟩ (.int .i64 (i+1))) g 172 _:=(DZ _ _ _ _ (by show g≠p;omega)).trans Q2.out;have B3:=B2.out.aG (o:=1) (.inr rfl) (.int .i64 (i+1));obtain⟨N1,N2⟩:=gv Q3 (.int .i64 0) (.int .i64 0) (.int .i64 z) (.string ⟨#[]⟩) (.bool false) (.slice none 0 0);exact fW rfl (by simp) N1 (Out.ok (by unfold aw;rw[HTK.out];rfl) ⟨_,rfl,tm _ _ 0 z ⟨#[]⟩⟩ (P3.put N2 (by omega)) (B3.put N2 (by omega) (DK _)))
 ·have h1':=oS h1;by_cases h2:k=2
  ·subst h2;have hsp:aw T rec i= .ok (fb 3 s) (i+1):=by unfold aw;rw[HTK.out];rfl
   have hw:bO T 2 i= .ok s (i+1):=by unfold bO;rw[HTK.out];rfl
   have HSP:=H_ hsp;have HN:=H_ (λW=>zv hw (p:=p) (c:=c) (A:=A) W);clear hsp hw;go_wp2_with fail;refine(HN.out _ HP2.out).mono ?_;rintro e' w3 ⟨rfl,P3,b3⟩;obtain⟨hs3,B3,Q3,hg3⟩:=fr1 B2 Q2 b3;have HP3:=H_ P3;clear Q2 B2 HP2 P3 b3;obtain⟨⟨c0,c1,c2,c3,c4,c5⟩,f0,f1,f2,f3,f4,f5⟩:=Q3.out.aC;go_wp2_with fail;obtain⟨N1,N2⟩:=gv Q3.out (.int .i64 3) (.int .i64 0) (.int .i64 0) (.string s) (.bool false) (.slice none 0 0);exact fW rfl (by simp) N1 (Out.ok HSP.out ⟨_,rfl,tm _ _ 3 0 s⟩ (HP3.out.put N2 (by omega)) (B3.out.put N2 (by omega) (DK _)))
  ·have h2':=oS h2;have HK:=H_ (show(tk T i).1≠1/\(tk T i).1≠2 by rw[HTK.out];exact⟨h1,h2⟩);clear HTK;go_wp2_with fail;refine bg HP2.out gJ (λht w3 P3 b3=>?_) (λht w3 P3 b3=>?_)
   ·obtain⟨hs3,B3,Q3,hg3⟩:=fr1 B2 Q2 b3;have HP3:=H_ P3;have HT:=H_ ht;clear Q2 B2 HP2 P3 b3 ht;obtain⟨⟨c0,c1,c2,c3,c4,c5⟩,f0,f1,f2,f3,f4,f5⟩:=Q3.out.aC;go_wp2_with fail;obtain⟨N1,N2⟩:=gv Q3.out (.int .i64 1) (.int .i64 0) (.int .i64 0) (.string ⟨#[]⟩) (.bool false) (.slice none 0 0);exact fW rfl (by simp) N1 (Out.ok (by unfold aw;rw[DS HK.out.1,DS HK.out.2];rw[Ed HT.out];rfl) ⟨_,rfl,tm _ _ 1 0 ⟨#[]⟩⟩ (HP3.out.put N2 (by omega)) (B3.out.put N2 (by omega) (DK _)))
   ·obtain⟨hs3,B3,Q3,hg3⟩:=fr1 B2 Q2 b3;have HP3:=H_ P3;have HN2:=H_ ht;clear Q2 B2 HP2 P3 b3 ht;go_wp2_with fail;refine bg HP3.out ew (λht w4 P4 b4=>?_) (λht w4 P4 b4=>?_)
    ·obtain⟨hs4,B4,Q4,hg4⟩:=fr1 B3 Q3 b4;have HP4:=H_ P4;have HT:=H_ ht;clear Q3 B3 HP3 P4 b4 ht;obtain⟨⟨c0,c1,c2,c3,c4,c5⟩,f0,f1,f2,f3,f4,f5⟩:=Q4.out.aC;go_wp2_with fail;obtain⟨N1,N2⟩:=gv Q4.out (.int .i64 2) (.int .i64 0) (.int .i64 0) (.string ⟨#[]⟩) (.bool false) (.slice none 0 0);exact fW rfl (by simp) N1 (Out.ok (by unfold aw;rw[DS HK.out.1,DS HK.out.2];rw[DS (show ¬isT T gJ i=true from by rw[HN2.out];simp)];rw[Ed HT.out];rfl) ⟨_,rfl,tm _ _ 2 0 ⟨#[]⟩⟩ (HP4.out.put N2 (by omega)) (B4.out.put N2 (by omega) (DK _)))
    ·obtain⟨hs4,B4,Q4,hg4⟩:=fr1 B3 Q3 b4;have HP4:=H_ P4;have HN3:=H_ ht;clear Q3 B3 HP3 P4 b4 ht;go_wp2_with fail;refine bg HP4.out cG (λht w5 P5 b5=>?_) (λht w5 P5 b5=>?_)
     ·obtain⟨hs5,B5,Q5,hg5⟩:=fr1 B4 Q4 b5;have HP5:=H_ P5;have HT:=H_ ht;clear Q4 B4 HP4 P5 b5 ht;go_wp2_with fail;refine Out.use (HR'.out (i+1) (by omega) p c A w5 HP5.out) (λj w6 hr b6=>?_) (λx j v w6 hr hv P6 b6=>?_)
      ·exact⟨rfl,Out.bad (by unfold aw;rw[DS HK.out.1,DS HK.out.2];rw[DS (show ¬isT T gJ i=true from by rw[HN2.out];simp)];rw[DS (show ¬isT T ew i=true from by rw[HN3.out];simp)];rw[Ed HT.out];rw[hr]) (B5.out.aB b6)⟩
      ·obtain⟨k1,op1,z1,nm1,at1,A1,n1,c1,rfl,hv'⟩:=ExV.inv hv;have HV:=H_ hv';have HRR:=H_ hr;clear hv hv' hr;obtain⟨hs6,B6,Q6,hg6⟩:=fr1 B5 Q5 b6;have HP6:=H_ P6;clear Q5 B5 HP5 P6 b6;go_upto_region 13 with fail;obtain⟨f,hfz⟩:=nm_ (w6.heap.size);rw[hfz];obtain⟨w7,hw7⟩:=nm_ (w6.alloc (.cells #[.int .i64 k1,.int .i64 op1,.int .i64 z1,.string nm1,.bool at1,.slice A1 n1 c1] 172));have F7:=H_ (show Blk w7 f 172 _ from hw7▸hfz▸Blk.new w6 172 #[.int .i64 k1,.int .i64 op1,.int .i64 z1,.string nm1,.bool at1,.slice A1 n1 c1]);have b7:Bx w6.heap.size p w6 w7:=bxn hw7;have P7:=HP6.out.al hw7;have V7:=H_ (ExC.aA (G':=NG g (two g f) w7) (λb hb=>⟨⟨by have:=hb.1;omega,DR hb.2 b7.size,λh=>by have:=hb.1;have:=hb.2;unfold two at h;omega⟩,b7.block b hb.2 (by have:=hb.1;omega)⟩) HV.out);obtain⟨hs7,B7,Q7,hg7⟩:=fr1 B6 Q6 b7;have HP7:=H_ P7;clear Q6 B6 HP6 P7 b7;rw[hw7];clear hw7 HV;go_wp2_with fail;refine bV (s:=da) (HP7.out.alloc _) ((Blk.new w7 _ _).cell 0) (λj8 w8 hr b8=>?_) (λj8 w8 hr P8 b8=>?_)
       ·exact⟨rfl,Out.bad (by unfold aw;rw[DS HK.out.1,DS HK.out.2];rw[DS (show ¬isT T gJ i=true from by rw[HN2.out];simp)];rw[DS (show ¬isT T ew i=true from by rw[HN3.out];simp)];rw[Ed HT.out];rw[HRR.out];simp only;rw[show bj T da j= .bad j8 from hr]) ((B7.out.new _ (DK _)).aB b8)⟩
       ·have HR8:=H_ hr;replace b8:=((Bx.refl w7.heap.size p w7).new _ (DK _)).aB b8;have F8:=H_ (F7.out.bx b8 F7.out.lt (by omega));have V8:=H_ (ExC.aA (G':=NG g (two g f) w8) (λb hb=>⟨hb.mono b8.size,b8.block b hb.2.1 (by have:=hb.1;omega)⟩) V7.out);clear hr F7 V7;obtain⟨hs8,B8,Q8,hg8⟩:=fr1 B7 Q7 b8;have HP8:=H_ P8;clear Q7 B7 HP7 P8 b8;obtain⟨x0,x1,x2,x3,x4,x5⟩:=F8.out.aC.1;obtain⟨⟨c0,c1',c2,c3,c4,c5⟩,f0,f1,f2,f3,f4,f5⟩:=Q8.out.aC;go_wp2_with fail;obtain⟨N1,N2⟩:=gv Q8.out (.int .i64 k1) (.int .i64 op1) (.int .i64 z1) (.string nm1) (.bool at1) (.slice A1 n1 c1);exact fW rfl (by simp) N1 (Out.ok (by unfold aw;rw[DS HK.out.1,DS HK.out.2];rw[DS (show ¬isT T gJ i=true from by rw[HN2.out];simp)];rw[DS (show ¬isT T ew i=true from by rw[HN3.out];simp)];rw[Ed HT.out];rw[HRR.out];simp only;rw[HR8.out]) ⟨_,rfl,V8.out.aA (λb hb=>⟨⟨by have:=hb.1;omega,DR hb.2.1 N2.size⟩,N2.block b hb.2.1 (λh=>hb.2.2 (.inl h))⟩)⟩ (HP8.out.put N2 (by omega)) (B8.out.put N2 (by omega) (DK _)))
     ·obtain⟨hs5,B5,Q5,hg5⟩:=fr1 B4 Q4 b5;have HP5:=H_ P5;have HN4:=H_ ht;clear Q4 B4 HP4 P5 b5 ht;have HSP:=H_ (show aw T rec i=lu T rec i by unfold aw;rw[DS HK.out.1,DS HK.out.2];rw[DS (show ¬isT T gJ i=true from by rw[HN2.out];simp)];rw[DS (show ¬isT T ew i=true from by rw[HN3.out];simp)];rw[DS (show ¬isT T cG i=true from by rw[HN4.out];simp)]);clear HN2 HN3 HN4 HK;go_wp2_with fail;refine bV (s:=dx) (HP5.out.alloc _) ((Blk.new w5 _ _).cell 0) (λj6 w6 hr b6=>?_) (λj6 w6 hr P6 b6=>?_)
      ·exact⟨rfl,Out.bad (by rw[HSP.out];unfold lu;rw[show bj T dx i= .bad j6 from hr]) ((B5.out.new _ (DK _)).aB b6)⟩
      ·have H6:=H_ hr;have hij6:=(cQ hr).2;replace b6:=((Bx.refl w5.heap.size p w5).new _ (DK _)).aB b6;clear hr;obtain⟨hs6,B6,Q6,hg6⟩:=fr1 B5 Q5 b6;have HP6:=H_ P6;clear Q5 B5 HP5 P6 b6;go_wp2_with fail;refine Out.use (po HP6.out 3 (by decide)) (λj7 w7 hr b7=>?_) (λs7 j7 v w7 hr hv P7 b7=>?_)
       ·exact⟨rfl,Out.bad (by rw[HSP.out];unfold lu;rw[H6.out];simp only;rw[hr]) (B6.out.aB b7)⟩
       ·obtain rfl:v= .string s7:=hv;have H7:=H_ hr;have hij7:=(dI hr).2.2;clear hr;obtain⟨hs7,B7,Q7,hg7⟩:=fr1 B6 Q6 b7;have HP7:=H_ P7;clear Q6 B6 HP6 P7 b7;go_upto_region 17 with fail;obtain⟨f,hfz⟩:=nm_ (w7.heap.size);rw[hfz];obtain⟨w8,hw8⟩:=nm_ (w7.alloc (.cells #[.int .i64 5,.int .i64 0,.int .i64 0,.string s7,.bool false,.slice none 0 0] 172));have F8:=H_ (show Blk w8 f 172 _ from hw8▸hfz▸Blk.new w7 172 #[.int .i64 5,.int .i64 0,.int .i64 0,.string s7,.bool false,.slice none 0 0]);have b8:Bx w7.heap.size p w7 w8:=bxn hw8;have P8:=HP7.out.al hw8;obtain⟨hs8,B8,Q8,hg8⟩:=fr1 B7 Q7 b8;have HP8:=H_ P8;clear Q7 B7 HP7 P8 b8;rw[hw8];clear hw8;have hf8:=F8.out.lt;have HLL:=H_ (ti (n:=293) (f:=rec 0) (λ_ _=>by kernel_rfl) (λj hj=>HR'.out j (by omega)) HUP.out p c A w8 HP8.out);go_wp2_with fail;refine Out.use HLL.out (λj9 w9 hr b9=>?_) (λxs j9 v w9 hr hv P9 b9=>?_)
        ·exact⟨rfl,Out.bad (by rw[HSP.out];unfold lu;rw[H6.out];simp only;rw[H7.out];simp only;rw[hr]) (B8.out.aB b9)⟩
        ·obtain⟨⟨hvec,hxl⟩,_⟩:=hv;have hij9:=qi _ _ _ HUP.out hr;obtain⟨A9,c9,rfl,hs9'⟩:=hvec.sl (by unfold BD;omega);have V9:=H_ hvec;have H9:=H_ hr;have F9:=hbx F8 b9 hf8;clear hr hvec hs9' F8 HLL;obtain⟨hs9,B9,Q9,hg9⟩:=fr1 B8 Q8 b9;have HP9:=H_ P9;clear Q8 B8 HP8 P9 b9;have hf9:=F9.out.lt;obtain⟨f0',f1',f2',f3',f4',f5'⟩:=F9.out.aC.2;have x5:=F9.out.k5;go_upto_region 18 with fail;obtain⟨w10,hw10⟩:=nm_ (w9.setCell ⟨f,5,none⟩ (.slice A9 xs.length c9));have bw:=bx1 hw10;have F10:=H_ (show Blk w10 f 172 #[.int .i64 5,.int .i64 0,.int .i64 0,.string s7,.bool false,.slice A9 xs.length c9]from hw10▸F9.out.set 5 _);have Q10:=hbx Q9 bw hg9;have HP10:=H_ (HP9.out.put bw (by omega));have B10:=H_ (B9.out.put bw (by omega) (DK _));have V10:=hvk V9 bw;have hs10:=bw.size;have hg10:=Q10.out.lt;have hf10:=F10.out.lt;rw[hw10];clear hw10 bw F9 Q9 HP9 B9 V9;go_wp2_with fail;refine bg HP10.out kAt (λht w11 P11 b11=>?_) (λht w11 P11 b11=>?_)
         ·have F11:=hbx F10 b11 hf10;have V11:=hvk V10 b11;clear F10 V10;obtain⟨hs11,B11,Q11,hg11⟩:=fr1 B10 Q10 b11;have HP11:=H_ P11;have HT:=H_ ht;clear Q10 B10 HP10 P11 b11 ht;have a4:=F11.out.k4;have a4f:=F11.out.frozen 4;have hf11:=F11.out.lt;go_upto_region 20 with fail;obtain⟨w12,hw12⟩:=nm_ (w11.setCell ⟨f,4,none⟩ (.bool true));have bw:=bx1 hw12;have F12:=H_ (show Blk w12 f 172 #[.int .i64 5,.int .i64 0,.int .i64 0,.string s7,.bool true,.slice A9 xs.length c9]from hw12▸F11.out.set 4 _);have Q12:=hbx Q11 bw hg11;have HP12:=H_ (HP11.out.put bw (by omega));have B12:=H_ (B11.out.put bw (by omega) (DK _));have V12:=hvk V11 bw;have hs12:=bw.size;have hg12:=Q12.out.lt;have hf12:=F12.out.lt;rw[hw12];clear hw12 bw F11 Q11 HP11 B11 V11;obtain⟨y,jy,hsj⟩:=R.known (rec 6 (j9+1)) (ge 0)
          refine cv 3 5 (λys=>{tmps:= #[.pointer (some ⟨p,0,none⟩),undef,.pointer (some ⟨g,0,none⟩),.pointer (some ⟨e,0,none⟩),undef,.pointer (some ⟨f,0,none⟩),.pointer (some ⟨p,0,none⟩),.agg #[.int .i64 k,.string s,.int .i64 z,.int .i64 q],.bool false,.pointer (some ⟨e,0,none⟩),.int .i64 k,.bool false,undef,undef,undef,undef,undef,undef,undef,undef,undef,undef,.bool false,.pointer (some ⟨e,0,none⟩),.int .i64 k,.bool false,undef,undef,undef,.bool false,.pointer (some ⟨p,0,none⟩),.bool false,undef,.bool false,.pointer (some ⟨p,0,none⟩),.bool false,undef,.bool false,.pointer (some ⟨p,0,none⟩),.bool false,undef,undef,undef,undef,undef,undef,.pointer (some ⟨p,0,none⟩),.slice (some ⟨w5.heap.size,0,none⟩) 1 1,.tuple #[],.pointer (some ⟨p,0,none⟩),.string s7,.agg #[.int .i64 5,.int .i64 0,.int .i64 0,.string s7,.bool false,.slice none 0 0],.pointer (some ⟨p,0,none⟩),.pointer (some ⟨p,0,none⟩),.func (.func 293) #[.pointer (some ⟨p,0,none⟩)] #[],.slice A9 xs.length c9,.pointer (some ⟨f,5,none⟩),.pointer (some ⟨p,0,none⟩),.bool true,.pointer (some ⟨f,4,none⟩),(ys 0).getD undef,(ys 1).getD undef,(ys 2).getD undef,(ys 3).getD undef,(ys 4).getD undef,undef,undef,undef],defers:=[]})
           (RJ w12 p A c T (j9+1) jy (rec 6 (j9+1)= .ok y jy)) w12.heap.size
           (λi=>match i with
             |0=>fEq (.pointer (some ⟨f,5,none⟩))
             |1=>fEq (.slice A9 xs.length c9)
             |2=>fEq (.pointer (some ⟨p,0,none⟩))
             |3=>λv W=>ExV W (NG w12.heap.size noZ W) y v
             |_=>λv W=>∃a cs,v= .slice (some ⟨a,0,none⟩) 1 1/\RowA w12.heap.size W a cs.toArray 172/\ExC W (NG w12.heap.size noZ W) y cs)
           (by
             intro k
             match k with
             |0=>exact fEq.st _ _
             |1=>exact fEq.st _ _
             |2=>exact fEq.st _ _
             |3=>exact ExV.st
             |_+4=>exact λ_ _ _ hn ⟨a,cs,h1,h2,h3⟩=>⟨a,cs,h1,h2.nw hn,h3.aA λb hb=>⟨hb.mono hn.size,hn.block b hb.1 hb.2.1⟩⟩)
           (by kernel_rfl) (by kernel_rfl) (by decide) (by kernel_rfl) (by decide) rfl ⟨(Bx.refl _ _ _).drew,HP12.out.drew⟩ ?_ ?_ ?_
          ·intro i' hi hic b ys W hJ hd;obtain rfl|rfl|rfl|rfl:i'=0\/i'=1\/i'=2\/i'=4:=by omega
           ·refine DU rfl λK hK=>?_;go_simp;exact hK _ _ ⟨_,rfl,hJ,rfl,Nw.refl _ _⟩
           ·obtain⟨_,h0,rfl⟩:=hd 0;have d5:=(F12.out.bx hJ.1 hf12 (by omega)).k5;refine DU rfl λK hK=>?_;go_simp;exact hK _ _ ⟨_,by simp only[bG,h0];rfl,hJ,rfl,Nw.refl _ _⟩
           ·refine DU rfl λK hK=>?_;go_simp;exact hK _ _ ⟨_,rfl,hJ,rfl,Nw.refl _ _⟩
           ·obtain⟨_,h3,hy⟩:=hd 3;obtain⟨k',op',z',nm',at',A4,n4,c4,rfl,hy'⟩:=ExV.inv hy;have HY:=H_ hy';have HJ:=H_ hJ;have hb:=(DN W.heap.size W).alloc (DK _) (.cells #[.int .i64 k',.int .i64 op',.int .i64 z',.string nm',.bool at',.slice A4 n4 c4] 172);have HB:=H_ hb;clear hy hy' hJ hb;refine DU rfl λK hK=>?_;go_simp;exact hK _ _ ⟨.slice (some ⟨W.heap.size,0,none⟩) 1 1,by simp only[bG,h3];rfl,HJ.out.below HB.out,⟨W.heap.size,_,rfl,⟨HJ.out.1.size,Blk.new W 172 _⟩,HY.out.aA λb hb'=>⟨hb'.mono HB.out.size,HB.out.block b hb'.2.1⟩⟩,Nw.below HB.out⟩
          ·intro ys W hJ hd;obtain⟨_,h2,rfl⟩:=hd 2;refine DU rfl λK hK=>?_;go_simp;refine Out.use (HU'.out (j9+1) (by omega) p c A W hJ.2) (λj13 w13 hr b13=>?_) (λx' j13 v w13 hr hv P13 b13=>?_)
           ·exact⟨rfl,Out.bad (by rw[HSP.out];unfold lu;rw[H6.out];simp only;rw[H7.out];simp only;rw[H9.out];simp only;rw[Ed HT.out,hr]) (B12.out.trans ((hJ.1.aB b13).mono (by omega)))⟩
           ·obtain⟨rfl,rfl⟩:=hsj _ _ hr;have:=hJ.1.size;exact hK _ _ ⟨v,by simp only[bG,h2];rfl,⟨hJ.1.aB b13,P13,hr⟩,rvC.aA (λb hb=>⟨⟨by have:=hb.1;omega,hb.2,λh=>h⟩,rfl⟩) hv,Nw.of b13 (by omega)⟩
          ·intro ys W hJ hd;obtain⟨_,h0,rfl⟩:=hd 0;obtain⟨_,h1,rfl⟩:=hd 1;obtain⟨_,h2,rfl⟩:=hd 2;obtain⟨v3,h3,_⟩:=hd 3;obtain⟨_,h4,a,cs,rfl,hra,hcs⟩:=hd 4;have hW:=hJ.1.size;have FW:=H_ (F12.out.bx hJ.1 hf12 (by omega));have QW:=H_ (Q12.out.bx hJ.1 hg12 (by omega));have VW:=H_ (V12.out.aA hJ.1.size (λk hk=>hJ.1.block k hk.2.1 (by have:=hk.1;omega)));have HJ:=H_ hJ;have HCS:=H_ hcs;have HRA:=H_ hra;have HLT:=H_ V12.out.lt;clear hJ hcs hra hd F12 Q12 V12;rw[show List.range' 5 _=[5,6,7]from rfl,Fb];refine DU rfl λK hK=>?_;simp only[h0,h1,h2,h3,h4,Fz];rw[Ed (by kernel_rfl)];refine gx sY (.tmp 61) (.tmp 64) rfl VW.out (ys:=[y]) (dss:=[cs]) (b:=a) (off:=0) (c:=1) (m:=1) rfl ?_ ?_ rfl rfl rfl ?_ ?_ ?_ ?_
           ·simpa using At.aE HRA.out.2
           ·intro j' x' cs' h1' h2';cases j' with
            |zero=>
             simp at h1' h2';subst h1' h2';exact HCS.out.aA λb hb=>⟨⟨⟨by have:=hb.1;omega,hb.2.1,λh=>h⟩,λe=>by have:=(HLT.out b e).2;have:=hb.1;omega⟩,rfl⟩
            |succ j'=>simp at h1'
           ·simp;omega
           ·omega
           ·exact λ_ _ h=>h
           ·intro v' w14 hv14 hg14;refine hK _ _ ?_;have hs14:=hg14.size;have hown:∀q,(Value.slice A9 xs.length c9).ownBlock=some q->w8.heap.size<=q:=λq hq=>(HLT.out q hq).1;have F14:=H_ ((hg14.block f FW.out.lt (λe=>by have:=hown f e.symm;omega)).trans FW.out);have Q14:=H_ ((hg14.block g QW.out.lt (λe=>by have:=hown g e.symm;omega)).trans QW.out);have HP14:=H_ (HJ.out.2.1.grown hg14 (λq hq=>by have:=hown q hq;omega));have B14:=H_ ((B12.out.trans (HJ.out.1.mono (by omega))).grown hg14 (by omega) (λq hq=>by have:=hown q hq;omega));have HRJ:=H_ HJ.out.2.2;obtain⟨A15,c15,rfl,_⟩:=hv14.sl (by simp[BD];omega);rw[show(xs++[y]).length=xs.length+1 from by simp]at hv14;have V14:=H_ hv14;clear hv14 hg14 HJ HCS HRA FW QW VW hK K B12 HLT;have x5:w14.cell? ⟨f,5,none⟩=some (.slice A9 xs.length c9):=Blk.cell F14.out 5;have x5f:=Blk.frozen F14.out 5;rw[Fb];refine DU rfl λK hK=>?_;go_simp;refine hK _ _ ?_;rw[Fb];refine DU rfl λK hK=>?_;go_simp;refine hK _ _ ?_;obtain⟨w15,hw15⟩:=nm_ (w14.setCell ⟨f,5,none⟩ (.slice A15 (xs.length+1) c15));have bw:=bx1 hw15;have F15:=H_ (show Blk w15 f 172 #[.int .i64 5,.int .i64 0,.int .i64 0,.string s7,.bool true,.slice A15 (xs.length+1) c15]from hw15▸Blk.set F14.out 5 _);have Q15:=H_ (Blk.bx Q14.out bw (Blk.lt Q14.out) (by omega));have HP15:=H_ (HP14.out.put bw (by omega));have B15:=H_ (B14.out.put bw (by omega) (DK _));have V15:=hvk V14 bw;have hs15:=bw.size;have hg15:=Blk.lt Q15.out;rw[hw15];clear hw15 bw F14 Q14 HP14 B14 V14 x5 x5f hK K;obtain⟨x0,x1,x2,x3,x4,x5'⟩:=(Blk.aC F15.out).1;obtain⟨⟨c0,c1,c2,c3,c4,c5⟩,f0,f1,f2,f3,f4,f5⟩:=Blk.aC Q15.out;unfold wpOps;go_wp2_with fail;obtain⟨N1,N2⟩:=gv Q15.out (.int .i64 5) (.int .i64 0) (.int .i64 0) (.string s7) (.bool true) (.slice A15 (xs.length+1) c15);have HV:=ExC.of 5 0 0 s7 true c15 (V15.out.slice (by simp[BD];omega));exact fW rfl (by simp) N1 (Out.ok (by rw[HSP.out];unfold lu;rw[H6.out];simp only;rw[H7.out];simp only;rw[H9.out];simp only;rw[Ed HT.out,HRJ.out]) ⟨_,rfl,HV.aA (λb hb=>⟨⟨by have:=hb.1;omega,DR hb.2.1 N2.size⟩,N2.block b hb.2.1 (by have:=hb.1;omega)⟩)⟩ (HP15.out.put N2 (by omega)) (B15.out.put N2 (by omega) (DK _)))
         ·have F11:=hbx F10 b11 hf10;have V11:=hvk V10 b11;clear F10 V10;obtain⟨hs11,B11,Q11,hg11⟩:=fr1 B10 Q10 b11;have HP11:=H_ P11;have HT:=H_ ht;clear Q10 B10 HP10 P11 b11 ht;obtain⟨x0,x1,x2,x3,x4,x5'⟩:=F11.out.aC.1;obtain⟨⟨c0,c1,c2,c3,c4,c5⟩,f0,f1,f2,f3,f4,f5⟩:=Q11.out.aC;go_wp2_with fail;obtain⟨N1,N2⟩:=gv Q11.out (.int .i64 5) (.int .i64 0) (.int .i64 0) (.string s7) (.bool false) (.slice A9 xs.length c9);have HV:=ExC.of 5 0 0 s7 false c9 (V11.out.slice (by unfold BD;omega));exact fW rfl (by simp) N1 (Out.ok (by rw[HSP.out];unfold lu;rw[H6.out];simp only;rw[H7.out];simp only;rw[H9.out];simp only;rw[DS (by rw[HT.out];simp)]) ⟨_,rfl,HV.aA (λb hb=>⟨⟨by have:=hb.1;omega,DR hb.2.1 N2.size⟩,N2.block b hb.2.1 (by have:=hb.1;omega)⟩)⟩ (HP11.out.put N2 (by omega)) (B11.out.put N2 (by omega) (DK _)))
end
theorem RdAt.of_lt{rv:Rv α}{n:Nat}{f:Nat->R α}(h:i<T.length->RdAt rv n T f i):RdAt rv n T f i:=λp c A w hP=>h hP.lt p c A w hP
theorem rR{T:List Tk}:∀(n i:Nat),T.length-i<n->∀l,RdAt rvE (fnL l) T (E T n l) i
 |0,i,hi,l=>absurd hi (Nat.not_lt_zero _)
 |n+1,i0,hi0,l=>by
  have hup:∀l,Up (E T n l):=λl=>uZ n l;have HR:∀(l i:Nat),T.length-i<n+1->i<T.length->∀j,i<j->RdAt rvE (fnL l) T (E T n l) j:=λl i hi hiT j hj=>rR n j (by omega) l;have h8:∀i,T.length-i<n+1->RdAt rvE 296 T (aw T (E T n)) i:=λi hi=> .of_lt λhiT=>rI (HR 0 i hi hiT) (HR 6 i hi hiT) (hup 0);have h7:∀i,T.length-i<n+1->RdAt rvE 309 T (cj T (E T n)) i:=λi hi=>rA (h8 i hi) ((im (λl=>pi n l)).up bE);have h6:∀i,T.length-i<n+1->RdAt rvE 303 T (co T (E T n)) i:=λi hi=> .of_lt λhiT=>vw (h7 i hi) (HR 6 i hi hiT);have h5:∀i,T.length-i<n+1->RdAt rvE 313 T (fx T (E T n)) i:=λi hi=>rx (λj hj=>h6 j (by omega)) ((kh (λl=>pi n l)).up bE);have h4:∀i,T.length-i<n+1->RdAt rvE 312 T (jb T (E T n)) i:=λi hi=>AT (λj hj=>h5 j (by omega)) ((il (λl=>pi n l)).up bE);have h3:∀i,T.length-i<n+1->RdAt rvE 311 T (cz T (E T n)) i:=λi hi=>sm (λj hj=>h4 j (by omega)) ((lC (λl=>pi n l)).up bE);have h2:∀i,T.length-i<n+1->RdAt rvE 308 T (iO T (E T n)) i:=λi hi=> .of_lt λhiT=>Bo (h3 i hi) (HR 2 i hi hiT);have h1:∀i,T.length-i<n+1->RdAt rvE 301 T (sC T (E T n)) i:=λi hi=>Cc (λj hj=>h2 j (by omega)) ((oD (λl=>pi n l)).up bE);have h0:∀i,T.length-i<n+1->RdAt rvE 293 T (tF T (E T n)) i:=λi hi=>zU (λj hj=>h1 j (by omega)) ((oZ (λl=>pi n l)).up bE)
  match l with
  |0=>exact h0 i0 hi0
  |1=>exact h1 i0 hi0
  |2=>exact h2 i0 hi0
  |3=>exact h3 i0 hi0
  |4=>exact h4 i0 hi0
  |5=>exact h5 i0 hi0
  |6=>exact h6 i0 hi0
  |7=>exact h7 i0 hi0
  |_+8=>exact h8 i0 hi0
theorem Blk.aD{t:TypeId}{b c:Value}(h:Blk w g t #[a,b,c,d,e]):
 (w.cell? ⟨g,0,none⟩=some a/\w.cell? ⟨g,1,none⟩=some b/\w.cell? ⟨g,2,none⟩=some c/\w.cell? ⟨g,3,none⟩=some d/\w.cell? ⟨g,4,none⟩=some e)/\
 w.frozen? ⟨g,0,none⟩=false/\w.frozen? ⟨g,1,none⟩=false/\w.frozen? ⟨g,2,none⟩=false/\w.frozen? ⟨g,3,none⟩=false/\w.frozen? ⟨g,4,none⟩=false:=
 ⟨⟨h.cell 0,h.cell 1,h.cell 2,h.cell 3,h.cell 4⟩,h.frozen 0,h.frozen 1,h.frozen 2,h.frozen 3,h.frozen 4⟩
theorem jf{t:TypeId}{b c:Value}(q:Blk w g t #[a,b,c,d,e])(a' b' c' d' e':Value):
 Blk (((((w.setCell ⟨g,0,none⟩ a').setCell ⟨g,1,none⟩ b').setCell ⟨g,2,none⟩ c').setCell ⟨g,3,none⟩ d').setCell ⟨g,4,none⟩ e') g t #[a',b',c',d',e']/\
 Bx w.heap.size g w (((((w.setCell ⟨g,0,none⟩ a').setCell ⟨g,1,none⟩ b').setCell ⟨g,2,none⟩ c').setCell ⟨g,3,none⟩ d').setCell ⟨g,4,none⟩ e'):=
 ⟨((((q.set 0 a').set 1 b').set 2 c').set 3 d').set 4 e',(((((Bx.refl _ _ _).aG (.inr rfl) _).aG (.inr rfl) _).aG (.inr rfl) _).aG (.inr rfl) _).aG (.inr rfl) _⟩
theorem x9{p c:Nat}(h:PS w p A c T i):
 ∃w0,w.alloc (.cells #[.int .i64 0,.string ⟨#[]⟩,.slice none 0 0,.slice none 0 0,.slice none 0 0] 168)=w0/\Blk w0 w.heap.size 168 #[.int .i64 0,.string ⟨#[]⟩,.slice none 0 0,.slice none 0 0,.slice none 0 0]/\Bx w.heap.size p w w0/\PS w0 p A c T i:=
 ⟨_,rfl,Blk.new w 168 _,(Bx.refl _ _ _).new _ (DK _),h.alloc _⟩
theorem zR:(Tryz.prog.info? 168).map (·.size)=some 5:=by kernel_rfl
theorem iN{fn:Func}{s:Tmp}{tmps:Array Value}{R:Ending->World->Prop}(hf:fn.results= #[.cell s 168])(hs:tmps.getD s undef= .pointer (some ⟨g,0,none⟩))(q:Blk W g 168 #[v0,v1,v2,v3,v4])
 (hR:R (.returned (.agg #[v0,v1,v2,v3,v4])) W):bodyPost Tryz.prog fn R .ret {tmps:=tmps,defers:=[]} W:=
 rm g 168 _ _ hf hs q Tryz.underlying168 rfl zR hR
abbrev rvS:Rv St:=rvC kSt
theorem SV.inv{x:St}(h:rvS w G x v):
 ∃k nm A n c A2 n2 c2 A3 n3 c3,v= .agg #[.int .i64 k,.string nm,.slice A n c,.slice A2 n2 c2,.slice A3 n3 c3]/\StC w G x [.int .i64 k,.string nm,.slice A n c,.slice A2 n2 c2,.slice A3 n3 c3]:=by
 obtain⟨cs,rfl,h2⟩:=h;obtain⟨k,nm,ex,b,e⟩:=x;obtain⟨A,n,c,A2,n2,c2,A3,n3,c3,rfl,_⟩:=StC.inv h2;exact⟨k,nm,A,n,c,A2,n2,c2,A3,n3,c3,rfl,h2⟩
theorem NG.put{b:Nat}(bw:Bx w.heap.size g w W)(hg:Z g)(hb:NG base Z w b):NG base Z W b/\W.heap[b]?=w.heap[b]?:=⟨hb.mono bw.size,bw.block b hb.2.1 (λe=>hb.2.2 (e▸hg))⟩
theorem Ar{x:Ex}{v5 o0 o1 o2 o3 o4:Value}(q:Blk w2 g 168 #[o0,o1,o2,o3,o4])(hx:ExC w2 G x [v0,v1,v2,v3,v4,v5])(hG:∀b,G b->b<w2.heap.size/\b≠g)
 (k:Int) (nm:ByteArray) (W:World) (hW:W=(((((w2.setCell ⟨g,0,none⟩ (.int .i64 k)).setCell ⟨g,1,none⟩ (.string nm)).setCell ⟨g,2,none⟩ (.slice (some ⟨w2.heap.size,0,none⟩) 1 1)).setCell ⟨g,3,none⟩ (.slice none 0 0)).setCell ⟨g,4,none⟩ (.slice none 0 0)).alloc (.cells #[v0,v1,v2,v3,v4,v5] 172)):
 Blk W g 168 #[.int .i64 k,.string nm,.slice (some ⟨w2.heap.size,0,none⟩) 1 1,.slice none 0 0,.slice none 0 0]/\Bx w2.heap.size g w2 W/\
 StC W (λb=>G b\/(b=w2.heap.size/\b<W.heap.size)) (stE k nm [x]) [.int .i64 k,.string nm,.slice (some ⟨w2.heap.size,0,none⟩) 1 1,.slice none 0 0,.slice none 0 0]:=by
 have h1:=jf q (.int .i64 k) (.string nm) (.slice (some ⟨w2.heap.size,0,none⟩) 1 1) (.slice none 0 0) (.slice none 0 0);have hs:(((((w2.setCell ⟨g,0,none⟩ (.int .i64 k)).setCell ⟨g,1,none⟩ (.string nm)).setCell ⟨g,2,none⟩ (.slice (some ⟨w2.heap.size,0,none⟩) 1 1)).setCell ⟨g,3,none⟩ (.slice none 0 0)).setCell ⟨g,4,none⟩ (.slice none 0 0)).heap.size=w2.heap.size:=by simp
 generalize(((((w2.setCell ⟨g,0,none⟩ (.int .i64 k)).setCell ⟨g,1,none⟩ (.string nm)).setCell ⟨g,2,none⟩ (.slice (some ⟨w2.heap.size,0,none⟩) 1 1)).setCell ⟨g,3,none⟩ (.slice none 0 0)).setCell ⟨g,4,none⟩ (.slice none 0 0))=V at h1 hs hW;subst hW;have hb:=h1.2.alloc (by omega) (.cells #[v0,v1,v2,v3,v4,v5] 172);refine⟨h1.1.alloc _,hb,?_⟩;refine StC.of k nm 1 0 0 ?_ (Sl.nil _ _ _) (Sl.nil _ _ _);rw[<-hs];exact kj (K:=kEx) (Blk.new V 172 #[v0,v1,v2,v3,v4,v5]) (.inr ⟨rfl,by simp⟩) (ExC.aA (λb hb'=>⟨.inl hb',hb.block b (hG b hb').1 (hG b hb').2⟩) hx)
section
variable{T:List Tk}{ex:Nat->Nat->R Ex}{st:Nat->R St}{i:Nat}
theorem uX(HX:∀j,i<j->RdAt rvE 293 T (ex 0) j)(k:Int)(p c:Nat)(A:Option Addr)(w:World)(h:PS w p A c T i):
 Calls Tryz.prog 294 #[.pointer (some ⟨p,0,none⟩),.int .i64 k] w (Out rvS p A c T w (dm T ex k i)):=by
 have hp:=h.aE.lt;obtain⟨w0,hw0,q0,b0,P0⟩:=x9 h;have Q0:=H_ q0;have B0:=H_ b0;have HP0:=H_ P0;have HX':=H_ HX;clear h HX q0 b0 P0;go_enter Tryz.func294,Tryz.ntmps294;go_upto_region 1 with(fail);have hsz:=B0.out.size;have hg0:=Q0.out.lt;obtain⟨g,hgz⟩:=nm_ (w.heap.size);rw[hgz]at Q0 hg0⊢;clear hw0;go_wp2_with fail;refine Out.use (ep HP0.out) (λj w1 hr b1=>?_) (λs j v w1 hr hv P1 b1=>?_)
 ·exact⟨rfl,Out.bad (by unfold dm;rw[hr]) (B0.out.aB b1)⟩
 ·obtain rfl:v= .string s:=hv;have H1:=H_ hr;have hij:=(dI hr).2.2;clear hr;obtain⟨hs1,B1,Q1,hg1⟩:=fr1 B0 Q0 b1;have HP1:=H_ P1;clear Q0 B0 HP0 P1 b1;go_wp2_with fail;refine bV (s:=bL) (HP1.out.alloc _) ((Blk.new w1 _ _).cell 0) (λj2 w2 hr b2=>?_) (λj2 w2 hr P2 b2=>?_)
  ·exact⟨rfl,Out.bad (by unfold dm;rw[H1.out];simp only;rw[show bj T bL j= .bad j2 from hr]) ((B1.out.new _ (DK _)).aB b2)⟩
  ·have H2:=H_ hr;have hij2:=(cQ hr).2;replace b2:=((Bx.refl w1.heap.size p w1).new _ (DK _)).aB b2;clear hr;obtain⟨hs2,B2,Q2,hg2⟩:=fr1 B1 Q1 b2;have HP2:=H_ P2;clear Q1 B1 HP1 P2 b2;go_wp2_with fail;refine Out.use (HX'.out j2 (by omega) p c A w2 HP2.out) (λj3 w3 hr b3=>?_) (λx j3 v w3 hr hv P3 b3=>?_)
   ·exact⟨rfl,Out.bad (by unfold dm;rw[H1.out];simp only;rw[H2.out];simp only;rw[hr]) (B2.out.aB b3)⟩
   ·obtain⟨k1,op1,z1,nm1,at1,A1,n1,c1',rfl,hv'⟩:=ExV.inv hv;have HV:=H_ hv';have H3:=H_ hr;clear hv hv' hr;obtain⟨hs3,B3,Q3,hg3⟩:=fr1 B2 Q2 b3;have HP3:=H_ P3;clear Q2 B2 HP2 P3 b3;obtain⟨⟨d0,d1,d2,d3,d4⟩,f0,f1,f2,f3,f4⟩:=Q3.out.aD;go_wp2_with fail;obtain⟨N1,N2,N3⟩:=Ar Q3.out HV.out (λb hb=>⟨hb.2,by have:=hb.1;omega⟩) k s _ rfl;exact iN rfl (by simp) N1 (Out.ok (by unfold dm;rw[H1.out];simp only;rw[H2.out];simp only;rw[H3.out]) ⟨_,rfl,N3.aA (kD N2 (by omega) (by omega))⟩ (HP3.out.put N2 (by omega)) (B3.out.put N2 (by omega) (DK _)))
theorem jY(HS:∀j,i<j->RdAt rvS 255 T st j)(hup:Up st)(p c:Nat)(A:Option Addr)(w:World)(h:PS w p A c T i):
 Calls Tryz.prog 213 #[.pointer (some ⟨p,0,none⟩)] w (Out (rvV kSt 168 w.heap.size) p A c T w (d9 T st i)):=by
 have hp:=h.aE.lt;have HP:=H_ h;have HF':=H_ HS;have HU:=H_ hup;clear h HS hup;go_enter Tryz.func213,Tryz.ntmps213;go_wp2_with fail;refine bV (HP.out.alloc _) ((Blk.new w _ _).cell 0) (λj w1 hr b1=>?_) (λj w1 hr P1 b1=>?_)
 ·exact⟨rfl,Out.bad (by unfold d9;rw[show bj T cu i= .bad j from hr]) (((Bx.refl w.heap.size p w).new _ (DK _)).aB b1)⟩
 ·have hij:=(cQ hr).2;have HEQ:=H_ (show d9 T st i=cX T st (T.length+1) [] j by unfold d9;rw[show bj T cu i= .ok () j from hr]);have B1:=H_ (((Bx.refl w.heap.size p w).new _ (DK _)).aB b1);have HP1:=H_ P1;have hj:=P1.lt;have hT:=P1.wf.few;clear hr b1 P1 HP;go_wp2_with fail;go_loopg [3] (T.length-j) (λk u wr=>∃(xs:List St) (q:Nat),k=T.length-q/\Hid (Vec kSt 168 w.heap.size noZ wr u xs)/\Hid (PS wr p A c T q)/\Hid (Bx w.heap.size p w wr)/\i<q/\xs.length<=q/\Hid (∃m,T.length+1<=m+q/\d9 T st i=cX T st m xs q))
  case atStart=>exact⟨[],j,rfl,H_ (Vec.nil _ _ _ _ _),HP1,B1,by omega,by simp,H_ ⟨T.length+1,by omega,HEQ.out⟩⟩
  case round=>
   clear HP1 B1 HEQ;obtain⟨xs,q,rfl,HVr,HPr,HBr,hiq,hxq,HEr⟩:=hrel;obtain⟨m,hm,heq⟩:=HEr.out;have hqT:=HPr.out.lt;obtain⟨m,rfl⟩:∃m',m=m'+1:=⟨m-1,by omega⟩;have HE1:=H_ heq;clear HEr heq;go_wp2_with fail;refine bg HPr.out ci (λht w5 P5 b5=>?_) (λht w5 P5 b5=>?_)
   ·have B5:=hth HBr b5;have HT5:=H_ ht;have HP5:=H_ P5;have V5:=hvk HVr b5;clear b5 ht P5 HBr HPr HVr;go_wp2_with fail;go_ret;exact Out.ok (j:=q+1) (by rw[HE1.out];unfold cX;rw[Ed HT5.out]) ⟨V5.out,by omega⟩ HP5.out B5.out
   ·have B5:=hth HBr b5;have HT5:=H_ ht;have HP5:=H_ P5;have V5:=hvk HVr b5;clear b5 ht P5 HBr HPr HVr;go_wp2_with fail;refine Out.use (HF'.out q (by omega) p c A w5 HP5.out) (λj6 w6 hr b6=>?_) (λx6 j6 v w6 hr hv P6 b6=>?_)
    ·exact⟨rfl,Out.bad (by rw[HE1.out];unfold cX;rw[DS (by rw[HT5.out];simp),hr]) (B5.out.aB b6)⟩
    ·have hj6:=HU.out _ _ _ hr;obtain⟨k0,nm,A',n',c',A2,n2,c2,A3,n3,c3,rfl,hv'⟩:=SV.inv hv;have HE6:=H_ (show d9 T st i=cX T st m (xs++[x6]) j6 by rw[HE1.out];conv=>lhs;unfold cX;rw[DS (by rw[HT5.out];simp),hr]);have HP6:=H_ P6;have B6:=hth B5 b6;have hb5:=B5.out.size;have hb6:=B6.out.size;have HV:=H_ hv';have V6:=hvk V5 b6;have HO:=H_ V5.out.lt;have hj6T:=P6.lt;clear hv hv' hr P6 b6 V5 HE1;go_wp2_with (at_builtin;refine dV CC (K:=kSt) rfl (.tmp 10) (.tmp 13) rfl V6.out (kSt.aA (mJ hb5 (λk hk=>(HO.out k hk).2)) HV.out) rfl rfl (by omega) hb6 (λb hb h=>h) ?_);intro u7 w7 hv7 hg7;have V7:=H_ hv7;have HP7:=H_ (HP6.out.grown hg7 (λk hk=>by have:=(HO.out k hk).1;omega));have B7:=H_ (B6.out.grown hg7 hb6 (λk hk=>(HO.out k hk).1));clear hv7 hg7 HP6 B6 HV V6 B5 HP5;go_wp2_with fail;go_roundg (T.length-j6)
     case rel=>exact⟨xs++[x6],j6,rfl,V7,HP7,B7,by omega,by simp;omega,H_ ⟨m,by omega,HE6.out⟩⟩
     case measure=>omega
end
section
variable{T:List Tk}{ex:Nat->Nat->R Ex}{st:Nat->R St}{i:Nat}
theorem tt{a b:ByteArray}(h:isT T a i=true)(hne:a≠b):isT T b i=false:=by
 unfold isT at h⊢;simp only[Ee,Ep]at h;rw[h.1,Fy hne,Bool.false_and]
theorem kL{st:Nat->R St}(i:Nat)(x:List St)(j:Nat)(hup:Up st)(h:d9 T st i= .ok x j):i<j:=by
 unfold d9 at h;split at h
 ·cases h
 ·have h0:=cC _ _ _ _ ‹bj _ _ _=_›
  have h1:∀k ss i ys j,cX T st k ss i= .ok ys j->i<j:=by
   intro k;induction k with
   |zero=>intro ss i ys j h;cases h
   |succ k ih=>
    intro ss i ys j h;unfold cX at h;split at h
    ·cases h;omega
    ·split at h
     ·cases h
     ·have h1:=hup _ _ _ ‹_›;have h2:=ih _ _ _ _ h;omega
  have:=h1 _ _ _ _ _ h;unfold bI at h0;omega
theorem uU(HX:∀j,i<j->RdAt rvE 293 T (ex 0) j)(hux:Up (ex 0))(HS:∀j,i<j->RdAt rvS 255 T st j)(hus:Up st)(hb:isT T kIf i=true\/isT T dD i=true)(p c:Nat)(A:Option Addr)(w:World)(h:PS w p A c T i):
 Calls Tryz.prog 277 #[.pointer (some ⟨p,0,none⟩)] w (Out rvS p A c T w (dJ T ex st i)):=by
 have HS':=H_ (show∀m,i<m->∀j,m<j->RdAt rvS 255 T st j from λm hm j hj=>HS j (by omega));have HUX:=H_ hux;have HUS:=H_ hus;have HB:=H_ hb;clear hux hus hb HS;have hp:=h.aE.lt;obtain⟨w0,hw0,q0,b0,P0⟩:=x9 h;have Q0:=H_ q0;have B0:=H_ b0;have HP0:=H_ P0;have HX':=H_ HX;clear h HX q0 b0 P0;go_enter Tryz.func277,Tryz.ntmps277;go_upto_region 1 with(fail);have hsz:=B0.out.size;have hg0:=Q0.out.lt;obtain⟨g,hgz⟩:=nm_ (w.heap.size);rw[hgz]at Q0 hg0⊢;clear hw0;go_wp2_with fail;refine bg HP0.out dD (λht w1 P1 b1=>?_) (λht w1 P1 b1=>?_)
 ·obtain⟨hs1,B1,Q1,hg1⟩:=fr1 B0 Q0 b1;have HP1:=H_ P1;have HT:=H_ ht;clear Q0 B0 HP0 P1 b1 ht;have HNI:=H_ (tt (a:=dD) HT.out (λh=>absurd (show dD.size=kIf.size from Fo ByteArray.size h) (by decide)));go_wp2_with fail;refine Out.use (HX'.out (i+1) (by omega) p c A w1 HP1.out) (λj w2 hr b2=>?_) (λx j v w2 hr hv P2 b2=>?_)
  ·exact⟨rfl,Out.bad (by unfold dJ iX;rw[DS (by rw[HNI.out];simp),Ed HT.out];rw[hr]) (B1.out.aB b2)⟩
  ·obtain⟨k1,op1,z1,nm1,at1,A1,n1,c1',rfl,hv'⟩:=ExV.inv hv;have HV:=H_ hv';have H1:=H_ hr;have hij:=HUX.out _ _ _ hr;clear hv hv' hr;obtain⟨hs2,B2,Q2,hg2⟩:=fr1 B1 Q1 b2;have HP2:=H_ P2;clear Q1 B1 HP1 P2 b2;go_wp2_with fail;refine Out.use (jY (HS'.out j (by omega)) HUS.out p c A _ (HP2.out.alloc _)) (λj2 w3 hr b3=>?_) (λys j2 v w3 hr hv P3 b3=>?_)
   ·exact⟨rfl,Out.bad (by unfold dJ iX;rw[DS (by rw[HNI.out];simp),Ed HT.out];rw[H1.out];simp only;rw[hr]) ((B2.out.new _ (DK _)).aB b3)⟩
   ·obtain⟨hvec,hyl⟩:=hv;obtain⟨A2,c2,rfl,hs2'⟩:=hvec.sl (by unfold BD;omega);have hij2:=kL _ _ _ HUS.out hr;have H2:=H_ hr;obtain⟨a,haz⟩:=nm_ (w2.heap.size);have RA:=H_ (show Blk w3 a 172 #[.int .i64 k1,.int .i64 op1,.int .i64 z1,.string nm1,.bool at1,.slice A1 n1 c1']from haz▸(Blk.new w2 172 _).bx b3 (by simp) (by omega));replace b3:=((Bx.refl w2.heap.size p w2).new _ (DK _)).aB b3;have HV2:=H_ (show ExC w3 (NG g (two g g) w3) x [.int .i64 k1,.int .i64 op1,.int .i64 z1,.string nm1,.bool at1,.slice A1 n1 c1']from ExC.aA (λb hb=>⟨⟨by have:=hb.1;omega,DR hb.2 b3.size,λh=>by have:=hb.1;unfold two at h;omega⟩,b3.block b hb.2 (by have:=hb.1;omega)⟩) HV.out);have SB:=H_ (show Sl kSt w3 (NG g (two g g) w3) ys A2 ys.length from hs2'.aA (λb hb=>⟨⟨by have:=hb.1;simp at this;omega,hb.2.1,λh=>by have:=hb.1;simp at this;unfold two at h;omega⟩,rfl⟩));clear hvec hs2' hr HV;obtain⟨hs3,B3,Q3,hg3⟩:=fr1 B2 Q2 b3;have HP3:=H_ P3;clear Q2 B2 HP2 P3 b3;have SX:=H_ (kj (K:=kEx) RA.out ⟨by omega,RA.out.lt,λh=>by unfold two at h;omega⟩ HV2.out);rw[haz];clear RA HV2;obtain⟨⟨d0,d1,d2,d3,d4⟩,f0,f1,f2,f3,f4⟩:=Q3.out.aD;go_wp2_with fail;obtain⟨N1,N2⟩:=jf Q3.out (.int .i64 4) (.string ⟨#[]⟩) (.slice (some ⟨a,0,none⟩) 1 1) (.slice A2 ys.length c2) (.slice none 0 0);have HV:=StC.of 4 ⟨#[]⟩ 1 c2 0 SX.out SB.out (Sl.nil _ _ none);exact iN rfl (by simp) N1 (Out.ok (by unfold dJ iX;rw[DS (by rw[HNI.out];simp),Ed HT.out];rw[H1.out];simp only;rw[H2.out]) ⟨_,rfl,HV.aA (λb hb=>⟨⟨by have:=hb.1;omega,DR hb.2.1 N2.size⟩,N2.block b hb.2.1 (λh=>hb.2.2 (.inl h))⟩)⟩ (HP3.out.put N2 (by omega)) (B3.out.put N2 (by omega) (DK _)))
 ·obtain⟨hs1,B1,Q1,hg1⟩:=fr1 B0 Q0 b1;have HP1:=H_ P1;have HNW:=H_ ht;clear Q0 B0 HP0 P1 b1 ht
  have HT:=H_ (show isT T kIf i=true from by
   rcases HB.out with h|h
   ·exact h
   ·rw[HNW.out]at h;cases h)
  go_wp2_with fail;refine bV (HP1.out.alloc _) ((Blk.new w1 _ _).cell 0) (λj2 w2 hr b2=>?_) (λj2 w2 hr P2 b2=>?_)
  ·have:=xU hr;rw[show isT T kIf i=false from this.1]at HT;exact absurd HT.out (by simp)
  ·have hij2:=(cQ hr).2;subst hij2;replace b2:=((Bx.refl w1.heap.size p w1).new _ (DK _)).aB b2;clear hr;obtain⟨hs2,B2,Q2,hg2⟩:=fr1 B1 Q1 b2;have HP2:=H_ P2;clear Q1 B1 HP1 P2 b2;go_wp2_with fail;refine Out.use (HX'.out (i+1) (by omega) p c A w2 HP2.out) (λj w3 hr b3=>?_) (λx j v w3 hr hv P3 b3=>?_)
   ·exact⟨rfl,Out.bad (by unfold dJ ifT;rw[Ed HT.out];rw[hr]) (B2.out.aB b3)⟩
   ·obtain⟨k1,op1,z1,nm1,at1,A1,n1,c1',rfl,hv'⟩:=ExV.inv hv;have HV:=H_ hv';have H1:=H_ hr;have hij:=HUX.out _ _ _ hr;clear hv hv' hr;obtain⟨hs3,B3,Q3,hg3⟩:=fr1 B2 Q2 b3;have HP3:=H_ P3;clear Q2 B2 HP2 P3 b3;go_wp2_with fail;refine Out.use (jY (HS'.out j (by omega)) HUS.out p c A _ (HP3.out.alloc _)) (λj2 w4 hr b4=>?_) (λys j2 v w4 hr hv P4 b4=>?_)
    ·exact⟨rfl,Out.bad (by unfold dJ ifT;rw[Ed HT.out];rw[H1.out];simp only;rw[hr]) ((B3.out.new _ (DK _)).aB b4)⟩
    ·obtain⟨hvec,hyl⟩:=hv;obtain⟨A2,c2,rfl,hs2'⟩:=hvec.sl (by unfold BD;omega);have hij2:=kL _ _ _ HUS.out hr;have H2:=H_ hr;obtain⟨a,haz⟩:=nm_ (w3.heap.size);have RA:=H_ (show Blk w4 a 172 #[.int .i64 k1,.int .i64 op1,.int .i64 z1,.string nm1,.bool at1,.slice A1 n1 c1']from haz▸(Blk.new w3 172 _).bx b4 (by simp) (by omega));replace b4:=((Bx.refl w3.heap.size p w3).new _ (DK _)).aB b4;have HV2:=H_ (show ExC w4 (NG g (two g g) w4) x [.int .i64 k1,.int .i64 op1,.int .i64 z1,.string nm1,.bool at1,.slice A1 n1 c1']from ExC.aA (λb hb=>⟨⟨by have:=hb.1;omega,DR hb.2 b4.size,λh=>by have:=hb.1;unfold two at h;omega⟩,b4.block b hb.2 (by have:=hb.1;omega)⟩) HV.out);have SB:=H_ (show Sl kSt w4 (NG g (two g g) w4) ys A2 ys.length from hs2'.aA (λb hb=>⟨⟨by have:=hb.1;simp at this;omega,hb.2.1,λh=>by have:=hb.1;simp at this;unfold two at h;omega⟩,rfl⟩));clear hvec hs2' hr HV;obtain⟨hs4,B4,Q4,hg4⟩:=fr1 B3 Q3 b4;have HP4:=H_ P4;clear Q3 B3 HP3 P4 b4;have SX:=H_ (kj (K:=kEx) RA.out ⟨by omega,RA.out.lt,λh=>by unfold two at h;omega⟩ HV2.out);rw[haz];clear RA HV2;go_upto_region 5 with fail;obtain⟨e,hez⟩:=nm_ (w4.heap.size);rw[hez];obtain⟨w5,hw5⟩:=nm_ (w4.alloc (.cells #[.int .i64 3,.string ⟨#[]⟩,.slice (some ⟨a,0,none⟩) 1 1,.slice A2 ys.length c2,.slice none 0 0] 168));have E5:=H_ (show Blk w5 e 168 _ from hw5▸hez▸Blk.new w4 168 #[.int .i64 3,.string ⟨#[]⟩,.slice (some ⟨a,0,none⟩) 1 1,.slice A2 ys.length c2,.slice none 0 0]);have b5:Bx w4.heap.size p w4 w5:=bxn hw5;have P5:=HP4.out.al hw5;have SX5:=H_ (show Sl kEx w5 (NG g (two g e) w5) [x] (some ⟨a,0,none⟩) 1 from SX.out.aA λb hb=>⟨⟨hb.1,DR hb.2.1 b5.size,λh=>by have:=hb.2.1;have:=hb.2.2;unfold two at h this;omega⟩,b5.block b hb.2.1 (by have:=hb.1;omega)⟩);have SB5:=H_ (show Sl kSt w5 (NG g (two g e) w5) ys A2 ys.length from SB.out.aA λb hb=>⟨⟨hb.1,DR hb.2.1 b5.size,λh=>by have:=hb.2.1;have:=hb.2.2;unfold two at h this;omega⟩,b5.block b hb.2.1 (by have:=hb.1;omega)⟩);obtain⟨hs5,B5,Q5,hg5⟩:=fr1 B4 Q4 b5;have HP5:=H_ P5;clear Q4 B4 HP4 P5 b5;have he5:=E5.out.lt;rw[hw5];clear hw5 SX SB;go_wp2_with fail;refine bg HP5.out ey (λht w6 P6 b6=>?_) (λht w6 P6 b6=>?_)
     ·have E6:=hbx E5 b6 he5;have SX6:=H_ (SX5.out.aA (G':=NG g (two g e) w6) λb hb=>⟨hb.mono b6.size,b6.block b hb.2.1 (by have:=hb.1;omega)⟩);have SB6:=H_ (SB5.out.aA (G':=NG g (two g e) w6) λb hb=>⟨hb.mono b6.size,b6.block b hb.2.1 (by have:=hb.1;omega)⟩);clear E5 SX5 SB5;obtain⟨hs6,B6,Q6,hg6⟩:=fr1 B5 Q5 b6;have HP6:=H_ P6;have HTE:=H_ ht;clear Q5 B5 HP5 P6 b6 ht;have he6:=E6.out.lt;go_wp2_with fail;refine Out.use (jY (HS'.out (j2+1) (by omega)) HUS.out p c A _ HP6.out) (λj7 w7 hr b7=>?_) (λzs j7 v w7 hr hv P7 b7=>?_)
      ·exact⟨rfl,Out.bad (by unfold dJ ifT;rw[Ed HT.out];rw[H1.out];simp only;rw[H2.out];simp only;rw[Ed HTE.out,hr]) (B6.out.aB b7)⟩
      ·obtain⟨hvec,hzl⟩:=hv;obtain⟨A3,c3,rfl,hs3'⟩:=hvec.sl (by unfold BD;omega);have H3:=H_ hr;have E7:=hbx E6 b7 he6;have SX7:=H_ (SX6.out.aA (G':=NG g (two g e) w7) λb hb=>⟨hb.mono b7.size,b7.block b hb.2.1 (by have:=hb.1;omega)⟩);have SB7:=H_ (SB6.out.aA (G':=NG g (two g e) w7) λb hb=>⟨hb.mono b7.size,b7.block b hb.2.1 (by have:=hb.1;omega)⟩);have SC7:=H_ (show Sl kSt w7 (NG g (two g e) w7) zs A3 zs.length from hs3'.aA (λb hb=>⟨⟨by have:=hb.1;omega,hb.2.1,λh=>by have:=hb.1;unfold two at h;omega⟩,rfl⟩));clear hvec hs3' hr E6 SX6 SB6;obtain⟨hs7,B7,Q7,hg7⟩:=fr1 B6 Q6 b7;have HP7:=H_ P7;clear Q6 B6 HP6 P7 b7;obtain⟨⟨y0,y1,y2,y3,y4⟩,_,_,_,_,yf⟩:=E7.out.aD;obtain⟨⟨c0,c1,c2',c3',c4⟩,f0,f1,f2,f3,f4⟩:=Q7.out.aD;have hge:g≠e:=by omega
       have heg:e≠g:=by omega
       go_wp2_with fail;have bw:=(Bx.refl w7.heap.size e w7).aG (o:=4) (.inr rfl) (.slice A3 zs.length c3);have E8:=E7.out.set 4 (.slice A3 zs.length c3);have Q8:=Q7.out.bx bw hg7 (by omega);have HP8:=HP7.out.put bw (by omega);have B8:=B7.out.put bw (by omega) (DK _);obtain⟨N1,N2⟩:=jf Q8 (.int .i64 3) (.string ⟨#[]⟩) (.slice (some ⟨a,0,none⟩) 1 1) (.slice A2 ys.length c2) (.slice A3 zs.length c3);have HV:=StC.of 3 ⟨#[]⟩ 1 c2 c3 SX7.out SB7.out SC7.out;exact iN rfl (by simp) N1 (Out.ok (by unfold dJ ifT;rw[Ed HT.out];rw[H1.out];simp only;rw[H2.out];simp only;rw[Ed HTE.out,H3.out]) ⟨_,rfl,HV.aA (λb hb=>⟨⟨by have:=hb.1;omega,DR hb.2.1 (Ek bw.size N2.size)⟩,(N2.block b (DR hb.2.1 bw.size) (λh=>hb.2.2 (.inl h))).trans (bw.block b hb.2.1 (λh=>hb.2.2 (.inr h)))⟩)⟩ (HP8.put N2 (by omega)) (B8.put N2 (by omega) (DK _)))
     ·have E6:=hbx E5 b6 he5;have SX6:=H_ (SX5.out.aA (G':=NG g (two g e) w6) λb hb=>⟨hb.mono b6.size,b6.block b hb.2.1 (by have:=hb.1;omega)⟩);have SB6:=H_ (SB5.out.aA (G':=NG g (two g e) w6) λb hb=>⟨hb.mono b6.size,b6.block b hb.2.1 (by have:=hb.1;omega)⟩);clear E5 SX5 SB5;obtain⟨hs6,B6,Q6,hg6⟩:=fr1 B5 Q5 b6;have HP6:=H_ P6;have HTE:=H_ ht;clear Q5 B5 HP5 P6 b6 ht;obtain⟨y0,y1,y2,y3,y4⟩:=E6.out.aD.1;obtain⟨⟨c0,c1,c2',c3',c4⟩,f0,f1,f2,f3,f4⟩:=Q6.out.aD;go_wp2_with fail;obtain⟨N1,N2⟩:=jf Q6.out (.int .i64 3) (.string ⟨#[]⟩) (.slice (some ⟨a,0,none⟩) 1 1) (.slice A2 ys.length c2) (.slice none 0 0);have HV:=StC.of 3 ⟨#[]⟩ 1 c2 0 SX6.out SB6.out (Sl.nil _ _ none);exact iN rfl (by simp) N1 (Out.ok (by unfold dJ ifT;rw[Ed HT.out];rw[H1.out];simp only;rw[H2.out];simp only;rw[DS (by rw[HTE.out];simp)]) ⟨_,rfl,HV.aA (λb hb=>⟨⟨by have:=hb.1;omega,DR hb.2.1 N2.size⟩,N2.block b hb.2.1 (λh=>hb.2.2 (.inl h))⟩)⟩ (HP6.out.put N2 (by omega)) (B6.out.put N2 (by omega) (DK _)))
theorem yX(HX:∀j,i<j->RdAt rvE 293 T (ex 0) j)(hux:Up (ex 0))(HS:∀j,i<j->RdAt rvS 255 T st j)(hus:Up st)(HM:RdAt rvS 278 T (aV T ex) i):RdAt rvS 255 T (dJ T ex st) i:=by
 intro p c A w h;have HBR:=H_ (λhb=>uU HX hux HS hus hb p c A);clear HX hux HS hus;have hp:=h.aE.lt;obtain⟨w0,hw0,q0,b0,P0⟩:=x9 h;have Q0:=H_ q0;have B0:=H_ b0;have HP0:=H_ P0;have HM':=H_ HM;clear h HM q0 b0 P0;go_enter Tryz.func255,Tryz.ntmps255;go_upto_region 1 with(fail);have hsz:=B0.out.size;have hg0:=Q0.out.lt;obtain⟨g,hgz⟩:=nm_ (w.heap.size);rw[hgz]at Q0 hg0⊢;clear hw0;go_wp2_with fail;refine mF HP0.out kIf (λht w1 P1 b1=>?_) (λht w1 P1 b1=>?_)
 ·obtain⟨hs1,B1,Q1,hg1⟩:=fr1 B0 Q0 b1;have HP1:=H_ P1;have HT:=H_ ht;clear Q0 B0 HP0 P1 b1 ht;go_wp2_with fail;refine Out.use (HBR.out (.inl HT.out) w1 HP1.out) (λj w2 hr b2=>?_) (λx j v w2 hr hv P2 b2=>?_)
  ·exact⟨rfl,Out.bad hr (B1.out.aB b2)⟩
  ·obtain⟨k0,nm,A1,n1,c1',A2,n2,c2',A3,n3,c3',rfl,hv'⟩:=SV.inv hv;have HV:=H_ hv';have H1:=H_ hr;clear hv hv' hr;obtain⟨hs2,B2,Q2,hg2⟩:=fr1 B1 Q1 b2;have HP2:=H_ P2;clear Q1 B1 HP1 P2 b2;obtain⟨⟨d0,d1,d2,d3,d4⟩,f0,f1,f2,f3,f4⟩:=Q2.out.aD;go_wp2_with fail;obtain⟨N1,N2⟩:=jf Q2.out (.int .i64 k0) (.string nm) (.slice A1 n1 c1') (.slice A2 n2 c2') (.slice A3 n3 c3');exact iN rfl (by simp) N1 (Out.ok H1.out ⟨_,rfl,HV.out.aA (Fr.aA N2 (by omega) hg1)⟩ (HP2.out.put N2 (by omega)) (B2.out.put N2 (by omega) (DK _)))
 ·obtain⟨hs1,B1,Q1,hg1⟩:=fr1 B0 Q0 b1;have HP1:=H_ P1;have HN1:=H_ ht;clear Q0 B0 HP0 P1 b1 ht;go_wp2_with fail;refine mF HP1.out dD (λht w2 P2 b2=>?_) (λht w2 P2 b2=>?_)
  ·obtain⟨hs2,B2,Q2,hg2⟩:=fr1 B1 Q1 b2;have HP2:=H_ P2;have HT:=H_ ht;clear Q1 B1 HP1 P2 b2 ht;go_wp2_with fail;refine Out.use (HBR.out (.inr HT.out) w2 HP2.out) (λj w3 hr b3=>?_) (λx j v w3 hr hv P3 b3=>?_)
   ·exact⟨rfl,Out.bad hr (B2.out.aB b3)⟩
   ·obtain⟨k0,nm,A1,n1,c1',A2,n2,c2',A3,n3,c3',rfl,hv'⟩:=SV.inv hv;have HV:=H_ hv';have H1:=H_ hr;clear hv hv' hr;obtain⟨hs3,B3,Q3,hg3⟩:=fr1 B2 Q2 b3;have HP3:=H_ P3;clear Q2 B2 HP2 P3 b3;obtain⟨⟨d0,d1,d2,d3,d4⟩,f0,f1,f2,f3,f4⟩:=Q3.out.aD;go_wp2_with fail;obtain⟨N1,N2⟩:=jf Q3.out (.int .i64 k0) (.string nm) (.slice A1 n1 c1') (.slice A2 n2 c2') (.slice A3 n3 c3');exact iN rfl (by simp) N1 (Out.ok H1.out ⟨_,rfl,HV.out.aA (Fr.aA N2 (by omega) hg2)⟩ (HP3.out.put N2 (by omega)) (B3.out.put N2 (by omega) (DK _)))
  ·obtain⟨hs2,B2,Q2,hg2⟩:=fr1 B1 Q1 b2;have HP2:=H_ P2;have HN2:=H_ ht;clear Q1 B1 HP1 P2 b2 ht;go_wp2_with fail;refine Out.use (HM'.out p c A w2 HP2.out) (λj w3 hr b3=>?_) (λx j v w3 hr hv P3 b3=>?_)
   ·exact⟨rfl,Out.bad (by unfold dJ;rw[DS (by rw[HN1.out];simp),DS (by rw[HN2.out];simp)];rw[hr]) (B2.out.aB b3)⟩
   ·obtain⟨k0,nm,A1,n1,c1',A2,n2,c2',A3,n3,c3',rfl,hv'⟩:=SV.inv hv;have HV:=H_ hv';have H1:=H_ hr;clear hv hv' hr;obtain⟨hs3,B3,Q3,hg3⟩:=fr1 B2 Q2 b3;have HP3:=H_ P3;clear Q2 B2 HP2 P3 b3;go_upto_region 5 with fail;obtain⟨e,hez⟩:=nm_ (w3.heap.size);rw[hez];obtain⟨w4,hw4⟩:=nm_ (w3.alloc (.cells #[.int .i64 k0,.string nm,.slice A1 n1 c1',.slice A2 n2 c2',.slice A3 n3 c3'] 168));have E4:=H_ (show Blk w4 e 168 _ from hw4▸hez▸Blk.new w3 168 #[.int .i64 k0,.string nm,.slice A1 n1 c1',.slice A2 n2 c2',.slice A3 n3 c3']);have b4:Bx w3.heap.size p w3 w4:=bxn hw4;have P4:=HP3.out.al hw4;have HV4:=H_ (StC.aA (G':=NG g (two g e) w4) (λb hb=>⟨⟨by have:=hb.1;omega,DR hb.2 b4.size,λh=>by have:=hb.1;have:=hb.2;unfold two at h;omega⟩,b4.block b hb.2 (by have:=hb.1;omega)⟩) HV.out);obtain⟨hs4,B4,Q4,hg4⟩:=fr1 B3 Q3 b4;have HP4:=H_ P4;clear Q3 B3 HP3 P4 b4;rw[hw4];clear hw4 HV;go_wp2_with fail;refine bV (s:=aN) (HP4.out.alloc _) ((Blk.new w4 _ _).cell 0) (λj5 w5 hr b5=>?_) (λj5 w5 hr P5 b5=>?_)
    ·exact⟨rfl,Out.bad (by unfold dJ;rw[DS (by rw[HN1.out];simp),DS (by rw[HN2.out];simp)];rw[H1.out];simp only;rw[show bj T aN j= .bad j5 from hr]) ((B4.out.new _ (DK _)).aB b5)⟩
    ·have H5:=H_ hr;replace b5:=((Bx.refl w4.heap.size p w4).new _ (DK _)).aB b5;have E5:=H_ (E4.out.bx b5 E4.out.lt (by omega));have HV5:=H_ (HV4.out.aA (G':=NG g (two g e) w5) λb hb=>⟨hb.mono b5.size,b5.block b hb.2.1 (by have:=hb.1;omega)⟩);clear hr E4 HV4;obtain⟨hs5,B5,Q5,hg5⟩:=fr1 B4 Q4 b5;have HP5:=H_ P5;clear Q4 B4 HP4 P5 b5;obtain⟨y0,y1,y2,y3,y4⟩:=E5.out.aD.1;obtain⟨⟨d0,d1,d2,d3,d4⟩,f0,f1,f2,f3,f4⟩:=Q5.out.aD;go_wp2_with fail;obtain⟨N1,N2⟩:=jf Q5.out (.int .i64 k0) (.string nm) (.slice A1 n1 c1') (.slice A2 n2 c2') (.slice A3 n3 c3');exact iN rfl (by simp) N1 (Out.ok (by unfold dJ;rw[DS (by rw[HN1.out];simp),DS (by rw[HN2.out];simp)];rw[H1.out];simp only;rw[H5.out]) ⟨_,rfl,HV5.out.aA (λb hb=>⟨⟨by have:=hb.1;omega,DR hb.2.1 N2.size⟩,N2.block b hb.2.1 (λh=>hb.2.2 (.inl h))⟩)⟩ (HP5.out.put N2 (by omega)) (B5.out.put N2 (by omega) (DK _)))
end
theorem Below.grownN(h:w.grownBy w' none)(hB:B<=w.heap.size):Below B w w':=⟨h.os,h.tape,h.output,h.size,λk hk=>h.block k (by omega) (λe=>by cases e)⟩
theorem lr{K:Kd α}{t e:TypeId}(hR:nj K.sz t e)(ty:TypeId){a:Nat}{x:α}{cs:List Value}{ys:List α}(ha:Blk w a e cs.toArray)(hx:K.rd w G x cs)(hGa:G a)
 (hy:Vec K e base noZ w u ys) (hyG:∀b,NG base noZ w b->G b) (hG:∀b,G b->b<w.heap.size) (hnil:ys=[]->u= .slice none 0 0) (hn:ys.length<=20000):
 ∃v' w',(Builtin.append_ #[t,t] ty #[.slice (some ⟨a,0,none⟩) 1 1,u]).run Tryz.prog w= .ok v' w'/\Below w.heap.size w w'/\rvSl K w' (λb=>G b\/Fr w w' b) (x::ys) v':=by
 obtain⟨ht,i,z,hi,hz,hsz,hby,hzs⟩:=hR;have hcl:=K.len hx;have hal:=ha.lt;by_cases hys:ys=[]
 ·have hu:=hnil hys;subst hys;subst hu;refine⟨_,w,run_append_owned_none (P:=Tryz.prog) w 0 t ty e i K.sz ht hi _ 1 cs ⟨by rw[hcl];omega,.inr ⟨a,1,cs.toArray,rfl,Ea _,ha,DK _,by decide,by simp[hcl],?_⟩⟩,DN _ _,⟨_,_,_,rfl,?_⟩⟩
  ·rw[FR];exact DP (by simp[hcl])
  ·exact kj ha (.inl hGa) (K.aA (λb hb=>⟨.inl hb,rfl⟩) hx)
 ·obtain⟨hp,css,h1,h2,h3⟩:=hy;have hy0:=List.length_pos_iff.2 hys;rcases h1.2 with⟨_,h0⟩|⟨g,cap,cur,rfl,hbg,hgg,hle,hcm,hcs,htk⟩
  ·omega
  ·obtain⟨v',w',hr,hown,hgr⟩:=run_append_arg_grows (P:=Tryz.prog) w t ty e i z K.sz i.bytes ht hi hz hsz rfl hzs K.pos ⟨a,0,none⟩ 1 1 cs (by rw[hcl];omega) (λj v hv=>by rw[iL];exact At.aE ha j v hv)
    ⟨g,0,none⟩ ys.length cap css.flatten h1.1 (λj v hv=>h1.cells (g:=g) rfl j v hv) (by omega) (by simp only[maxLen];omega) (by have:(1+ys.length)*i.bytes<=20001*128:=Nat.mul_le_mul (by omega) hby;omega)
   have hb:=Below.grownN hgr (DK _);refine⟨v',w',hr,hb,?_⟩;rcases hown.2 with⟨_,h0⟩|⟨g',cap',cur',rfl,hbg',hgg',hle',hcm',hcs',htk'⟩
   ·omega
   ·have hg'lt:=(hown.lt g' rfl).2;refine⟨_,_,_,rfl,?_⟩;have hlen:(x::ys).length=1+ys.length:=by simp;omega
    rw[<-hlen];refine Sl.of (css:=cs::css) (by simp[h2]) (by simp[BD];omega) (.inr ⟨hbg',hg'lt⟩) ?_ ?_
    ·intro j v hv;have:=hown.cells (g:=g') rfl j v (by simpa using hv);rwa[iL]at this
    ·intro j y ds hy' hd';cases j with
     |zero=>
      simp at hy' hd';subst hy' hd';exact K.aA (λb hb'=>⟨.inl hb',hb.block b (hG b hb')⟩) hx
     |succ j=>
      simp at hy' hd';exact K.aA (λb hb'=>⟨.inl (hyG b hb'.1),hb.block b hb'.1.2.1⟩) (h3 j y ds hy' hd')
theorem Vec.lower{K:Kd α}{E base':Nat}{xs:List α}(h:Vec K E base noZ w u xs)(hb:base'<=base):Vec K E base' noZ w u xs:=by
 obtain⟨hp,css,h1,h2,h3⟩:=h;refine⟨hp,css,⟨h1.1,?_⟩,h2,λj x cs hx hc=>K.aA (λb hG=>⟨⟨⟨by have:=hG.1.1;omega,hG.1.2.1,hG.1.2.2⟩,hG.2⟩,rfl⟩) (h3 j x cs hx hc)⟩;rcases h1.2 with hn|⟨g,cap,cur,rfl,hbg,rest⟩
 ·exact .inl hn
 ·exact .inr ⟨g,cap,cur,rfl,by omega,rest⟩
section
variable{T:List Tk}{ex:Nat->Nat->R Ex}{i:Nat}
theorem zd(HO:RdAt rvE 296 T (ex 8) i)(huo:Up (ex 8))(HX:∀j,i<j->RdAt rvE 293 T (ex 0) j)(hux:Up (ex 0)):RdAt rvS 295 T (gr T ex) i:=by
 intro p c A w h;have hp:=h.aE.lt;obtain⟨w0,hw0,q0,b0,P0⟩:=x9 h;have Q0:=H_ q0;have B0:=H_ b0;have HP0:=H_ P0;have HO':=H_ HO;have HX':=H_ HX;have HU:=H_ huo;have HUX:=H_ hux;clear h HO HX huo hux q0 b0 P0;go_enter Tryz.func295,Tryz.ntmps295;go_upto_region 1 with(fail);have hsz:=B0.out.size;have hg0:=Q0.out.lt;obtain⟨g,hgz⟩:=nm_ (w.heap.size);rw[hgz]at Q0 hg0⊢;clear hw0;go_wp2_with fail;refine Out.use (HO'.out p c A w0 HP0.out) (λj w1 hr b1=>?_) (λx j v w1 hr hv P1 b1=>?_)
 ·exact⟨rfl,Out.bad (by unfold gr;rw[hr]) (B0.out.aB b1)⟩
 ·obtain⟨-,B1,Q1,hg1⟩:=fr1 B0 Q0 b1;have HP1:=H_ P1;have hij:=HU.out _ _ _ hr;obtain⟨k0,op0,z0,nm0,at0,A0,n0,c0,rfl,hv'⟩:=ExV.inv hv;have HV:=H_ hv';have HR1:=H_ hr;clear hv hv' hr Q0 B0 HP0 P1 b1;go_wp2_with fail;obtain⟨e,hez⟩:=nm_ (w1.heap.size);rw[hez];obtain⟨w2,hw2⟩:=nm_ (w1.alloc (.cells #[.int .i64 k0,.int .i64 op0,.int .i64 z0,.string nm0,.bool at0,.slice A0 n0 c0] 172));have b2:=bal hw2;have Q2:=H_ (Q1.out.below b2 hg1);have E2:=H_ (show Blk w2 e 172 _ from hw2▸hez▸Blk.new w1 172 #[.int .i64 k0,.int .i64 op0,.int .i64 z0,.string nm0,.bool at0,.slice A0 n0 c0]);have B2:=H_ (B1.out.aB (Bx.of b2));have HP2:=H_ (HP1.out.below b2);have V2:=H_ (ExC.aA (G':=NG g (two g e) w2) (λb hb=>⟨⟨by have:=hb.1;omega,DR hb.2 b2.size,λh=>by have:=hb.1;have:=hb.2;unfold two at h;omega⟩,b2.block b hb.2⟩) HV.out);rw[hw2];clear hw2 b2 Q1 B1 HP1 HV
  go_loopg [] (T.length-j) (λkk wr=>∃(x:Ex) (q:Nat) (k op z:Int) (nm:ByteArray) (at_:Bool) (A':Option Addr) (n c':Nat),kk=T.length-q/\Hid (Blk wr e 172 #[.int .i64 k,.int .i64 op,.int .i64 z,.string nm,.bool at_,.slice A' n c'])/\Hid (ExC wr (NG g (two g e) wr) x [.int .i64 k,.int .i64 op,.int .i64 z,.string nm,.bool at_,.slice A' n c'])/\
   Hid (Blk wr g 168 #[.int .i64 0,.string ⟨#[]⟩,.slice none 0 0,.slice none 0 0,.slice none 0 0])/\Hid (PS wr p A c T q)/\Hid (Bx g p w wr)/\i<q/\Hid (∃m,T.length+1<=m+q/\gr T ex i=cU T ex m x q))
  case atStart=>exact⟨x,j,k0,op0,z0,nm0,at0,A0,n0,c0,rfl,E2,V2,Q2,HP2,hgz▸B2,hij,H_ ⟨T.length+1,by omega,show gr T ex i=cU T ex (T.length+1) x j by unfold gr;rw[HR1.out]⟩⟩
  case round=>
   clear E2 V2 Q2 HP2 B2 HR1;obtain⟨x,q,k,op,z,nm,at_,A',n',c',rfl,HE,HV,HG,HPr,HBr,hiq,HEr⟩:=hrel;obtain⟨m,hm,heq⟩:=HEr.out;have hqT:=HPr.out.lt;obtain⟨m,rfl⟩:∃m',m=m'+1:=⟨m-1,by omega⟩;have HE1:=H_ heq;have her:=HE.out.lt;have hgr:=HG.out.lt;have hsr:=HBr.out.size;clear HEr heq;go_wp2_with fail;refine bV (s:=DOT) (HPr.out.alloc _) ((Blk.new wr _ _).cell 0) (λj5 w5 hr b5=>?_) (λj5 w5 hr P5 b5=>?_)
   ·exact⟨rfl,Out.bad (by rw[HE1.out];unfold cU;rw[show bj T DOT q= .bad j5 from hr]) (hgz▸HBr.out.trans ((((Bx.refl wr.heap.size p wr).new _ (DK _)).aB b5).mono (by omega)))⟩
   ·have hq5:=(cQ hr).2;subst hq5;have H5:=H_ hr;replace b5:=((Bx.refl wr.heap.size p wr).new _ (DK _)).aB b5;have HE5:=hbx HE b5 her;have HG5:=hbx HG b5 hgr;have HV5:=H_ (ExC.aA (G':=NG g (two g e) w5) (λb hb=>⟨hb.mono b5.size,b5.block b hb.2.1 (by have:=hb.1;omega)⟩) HV.out);have HB5:=H_ (HBr.out.trans (b5.mono (by omega)));have HP5:=H_ P5;have her5:=HE5.out.lt;have hgr5:=HG5.out.lt;have hs5:=b5.size;clear hr P5 b5 HE HG HV HBr HPr;go_wp2_with fail;refine Out.use (ep HP5.out) (λj6 w6 hr b6=>?_) (λs j6 v w6 hr hv P6 b6=>?_)
    ·exact⟨rfl,Out.bad (by rw[HE1.out];unfold cU;rw[H5.out];simp only;rw[hr]) (hgz▸HB5.out.trans (b6.mono (by omega)))⟩
    ·obtain rfl:v= .string s:=hv;have hq6:=(dI hr).2.2;subst hq6;have H6:=H_ hr;have HE6:=hbx HE5 b6 her5;have HG6:=hbx HG5 b6 hgr5;have HV6:=H_ (ExC.aA (G':=NG g (two g e) w6) (λb hb=>⟨hb.mono b6.size,b6.block b hb.2.1 (by have:=hb.1;omega)⟩) HV5.out);have HB6:=H_ (HB5.out.trans (b6.mono (by omega)));have HP6:=H_ P6;have her6:=HE6.out.lt;have hgr6:=HG6.out.lt;have hs6:=b6.size;clear hr P6 b6 HE5 HG5 HV5 HB5 HP5;go_wp2_with fail;refine mF HP6.out cG (λht w7 P7 b7=>?_) (λht w7 P7 b7=>?_)
     ·have HT:=H_ ht;have HE7:=hbx HE6 b7 her6;have HG7:=hbx HG6 b7 hgr6;have HV7:=H_ (ExC.aA (G':=NG g (two g e) w7) (λb hb=>⟨hb.mono b7.size,b7.block b hb.2.1 (by have:=hb.1;omega)⟩) HV6.out);have HB7:=H_ (HB6.out.trans (b7.mono (by omega)));have HP7:=H_ P7;have her7:=HE7.out.lt;have hgr7:=HG7.out.lt;have hs7:=b7.size;clear ht P7 b7 HE6 HG6 HV6 HB6 HP6;go_upto_region 5 with fail;obtain⟨ys,jy,hsj⟩:=R.known (bZ T (ex 0) (q+1+1)) [];have HLL:=H_ (λ(W:World) (hP:PS W p A c T (q+1+1))=>ti (n:=293) (f:=ex 0) (λ_ _=>by kernel_rfl) (λj hj=>HX'.out j (by omega)) HUX.out p c A W hP)
      refine cv 6 8 (λxs=>{tmps:= #[.pointer (some ⟨p,0,none⟩),undef,.pointer (some ⟨g,0,none⟩),.pointer (some ⟨e,0,none⟩),.string s,.pointer (some ⟨p,0,none⟩),.agg #[.int .i64 k0,.int .i64 op0,.int .i64 z0,.string nm0,.bool at0,.slice A0 n0 c0],.pointer (some ⟨p,0,none⟩),.slice (some ⟨wr.heap.size,0,none⟩) 1 1,.tuple #[],.pointer (some ⟨p,0,none⟩),.string s,.pointer (some ⟨p,0,none⟩),.bool true,(xs 0).getD u14,(xs 1).getD u15,(xs 2).getD u16,(xs 3).getD u17,(xs 4).getD u18,(xs 5).getD u19,(xs 6).getD u20,(xs 7).getD u21,u22,u23,u24,u25,u26],defers:=[]})
       (RJ w7 p A c T (q+1+1) jy (bZ T (ex 0) (q+1+1)= .ok ys jy)) g
       (λi=>match i with
         |0=>fEq (.string s)
         |1=>fEq (.agg #[.int .i64 k,.int .i64 op,.int .i64 z,.string nm,.bool at_,.slice A' n' c'])
         |2=>fRow w7.heap.size 172 #[.int .i64 k,.int .i64 op,.int .i64 z,.string nm,.bool at_,.slice A' n' c']
         |3=>fEq (.pointer (some ⟨p,0,none⟩))
         |4=>fEq (.pointer (some ⟨p,0,none⟩))
         |5=>fEq (.func (.func 293) #[.pointer (some ⟨p,0,none⟩)] #[])
         |6=>λv W=>Vec kEx 172 w7.heap.size noZ W v ys/\ys.length<=20000/\(ys=[]->v= .slice none 0 0)
         |_=>λv W=>rvSl kEx W (NG g (two g e) W) (x::ys) v)
       (by
         intro k
         match k with
         |0=>exact fEq.st _ _
         |1=>exact fEq.st _ _
         |2=>exact λv W W' hn ⟨a,h1,h2⟩=>⟨a,h1,h2.1,(hn.block a (by have:=h2.1;omega) h2.2.lt).trans h2.2⟩
         |3=>exact fEq.st _ _
         |4=>exact fEq.st _ _
         |5=>exact fEq.st _ _
         |6=>exact λv W W' hn ⟨h1,h2⟩=>⟨h1.aA hn.size (λb hb=>hn.block b (by have:=hb.1;omega) hb.2.1),h2⟩
         |_+7=>exact λv W W' hn h=>rvSl.aA (λb hb=>⟨hb.mono hn.size,hn.block b hb.1 hb.2.1⟩) h)
       (by kernel_rfl) (by kernel_rfl) (by decide) (by kernel_rfl) (by decide) rfl ⟨(Bx.refl _ _ _).drew,HP7.out.drew⟩ ?_ ?_ ?_
      ·intro i' hi hic b xs W hJ hd;obtain rfl|rfl|rfl|rfl|rfl|rfl|rfl:i'=0\/i'=1\/i'=2\/i'=3\/i'=4\/i'=5\/i'=7:=by omega
       ·refine DU rfl λK hK=>?_;go_simp;exact hK _ _ ⟨_,rfl,hJ,rfl,Nw.refl _ _⟩
       ·obtain⟨⟨d0,d1,d2,d3,d4,d5⟩,_⟩:=(HE7.out.bx hJ.1 her7 (by omega)).aC;refine DU rfl λK hK=>?_;go_simp;exact hK _ _ ⟨_,rfl,hJ,rfl,Nw.refl _ _⟩
       ·obtain⟨_,h1,rfl⟩:=hd 1;refine DU rfl λK hK=>?_;go_simp;have hb:=(DN W.heap.size W).alloc (DK _) (.cells #[.int .i64 k,.int .i64 op,.int .i64 z,.string nm,.bool at_,.slice A' n' c'] 172);exact hK _ _ ⟨.slice (some ⟨W.heap.size,0,none⟩) 1 1,by simp only[bG,h1];rfl,hJ.below hb,⟨W.heap.size,rfl,hJ.1.size,Blk.new W 172 _⟩,Nw.below hb⟩
       ·refine DU rfl λK hK=>?_;go_simp;exact hK _ _ ⟨_,rfl,hJ,rfl,Nw.refl _ _⟩
       ·refine DU rfl λK hK=>?_;go_simp;exact hK _ _ ⟨_,rfl,hJ,rfl,Nw.refl _ _⟩
       ·obtain⟨_,h4,rfl⟩:=hd 4;refine DU rfl λK hK=>?_;go_simp;exact hK _ _ ⟨_,by simp only[bG,h4];rfl,hJ,rfl,Nw.refl _ _⟩
       ·obtain⟨_,h2,a,rfl,hra⟩:=hd 2;obtain⟨u,h6,hvu,hyl,hyn⟩:=hd 6;have hWs:=hJ.1.size;have hra1:=hra.1;have hXW:ExC W (NG g (two g e) W) x _:=ExC.aA (λb hb=>⟨hb.mono hWs,hJ.1.block b hb.2.1 (by have:=hb.1;omega)⟩) HV7.out;obtain⟨v',W',hrun,hb',hsl⟩:=lr sY 166 hra.2 hXW ⟨by omega,hra.2.lt,λh=>by unfold two at h;omega⟩ hvu (λb hb=>⟨by have:=hb.1;omega,hb.2.1,λh=>by have:=hb.1;unfold two at h;omega⟩) (λb hb=>hb.2.1) hyn hyl;have HJ:=H_ (hJ.below hb');have HSL:=H_ hsl;have HBB:=H_ hb';have HRUN:=H_ hrun;clear hJ hsl hb' hvu hXW hra hrun;refine DU rfl λK hK=>?_;simp only[h2,h6,Fz];rw[Ed (by kernel_rfl)];refine fX (.tmp 16) (.tmp 20) 166 rfl rfl rfl HRUN.out ?_
        exact hK _ _ ⟨v',by simp only[bG,h2,h6];rfl,HJ.out,rvSl.aA (λb hb=>⟨by
         rcases hb with hb|hb
         ·exact hb.mono HBB.out.size
         ·exact⟨by have:=hb.1;omega,hb.2,λh=>by have:=hb.1;unfold two at h;omega⟩,rfl⟩) HSL.out,Nw.below HBB.out⟩
      ·intro xs W hJ hd;obtain⟨_,h3,rfl⟩:=hd 3;obtain⟨_,h5,rfl⟩:=hd 5;have hWs:=hJ.1.size;refine DU rfl λK hK=>?_;go_simp;refine Out.use (HLL.out W hJ.2) (λj9 w9 hr b9=>?_) (λys' j9 v w9 hr hv P9 b9=>?_)
       ·exact⟨rfl,Out.bad (by rw[HE1.out];unfold cU;rw[H5.out];simp only;rw[H6.out];simp only;rw[Ed HT.out,hr]) (hgz▸(HB7.out.trans ((hJ.1.aB b9).mono (by omega))))⟩
       ·obtain⟨rfl,rfl⟩:=hsj _ _ hr;exact hK _ _ ⟨v,by simp only[bG,h3,h5];rfl,⟨hJ.1.aB b9,P9,hr⟩,⟨hv.1.1.lower hWs,hv.1.2,hv.2⟩,Nw.of b9 (by omega)⟩
      ·intro xs W hJ hd;obtain⟨_,h0,rfl⟩:=hd 0;obtain⟨v7,h7,A7,n7,c7,hv7,hsl7⟩:=hd 7;subst hv7;have hW:=hJ.1.size;have HGW:=H_ (HG7.out.bx hJ.1 hgr7 (by omega));have HJ:=H_ hJ;have HSL:=H_ hsl7;clear hJ hsl7 hd;obtain⟨⟨d0,d1,d2,d3,d4⟩,f0,f1,f2,f3,f4⟩:=HGW.out.aD;rw[show List.range' 8 _=[8,9]from rfl,Fb];refine DU rfl λK hK=>?_;go_simp;refine hK _ _ ?_;rw[Fb];refine DU rfl λK hK=>?_;go_simp;refine hK _ _ ?_;unfold wpOps;obtain⟨N1,N2⟩:=jf HGW.out (.int .i64 5) (.string s) (.slice A7 n7 c7) (.slice none 0 0) (.slice none 0 0);have HV:=StC.of 5 s c7 0 0 HSL.out (Sl.nil _ _ none) (Sl.nil _ _ none);go_wp2_with fail;exact iN rfl (by simp) N1 (Out.ok (by rw[HE1.out];unfold cU;rw[H5.out];simp only;rw[H6.out];simp only;rw[Ed HT.out,HJ.out.2.2];rfl) ⟨_,rfl,HV.aA (λb hb=>⟨⟨by have:=hb.1;omega,DR hb.2.1 N2.size⟩,N2.block b hb.2.1 (λh=>hb.2.2 (.inl h))⟩)⟩ (HJ.out.2.1.put N2 (by omega)) (hgz▸(HB7.out.trans (HJ.out.1.mono (by omega))).put N2 (by omega) (by omega)))
     ·have HT:=H_ ht;have HE7:=hbx HE6 b7 her6;have HG7:=hbx HG6 b7 hgr6;have HV7:=H_ (ExC.aA (G':=NG g (two g e) w7) (λb hb=>⟨hb.mono b7.size,b7.block b hb.2.1 (by have:=hb.1;omega)⟩) HV6.out);have HB7:=H_ (HB6.out.trans (b7.mono (by omega)));have HP7:=H_ P7;have her7:=HE7.out.lt;have hgr7:=HG7.out.lt;have hs7:=b7.size;clear ht P7 b7 HE6 HG6 HV6 HB6 HP6;obtain⟨⟨y0,y1,y2,y3,y4,y5⟩,f0,f1,f2,f3,f4,f5⟩:=HE7.out.aC;go_wp2_with fail;obtain⟨N1,N2,N3⟩:=qa HE7.out HV7.out (λb hb=>⟨hb.2.1,λh=>hb.2.2 (.inr h)⟩) 4 0 0 s false _ rfl;have HQ8:=H_ (show gr T ex i=cU T ex m (aR s x) (q+1+1) by rw[HE1.out];conv=>lhs;unfold cU;rw[H5.out];simp only;rw[H6.out];simp only;rw[DS (by rw[HT.out];simp)]);generalize(World.alloc _ _)=W at N1 N2 N3⊢;have HE8:=H_ N1;have HG8:=hbx HG7 N2;have HP8:=H_ (HP7.out.put N2 (by omega));have HB8:=H_ (HB7.out.put N2 (by omega) (by omega))
      have HV8:=H_ (N3.aA (G':=NG g (two g e) W) (λb hb=>⟨by
       rcases hb with hb|⟨rfl,hb⟩
       ·exact hb.mono N2.size
       ·exact⟨by omega,hb,λh=>by unfold two at h;omega⟩,rfl⟩))
      have hq8:=HP8.out.lt;clear N1 N2 N3 HE7 HG7 HV7 HB7 HP7;go_roundg (T.length-(q+1+1))
      case rel=>exact⟨aR s x,q+1+1,4,0,0,s,false,_,_,_,rfl,HE8,HV8,HG8,HP8,HB8,by omega,H_ ⟨m,by omega,HQ8.out⟩⟩
      case measure=>omega
end
end
end Go.Proofs.YtjpbckbpeblibaaGreatDoor
