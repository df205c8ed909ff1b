/- part of a proof -/
import Derived.Test.YtjpbckbpeblibaaGreatDoorCC09
import Derived.Tactics2
import Derived.Defers
import Derived.Recover
namespace Go.Proofs.YtjpbckbpeblibaaGreatDoor
set_option linter.unusedVariables false
set_option linter.unusedSimpArgs false
set_option maxRecDepth 100000
set_option maxHeartbeats 64000000
section
open Go.RowKit
variable{T:List Tk}{a d u:Value}{base g i:Nat}{w:World}{α:Type}
theorem FP:type_of% @Bool.false_eq_true:=@Bool.false_eq_true
theorem Vec.zf{K:Kd α}{E f:Nat}{xs:List α}(h:Vec K E base noZ w u xs)(hf:w.heap.size<=f):Vec K E base (λb=>b=f) w u xs:=by
 have hlt:=h.lt;obtain⟨hp,css,h1,h2,h3⟩:=h;exact⟨λk hk e=>by have:=(hlt k hk).2;omega,css,h1,h2,λj x cs hx hc=>K.aA (λb hG=>⟨⟨⟨hG.1.1,hG.1.2.1,λe=>by have:=hG.1.2.1;omega⟩,hG.2⟩,rfl⟩) (h3 j x cs hx hc)⟩
theorem Vec.noz{K:Kd α}{E:Nat}{Z:Nat->Prop}{xs:List α}(h:Vec K E base Z w u xs):Vec K E base noZ w u xs:=by
 obtain⟨hp,css,h1,h2,h3⟩:=h;exact⟨λk hk e=>e,css,h1,h2,λj x cs hx hc=>K.aA (λb hG=>⟨⟨⟨hG.1.1,hG.1.2.1,λe=>e⟩,hG.2⟩,rfl⟩) (h3 j x cs hx hc)⟩
theorem Blk.aF{t:TypeId}{b c:Value}(h:Blk w g t #[a,b,c,d]):
 (w.cell? ⟨g,0,none⟩=some a/\w.cell? ⟨g,1,none⟩=some b/\w.cell? ⟨g,2,none⟩=some c/\w.cell? ⟨g,3,none⟩=some d)/\
 w.frozen? ⟨g,0,none⟩=false/\w.frozen? ⟨g,1,none⟩=false/\w.frozen? ⟨g,2,none⟩=false/\w.frozen? ⟨g,3,none⟩=false:=
 ⟨⟨h.cell 0,h.cell 1,h.cell 2,h.cell 3⟩,h.frozen 0,h.frozen 1,h.frozen 2,h.frozen 3⟩
theorem CG{t:TypeId}{b c:Value}(q:Blk w g t #[a,b,c,d])(a' b' c' d':Value):
 Blk ((((w.setCell ⟨g,0,none⟩ a').setCell ⟨g,1,none⟩ b').setCell ⟨g,2,none⟩ c').setCell ⟨g,3,none⟩ d') g t #[a',b',c',d']/\
 Bx w.heap.size g w ((((w.setCell ⟨g,0,none⟩ a').setCell ⟨g,1,none⟩ b').setCell ⟨g,2,none⟩ c').setCell ⟨g,3,none⟩ d'):=
 ⟨(((q.set 0 a').set 1 b').set 2 c').set 3 d',((((Bx.refl _ _ _).aG (.inr rfl) _).aG (.inr rfl) _).aG (.inr rfl) _).aG (.inr rfl) _⟩
theorem Dq{p c:Nat}{A:Option Addr}(h:PS w p A c T i):
 ∃w0,w.alloc (.cells #[.string ⟨#[]⟩,.bool false,.slice none 0 0,.slice none 0 0] 117)=w0/\Blk w0 w.heap.size 117 #[.string ⟨#[]⟩,.bool false,.slice none 0 0,.slice none 0 0]/\Bx w.heap.size p w w0/\PS w0 p A c T i:=
 ⟨_,rfl,Blk.new w 117 _,(Bx.refl _ _ _).new _ (DK _),h.alloc _⟩
theorem tB:(Tryz.prog.info? 117).map (·.size)=some 4:=by kernel_rfl
abbrev Bc:Rv Cl:=rvC kCl
theorem qI{n:Nat}(hn:T.length<n)(a:Bool)(ha:isT T eF i=a)(hr:a=false->isT T et i=true)(p c:Nat)(A:Option Addr)(w:World)(h:PS w p A c T i):
 Calls Tryz.prog 137 #[.pointer (some ⟨p,0,none⟩)] w (Out Bc p A c T w (cZ T n a (i+1))):=by
 have hp:=h.aE.lt;have hT:=h.wf.few;have hiT:=h.lt
 have HI:=H_ (show i+1<T.length by
  cases ha':a with
  |true=>exact mG h.wf h.lt (ha.trans ha')
  |false=>exact mG h.wf h.lt (hr ha'))
 obtain⟨w0,hw0,q0,b0,P0⟩:=Dq h;have Q0:=H_ q0;have B0:=H_ b0;have HP0:=H_ P0;clear h q0 b0 P0 hr;go_enter Tryz.func137,Tryz.ntmps137;go_upto_region 1 with(fail);have hsz:=B0.out.size;have hg0:=Q0.out.lt;obtain⟨g,hgz⟩:=nm_ (w.heap.size);rw[hgz]at Q0 hg0⊢;clear hw0;go_wp2_with fail;refine(tu p i c A T eF w0 HP0.out).mono ?_;rintro e' w1 ⟨rfl,b1'⟩;have b1:Bx w0.heap.size p w0 w1:=Bx.of b1';have P1:=HP0.out.below b1';rw[ha];obtain⟨hs1,B1,Q1,hg1⟩:=fr1 B0 Q0 b1;have HP1:=H_ P1;clear Q0 B0 HP0 P1 b1 b1' ha;go_upto_region 2 with fail;obtain⟨e,hez⟩:=nm_ (w1.heap.size);rw[hez];obtain⟨w2,hw2⟩:=nm_ (w1.alloc (.cells #[.string ⟨#[]⟩,.bool a,.slice none 0 0,.slice none 0 0] 117));have E2:=H_ (show Blk w2 e 117 _ from hw2▸hez▸Blk.new w1 117 #[.string ⟨#[]⟩,.bool a,.slice none 0 0,.slice none 0 0]);have b2:Bx w1.heap.size p w1 w2:=bxn hw2;have P2:=HP1.out.al hw2;obtain⟨hs2,B2,Q2,-⟩:=fr1 B1 Q1 b2;have HP2:=H_ P2;rw[hw2];clear hw2 b2 P2 Q1 B1 HP1;have p1:=HP2.out.aE.k1;have pf:=HP2.out.aE.frozen 1;go_upto_region 3 with fail;obtain⟨w3,hw3⟩:=nm_ (w2.setCell ⟨p,1,none⟩ (.int .i64 (i+1)));have P3:=HP2.out.move HI.out;simp only[Int.natCast_add,Int.cast_ofNat_Int]at P3;rw[hw3]at P3;have hb3:∀k,k≠p->w3.heap[k]?=w2.heap[k]?:=λk hk=>hw3▸DZ _ _ _ _ (by show k≠p;exact hk);have hsz3:w3.heap.size=w2.heap.size:=by rw[<-hw3];simp
 have Q3:=H_ ((hb3 g (by omega)).trans Q2.out);have E3:=H_ ((hb3 e (by omega)).trans E2.out);have B3:=H_ (hw3▸B2.out.aG (o:=1) (.inr rfl) (.int .i64 (i+1)));have HP3:=H_ P3;have he3:=Blk.lt E3.out;have hg3:=Blk.lt Q3.out;rw[hw3];clear hw3 P3 hb3 Q2 E2 B2 HP2 p1 pf;go_wp2_with fail;refine Out.use (po HP3.out 3 (by decide)) (λj4 w4 hr b4=>?_) (λs j4 v w4 hr hv P4 b4=>?_)
 ·exact⟨rfl,Out.bad (by unfold cZ;rw[hr]) (B3.out.trans (b4.mono (by omega)))⟩
 ·obtain rfl:v= .string s:=hv;have H4:=H_ hr;have hj4:=(dI hr).2.2;have hs4:=b4.size;have E4:=H_ (Blk.bx E3.out b4 he3 (by omega));have Q4:=H_ (Blk.bx Q3.out b4 hg3 (by omega));have B4:=H_ (B3.out.trans (b4.mono (by omega)));have HP4:=H_ P4;clear hr b4 P4 E3 Q3 B3 HP3;have e0:=E4.out.k0;have ef:=E4.out.frozen 0;go_upto_region 4 with fail;obtain⟨w5,hw5⟩:=nm_ (w4.setCell ⟨e,0,none⟩ (.string s));have bw:=bx1 hw5;have E5:=hs0 E4 hw5;have Q5:=hbx Q4 bw;have HP5:=H_ (HP4.out.put bw (by omega));have B5:=H_ (B4.out.put bw (by omega) (DK _));have hs5:=bw.size;rw[hw5];clear hw5 bw E4 Q4 HP4 B4 e0 ef;go_wp2_with fail;refine bV (s:=cu) (HP5.out.alloc _) ((Blk.new w5 _ _).cell 0) (λj6 w6 hr b6=>?_) (λj6 w6 hr P6 b6=>?_)
  ·exact⟨rfl,Out.bad (by unfold cZ;rw[H4.out];simp only;rw[show bj T cu j4= .bad j6 from hr]) (B5.out.trans ((((Bx.refl w5.heap.size p w5).new _ (DK _)).aB b6).mono (by omega)))⟩
  ·have H6:=H_ hr;have hj6:=(cQ hr).2;replace b6:=((Bx.refl w5.heap.size p w5).new _ (DK _)).aB b6;have E6:=hbx E5 b6;have Q6:=hbx Q5 b6;have B6:=H_ (B5.out.trans (b6.mono (by omega)));have HP6:=H_ P6;have hs6:=b6.size;clear hr b6 P6 E5 Q5 B5 HP5
   have HCL:=H_ (show cZ T n a (i+1)=(match bP T (T.length+1) [] j6 with
    | .bad m=> .bad m
    | .ok fs m=>match(if a=true then aM T n (T.length+1) [] m else .ok [] m)with
      | .bad p=> .bad p
      | .ok ms p=>match bj T ci p with
        | .bad q=> .bad q
        | .ok _ q=> .ok ⟨s,a,fs,ms⟩ q) by unfold cZ;rw[H4.out];simp only;rw[H6.out]<;>rfl)
   clear H4 H6;go_wp2_with fail
   go_loopg [] (T.length-j6) (λkk wr=>∃(fs:List ByteArray) (q:Nat) (A':Option Addr) (c':Nat),kk=T.length-q/\Hid (Blk wr e 117 #[.string s,.bool a,.slice A' fs.length c',.slice none 0 0])/\Hid (Vec dn 9 g (two g e) wr (.slice A' fs.length c') fs)/\
    Hid (Blk wr g 117 #[.string ⟨#[]⟩,.bool false,.slice none 0 0,.slice none 0 0])/\Hid (PS wr p A c T q)/\Hid (Bx g p w wr)/\i<q/\fs.length<=q/\Hid (∃m,T.length+1<=m+q/\bP T (T.length+1) [] j6=bP T m fs q))
   case atStart=>exact⟨[],j6,none,0,rfl,E6,H_ (Vec.nil _ _ _ _ _),Q6,HP6,hgz▸B6,by omega,by simp,H_ ⟨T.length+1,by omega,rfl⟩⟩
   case round=>
    clear E6 Q6 B6 HP6;obtain⟨fs,q,A',c',rfl,HE,HV,HG,HPr,HBr,hiq,hfq,HEr⟩:=hrel;obtain⟨m,hm,heq⟩:=HEr.out;have hqT:=HPr.out.lt;obtain⟨m,rfl⟩:∃m',m=m'+1:=⟨m-1,by omega⟩;have HE1:=H_ heq;have her:=HE.out.lt;have hgr:=HG.out.lt;have hsr:=HBr.out.size;clear HEr heq;go_wp2_with fail;refine bg HPr.out ql (λht w7 P7 b7=>?_) (λht w7 P7 b7=>?_)
    ·have HT:=H_ ht;have HE7:=hbx HE b7 her;have HG7:=hbx HG b7 hgr;have HV7:=hvk HV b7;have HB7:=H_ (HBr.out.trans (b7.mono (by omega)));have HP7:=H_ P7;have her7:=HE7.out.lt;have hgr7:=HG7.out.lt;have hs7:=b7.size;clear ht P7 b7 HE HG HV HBr HPr;go_upto_region 6 with fail;obtain⟨nm,jy,hsj⟩:=R.known (bO T 2 (q+1)) ⟨#[]⟩
     refine cv 3 5 (λys=>{tmps:= #[.pointer (some ⟨p,0,none⟩),undef,.pointer (some ⟨g,0,none⟩),.pointer (some ⟨e,0,none⟩),undef,.pointer (some ⟨p,0,none⟩),.bool a,.agg #[.string ⟨#[]⟩,.bool a,.slice none 0 0,.slice none 0 0],.pointer (some ⟨p,0,none⟩),.pointer (some ⟨p,0,none⟩),.pointer (some ⟨p,1,none⟩),.int .i64 i,.int .i64 (i+1),.pointer (some ⟨p,0,none⟩),.pointer (some ⟨p,1,none⟩),.pointer (some ⟨p,0,none⟩),.string s,.pointer (some ⟨e,0,none⟩),.pointer (some ⟨p,0,none⟩),.slice (some ⟨w5.heap.size,0,none⟩) 1 1,.tuple #[],.pointer (some ⟨p,0,none⟩),.bool true,(ys 0).getD u23,(ys 1).getD u24,(ys 2).getD u25,(ys 3).getD u26,(ys 4).getD u27,u28,u29,u30,u31,u32,undef,undef,undef,undef,undef,undef,undef,undef,undef,undef,undef,undef,undef,undef,undef,undef,undef,undef,undef,undef,undef,undef,undef,undef,undef,undef,undef],defers:=[]})
      (RJ w7 p A c T (q+1) jy (bO T 2 (q+1)= .ok nm jy)) w7.heap.size
      (λi=>match i with
        |0=>fEq (.pointer (some ⟨e,2,none⟩))
        |1=>fEq (.slice A' fs.length c')
        |2=>fEq (.pointer (some ⟨p,0,none⟩))
        |3=>fEq (.string nm)
        |_=>fRow w7.heap.size 9 #[.string nm])
      (by
        intro k
        match k with
        |0=>exact fEq.st _ _
        |1=>exact fEq.st _ _
        |2=>exact fEq.st _ _
        |3=>exact fEq.st _ _
        |_+4=>exact fRow.st _ _ _)
      (by kernel_rfl) (by kernel_rfl) (by decide) (by kernel_rfl) (by decide) rfl ⟨(Bx.refl _ _ _).drew,HP7.out.drew⟩ ?_ ?_ ?_
     ·intro i' hi hic b ys W hJ hd;obtain rfl|rfl|rfl|rfl:i'=0\/i'=1\/i'=2\/i'=4:=by omega
      ·refine DU rfl λK hK=>?_;go_simp;exact hK _ _ ⟨_,rfl,hJ,rfl,Nw.refl _ _⟩
      ·obtain⟨_,h0,rfl⟩:=hd 0;have d2:=(HE7.out.bx hJ.1 her7 (by omega)).k2;refine DU rfl λK hK=>?_;go_simp;exact hK _ _ ⟨_,by simp only[bG,h0];rfl,hJ,rfl,Nw.refl _ _⟩
      ·refine DU rfl λK hK=>?_;go_simp;exact hK _ _ ⟨_,rfl,hJ,rfl,Nw.refl _ _⟩
      ·obtain⟨_,h3,rfl⟩:=hd 3;have hb:=(DN W.heap.size W).alloc (DK _) (.cells #[.string nm] 9);refine DU rfl λK hK=>?_;go_simp;exact hK _ _ ⟨.slice (some ⟨W.heap.size,0,none⟩) 1 1,by simp only[bG,h3];rfl,hJ.below hb,⟨W.heap.size,rfl,hJ.1.size,Blk.new W 9 _⟩,Nw.below hb⟩
     ·intro ys W hJ hd;obtain⟨_,h2,rfl⟩:=hd 2;have hsW:=hJ.1.size;refine DU rfl λK hK=>?_;go_simp;refine Out.use (ep hJ.2) (λj13 w13 hr b13=>?_) (λx' j13 v w13 hr hv P13 b13=>?_)
      ·exact⟨rfl,Out.bad (by rw[HCL.out,HE1.out];unfold bP;rw[Ed HT.out,hr]) (hgz▸HB7.out.trans ((hJ.1.aB b13).mono (by omega)))⟩
      ·obtain⟨rfl,rfl⟩:=hsj _ _ hr;obtain rfl:v= .string x':=hv;exact hK _ _ ⟨_,by simp only[bG,h2];rfl,⟨hJ.1.aB b13,P13,hr⟩,rfl,Nw.of b13 (by omega)⟩
     ·intro ys W hJ hd;obtain⟨_,h0,rfl⟩:=hd 0;obtain⟨_,h1,rfl⟩:=hd 1;obtain⟨_,h2,rfl⟩:=hd 2;obtain⟨_,h3,rfl⟩:=hd 3;obtain⟨_,h4,ra,rfl,hra⟩:=hd 4;have hW:=hJ.1.size;have EW:=H_ (HE7.out.bx hJ.1 her7 (by omega));have GW:=H_ (HG7.out.bx hJ.1 hgr7 (by omega));have VW:=H_ (HV7.out.aA hJ.1.size (λk hk=>hJ.1.block k hk.2.1 (by have:=hk.1;omega)));have HJ:=H_ hJ;have HRA:=H_ hra;have HLT:=H_ HV7.out.lt;have HNZ:=H_ HV7.out.1;clear hJ hra hd HE7 HG7 HV7;rw[show List.range' 5 _=[5,6,7]from rfl,Fb];refine DU rfl λK hK=>?_;simp only[h0,h1,h2,h3,h4,Fz];rw[Ed (by kernel_rfl)];refine gx wB (.tmp 24) (.tmp 27) rfl VW.out (ys:=[nm]) (dss:=[[.string nm]]) (b:=ra) (off:=0) (c:=1) (m:=1) rfl ?_ ?_ rfl rfl rfl ?_ ?_ ?_ ?_
      ·simpa using At.aE HRA.out.2
      ·intro j' x' cs' h1' h2';cases j' with
       |zero=>
        simp at h1' h2';subst h1' h2';rfl
       |succ j'=>simp at h1'
      ·simp;omega
      ·omega
      ·exact λb hb h=>by unfold two at h;omega
      ·intro v' w14 hv14 hg14;refine hK _ _ ?_;have hs14:=hg14.size;have hown:∀k,(Value.slice A' fs.length c').ownBlock=some k->g<=k:=λk hk=>(HLT.out k hk).1;have hnz:∀k,(Value.slice A' fs.length c').ownBlock=some k->¬(k=g\/k=e):=λk hk=>HNZ.out k hk;have F14:=H_ ((hg14.block e EW.out.lt (λh=>hnz e h.symm (.inr rfl))).trans EW.out);have G14:=H_ ((hg14.block g GW.out.lt (λh=>hnz g h.symm (.inl rfl))).trans GW.out);have HP14:=H_ (HJ.out.2.1.grown hg14 (λk hk=>by have:=hown k hk;omega));have B14:=H_ ((HB7.out.trans (HJ.out.1.mono (by omega))).grown hg14 (by omega) hown);have HRJ:=H_ HJ.out.2.2;obtain⟨A15,c15,rfl,_⟩:=hv14.sl (by simp[BD];omega);rw[show(fs++[nm]).length=fs.length+1 from by simp]at hv14;have V14:=H_ hv14;clear hv14 hg14 HJ HRA EW GW VW hK K HB7 HLT HNZ hown hnz;have x2:w14.cell? ⟨e,2,none⟩=some (.slice A' fs.length c'):=Blk.cell F14.out 2;have x2f:=Blk.frozen F14.out 2;rw[Fb];refine DU rfl λK hK=>?_;go_simp;refine hK _ _ ?_;rw[Fb];refine DU rfl λK hK=>?_;go_simp;refine hK _ _ ?_;obtain⟨w15,hw15⟩:=nm_ (w14.setCell ⟨e,2,none⟩ (.slice A15 (fs.length+1) c15));have bw:=bx1 hw15;have he14:=Blk.lt F14.out;have hg14':=Blk.lt G14.out;have F15:=H_ (show Blk w15 e 117 #[.string s,.bool a,.slice A15 (fs.length+1) c15,.slice none 0 0]from hw15▸Blk.set F14.out 2 _);have G15:=H_ (Blk.bx G14.out bw hg14' (by omega));have HP15:=H_ (HP14.out.put bw (by omega));have B15:=H_ (B14.out.put bw (by omega) (by omega));have V15:=H_ (V14.out.aA bw.size (λk hk=>bw.block k hk.2.1 (λh=>hk.2.2 (.inr h))));have hs15:=bw.size;rw[hw15];clear hw15 bw F14 G14 HP14 B14 V14 x2 x2f hK K;unfold wpOps;go_wp2_with fail;refine bV (HP15.out.alloc _) ((Blk.new w15 _ _).cell 0) (λj8 w8 hr b8=>?_) (λj8 w8 hr P8 b8=>?_)
       ·exact⟨rfl,Out.bad (by rw[HCL.out,HE1.out];unfold bP;rw[Ed HT.out,HRJ.out];simp only;rw[show bj T aN jy= .bad j8 from hr]) (hgz▸B15.out.trans ((((Bx.refl w15.heap.size p w15).new _ (DK _)).aB b8).mono (by omega)))⟩
       ·replace b8:=((Bx.refl w15.heap.size p w15).new _ (DK _)).aB b8;have HE8:=H_ (show bP T (T.length+1) [] j6=bP T m (fs++[nm]) j8 by rw[HE1.out];conv=>lhs;unfold bP;rw[Ed HT.out,HRJ.out];simp only;rw[show bj T aN jy= .ok () j8 from hr]);have hj8:=(cQ hr).2;have hjy:=(dI HRJ.out).2.2;have E8:=hbx F15 b8;have G8:=hbx G15 b8;have V8:=hvk V15 b8;have B8:=H_ (B15.out.trans (b8.mono (by omega)));have HP8:=H_ P8;have hj8T:=P8.lt;clear hr b8 P8 F15 G15 V15 B15 HP15;rw[show fs.length+1=(fs++[nm]).length from by simp]at E8 V8;go_wp2_with fail;go_roundg (T.length-j8)
        case rel=>exact⟨fs++[nm],j8,A15,c15,rfl,E8,V8,G8,HP8,B8,by omega,by simp;omega,H_ ⟨m,by omega,HE8.out⟩⟩
        case measure=>omega
    ·have HT:=H_ ht;have HE7:=hbx HE b7 her;have HG7:=hbx HG b7 hgr;have HV7:=hvk HV b7;have HB7:=H_ (HBr.out.trans (b7.mono (by omega)));have HP7:=H_ P7;have her7:=HE7.out.lt;have hgr7:=HG7.out.lt;have hs7:=b7.size;have HFS:=H_ (show bP T (T.length+1) [] j6= .ok fs q by rw[HE1.out];unfold bP;rw[DS (by rw[HT.out];simp)]);clear ht P7 b7 HE HG HV HBr HPr HE1;go_wp2_with fail
     --loop two
     have hs1:g<w7.heap.size/\e<w7.heap.size:=⟨hgr7,her7⟩;have hq7:=HP7.out.lt;have SF7:=H_ (HV7.out.slice (by unfold BD;omega));have E7:=HE7;have G7:=HG7;have B7:=HB7;have V7:=H_ (Vec.nil kMe 121 w7.heap.size noZ w7);clear HE7 HG7 HB7 HV7;rw[HFS.out]at HCL;cases a with
     |false=>
      refine wp_loop_rounds 1 ?_;rw[rounds_succ];have ya:=E7.out.k1;go_upto_region 13 with fail;go_wp2_with fail;refine bV (s:=ci) (HP7.out.alloc _) ((Blk.new w7 _ _).cell 0) (λjz w8 hr b8=>?_) (λjz w8 hr P8 b8=>?_)
      ·exact⟨rfl,Out.bad (by rw[HCL.out];simp only[FP,if_false];rw[show bj T ci _= .bad jz from hr]) (hgz▸B7.out.trans ((((Bx.refl w7.heap.size p w7).new _ (DK _)).aB b8).mono (by omega)))⟩
      ·have HRB:=H_ (show bj T ci _= .ok () jz from hr);replace b8:=((Bx.refl w7.heap.size p w7).new _ (DK _)).aB b8;clear hr;have E8:=hbx E7 b8;have G8:=hbx G7 b8;have V8:=hvk V7 b8;have SF8:=H_ (SF7.out.aA (G':=NG g (two g e) w7) (λb hb=>⟨hb,b8.block b (by have:=hb.2.1;omega) (by have:=hb.1;omega)⟩));have B8:=H_ (B7.out.trans (b8.mono (by omega)));have HP8:=H_ P8;have hs8:=b8.size;clear b8 P8 B7 HP7 E7 G7 V7 SF7;have hel:=Blk.lt E8.out;obtain⟨y0,y1,y2,y3⟩:=(Blk.aF E8.out).1;obtain⟨⟨d0,d1,d2,d3⟩,f0,f1,f2,f3⟩:=Blk.aF G8.out;go_wp2_with fail;obtain⟨N1,N2⟩:=CG G8.out (.string s) (.bool false) (.slice A' fs.length c') (.slice none 0 0);refine rm g 117 _ _ rfl (by simp) N1 Tryz.underlying117 rfl tB (Out.ok (by rw[HCL.out];simp only[FP,if_false];rw[HRB.out]) ⟨[.string s,.bool false,.slice A' fs.length c',(.slice none 0 0)],rfl,A',fs.length,c',none,0,0,rfl,Sl.aA (G:=NG g (two g e) w7) (λb hb=>⟨⟨by have:=hb.1;omega,DR hb.2.1 (Ek (show w7.heap.size<=w8.heap.size by omega) N2.size)⟩,N2.block b (by have:=hb.2.1;omega) (λh=>hb.2.2 (.inl h))⟩) SF8.out,Sl.nil _ _ _⟩ (HP8.out.put N2 (by omega)) (hgz▸B8.out.put N2 (by omega) (by omega)))
     |true=>
      go_loopg [] (T.length-q) (λkk wr=>∃(ms:List Me) (r:Nat) (A2:Option Addr) (c2:Nat),kk=T.length-r/\Hid (Blk wr e 117 #[.string s,.bool true,.slice A' fs.length c',.slice A2 ms.length c2])/\Hid (Vec kMe 121 w7.heap.size noZ wr (.slice A2 ms.length c2) ms)/\Hid (Sl dn wr (NG g (two g e) w7) fs A' fs.length)/\
       Hid (Blk wr g 117 #[.string ⟨#[]⟩,.bool false,.slice none 0 0,.slice none 0 0])/\Hid (PS wr p A c T r)/\Hid (Bx g p w wr)/\w7.heap.size<=wr.heap.size/\i<r/\ms.length<=r/\Hid (∃m,T.length+1<=m+r/\aM T n (T.length+1) [] q=aM T n m ms r))
      case atStart=>exact⟨[],q,none,0,rfl,E7,V7,SF7,G7,HP7,B7,DK _,by omega,by simp,H_ ⟨T.length+1,by omega,rfl⟩⟩
      case round=>
       clear E7 V7 SF7 G7 HP7 B7;obtain⟨ms,r,A2,c2,rfl,E0,V0,SF0,G0,HP0,B0,hsr,hir,hmr,HEr⟩:=hrel;obtain⟨m,hm,heq⟩:=HEr.out;have hrT:=HP0.out.lt;obtain⟨m,rfl⟩:∃m',m=m'+1:=⟨m-1,by omega⟩;have HE1:=H_ heq;obtain⟨w0,rfl⟩:∃w',w'=wr:=⟨_,rfl⟩;clear HEr heq;have hov:∀k,(Value.slice A2 ms.length c2).ownBlock=some k->k<w0.heap.size:=λk hk=>(V0.out.lt k hk).2;have ya:=E0.out.k1;go_wp2_with fail;refine bg HP0.out kOn (λht w1 P1 b1=>?_) (λht w1 P1 b1=>?_)
       ·have HT:=H_ ht;clear ht;have E1:=hbx E0 b1;have G1:=hbx G0 b1;have V1:=hvk V0 b1;have SF1:=H_ (SF0.out.aA (G':=NG g (two g e) w7) (λb hb=>⟨hb,b1.block b (by have:=hb.2.1;omega) (by have:=hb.1;omega)⟩));have B1:=H_ (B0.out.trans (b1.mono (by omega)));have HP1:=H_ P1;have hs1:=b1.size;clear b1 P1 B0 HP0 E0 G0 V0 SF0;go_wp2_with fail;refine Out.use (ep HP1.out) (λj2 w2 hr b2=>?_) (λnm j2 v w2 hr hv P2 b2=>?_)
        ·exact⟨rfl,Out.bad (by rw[HCL.out];simp only[FZ];rw[HE1.out];unfold aM ff;rw[Ed HT.out];rw[hr]) (hgz▸B1.out.trans (b2.mono (by omega)))⟩
        ·obtain rfl:v= .string nm:=hv;have H2:=H_ hr;have hj2:=(dI hr).2.2;clear hr;have E2:=hbx E1 b2;have G2:=hbx G1 b2;have V2:=hvk V1 b2;have SF2:=H_ (SF1.out.aA (G':=NG g (two g e) w7) (λb hb=>⟨hb,b2.block b (by have:=hb.2.1;omega) (by have:=hb.1;omega)⟩));have B2:=H_ (B1.out.trans (b2.mono (by omega)));have HP2:=H_ P2;have hs2:=b2.size;clear b2 P2 B1 HP1 E1 G1 V1 SF1;go_upto_region 10 with fail;obtain⟨f,hfz⟩:=nm_ (w2.heap.size);rw[hfz];obtain⟨w3,hw3⟩:=nm_ (w2.alloc (.cells #[.string nm,.slice none 0 0,.slice none 0 0] 121));have F3:=H_ (show Blk w3 f 121 _ from hw3▸hfz▸Blk.new w2 121 #[.string nm,.slice none 0 0,.slice none 0 0]);have b3:Bx w2.heap.size p w2 w3:=bxn hw3;have P3:=HP2.out.al hw3;replace V2:=H_ (V2.out.zf (show w2.heap.size<=f by omega));have E3:=hbx E2 b3;have G3:=hbx G2 b3;have V3:=hvk V2 b3;have SF3:=H_ (SF2.out.aA (G':=NG g (two g e) w7) (λb hb=>⟨hb,b3.block b (by have:=hb.2.1;omega) (by have:=hb.1;omega)⟩));have B3:=H_ (B2.out.trans (b3.mono (by omega)));have HP3:=H_ P3;have hs3:=b3.size;clear b3 P3 B2 HP2 E2 G2 V2 SF2;have hf3:=Blk.lt F3.out;rw[hw3];clear hw3;have HLL:=H_ (zE (T:=T) (n:=211) (f:=bO T 2) (λ_ _=>by kernel_rfl) (λj hj p c A w h=>ep h) ((db 2).up (λ_=>DK _)) p c A w3 HP3.out);go_wp2_with fail;refine Out.use HLL.out (λj4 w4 hr b4=>?_) (λps j4 v w4 hr hv P4 b4=>?_)
         ·exact⟨rfl,Out.bad (by rw[HCL.out];simp only[FZ];rw[HE1.out];unfold aM ff;rw[Ed HT.out];rw[H2.out];simp only;rw[hr]) (hgz▸B3.out.trans (b4.mono (by omega)))⟩
         ·obtain⟨⟨hvec,hpl⟩,_⟩:=hv;obtain⟨A4,c4,rfl,_⟩:=hvec.sl (by unfold BD;omega);have VP4:=H_ hvec;have H4:=H_ hr;have hj4:=qi _ _ _ ((db 2).up (λ_=>DK _)) hr;clear hr hvec HLL;obtain⟨-,E4,-,G4,-,F4,-⟩:=fn3 E3 G3 F3 b4;have V4:=hvk V3 b4;have SF4:=H_ (SF3.out.aA (G':=NG g (two g e) w7) (λb hb=>⟨hb,b4.block b (by have:=hb.2.1;omega) (by have:=hb.1;omega)⟩));have B4:=H_ (B3.out.trans (b4.mono (by omega)));have HP4:=H_ P4;have hs4:=b4.size;clear b4 P4 B3 HP3 E3 G3 F3 V3 SF3;have hf4:=Blk.lt F4.out;have x1:=F4.out.k1;have x1f:=Blk.frozen F4.out 1;go_upto_region 11 with fail;obtain⟨w5,hw5'⟩:∃w5,w4.setCell ⟨f,1,none⟩ (.slice A4 ps.length c4)=w5:=⟨_,rfl⟩;have bw:Bx w4.heap.size f w4 w5:=hw5'▸(Bx.refl _ _ _).aG (.inr rfl) _;have F5:=H_ (show Blk w5 f 121 #[.string nm,.slice A4 ps.length c4,.slice none 0 0]from hw5'▸Blk.set F4.out 1 _);rw[hw5'];clear hw5' x1 x1f;have E5:=hbx E4 bw;have G5:=hbx G4 bw;have V5:=H_ (V4.out.aA bw.size (λk hk=>bw.block k hk.2.1 hk.2.2));have SF5:=H_ (SF4.out.aA (G':=NG g (two g e) w7) (λb hb=>⟨hb,bw.block b (by have:=hb.2.1;omega) (λh=>by have:=hb.2.1;have:=hb.2.2;unfold two at this;omega)⟩));have VP5:=hvk VP4 bw;have B5:=H_ (B4.out.put bw (by omega) (by omega));have HP5:=H_ (HP4.out.put bw (by omega));have hs5:=bw.size;clear bw B4 HP4 E4 G4 V4 SF4 VP4;have hf5:=Blk.lt F5.out;have HBL:=H_ (jY (T:=T) (st:=S T n) (i:=j4) (λj hj=>Aq n j (by omega)) (Cf n) p c A w5 HP5.out);go_wp2_with fail;refine Out.use HBL.out (λj6' w6' hr b6=>?_) (λbs j6' v w6' hr hv P6 b6=>?_)
          ·exact⟨rfl,Out.bad (by rw[HCL.out];simp only[FZ];rw[HE1.out];unfold aM ff;rw[Ed HT.out];rw[H2.out];simp only;rw[H4.out];simp only;rw[hr]) (hgz▸B5.out.trans (b6.mono (by omega)))⟩
          ·obtain⟨hvec,hbl⟩:=hv;obtain⟨A6,c6,rfl,_⟩:=hvec.sl (by unfold BD;omega);have VB6:=H_ hvec;have H6:=H_ hr;have hj6':=kL _ _ _ (Cf n) hr;obtain⟨w6,rfl⟩:∃w',w'=w6':=⟨_,rfl⟩;clear hr hvec HBL;obtain⟨-,E6,-,G6,-,F6,-⟩:=fn3 E5 G5 F5 b6;have V6:=hvk V5 b6;have SF6:=H_ (SF5.out.aA (G':=NG g (two g e) w7) (λb hb=>⟨hb,b6.block b (by have:=hb.2.1;omega) (by have:=hb.1;omega)⟩));have VP6:=hvk VP5 b6;have B6:=H_ (B5.out.trans (b6.mono (by omega)));have HP6:=H_ P6;have hs6:=b6.size;clear b6 P6 B5 HP5 E5 G5 F5 V5 SF5 VP5;have hf6:=Blk.lt F6.out;have x2:=F6.out.k2;have x2f:=Blk.frozen F6.out 2;go_upto_region 12 with fail;obtain⟨w8,hw8⟩:=nm_ (w6.setCell ⟨f,2,none⟩ (.slice A6 bs.length c6));have bw:=bx1 hw8;have F8:=H_ (show Blk w8 f 121 #[.string nm,.slice A4 ps.length c4,.slice A6 bs.length c6]from hw8▸Blk.set F6.out 2 _);rw[hw8];clear hw8 x2 x2f;have E8:=hbx E6 bw;have G8:=hbx G6 bw;have V8:=H_ (V6.out.aA bw.size (λk hk=>bw.block k hk.2.1 hk.2.2));have SF8:=H_ (SF6.out.aA (G':=NG g (two g e) w7) (λb hb=>⟨hb,bw.block b (by have:=hb.2.1;omega) (λh=>by have:=hb.2.1;have:=hb.2.2;unfold two at this;omega)⟩));have VP8:=hvk VP6 bw;have VB8:=hvk VB6 bw;have B8:=H_ (B6.out.put bw (by omega) (by omega));have HP8:=H_ (HP6.out.put bw (by omega));have hs8:=bw.size;clear bw B6 HP6 E6 G6 V6 SF6 VP6 VB6;have hf8:=Blk.lt F8.out;have he8:=Blk.lt E8.out;obtain⟨m0,m1,m2⟩:=F8.out.c3;have y3:=E8.out.k3;have y3f:=Blk.frozen E8.out 3;have HO:=H_ hov
           have HME:=H_ (show MeC w8 (λb=>NG w7.heap.size (λb=>b=f) w8 b/\(Value.slice A2 ms.length c2).ownBlock≠some b) ⟨nm,ps,bs⟩ [.string nm,.slice A4 ps.length c4,.slice A6 bs.length c6]from
            ⟨A4,ps.length,c4,A6,bs.length,c6,rfl,(VP8.out.slice (by unfold BD;omega)).aA (λb hb=>⟨⟨⟨by have:=hb.1;omega,hb.2.1,λh=>by have:=hb.1;omega⟩,λh=>by have:=HO.out b h;have:=hb.1;omega⟩,rfl⟩),(VB8.out.slice (by unfold BD;omega)).aA (λb hb=>⟨⟨⟨by have:=hb.1;omega,hb.2.1,λh=>by have:=hb.1;omega⟩,λh=>by have:=HO.out b h;have:=hb.1;omega⟩,rfl⟩)⟩)
           go_wp2_with (at_builtin;refine dV CD (K:=kMe) rfl (.tmp 51) (.tmp 53) rfl V8.out HME.out rfl rfl (by omega) (by omega) (λb hb h=>by omega) ?_);intro u9 w9 hv9 hg9;have hs9:=hg9.size;have hown:∀k,(Value.slice A2 ms.length c2).ownBlock=some k->w7.heap.size<=k:=λk hk=>(V8.out.lt k hk).1;have E9:=H_ ((hg9.block e he8 (λh=>by have:=hown e h.symm;omega)).trans E8.out);have G9:=H_ ((hg9.block g (by omega) (λh=>by have:=hown g h.symm;omega)).trans G8.out);have HP9:=H_ (HP8.out.grown hg9 (λk hk=>by have:=hown k hk;omega));have B9:=H_ (B8.out.grown hg9 (by omega) (λk hk=>by have:=hown k hk;omega));have SF9:=H_ (SF8.out.aA (G':=NG g (two g e) w7) (λb hb=>⟨hb,hg9.block b (by have:=hb.2.1;omega) (λh=>by have:=hown b h.symm;have:=hb.2.1;omega)⟩));obtain⟨A9,c9,rfl,_⟩:=hv9.sl (by simp[BD];omega);rw[show(ms++[(⟨nm,ps,bs⟩:Me)]).length=ms.length+1 from by simp]at hv9;have V9:=H_ hv9.noz;have he9:e<w9.heap.size:=by omega
           have x3:w9.cell? ⟨e,3,none⟩=some (.slice A2 ms.length c2):=Blk.cell E9.out 3;have x3f:=Blk.frozen E9.out 3;clear hv9 hg9 E8 G8 HP8 B8 SF8 V8 VP8 VB8 HME F8 y3 y3f m0 m1 m2;go_wp2_with fail;rw[show(ms++[(⟨nm,ps,bs⟩:Me)]).length=ms.length+1 from by simp];obtain⟨w10,hw10⟩:=nm_ (w9.setCell ⟨e,3,none⟩ (.slice A9 (ms.length+1) c9));have bw:=bx1 hw10;have E10:=H_ (show Blk w10 e 117 #[.string s,.bool true,.slice A' fs.length c',.slice A9 (ms.length+1) c9]from hw10▸Blk.set E9.out 3 _);rw[hw10];clear hw10 x3 x3f;have G10:=hbx G9 bw;have V10:=hvk V9 bw;have SF10:=H_ (SF9.out.aA (G':=NG g (two g e) w7) (λb hb=>⟨hb,bw.block b (by have:=hb.2.1;omega) (λh=>by have:=hb.2.1;have:=hb.2.2;unfold two at this;omega)⟩));have B10:=H_ (B9.out.put bw (by omega) (by omega));have HP10:=H_ (HP9.out.put bw (by omega));have hs10:=bw.size;clear bw B9 HP9 G9 V9 SF9;have HE10:=H_ (show aM T n (T.length+1) [] q=aM T n m (ms++[⟨nm,ps,bs⟩]) j6' by rw[HE1.out];conv=>lhs;unfold aM ff;rw[Ed HT.out,H2.out];simp only;rw[H4.out];simp only;rw[H6.out]);have hj10:=HP10.out.lt;rw[show ms.length+1=(ms++[(⟨nm,ps,bs⟩:Me)]).length from by simp]at E10 V10;go_roundg (T.length-j6')
           case rel=>exact⟨ms++[⟨nm,ps,bs⟩],j6',A9,c9,rfl,E10,V10,SF10,G10,HP10,B10,by omega,by omega,by simp;omega,H_ ⟨m,by omega,HE10.out⟩⟩
           case measure=>omega
       ·have HT:=H_ ht;clear ht;have E1:=hbx E0 b1;have G1:=hbx G0 b1;have V1:=hvk V0 b1;have SF1:=H_ (SF0.out.aA (G':=NG g (two g e) w7) (λb hb=>⟨hb,b1.block b (by have:=hb.2.1;omega) (by have:=hb.1;omega)⟩));have B1:=H_ (B0.out.trans (b1.mono (by omega)));have HP1:=H_ P1;have hs1:=b1.size;clear b1 P1 B0 HP0 E0 G0 V0 SF0;go_wp2_with fail;refine bV (s:=ci) (HP1.out.alloc _) ((Blk.new w1 _ _).cell 0) (λjz w2 hr b2=>?_) (λjz w2 hr P2 b2=>?_)
        ·exact⟨rfl,Out.bad (by rw[HCL.out];simp only[FZ];rw[HE1.out];unfold aM;rw[DS (by rw[HT.out];simp)];simp only;rw[show bj T ci _= .bad jz from hr]) (hgz▸B1.out.trans ((((Bx.refl w1.heap.size p w1).new _ (DK _)).aB b2).mono (by omega)))⟩
        ·have HRB:=H_ (show bj T ci _= .ok () jz from hr);replace b2:=((Bx.refl w1.heap.size p w1).new _ (DK _)).aB b2;clear hr;have E2:=hbx E1 b2;have G2:=hbx G1 b2;have V2:=hvk V1 b2;have SF2:=H_ (SF1.out.aA (G':=NG g (two g e) w7) (λb hb=>⟨hb,b2.block b (by have:=hb.2.1;omega) (by have:=hb.1;omega)⟩));have B2:=H_ (B1.out.trans (b2.mono (by omega)));have HP2:=H_ P2;have hs2:=b2.size;clear b2 P2 B1 HP1 E1 G1 V1 SF1;have hel:=Blk.lt E2.out;obtain⟨y0,y1,y2,y3⟩:=(Blk.aF E2.out).1;obtain⟨⟨d0,d1,d2,d3⟩,f0,f1,f2,f3⟩:=Blk.aF G2.out;go_wp2_with fail;obtain⟨N1,N2⟩:=CG G2.out (.string s) (.bool true) (.slice A' fs.length c') (.slice A2 ms.length c2);refine rm g 117 _ _ rfl (by simp) N1 Tryz.underlying117 rfl tB (Out.ok (by rw[HCL.out];simp only[FZ];rw[HE1.out];unfold aM;rw[DS (by rw[HT.out];simp)];simp only;rw[HRB.out]) ⟨[.string s,.bool true,.slice A' fs.length c',(.slice A2 ms.length c2)],rfl,A',fs.length,c',A2,ms.length,c2,rfl,Sl.aA (G:=NG g (two g e) w7) (λb hb=>⟨⟨by have:=hb.1;omega,DR hb.2.1 (Ek (show w7.heap.size<=w2.heap.size by omega) N2.size)⟩,N2.block b (by have:=hb.2.1;omega) (λh=>hb.2.2 (.inl h))⟩) SF2.out,Sl.aA (G:=NG w7.heap.size noZ w2) (λb hb=>⟨⟨by have:=hb.1;omega,DR hb.2.1 N2.size⟩,N2.block b hb.2.1 (by have:=hb.1;omega)⟩) (V2.out.slice (by unfold BD;omega))⟩ (HP2.out.put N2 (by omega)) (hgz▸B2.out.put N2 (by omega) (by omega)))
def cR(T:List Tk)(n:Nat):Nat->List Cl->Nat->R (List Cl)
 |0,_,i=> .bad i
 |k+1,cs,i=>if isT T eF i=true then(match cZ T n true (i+1)with
   | .bad j=> .bad j
   | .ok c j=>cR T n k (cs++[c]) j)
  else if isT T et i=true then(match cZ T n false (i+1)with
   | .bad j=> .bad j
   | .ok c j=>cR T n k (cs++[c]) j)
  else .ok cs i
def BU(T:List Tk)(r:R (List Cl)):R (List Cl):=match r with
 | .bad j=> .bad j
 | .ok cs j=>if(tk T j).1=0 then .ok cs j else .bad j
theorem eR(T:List Tk)(n:Nat):∀k cs i,cr T n k cs i=BU T (cR T n k cs i)
 |0,cs,i=>rfl
 |k+1,cs,i=>by
  unfold cr cR;by_cases h1:isT T eF i=true
  ·rw[Ed h1,Ed h1];cases hc:cZ T n true (i+1)with
   |bad j=>rfl
   |ok c j=>exact eR T n k _ _
  ·rw[DS h1,DS h1];by_cases h2:isT T et i=true
   ·rw[Ed h2,Ed h2];cases hc:cZ T n false (i+1)with
    |bad j=>rfl
    |ok c j=>exact eR T n k _ _
   ·rw[DS h2,DS h2];rfl
def rvP:Rv (List Cl):=λw G cs v=>∃A n c,v= .agg #[.slice A n c]/\Sl kCl w G cs A n
theorem BL:(Tryz.prog.info? 28).map (·.size)=some 1:=by kernel_rfl
theorem us{n:Nat}(hn:T.length<n)(p c:Nat)(A:Option Addr)(w:World)(h:PS w p A c T i):
 Calls Tryz.prog 86 #[.pointer (some ⟨p,0,none⟩)] w (Out rvP p A c T w (cR T n (T.length+1) [] i)):=by
 have hp:=h.aE.lt;have hT:=h.wf.few;have HP:=H_ h;obtain⟨w0,hw0⟩:=nm_ ((w.alloc (.cells #[.slice none 0 0] 28)).alloc (.cells #[.slice none 0 0] 28));have G0:=H_ (show Blk w0 w.heap.size 28 #[.slice none 0 0]from hw0▸(Blk.new w 28 _).alloc _);have E0:=H_ (show Blk w0 (w.heap.size+1) 28 #[.slice none 0 0]from hw0▸(by have:=Blk.new (w.alloc (.cells #[.slice none 0 0] 28)) 28 #[.slice none 0 0];simpa using this));have B0:=H_ (show Bx w.heap.size p w w0 from hw0▸((Bx.refl _ _ _).new _ (DK _)).new _ (DK _));have HP0:=H_ (show PS w0 p A c T i from hw0▸(HP.out.alloc _).alloc _);have hs0:w0.heap.size=w.heap.size+1+1:=by rw[<-hw0];simp
 clear h HP;go_enter Tryz.func86,Tryz.ntmps86;go_upto_region 2 with(fail);obtain⟨g,hgz⟩:=nm_ (w.heap.size);obtain⟨e,hez⟩:=nm_ (g+1);rw[hgz]at G0 E0 hs0⊢;rw[hez]at E0 hs0⊢;clear hw0
 go_loopg [] (T.length-i) (λkk wr=>∃(cs:List Cl) (q:Nat) (A':Option Addr) (c':Nat),kk=T.length-q/\Hid (Blk wr e 28 #[.slice A' cs.length c'])/\Hid (Vec kCl 117 g (two g e) wr (.slice A' cs.length c') cs)/\
  Hid (Blk wr g 28 #[.slice none 0 0])/\Hid (PS wr p A c T q)/\Hid (Bx g p w wr)/\i<=q/\cs.length<=q/\Hid (∃m,T.length+1<=m+q/\cR T n (T.length+1) [] i=cR T n m cs q))
 case atStart=>exact⟨[],i,none,0,rfl,E0,H_ (Vec.nil _ _ _ _ _),G0,HP0,hgz▸B0,DK _,by simp,H_ ⟨T.length+1,by omega,rfl⟩⟩
 case round=>
  clear E0 G0 B0 HP0;obtain⟨cs,q,A',c',rfl,HE,HV,HG,HPr,HBr,hiq,hcq,HEr⟩:=hrel;obtain⟨m,hm,heq⟩:=HEr.out;have hqT:=HPr.out.lt;obtain⟨m,rfl⟩:∃m',m=m'+1:=⟨m-1,by omega⟩;have HE1:=H_ heq;have her:=HE.out.lt;have hgr:=HG.out.lt;have hsr:=HBr.out.size;clear HEr heq;go_wp2_with fail;refine mF HPr.out et (λht w7 P7 b7=>?_) (λht w7 P7 b7=>?_)
  ·have HT:=H_ ht;have HTA:=H_ (show isT T eF q=false from tt ht (λh=>absurd (show(6:Nat)=5 from Fo ByteArray.size h) (by decide)));have HE7:=hbx HE b7 her;have HG7:=hbx HG b7 hgr;have HV7:=hvk HV b7;have HB7:=H_ (HBr.out.trans (b7.mono (by omega)));have HP7:=H_ P7;have hs7:=b7.size;clear ht P7 b7 HE HG HV HBr HPr;go_upto_region 3 with fail;have her7:=HE7.out.lt;have hgr7:=HG7.out.lt;obtain⟨cl,jy,hsj⟩:=R.known (cZ T n false (q+1)) ⟨⟨#[]⟩,false,[],[]⟩
   refine cv 3 5 (λys=>{tmps:= #[.pointer (some ⟨p,0,none⟩),undef,.pointer (some ⟨g,0,none⟩),.pointer (some ⟨e,0,none⟩),.pointer (some ⟨p,0,none⟩),.bool true,.bool true,undef,undef,.bool true,(ys 0).getD u10,(ys 1).getD u11,(ys 2).getD u12,(ys 3).getD u13,(ys 4).getD u14,u15,u16,undef],defers:=[]})
    (RJ w7 p A c T q jy (cZ T n false (q+1)= .ok cl jy)) w7.heap.size
    (λi=>match i with
      |0=>fEq (.pointer (some ⟨e,0,none⟩))
      |1=>fEq (.slice A' cs.length c')
      |2=>fEq (.pointer (some ⟨p,0,none⟩))
      |3=>λv W=>Bc W (NG w7.heap.size noZ W) cl v
      |_=>λv W=>∃ra ds,v= .slice (some ⟨ra,0,none⟩) 1 1/\RowA w7.heap.size W ra ds.toArray 117/\ClC W (NG w7.heap.size noZ W) cl ds)
    (by
      intro k
      match k with
      |0=>exact fEq.st _ _
      |1=>exact fEq.st _ _
      |2=>exact fEq.st _ _
      |3=>exact λ_ _ _ hn h=>rvC.aA (λb hb=>⟨hb.mono hn.size,hn.block b hb.1 hb.2.1⟩) h
      |_+4=>exact λ_ _ _ hn ⟨ra,ds,h1,h2,h3⟩=>⟨ra,ds,h1,h2.nw hn,kCl.aA (λb hb=>⟨hb.mono hn.size,hn.block b hb.1 hb.2.1⟩) h3⟩)
    (by kernel_rfl) (by kernel_rfl) (by decide) (by kernel_rfl) (by decide) rfl ⟨(Bx.refl _ _ _).drew,HP7.out.drew⟩ ?_ ?_ ?_
   ·intro i' hi hic b ys W hJ hd;obtain rfl|rfl|rfl|rfl:i'=0\/i'=1\/i'=2\/i'=4:=by omega
    ·refine DU rfl λK hK=>?_;go_simp;exact hK _ _ ⟨_,rfl,hJ,rfl,Nw.refl _ _⟩
    ·obtain⟨_,h0,rfl⟩:=hd 0;have d0:=(HE7.out.bx hJ.1 her7 (by omega)).k0;refine DU rfl λK hK=>?_;go_simp;exact hK _ _ ⟨_,by simp only[bG,h0];rfl,hJ,rfl,Nw.refl _ _⟩
    ·refine DU rfl λK hK=>?_;go_simp;exact hK _ _ ⟨_,rfl,hJ,rfl,Nw.refl _ _⟩
    ·obtain⟨_,h3,ds,rfl,hds⟩:=hd 3;obtain⟨A1,n1,c1,A2,n2,c2,rfl,hs1,hs2⟩:=hds;have hb:=(DN W.heap.size W).alloc (DK _) (.cells #[.string cl.nm,.bool cl.actor,.slice A1 n1 c1,.slice A2 n2 c2] 117);have HCC:=H_ (show ClC W (NG w7.heap.size noZ W) cl [.string cl.nm,.bool cl.actor,.slice A1 n1 c1,.slice A2 n2 c2]from⟨A1,n1,c1,A2,n2,c2,rfl,hs1,hs2⟩);have HJ:=H_ hJ;have HB:=H_ hb;clear hs1 hs2 hJ hb;refine DU rfl λK hK=>?_;go_simp;exact hK _ _ ⟨.slice (some ⟨W.heap.size,0,none⟩) 1 1,by simp only[bG,h3];rfl,HJ.out.below HB.out,⟨W.heap.size,_,rfl,⟨HJ.out.1.size,Blk.new W 117 _⟩,kCl.aA (λb hb'=>⟨hb'.mono HB.out.size,HB.out.block b hb'.2.1⟩) HCC.out⟩,Nw.below HB.out⟩
   ·intro ys W hJ hd;obtain⟨_,h2,rfl⟩:=hd 2;have hsW:=hJ.1.size;refine DU rfl λK hK=>?_;go_simp;refine Out.use (qI hn false HTA.out (λ_=>HT.out) p c A W hJ.2) (λj13 w13 hr b13=>?_) (λx' j13 v w13 hr hv P13 b13=>?_)
    ·exact⟨rfl,Out.bad (by rw[HE1.out];unfold cR;rw[DS (by rw[HTA.out];simp),Ed HT.out,hr]) (hgz▸HB7.out.trans ((hJ.1.aB b13).mono (by omega)))⟩
    ·obtain⟨rfl,rfl⟩:=hsj _ _ hr;exact hK _ _ ⟨v,by simp only[bG,h2];rfl,⟨hJ.1.aB b13,P13,hr⟩,rvC.aA (λb hb=>⟨⟨by have:=hb.1;omega,hb.2,λh=>h⟩,rfl⟩) hv,Nw.of b13 (by omega)⟩
   ·intro ys W hJ hd;obtain⟨_,h0,rfl⟩:=hd 0;obtain⟨_,h1,rfl⟩:=hd 1;obtain⟨_,h2,rfl⟩:=hd 2;obtain⟨v3,h3,_⟩:=hd 3;obtain⟨_,h4,ra,ds,rfl,hra,hds⟩:=hd 4;have hW:=hJ.1.size;have EW:=H_ (HE7.out.bx hJ.1 her7 (by omega));have GW:=H_ (HG7.out.bx hJ.1 hgr7 (by omega));have VW:=H_ (HV7.out.aA hJ.1.size (λk hk=>hJ.1.block k hk.2.1 (by have:=hk.1;omega)));have HJ:=H_ hJ;have HRA:=H_ hra;have HDS:=H_ hds;have HLT:=H_ HV7.out.lt;have HNZ:=H_ HV7.out.1;clear hJ hra hds hd HE7 HG7 HV7;rw[show List.range' 5 _=[5,6,7]from rfl,Fb];refine DU rfl λK hK=>?_;simp only[h0,h1,h2,h3,h4,Fz];rw[Ed (by kernel_rfl)];refine gx As (.tmp 11) (.tmp 14) rfl VW.out (ys:=[cl]) (dss:=[ds]) (b:=ra) (off:=0) (c:=1) (m:=1) rfl ?_ ?_ rfl rfl rfl ?_ ?_ ?_ ?_
    ·simpa using At.aE HRA.out.2
    ·intro j' x' cs' h1' h2';cases j' with
     |zero=>
      simp at h1' h2';subst h1' h2';exact kCl.aA (λb hb=>⟨⟨⟨by have:=hb.1;omega,hb.2.1,λh=>by have:=hb.1;unfold two at h;omega⟩,λh=>by have:=(HLT.out b h).2;have:=hb.1;omega⟩,rfl⟩) HDS.out
     |succ j'=>simp at h1'
    ·simp;omega
    ·omega
    ·exact λb hb h=>by unfold two at h;omega
    ·intro v' w14 hv14 hg14;refine hK _ _ ?_;have hs14:=hg14.size;have hown:∀k,(Value.slice A' cs.length c').ownBlock=some k->g<=k:=λk hk=>(HLT.out k hk).1;have hnz:∀k,(Value.slice A' cs.length c').ownBlock=some k->¬(k=g\/k=e):=λk hk=>HNZ.out k hk;have F14:=H_ ((hg14.block e EW.out.lt (λh=>hnz e h.symm (.inr rfl))).trans EW.out);have G14:=H_ ((hg14.block g GW.out.lt (λh=>hnz g h.symm (.inl rfl))).trans GW.out);have HP14:=H_ (HJ.out.2.1.grown hg14 (λk hk=>by have:=hown k hk;omega));have B14:=H_ ((HB7.out.trans (HJ.out.1.mono (by omega))).grown hg14 (by omega) hown);have HRJ:=H_ HJ.out.2.2;obtain⟨A15,c15,rfl,_⟩:=hv14.sl (by simp[BD];omega);rw[show(cs++[cl]).length=cs.length+1 from by simp]at hv14;have V14:=H_ hv14;clear hv14 hg14 HJ HRA HDS EW GW VW hK K HB7 HLT HNZ hown hnz;have x0:w14.cell? ⟨e,0,none⟩=some (.slice A' cs.length c'):=Blk.cell F14.out 0;have x0f:=Blk.frozen F14.out 0;rw[Fb];refine DU rfl λK hK=>?_;go_simp;refine hK _ _ ?_;rw[Fb];refine DU rfl λK hK=>?_;go_simp;refine hK _ _ ?_;obtain⟨w15,hw15⟩:=nm_ (w14.setCell ⟨e,0,none⟩ (.slice A15 (cs.length+1) c15));have bw:=bx1 hw15;have he14:=Blk.lt F14.out;have hg14':=Blk.lt G14.out;have F15:=H_ (show Blk w15 e 28 #[.slice A15 (cs.length+1) c15]from hw15▸Blk.set F14.out 0 _);have G15:=H_ (Blk.bx G14.out bw hg14' (by omega));have HP15:=H_ (HP14.out.put bw (by omega));have B15:=H_ (B14.out.put bw (by omega) (by omega));have V15:=H_ (V14.out.aA bw.size (λk hk=>bw.block k hk.2.1 (λh=>hk.2.2 (.inr h))));have hjT:=HP15.out.lt;have hjq:=((iJ n false).up (λx=>by unfold csz;omega)) _ _ _ HRJ.out;rw[hw15];clear hw15 bw F14 G14 HP14 B14 V14 x0 x0f hK K;have HE8:=H_ (show cR T n (T.length+1) [] i=cR T n m (cs++[cl]) jy by rw[HE1.out];conv=>lhs;unfold cR;rw[DS (by rw[HTA.out];simp),Ed HT.out,HRJ.out]);rw[show cs.length+1=(cs++[cl]).length from by simp]at F15 V15;unfold wpOps;go_wp2_with fail;go_roundg (T.length-jy)
     case rel=>exact⟨cs++[cl],jy,A15,c15,rfl,F15,V15,G15,HP15,B15,by omega,by simp;omega,H_ ⟨m,by omega,HE8.out⟩⟩
     case measure=>omega
  ·have HT:=H_ ht;have HE7:=hbx HE b7 her;have HG7:=hbx HG b7 hgr;have HV7:=hvk HV b7;have HB7:=H_ (HBr.out.trans (b7.mono (by omega)));have HP7:=H_ P7;have hs7:=b7.size;have her7:=HE7.out.lt;have hgr7:=HG7.out.lt;clear ht P7 b7 HE HG HV HBr HPr;go_wp2_with fail;refine mF HP7.out eF (λht w8 P8 b8=>?_) (λht w8 P8 b8=>?_)
   ·have HTR:=HT;clear HT;have HT:=H_ ht;have HE8:=hbx HE7 b8 her7;have HG8:=hbx HG7 b8 hgr7;have HV8:=hvk HV7 b8;have HB8:=H_ (HB7.out.trans (b8.mono (by omega)));have HP8:=H_ P8;have hs8:=b8.size;clear ht P8 b8 HE7 HG7 HV7 HB7 HP7;go_upto_region 3 with fail;have her8:=HE8.out.lt;have hgr8:=HG8.out.lt;obtain⟨cl,jy,hsj⟩:=R.known (cZ T n true (q+1)) ⟨⟨#[]⟩,false,[],[]⟩
    refine cv 3 5 (λys=>{tmps:= #[.pointer (some ⟨p,0,none⟩),undef,.pointer (some ⟨g,0,none⟩),.pointer (some ⟨e,0,none⟩),.pointer (some ⟨p,0,none⟩),.bool false,.bool false,.pointer (some ⟨p,0,none⟩),.bool true,.bool true,(ys 0).getD u10,(ys 1).getD u11,(ys 2).getD u12,(ys 3).getD u13,(ys 4).getD u14,u15,u16,undef],defers:=[]})
     (RJ w8 p A c T q jy (cZ T n true (q+1)= .ok cl jy)) w8.heap.size
     (λi=>match i with
       |0=>fEq (.pointer (some ⟨e,0,none⟩))
       |1=>fEq (.slice A' cs.length c')
       |2=>fEq (.pointer (some ⟨p,0,none⟩))
       |3=>λv W=>Bc W (NG w8.heap.size noZ W) cl v
       |_=>λv W=>∃ra ds,v= .slice (some ⟨ra,0,none⟩) 1 1/\RowA w8.heap.size W ra ds.toArray 117/\ClC W (NG w8.heap.size noZ W) cl ds)
     (by
       intro k
       match k with
       |0=>exact fEq.st _ _
       |1=>exact fEq.st _ _
       |2=>exact fEq.st _ _
       |3=>exact λ_ _ _ hn h=>rvC.aA (λb hb=>⟨hb.mono hn.size,hn.block b hb.1 hb.2.1⟩) h
       |_+4=>exact λ_ _ _ hn ⟨ra,ds,h1,h2,h3⟩=>⟨ra,ds,h1,h2.nw hn,kCl.aA (λb hb=>⟨hb.mono hn.size,hn.block b hb.1 hb.2.1⟩) h3⟩)
     (by kernel_rfl) (by kernel_rfl) (by decide) (by kernel_rfl) (by decide) rfl ⟨(Bx.refl _ _ _).drew,HP8.out.drew⟩ ?_ ?_ ?_
    ·intro i' hi hic b ys W hJ hd;obtain rfl|rfl|rfl|rfl:i'=0\/i'=1\/i'=2\/i'=4:=by omega
     ·refine DU rfl λK hK=>?_;go_simp;exact hK _ _ ⟨_,rfl,hJ,rfl,Nw.refl _ _⟩
     ·obtain⟨_,h0,rfl⟩:=hd 0;have d0:=(HE8.out.bx hJ.1 her8 (by omega)).k0;refine DU rfl λK hK=>?_;go_simp;exact hK _ _ ⟨_,by simp only[bG,h0];rfl,hJ,rfl,Nw.refl _ _⟩
     ·refine DU rfl λK hK=>?_;go_simp;exact hK _ _ ⟨_,rfl,hJ,rfl,Nw.refl _ _⟩
     ·obtain⟨_,h3,ds,rfl,hds⟩:=hd 3;obtain⟨A1,n1,c1,A2,n2,c2,rfl,hs1,hs2⟩:=hds;have hb:=(DN W.heap.size W).alloc (DK _) (.cells #[.string cl.nm,.bool cl.actor,.slice A1 n1 c1,.slice A2 n2 c2] 117);have HCC:=H_ (show ClC W (NG w8.heap.size noZ W) cl [.string cl.nm,.bool cl.actor,.slice A1 n1 c1,.slice A2 n2 c2]from⟨A1,n1,c1,A2,n2,c2,rfl,hs1,hs2⟩);have HJ:=H_ hJ;have HB:=H_ hb;clear hs1 hs2 hJ hb;refine DU rfl λK hK=>?_;go_simp;exact hK _ _ ⟨.slice (some ⟨W.heap.size,0,none⟩) 1 1,by simp only[bG,h3];rfl,HJ.out.below HB.out,⟨W.heap.size,_,rfl,⟨HJ.out.1.size,Blk.new W 117 _⟩,kCl.aA (λb hb'=>⟨hb'.mono HB.out.size,HB.out.block b hb'.2.1⟩) HCC.out⟩,Nw.below HB.out⟩
    ·intro ys W hJ hd;obtain⟨_,h2,rfl⟩:=hd 2;have hsW:=hJ.1.size;refine DU rfl λK hK=>?_;go_simp;refine Out.use (qI hn true HT.out (λh=>by cases h) p c A W hJ.2) (λj13 w13 hr b13=>?_) (λx' j13 v w13 hr hv P13 b13=>?_)
     ·exact⟨rfl,Out.bad (by rw[HE1.out];unfold cR;rw[Ed HT.out,hr]) (hgz▸HB8.out.trans ((hJ.1.aB b13).mono (by omega)))⟩
     ·obtain⟨rfl,rfl⟩:=hsj _ _ hr;exact hK _ _ ⟨v,by simp only[bG,h2];rfl,⟨hJ.1.aB b13,P13,hr⟩,rvC.aA (λb hb=>⟨⟨by have:=hb.1;omega,hb.2,λh=>h⟩,rfl⟩) hv,Nw.of b13 (by omega)⟩
    ·intro ys W hJ hd;obtain⟨_,h0,rfl⟩:=hd 0;obtain⟨_,h1,rfl⟩:=hd 1;obtain⟨_,h2,rfl⟩:=hd 2;obtain⟨v3,h3,_⟩:=hd 3;obtain⟨_,h4,ra,ds,rfl,hra,hds⟩:=hd 4;have hW:=hJ.1.size;have EW:=H_ (HE8.out.bx hJ.1 her8 (by omega));have GW:=H_ (HG8.out.bx hJ.1 hgr8 (by omega));have VW:=H_ (HV8.out.aA hJ.1.size (λk hk=>hJ.1.block k hk.2.1 (by have:=hk.1;omega)));have HJ:=H_ hJ;have HRA:=H_ hra;have HDS:=H_ hds;have HLT:=H_ HV8.out.lt;have HNZ:=H_ HV8.out.1;clear hJ hra hds hd HE8 HG8 HV8;rw[show List.range' 5 _=[5,6,7]from rfl,Fb];refine DU rfl λK hK=>?_;simp only[h0,h1,h2,h3,h4,Fz];rw[Ed (by kernel_rfl)];refine gx As (.tmp 11) (.tmp 14) rfl VW.out (ys:=[cl]) (dss:=[ds]) (b:=ra) (off:=0) (c:=1) (m:=1) rfl ?_ ?_ rfl rfl rfl ?_ ?_ ?_ ?_
     ·simpa using At.aE HRA.out.2
     ·intro j' x' cs' h1' h2';cases j' with
      |zero=>
       simp at h1' h2';subst h1' h2';exact kCl.aA (λb hb=>⟨⟨⟨by have:=hb.1;omega,hb.2.1,λh=>by have:=hb.1;unfold two at h;omega⟩,λh=>by have:=(HLT.out b h).2;have:=hb.1;omega⟩,rfl⟩) HDS.out
      |succ j'=>simp at h1'
     ·simp;omega
     ·omega
     ·exact λb hb h=>by unfold two at h;omega
     ·intro v' w14 hv14 hg14;refine hK _ _ ?_;have hs14:=hg14.size;have hown:∀k,(Value.slice A' cs.length c').ownBlock=some k->g<=k:=λk hk=>(HLT.out k hk).1;have hnz:∀k,(Value.slice A' cs.length c').ownBlock=some k->¬(k=g\/k=e):=λk hk=>HNZ.out k hk;have F14:=H_ ((hg14.block e EW.out.lt (λh=>hnz e h.symm (.inr rfl))).trans EW.out);have G14:=H_ ((hg14.block g GW.out.lt (λh=>hnz g h.symm (.inl rfl))).trans GW.out);have HP14:=H_ (HJ.out.2.1.grown hg14 (λk hk=>by have:=hown k hk;omega));have B14:=H_ ((HB8.out.trans (HJ.out.1.mono (by omega))).grown hg14 (by omega) hown);have HRJ:=H_ HJ.out.2.2;obtain⟨A15,c15,rfl,_⟩:=hv14.sl (by simp[BD];omega);rw[show(cs++[cl]).length=cs.length+1 from by simp]at hv14;have V14:=H_ hv14;clear hv14 hg14 HJ HRA HDS EW GW VW hK K HB8 HLT HNZ hown hnz;have x0:w14.cell? ⟨e,0,none⟩=some (.slice A' cs.length c'):=Blk.cell F14.out 0;have x0f:=Blk.frozen F14.out 0;rw[Fb];refine DU rfl λK hK=>?_;go_simp;refine hK _ _ ?_;rw[Fb];refine DU rfl λK hK=>?_;go_simp;refine hK _ _ ?_;obtain⟨w15,hw15⟩:=nm_ (w14.setCell ⟨e,0,none⟩ (.slice A15 (cs.length+1) c15));have bw:=bx1 hw15;have he14:=Blk.lt F14.out;have hg14':=Blk.lt G14.out;have F15:=H_ (show Blk w15 e 28 #[.slice A15 (cs.length+1) c15]from hw15▸Blk.set F14.out 0 _);have G15:=H_ (Blk.bx G14.out bw hg14' (by omega));have HP15:=H_ (HP14.out.put bw (by omega));have B15:=H_ (B14.out.put bw (by omega) (by omega));have V15:=H_ (V14.out.aA bw.size (λk hk=>bw.block k hk.2.1 (λh=>hk.2.2 (.inr h))));have hjT:=HP15.out.lt;have hjq:=((iJ n true).up (λx=>by unfold csz;omega)) _ _ _ HRJ.out;rw[hw15];clear hw15 bw F14 G14 HP14 B14 V14 x0 x0f hK K;have HE8:=H_ (show cR T n (T.length+1) [] i=cR T n m (cs++[cl]) jy by rw[HE1.out];conv=>lhs;unfold cR;rw[Ed HT.out,HRJ.out]);rw[show cs.length+1=(cs++[cl]).length from by simp]at F15 V15;unfold wpOps;go_wp2_with fail;go_roundg (T.length-jy)
      case rel=>exact⟨cs++[cl],jy,A15,c15,rfl,F15,V15,G15,HP15,B15,by omega,by simp;omega,H_ ⟨m,by omega,HE8.out⟩⟩
      case measure=>omega
   ·have HTA:=H_ ht;have HE8:=hbx HE7 b8 her7;have HG8:=hbx HG7 b8 hgr7;have HV8:=hvk HV7 b8;have HB8:=H_ (HB7.out.trans (b8.mono (by omega)));have HP8:=H_ P8;have hs8:=b8.size;clear ht P8 b8 HE7 HG7 HV7 HB7 HP7;have her8:=HE8.out.lt;have y0:=HE8.out.k0;have d0:=HG8.out.k0;have f0:=HG8.out.frozen 0;go_wp2_with fail;have N2:=(Bx.refl w8.heap.size g w8).aG (o:=0) (.inr rfl) (.slice A' cs.length c');have HV:=HV8.out.slice (by unfold BD;omega)
    refine rm g 28 _ _ rfl (by simp) (HG8.out.set 0 (.slice A' cs.length c')) Tryz.underlying28 rfl BL (Out.ok (by rw[HE1.out];unfold cR;rw[DS (by rw[HTA.out];simp),DS (by rw[HT.out];simp)])
     ⟨A',cs.length,c',rfl,HV.aA (λb hb=>⟨⟨by have:=hb.1;omega,DR hb.2.1 N2.size⟩,N2.block b hb.2.1 (λh=>hb.2.2 (.inl h))⟩)⟩ (HP8.out.put N2 (by omega)) (hgz▸HB8.out.put N2 (DK _) (by omega)))
theorem xX(w:World):(binOp .eql 20 Value.nilIface Value.nilIface).run Tryz.prog w= .ok (.bool true) w:=by kernel_rfl
theorem zW(x:Int)(w:World):(binOp .eql 20 (Value.iface 201 (.int .i64 x)) Value.nilIface).run Tryz.prog w= .ok (.bool false) w:=by kernel_rfl
theorem De(x:Int)(w:World):(Instr.typeAssert (Value.iface 201 (.int .i64 x)) 20 201 true).run Tryz.prog w= .ok (.tuple #[.int .i64 x,.bool true]) w:=by kernel_rfl
theorem su(a b c:Nat)(w:World):
 CallsD Tryz.prog 133 #[.pointer (some ⟨a,0,none⟩),.pointer (some ⟨b,0,none⟩),.pointer (some ⟨c,0,none⟩)] .returning w λe u' w'=>e= .returned (.tuple #[])/\u'= .returning/\w'=w:=by
 have hq:=xX;refine callsD_of_wpS Tryz.func133 rfl λc₀ cs hu=>?_;apply wpS_seq;apply wpS_region;simp[wpOpsS,go_sem,recoverD,hu,Tryz.ntmps133,Exit.thenS];refine wpS_of_wp ?_;rw[show(#[Value.pointer (some {block:=a,off:=0}),Value.pointer (some {block:=b,off:=0}),Value.pointer (some {block:=c,off:=0})]++(Array.replicate 12 undef).setIfInBounds 4 Value.nilIface)= #[Value.pointer (some {block:=a,off:=0}),Value.pointer (some {block:=b,off:=0}),Value.pointer (some {block:=c,off:=0}),undef,undef,undef,undef,Value.nilIface,undef,undef,undef,undef,undef,undef,undef]from rfl];go_wp2_with fail;cases c₀;simp_all [bodyPostS,results,Tryz.results133]
theorem mY(a b c:Nat)(x:Int)(older:List PanicEntry)(w:World)(v0:Value)(q0:Blk w a 28 #[v0])(q1:Blk w b 3 #[.int .i64 0])(q2:Blk w c 32 #[.int .i64 0])(hab:a≠b)(hac:a≠c)(hbc:b≠c):
 CallsD Tryz.prog 133 #[.pointer (some ⟨a,0,none⟩),.pointer (some ⟨b,0,none⟩),.pointer (some ⟨c,0,none⟩)] (.panicking ({v:= .iface 201 (.int .i64 x),recovered:=false}::older)) w λe u' w'=>
  e= .returned (.tuple #[])/\u'= .panicking ({v:= .iface 201 (.int .i64 x),recovered:=true}::older)/\w'=((((w.setCell ⟨a,0,none⟩ (.slice none 0 0)).setCell ⟨b,0,none⟩ (.int .i64 x)).setCell ⟨c,0,none⟩ (.int .i64 3))).alloc (.cells #[.slice none 0 0] 28):=by
 have hq:=zW;have hs:=De;have a0:=q0.k0;have b0:=q1.k0;have c0:=q2.k0;have af:=q0.frozen 0;have bf:=q1.frozen 0;have cf:=q2.frozen 0;have al:=q0.lt;have bl:=q1.lt;have cl:=q2.lt;have hba:=hab.symm;have hca:=hac.symm;have hcb:=hbc.symm;clear q0 q1 q2;refine callsD_of_wpS Tryz.func133 rfl λc₀ cs hu=>?_;apply wpS_seq;apply wpS_region;simp[wpOpsS,go_sem,recoverD,hu,Tryz.ntmps133,Exit.thenS];refine wpS_of_wp ?_;rw[show(#[Value.pointer (some {block:=a,off:=0}),Value.pointer (some {block:=b,off:=0}),Value.pointer (some {block:=c,off:=0})]++(Array.replicate 12 undef).setIfInBounds 4 (Value.iface 201 (.int .i64 x)))= #[Value.pointer (some {block:=a,off:=0}),Value.pointer (some {block:=b,off:=0}),Value.pointer (some {block:=c,off:=0}),undef,undef,undef,undef,Value.iface 201 (.int .i64 x),undef,undef,undef,undef,undef,undef,undef]from rfl];go_wp2_with fail;cases c₀;simp_all [bodyPostS,results,Tryz.results133]
theorem uj(s:ByteArray)(w:World)(hg:Gl w):Calls Tryz.prog 132 #[.string s] w λe' w'=>∃(v:Value) (p e:Int),e'= .returned (.tuple #[v,.int .i64 p,.int .i64 e])/\Below w.heap.size w w'/\
 (match dK s.data.toList with
   | .toks T=>e=0/\p=0/\w'.ownsRow w.heap.size 162 4 v T.length (fU T)
   | .err p' e''=>p=(p':Int)/\e=e''/\e≠0):=by
 by_cases h:s.size<=16384
 ·refine(rj s w hg h).mono ?_;rintro e' w' ⟨v,ts,p,e,rfl,hb,h1,_,h3⟩;refine⟨v,p,e,rfl,hb,?_⟩;cases hs:dK s.data.toList with
  |toks T=>
   rw[hs]at h3;obtain⟨rfl,rfl,rfl⟩:=h3;exact⟨rfl,rfl,(h1 rfl).1⟩
  |err p' e''=>
   rw[hs]at h3;exact h3
 ·refine(ig s w (by omega)).mono ?_;rintro e' w' ⟨rfl,rfl⟩;refine⟨_,_,_,rfl,DN _ _,?_⟩;have:dK s.data.toList= .err 0 8:=by unfold dK;rw[Ed (by show 16384<s.size;omega)]
  rw[this];exact⟨rfl,rfl,by decide⟩
def Di(s:ByteArray)(w:World)(e':Ending)(w':World):Prop:=Below w.heap.size w w'/\∃(v:Value) (p er:Int),e'= .returned (.tuple #[v,.int .i64 p,.int .i64 er])/\
 (match dK s.data.toList with
   | .err q e=>p=(q:Int)/\er=e/\v= .agg #[.slice none 0 0]/\er≠0
   | .toks T=>match dr T with
     | .bad j=>p=(tk T j).2.2.2/\er=3/\v= .agg #[.slice none 0 0]
     | .ok cs j=>p=0/\er=0/\rvP w' (Fr w w') cs v/\j<=20000)
theorem results85(tmps:Array Value)(W:World)(a b c:Nat)(v:Value)(p er:Int)(ha:Blk W a 28 #[v])(hb:Blk W b 3 #[.int .i64 p])(hc:Blk W c 32 #[.int .i64 er])
 (h4:tmps.getD 4 undef= .pointer (some ⟨a,0,none⟩)) (h5:tmps.getD 5 undef= .pointer (some ⟨b,0,none⟩)) (h6:tmps.getD 6 undef= .pointer (some ⟨c,0,none⟩)):
 (results Tryz.f85 tmps).run Tryz.prog W= .ok (.tuple #[.agg #[v],.int .i64 p,.int .i64 er]) W:=by
 have h1:=run_loadVar_row (P:=Tryz.prog) W a 28 28 #[v] (0,0) _ ha Tryz.underlying28 rfl (by kernel_rfl);have c1:=hb.k0;have c2:=hc.k0
 have l1:(loadVar 3 ⟨b,0,none⟩).run Tryz.prog W= .ok (.int .i64 p) W:=by
  simp[loadVar,go_sem,c1]
 have l2:(loadVar 32 ⟨c,0,none⟩).run Tryz.prog W= .ok (.int .i64 er) W:=by
  simp[loadVar,go_sem,c2]
 have h4':tmps[4]?.getD undef= .pointer (some ⟨a,0,none⟩):=by simpa using h4
 have h5':tmps[5]?.getD undef= .pointer (some ⟨b,0,none⟩):=by simpa using h5
 have h6':tmps[6]?.getD undef= .pointer (some ⟨c,0,none⟩):=by simpa using h6
 simp[results,Tryz.results85,h4',h5',h6',asAddr,h1,l1,l2]
theorem ol{W:World}{a:Nat}{x y z:Value}(A:Blk W a 28 #[x])(C:Blk W (a+1) 3 #[y])(D:Blk W (a+1+1) 32 #[z])(x' y' z':Value):
 Blk (((W.setCell ⟨a,0,none⟩ x').setCell ⟨a+1,0,none⟩ y').setCell ⟨a+1+1,0,none⟩ z') a 28 #[x']/\Blk (((W.setCell ⟨a,0,none⟩ x').setCell ⟨a+1,0,none⟩ y').setCell ⟨a+1+1,0,none⟩ z') (a+1) 3 #[y']/\
 Blk (((W.setCell ⟨a,0,none⟩ x').setCell ⟨a+1,0,none⟩ y').setCell ⟨a+1+1,0,none⟩ z') (a+1+1) 32 #[z']/\(∀B:World,Below a B W->Below a B (((W.setCell ⟨a,0,none⟩ x').setCell ⟨a+1,0,none⟩ y').setCell ⟨a+1+1,0,none⟩ z'))/\
 ∀k,k≠a->k≠a+1->k≠a+1+1->(((W.setCell ⟨a,0,none⟩ x').setCell ⟨a+1,0,none⟩ y').setCell ⟨a+1+1,0,none⟩ z').heap[k]?=W.heap[k]?:=by
 have h:∀(w:World) (b k:Nat) (u:Value),k≠b->(w.setCell ⟨b,0,none⟩ u).heap[k]?=w.heap[k]?:=λw b k u hk=>DZ _ _ _ _ hk;refine⟨?_,?_,?_,λB hB=>?_,λk h1 h2 h3=>?_⟩
 ·exact(h _ _ _ _ (by omega)).trans ((h _ _ _ _ (by omega)).trans (A.set 0 x'))
 ·exact(h _ _ _ _ (by omega)).trans (Blk.set ((h _ _ _ _ (by omega)).trans C) 0 y')
 ·exact Blk.set ((h _ _ _ _ (by omega)).trans ((h _ _ _ _ (by omega)).trans D)) 0 z'
 ·exact((hB.setCell (p:=⟨a,0,none⟩) (DK _) _).setCell (p:=⟨a+1,0,none⟩) (by show a<=a+1;omega) _).setCell (p:=⟨a+1+1,0,none⟩) (by show a<=a+1+1;omega) _
 ·rw[h _ _ _ _ h3,h _ _ _ _ h2,h _ _ _ _ h1]
theorem Cz(s:ByteArray)(w:World)(hg:Gl w):Calls Tryz.prog 85 #[.string s,.func (.func 86) #[] #[]] w (Di s w):=by
 have hE:∀(ar:Array Value) (w:World),(callFunc 86 ar).run Tryz.prog w= .ok (.enter 86 ar) w:=λ_ _=>by kernel_rfl
 have hmf:∀(fn:Fn) (first cap:Array Value) (w:World),(Instr.makeFunc fn first cap).run Tryz.prog w= .ok (.func fn first cap) w:=λ_ _ _ _=>rfl;obtain⟨w0,hw0⟩:=nm_ (((w.alloc (.cells #[.slice none 0 0] 28)).alloc (.cells #[.int .i64 0] 3)).alloc (.cells #[.int .i64 0] 32));have A0:=H_ (show Blk w0 w.heap.size 28 #[.slice none 0 0]from hw0▸((Blk.new w 28 _).alloc _).alloc _);have C0:=H_ (show Blk w0 (w.heap.size+1) 3 #[.int .i64 0]from hw0▸(by have:=(Blk.new (w.alloc (.cells #[.slice none 0 0] 28)) 3 #[.int .i64 0]).alloc (.cells #[.int .i64 0] 32);simpa using this));have D0:=H_ (show Blk w0 (w.heap.size+1+1) 32 #[.int .i64 0]from hw0▸(by have:=Blk.new ((w.alloc (.cells #[.slice none 0 0] 28)).alloc (.cells #[.int .i64 0] 3)) 32 #[.int .i64 0];simpa using this));have B0:=H_ (show Below w.heap.size w w0 from hw0▸(((DN _ _).alloc (DK _) _).alloc (by simp) _).alloc (by simp;omega) _);have HG:=H_ hg;clear hg;go_enter_defers Tryz.func85,Tryz.ntmps85;go_upto_region 1 with(fail);obtain⟨a,haz⟩:=nm_ (w.heap.size);rw[haz]at A0 C0 D0 B0⊢;have a0:=A0.out.k0;have c0:=C0.out.k0;have d0:=D0.out.k0;have hl0:=D0.out.lt;clear hw0;go_wp2_with fail;refine(uj s w0 (GlB.gl (GlB.below HG.out (haz▸B0.out)))).mono ?_;rintro e' w1 ⟨v,p,er,rfl,b1,hsc⟩;have A1:=H_ (A0.out.below b1 (by omega));have C1:=H_ (C0.out.below b1 (by omega));have D1:=H_ (D0.out.below b1 (by omega));have B1:=htm B0 b1;have a1:=A1.out.k0;have c1:=C1.out.k0;have d1:=D1.out.k0;have af:=A1.out.frozen 0;have cf:=C1.out.frozen 0;have df:=D1.out.frozen 0;have hl1:=D1.out.lt;have hb1:=b1.size;clear A0 C0 D0 B0 a0 c0 d0;cases hs:dK s.data.toList with
 |err p' e''=>
  rw[hs]at hsc;obtain⟨rfl,rfl,he⟩:=hsc;have hne:(er !=0)=true:=by simpa using he
  go_wp2_with fail;go_region;all_goals go_wp2_with fail
  all_goals
   have hset:∀(w:World) (b k:Nat) (u:Value),k≠b->(w.setCell ⟨b,0,none⟩ u).heap[k]?=w.heap[k]?:=λw b k u hk=>DZ _ _ _ _ hk;have A2:Blk ((w1.setCell ⟨a+1,0,none⟩ (.int .i64 p')).setCell ⟨a+1+1,0,none⟩ (.int .i64 er)) a 28 #[.slice none 0 0]:=(hset _ _ _ _ (by omega)).trans ((hset _ _ _ _ (by omega)).trans A1.out);have C2:Blk ((w1.setCell ⟨a+1,0,none⟩ (.int .i64 p')).setCell ⟨a+1+1,0,none⟩ (.int .i64 er)) (a+1) 3 #[.int .i64 p']:=(hset _ _ _ _ (by omega)).trans (C1.out.set 0 _);have D2:Blk ((w1.setCell ⟨a+1,0,none⟩ (.int .i64 p')).setCell ⟨a+1+1,0,none⟩ (.int .i64 er)) (a+1+1) 32 #[.int .i64 er]:=Blk.set ((hset _ _ _ _ (by omega)).trans D1.out) 0 _;have B2:=(B1.out.setCell (p:=⟨a+1,0,none⟩) (by show a<=a+1;omega) (.int .i64 p')).setCell (p:=⟨a+1+1,0,none⟩) (by show a<=a+1+1;omega) (.int .i64 er);obtain⟨s1,s2,s3,s4,_⟩:=ol A2 C2 D2 (.slice none 0 0) (.int .i64 p') (.int .i64 er);exact⟨_,results85 _ _ a (a+1) (a+1+1) (.slice none 0 0) p' er s1 s2 s3 rfl rfl rfl,by rw[haz];exact(s4 _ B2).drew,_,_,_,rfl,by rw[hs];exact⟨rfl,rfl,rfl,he⟩⟩
 |toks T=>
  rw[hs]at hsc;obtain⟨rfl,rfl,hown⟩:=hsc;have htk:=jd hs
  obtain⟨g,cap,rfl⟩:∃g cap,v= .slice (some ⟨g,0,none⟩) T.length cap:=by
   rcases hown.2 with⟨_,h0⟩|⟨g,cap,cur,hv,_⟩
   ·omega
   ·exact⟨g,cap,hv⟩
  have hgl:=(hown.lt g rfl).2;have HOWN:=H_ hown;have HTK:=H_ htk;clear hown htk;go_wp2_with fail;obtain⟨P,hPz⟩:=nm_ (w1.heap.size);have hsz2:((w1.setCell ⟨a+1,0,none⟩ (.int .i64 0)).setCell ⟨a+1+1,0,none⟩ (.int .i64 0)).heap.size=P:=by simp[hPz]
  obtain⟨w2,hw2⟩:=nm_ ((((w1.setCell ⟨a+1,0,none⟩ (.int .i64 0)).setCell ⟨a+1+1,0,none⟩ (.int .i64 0)).alloc (.cells #[.slice (some ⟨g,0,none⟩) T.length cap,.int .i64 0] 203)));have hgw:=(HOWN.out.lt g rfl).1
  have hk2:∀k,k<P->k≠a+1->k≠a+1+1->w2.heap[k]?=w1.heap[k]?:=λk h1 h2 h3=>by
   rw[<-hw2,EA _ _ _ (by rw[hsz2];exact h1),DZ _ _ _ _ h3,DZ _ _ _ _ h2]
  have A2:=H_ (show Blk w2 a 28 #[.slice none 0 0]from(hk2 a (by omega) (by omega) (by omega)).trans A1.out);have C2:=H_ (show Blk w2 (a+1) 3 #[.int .i64 0]from hw2▸(Blk.alloc ((DZ _ _ _ _ (by show a+1≠a+1+1;omega)).trans (C1.out.set 0 (.int .i64 0))) _));have D2:=H_ (show Blk w2 (a+1+1) 32 #[.int .i64 0]from hw2▸(Blk.alloc (Blk.set ((DZ _ _ _ _ (by show a+1+1≠a+1;omega)).trans D1.out) 0 (.int .i64 0)) _));have B2:=H_ (show Below a w w2 from hw2▸((B1.out.setCell (p:=⟨a+1,0,none⟩) (by show a<=a+1;omega) _).setCell (p:=⟨a+1+1,0,none⟩) (by show a<=a+1+1;omega) _).alloc (by rw[hsz2];omega) _)
  have P2:=H_ (show PS w2 P (some ⟨g,0,none⟩) cap T 0 from
   ⟨by rw[<-hw2,<-hsz2];exact Blk.new _ 203 _,⟨g,0,rfl,by omega,λj u hj=>by
    have h1:=HOWN.out.cells (g:=g) rfl j u (by
     have:fU T=(T.map tkC).flatten:=by unfold fU;rw[List.flatMap_def];rfl
     rw[this];exact hj)
    rw[iL]at h1;exact(F1 (a:=⟨g,0+j,none⟩) (hk2 g (by omega) (by omega) (by omega))).trans h1⟩,
    ⟨HTK.out.2.2.1,by have:=HTK.out.1;have:=HTK.out.2.1;omega,HTK.out.2.2.2.1⟩,HTK.out.2.2.1⟩)
  rw[hw2,hPz];have hs2:w2.heap.size=P+1:=by rw[<-hw2];simp[hPz]
  clear hw2 hk2 hsz2 A1 C1 D1 B1 a1 c1 d1 af cf df;refine Out.use (us (T:=T) (i:=0) (n:=T.length+1) (by omega) P cap (some ⟨g,0,none⟩) w2 P2.out) (λj w3 hr b3=>?_) (λcs j v w3 hr hv P3 b3=>?_)
  ·have A3:=A2.out.bx b3 (by omega) (by omega);have C3:=C2.out.bx b3 (by omega) (by omega);have D3:=D2.out.bx b3 (by omega) (by omega);show Leaves _ _ _ _ _ _ _;refine leaves_cons (f:=133) (args:= #[.pointer (some ⟨a,0,none⟩),.pointer (some ⟨a+1,0,none⟩),.pointer (some ⟨a+1+1,0,none⟩)]) (by simp) (by simp[go_sem]) ?_;refine(mY a (a+1) (a+1+1) _ [] w3 _ A3 C3 D3 (by omega) (by omega) (by omega)).mono ?_;rintro e u' w4 ⟨rfl,rfl,rfl⟩;obtain⟨s1,s2,s3,s4,_⟩:=ol A3 C3 D3 (.slice none 0 0) (.int .i64 (tk T j).2.2.2) (.int .i64 3);have hB3:=B2.out.trans ((b3.below (B':=a) (by omega) (by omega)));refine⟨_,results85 _ _ a (a+1) (a+1+1) (.slice none 0 0) _ 3 (s1.alloc _) (s2.alloc _) (s3.alloc _) rfl rfl rfl,by rw[haz];exact(s4 _ hB3).alloc (by have:=b3.size;simp;omega) _,_,_,_,rfl,?_⟩
   have hpr:dr T= .bad j:=by
    have:=eR T (T.length+1) (T.length+1) [] 0;rw[hr]at this;exact this
   rw[hs];simp only;rw[hpr];refine⟨?_,?_,?_⟩<;>first|rfl|trivial
  ·obtain⟨A',n',c',rfl,hsl⟩:=hv;have hgP:∃off,(some ⟨g,0,none⟩:Option Addr)=some ⟨g,off,none⟩:=⟨0,rfl⟩;obtain⟨-,A3,-,C3,-,D3,-⟩:=fn3 A2 C2 D2 b3;have a3:=A3.out.k0;have af:=A3.out.frozen 0;have hP3:=P3.aE.lt;have hs3:=b3.size;have hjT:=P3.lt;have B3:=H_ (B2.out.trans ((b3.below (B':=a) (by omega) (by omega))));have HR:=H_ hr;have HP3':=H_ P3;have HSL:=H_ hsl;clear hr P3 hsl A2 C2 D2 B2 P2 hgP;go_upto_region 7 with fail;obtain⟨w4,hw4⟩:=nm_ (w3.setCell ⟨a,0,none⟩ (.slice A' n' c'));have hk4:∀k,k≠a->w4.heap[k]?=w3.heap[k]?:=λk hk=>hw4▸DZ _ _ _ _ hk;have hsz4:w4.heap.size=w3.heap.size:=by rw[<-hw4];simp
   have A4:=hs0 A3 hw4;have C4:=H_ (show Blk w4 (a+1) 3 #[.int .i64 0]from(hk4 _ (by omega)).trans C3.out);have D4:=H_ (show Blk w4 (a+1+1) 32 #[.int .i64 0]from(hk4 _ (by omega)).trans D3.out);have B4:=H_ (show Below a w w4 from hw4▸B3.out.setCell (p:=⟨a,0,none⟩) (DK _) _)
   have P4:=H_ (show PS w4 P (some ⟨g,0,none⟩) cap T j from by
    refine⟨(hk4 P (by omega)).trans HP3'.out.aE,?_,HP3'.out.wf,HP3'.out.lt⟩;obtain⟨b,off,h1,h2,h3⟩:=HP3'.out.tok;simp only[Option.some.injEq,Addr.mk.injEq,Em]at h1;obtain⟨rfl,rfl⟩:=h1;exact⟨g,0,rfl,h2,h3.aA (hk4 g (by omega))⟩)
   have SL4:=H_ (HSL.out.aA (G':=Fr w2 w4) (λb hb=>⟨⟨hb.1,by rw[hsz4];exact hb.2⟩,hk4 b (by have:=hb.1;omega)⟩));rw[hw4];clear hw4 hk4 A3 C3 D3 B3 HP3' HSL a3 af;have hf0:=qB;obtain⟨⟨k,ts,z,q⟩,htk⟩:∃x,tk T j=x:=⟨_,rfl⟩
   have HN:=H_ (show Calls Tryz.prog 134 #[.pointer (some ⟨P,0,none⟩)] w4 (λe w'=>e= .returned (.agg #[.int .i64 k,.string ts,.int .i64 z,.int .i64 q])/\Below w4.heap.size w4 w')from
    (gG P j cap (some ⟨g,0,none⟩) T w4 P4.out).mono λe w' ⟨h1,h2⟩=>⟨by rw[h1,htk];rfl,h2⟩)
   have HTKJ:=H_ htk;clear htk;by_cases hk0:k=0
   ·subst hk0;go_wp2_with fail;refine HN.out.mono ?_;rintro e w5 ⟨rfl,b5⟩;have A5:=H_ (A4.out.below b5 (by omega));have C5:=H_ (C4.out.below b5 (by omega));have D5:=H_ (D4.out.below b5 (by omega));have B5:=H_ (B4.out.trans (b5.mono (by omega)));have SL5:=H_ (SL4.out.aA (G':=Fr w2 w5) (λb hb=>⟨⟨hb.1,DR hb.2 b5.size⟩,b5.block b hb.2⟩));have hs5:=b5.size;have a5:=A5.out.k0;have c5:=C5.out.k0;have d5:=D5.out.k0;have af:=A5.out.frozen 0;have cf:=C5.out.frozen 0;have df:=D5.out.frozen 0;clear b5 A4 C4 D4 B4 SL4;go_wp2_with fail;obtain⟨s1,s2,s3,s4,s5⟩:=ol A5.out C5.out D5.out (.slice A' n' c') (.int .i64 0) (.int .i64 0);show Leaves _ _ _ _ _ _ _;refine leaves_cons (f:=133) (args:= #[.pointer (some ⟨a,0,none⟩),.pointer (some ⟨a+1,0,none⟩),.pointer (some ⟨a+1+1,0,none⟩)]) (by simp) (by simp[go_sem]) ?_;refine(su a (a+1) (a+1+1) _).mono ?_;rintro e u' w7 ⟨rfl,rfl,rfl⟩;refine⟨_,results85 _ _ a (a+1) (a+1+1) (.slice A' n' c') 0 0 s1 s2 s3 rfl rfl rfl,by rw[haz];exact s4 _ B5.out,_,_,_,rfl,?_⟩
    have hpr:dr T= .ok cs j:=by
     have:=eR T (T.length+1) (T.length+1) [] 0;rw[HR.out]at this;refine this.trans ?_;unfold BU;simp only;rw[Ed (by rw[HTKJ.out])]
    rw[hs];simp only;rw[hpr];refine⟨by first|rfl|trivial,by first|rfl|trivial,⟨A',n',c',rfl,SL5.out.aA (λb hb=>⟨⟨by have:=hb.1;omega,?_⟩,s5 b (by have:=hb.1;omega) (by have:=hb.1;omega) (by have:=hb.1;omega)⟩)⟩,by have:=HTK.out.1;have:=HTK.out.2.1;omega⟩;have:=hb.2;simp;omega
   ·have hk0':(k !=0)=true:=by simpa using hk0
    go_wp2_with fail;refine HN.out.mono ?_;rintro e w5 ⟨rfl,b5⟩;have P5:=P4.out.below b5;have A5:=A4.out.below b5 (by omega);have C5:=C4.out.below b5 (by omega);have D5:=D4.out.below b5 (by omega);have hB5:=B4.out.trans (b5.mono (by omega));have hs5:=b5.size;have HF:=H_ (oO P j cap (some ⟨g,0,none⟩) T w5 P5);go_wp2_with fail;refine HF.out.mono ?_;rintro e w6 ⟨rfl,b6⟩;have A6:=A5.below b6 (by omega);have C6:=C5.below b6 (by omega);have D6:=D5.below b6 (by omega);have hB6:=hB5.trans (b6.mono (by omega));have hs6:=b6.size;show Leaves _ _ _ _ _ _ _;refine leaves_cons (f:=133) (args:= #[.pointer (some ⟨a,0,none⟩),.pointer (some ⟨a+1,0,none⟩),.pointer (some ⟨a+1+1,0,none⟩)]) (by simp) (by simp[go_sem]) ?_;refine(mY a (a+1) (a+1+1) _ [] w6 _ A6 C6 D6 (by omega) (by omega) (by omega)).mono ?_;rintro e u' w7 ⟨rfl,rfl,rfl⟩;obtain⟨s1,s2,s3,s4,_⟩:=ol A6 C6 D6 (.slice none 0 0) (.int .i64 (tk T j).2.2.2) (.int .i64 3);refine⟨_,results85 _ _ a (a+1) (a+1+1) (.slice none 0 0) _ 3 (s1.alloc _) (s2.alloc _) (s3.alloc _) rfl rfl rfl,by rw[haz];exact(s4 _ hB6).alloc (by simp;omega) _,_,_,_,rfl,?_⟩
    have hpr:dr T= .bad j:=by
     have:=eR T (T.length+1) (T.length+1) [] 0;rw[HR.out]at this;refine this.trans ?_;unfold BU;simp only;rw[DS (by rw[HTKJ.out];exact hk0)]
    rw[hs];simp only;rw[hpr];refine⟨?_,?_,?_⟩<;>first|rfl|trivial
end
end Go.Proofs.YtjpbckbpeblibaaGreatDoor
