/- part of a proof -/
import Derived.Test.YtjpbckbpeblibaaGreatDoorK12
import Derived.Tactics2
import Derived.Defers
import Derived.Recover
namespace Go.Proofs.YtjpbckbpeblibaaGreatDoor
set_option linter.unusedVariables false
set_option linter.unusedSimpArgs false
set_option maxRecDepth 100000
set_option maxHeartbeats 64000000
section
open Go.RowKit
variable{n:Nat}{s:ByteArray}{zs:List Int}
theorem AY:type_of% @IntWalk.i64_in:=@IntWalk.i64_in
def cz(T:List Tk)(n:Nat):Nat->List Cl->Nat->R (List Cl)
 |0,_,i=> .bad i
 |k+1,cs,i=>if isT T fj i=true then(match cw T n true (i+1)with
   | .bad j=> .bad j
   | .ok c j=>cz T n k (cs++[c]) j)
  else if isT T ei i=true then(match cw T n false (i+1)with
   | .bad j=> .bad j
   | .ok c j=>cz T n k (cs++[c]) j)
  else .ok cs i
def zD(T:List Tk)(r:R (List Cl)):R (List Cl):=match r with
 | .bad j=> .bad j
 | .ok cs j=>if(tk T j).1=0 then .ok cs j else .bad j
theorem ew(T:List Tk)(n:Nat):∀k cs i,aY T n k cs i=zD T (cz T n k cs i)
 |0,cs,i=>rfl
 |k+1,cs,i=>by
  unfold aY cz;by_cases h1:isT T fj i=true
  ·rw[AP h1,AP h1];cases hc:cw T n true (i+1)with
   |bad j=>rfl
   |ok c j=>exact ew T n k _ _
  ·rw[AL h1,AL h1];by_cases h2:isT T ei i=true
   ·rw[AP h2,AP h2];cases hc:cw T n false (i+1)with
    |bad j=>rfl
    |ok c j=>exact ew T n k _ _
   ·rw[AL h2,AL h2];rfl
def rvP:Rv (List Cl):=λw G cs v=>∃A n c,v= .agg #[.slice A n c]/\Sl kCl w G cs A n
theorem zq:(Tryz.prog.info? 28).map (·.size)=some 1:=by kernel_rfl
theorem sN{T:List Tk}{i:Nat}(hn:T.length<n)(p c:Nat)(A:Option Addr)(w:World)(h:PS w p A c T i):
 Calls Tryz.prog 86 #[.pointer (some ⟨p,0,none⟩)] w (Out rvP p A c T w (cz T n (T.length+1) [] i)):=by
 have hp:=h.aG.lt;have hT:=h.wf.few;have HP:=H_ h;obtain⟨w0,hw0⟩:=nm_ ((w.alloc (.cells #[.slice none 0 0] 28)).alloc (.cells #[.slice none 0 0] 28));have G0:=H_ (show Blk w0 w.heap.size 28 #[.slice none 0 0]from hw0▸(Blk.new w 28 _).alloc _);have E0:=H_ (show Blk w0 (w.heap.size+1) 28 #[.slice none 0 0]from hw0▸(by have:=Blk.new (w.alloc (.cells #[.slice none 0 0] 28)) 28 #[.slice none 0 0];simpa using this));have B0:=H_ (show Bx w.heap.size p w w0 from hw0▸((Bx.refl _ _ _).new _ (AB _)).new _ (AB _));have HP0:=H_ (show PS w0 p A c T i from hw0▸(HP.out.alloc _).alloc _);have hs0:w0.heap.size=w.heap.size+1+1:=by rw[<-hw0];simp
 clear h HP;go_enter Tryz.func86,Tryz.ntmps86;go_upto_region 2 with(fail);obtain⟨g,hgz⟩:=nm_ (w.heap.size);obtain⟨e,hez⟩:=nm_ (g+1);rw[hgz]at G0 E0 hs0⊢;rw[hez]at E0 hs0⊢;clear hw0
 go_loopg [] (T.length-i) (λkk wr=>∃(cs:List Cl) (q:Nat) (A':Option Addr) (c':Nat),kk=T.length-q/\Hid (Blk wr e 28 #[.slice A' cs.length c'])/\Hid (Vec kCl 117 g (two g e) wr (.slice A' cs.length c') cs)/\
  Hid (Blk wr g 28 #[.slice none 0 0])/\Hid (PS wr p A c T q)/\Hid (Bx g p w wr)/\i<=q/\cs.length<=q/\Hid (∃m,T.length+1<=m+q/\cz T n (T.length+1) [] i=cz T n m cs q))
 case atStart=>exact⟨[],i,none,0,rfl,E0,H_ (Vec.nil _ _ _ _ _),G0,HP0,hgz▸B0,AB _,by simp,H_ ⟨T.length+1,by omega,rfl⟩⟩
 case round=>
  clear E0 G0 B0 HP0;obtain⟨cs,q,A',c',rfl,HE,HV,HG,HPr,HBr,hiq,hcq,HEr⟩:=hrel;obtain⟨m,hm,heq⟩:=HEr.out;have hqT:=HPr.out.lt;obtain⟨m,rfl⟩:∃m',m=m'+1:=⟨m-1,by omega⟩;have HE1:=H_ heq;have her:=HE.out.lt;have hgr:=HG.out.lt;have hsr:=HBr.out.size;clear HEr heq;go_wp2_with fail;refine lA HPr.out ei (λht w7 P7 b7=>?_) (λht w7 P7 b7=>?_)
  ·have HT:=H_ ht;have HTA:=H_ (show isT T fj q=false from rM ht (λh=>absurd (show(6:Nat)=5 from CU ByteArray.size h) (by decide)));have HE7:=hbx HE b7 her;have HG7:=hbx HG b7 hgr;have HV7:=hvk HV b7;have HB7:=H_ (HBr.out.trans (b7.mono (by omega)));have HP7:=H_ P7;have hs7:=b7.size;clear ht P7 b7 HE HG HV HBr HPr;go_upto_region 3 with fail;have her7:=HE7.out.lt;have hgr7:=HG7.out.lt;obtain⟨cl,jy,hsj⟩:=R.known (cw T n false (q+1)) ⟨⟨#[]⟩,false,[],[]⟩
   refine ay 3 5 (λys=>{tmps:= #[.pointer (some ⟨p,0,none⟩),undef,.pointer (some ⟨g,0,none⟩),.pointer (some ⟨e,0,none⟩),.pointer (some ⟨p,0,none⟩),.bool true,.bool true,undef,undef,.bool true,(ys 0).getD u10,(ys 1).getD u11,(ys 2).getD u12,(ys 3).getD u13,(ys 4).getD u14,u15,u16,undef],defers:=[]})
    (RJ w7 p A c T q jy (cw T n false (q+1)= .ok cl jy)) w7.heap.size
    (λi=>match i with
      |0=>fEq (.pointer (some ⟨e,0,none⟩))
      |1=>fEq (.slice A' cs.length c')
      |2=>fEq (.pointer (some ⟨p,0,none⟩))
      |3=>λv W=>yS W (NG w7.heap.size noZ W) cl v
      |_=>λv W=>∃ra ds,v= .slice (some ⟨ra,0,none⟩) 1 1/\RowA w7.heap.size W ra ds.toArray 117/\ClC W (NG w7.heap.size noZ W) cl ds)
    (by
      intro k
      match k with
      |0=>exact fEq.st _ _
      |1=>exact fEq.st _ _
      |2=>exact fEq.st _ _
      |3=>exact λ_ _ _ hn h=>rvC.aA (λb hb=>⟨hb.mono hn.size,hn.block b hb.1 hb.2.1⟩) h
      |_+4=>exact λ_ _ _ hn ⟨ra,ds,h1,h2,h3⟩=>⟨ra,ds,h1,h2.nw hn,kCl.aA (λb hb=>⟨hb.mono hn.size,hn.block b hb.1 hb.2.1⟩) h3⟩)
    (by kernel_rfl) (by kernel_rfl) (by decide) (by kernel_rfl) (by decide) rfl ⟨(Bx.refl _ _ _).drew,HP7.out.drew⟩ ?_ ?_ ?_
   ·intro i' hi hic b ys W hJ hd;obtain rfl|rfl|rfl|rfl:i'=0\/i'=1\/i'=2\/i'=4:=by omega
    ·refine AE rfl λK hK=>?_;go_simp;exact hK _ _ ⟨_,rfl,hJ,rfl,Nw.refl _ _⟩
    ·obtain⟨_,h0,rfl⟩:=hd 0;have d0:=(HE7.out.bx hJ.1 her7 (by omega)).k0;refine AE rfl λK hK=>?_;go_simp;exact hK _ _ ⟨_,by simp only[au,h0];rfl,hJ,rfl,Nw.refl _ _⟩
    ·refine AE rfl λK hK=>?_;go_simp;exact hK _ _ ⟨_,rfl,hJ,rfl,Nw.refl _ _⟩
    ·obtain⟨_,h3,ds,rfl,hds⟩:=hd 3;obtain⟨A1,n1,c1,A2,n2,c2,rfl,hs1,hs2⟩:=hds;have hb:=(AC W.heap.size W).alloc (AB _) (.cells #[.string cl.nm,.bool cl.actor,.slice A1 n1 c1,.slice A2 n2 c2] 117);have HCC:=H_ (show ClC W (NG w7.heap.size noZ W) cl [.string cl.nm,.bool cl.actor,.slice A1 n1 c1,.slice A2 n2 c2]from⟨A1,n1,c1,A2,n2,c2,rfl,hs1,hs2⟩);have HJ:=H_ hJ;have HB:=H_ hb;clear hs1 hs2 hJ hb;refine AE rfl λK hK=>?_;go_simp;exact hK _ _ ⟨.slice (some ⟨W.heap.size,0,none⟩) 1 1,by simp only[au,h3];rfl,HJ.out.below HB.out,⟨W.heap.size,_,rfl,⟨HJ.out.1.size,Blk.new W 117 _⟩,kCl.aA (λb hb'=>⟨hb'.mono HB.out.size,HB.out.block b hb'.2.1⟩) HCC.out⟩,Nw.below HB.out⟩
   ·intro ys W hJ hd;obtain⟨_,h2,rfl⟩:=hd 2;have hsW:=hJ.1.size;refine AE rfl λK hK=>?_;go_simp;refine Out.use (pH hn false HTA.out (λ_=>HT.out) p c A W hJ.2) (λj13 w13 hr b13=>?_) (λx' j13 v w13 hr hv P13 b13=>?_)
    ·exact⟨rfl,Out.bad (by rw[HE1.out];unfold cz;rw[AL (by rw[HTA.out];simp),AP HT.out,hr]) (hgz▸HB7.out.trans ((hJ.1.aB b13).mono (by omega)))⟩
    ·obtain⟨rfl,rfl⟩:=hsj _ _ hr;exact hK _ _ ⟨v,by simp only[au,h2];rfl,⟨hJ.1.aB b13,P13,hr⟩,rvC.aA (λb hb=>⟨⟨by have:=hb.1;omega,hb.2,λh=>h⟩,rfl⟩) hv,Nw.of b13 (by omega)⟩
   ·intro ys W hJ hd;obtain⟨_,h0,rfl⟩:=hd 0;obtain⟨_,h1,rfl⟩:=hd 1;obtain⟨_,h2,rfl⟩:=hd 2;obtain⟨v3,h3,_⟩:=hd 3;obtain⟨_,h4,ra,ds,rfl,hra,hds⟩:=hd 4;have hW:=hJ.1.size;have EW:=H_ (HE7.out.bx hJ.1 her7 (by omega));have GW:=H_ (HG7.out.bx hJ.1 hgr7 (by omega));have VW:=H_ (HV7.out.aA hJ.1.size (λk hk=>hJ.1.block k hk.2.1 (by have:=hk.1;omega)));have HJ:=H_ hJ;have HRA:=H_ hra;have HDS:=H_ hds;have HLT:=H_ HV7.out.lt;have HNZ:=H_ HV7.out.1;clear hJ hra hds hd HE7 HG7 HV7;rw[show List.range' 5 _=[5,6,7]from rfl,Bl];refine AE rfl λK hK=>?_;simp only[h0,h1,h2,h3,h4,Bz];rw[AP (by kernel_rfl)];refine cZ un (.tmp 11) (.tmp 14) rfl VW.out (ys:=[cl]) (dss:=[ds]) (b:=ra) (off:=0) (c:=1) (m:=1) rfl ?_ ?_ rfl rfl rfl ?_ ?_ ?_ ?_
    ·simpa using At.aG HRA.out.2
    ·intro j' x' cs' h1' h2';cases j' with
     |zero=>
      simp at h1' h2';subst h1' h2';exact kCl.aA (λb hb=>⟨⟨⟨by have:=hb.1;omega,hb.2.1,λh=>by have:=hb.1;unfold two at h;omega⟩,λh=>by have:=(HLT.out b h).2;have:=hb.1;omega⟩,rfl⟩) HDS.out
     |succ j'=>simp at h1'
    ·simp;omega
    ·omega
    ·exact λb hb h=>by unfold two at h;omega
    ·intro v' w14 hv14 hg14;refine hK _ _ ?_;have hs14:=hg14.size;have hown:∀k,(Value.slice A' cs.length c').ownBlock=some k->g<=k:=λk hk=>(HLT.out k hk).1;have hnz:∀k,(Value.slice A' cs.length c').ownBlock=some k->¬(k=g\/k=e):=λk hk=>HNZ.out k hk;have F14:=H_ ((hg14.block e EW.out.lt (λh=>hnz e h.symm (.inr rfl))).trans EW.out);have G14:=H_ ((hg14.block g GW.out.lt (λh=>hnz g h.symm (.inl rfl))).trans GW.out);have HP14:=H_ (HJ.out.2.1.grown hg14 (λk hk=>by have:=hown k hk;omega));have B14:=H_ ((HB7.out.trans (HJ.out.1.mono (by omega))).grown hg14 (by omega) hown);have HRJ:=H_ HJ.out.2.2;obtain⟨A15,c15,rfl,_⟩:=hv14.sl (by simp[BD];omega);rw[show(cs++[cl]).length=cs.length+1 from by simp]at hv14;have V14:=H_ hv14;clear hv14 hg14 HJ HRA HDS EW GW VW hK K HB7 HLT HNZ hown hnz;have x0:w14.cell? ⟨e,0,none⟩=some (.slice A' cs.length c'):=Blk.cell F14.out 0;have x0f:=Blk.frozen F14.out 0;rw[Bl];refine AE rfl λK hK=>?_;go_simp;refine hK _ _ ?_;rw[Bl];refine AE rfl λK hK=>?_;go_simp;refine hK _ _ ?_;obtain⟨w15,hw15⟩:=nm_ (w14.setCell ⟨e,0,none⟩ (.slice A15 (cs.length+1) c15));have bw:=bx1 hw15;have he14:=Blk.lt F14.out;have hg14':=Blk.lt G14.out;have F15:=H_ (show Blk w15 e 28 #[.slice A15 (cs.length+1) c15]from hw15▸Blk.set F14.out 0 _);have G15:=H_ (Blk.bx G14.out bw hg14' (by omega));have HP15:=H_ (HP14.out.put bw (by omega));have B15:=H_ (B14.out.put bw (by omega) (by omega));have V15:=H_ (V14.out.aA bw.size (λk hk=>bw.block k hk.2.1 (λh=>hk.2.2 (.inr h))));have hjT:=HP15.out.lt;have hjq:=((eM n false).up (λx=>by unfold csz;omega)) _ _ _ HRJ.out;rw[hw15];clear hw15 bw F14 G14 HP14 B14 V14 x0 x0f hK K;have HE8:=H_ (show cz T n (T.length+1) [] i=cz T n m (cs++[cl]) jy by rw[HE1.out];conv=>lhs;unfold cz;rw[AL (by rw[HTA.out];simp),AP HT.out,HRJ.out]);rw[show cs.length+1=(cs++[cl]).length from by simp]at F15 V15;unfold wpOps;go_wp2_with fail;go_roundg (T.length-jy)
     case rel=>exact⟨cs++[cl],jy,A15,c15,rfl,F15,V15,G15,HP15,B15,by omega,by simp;omega,H_ ⟨m,by omega,HE8.out⟩⟩
     case measure=>omega
  ·have HT:=H_ ht;have HE7:=hbx HE b7 her;have HG7:=hbx HG b7 hgr;have HV7:=hvk HV b7;have HB7:=H_ (HBr.out.trans (b7.mono (by omega)));have HP7:=H_ P7;have hs7:=b7.size;have her7:=HE7.out.lt;have hgr7:=HG7.out.lt;clear ht P7 b7 HE HG HV HBr HPr;go_wp2_with fail;refine lA HP7.out fj (λht w8 P8 b8=>?_) (λht w8 P8 b8=>?_)
   ·have HTR:=HT;clear HT;have HT:=H_ ht;have HE8:=hbx HE7 b8 her7;have HG8:=hbx HG7 b8 hgr7;have HV8:=hvk HV7 b8;have HB8:=H_ (HB7.out.trans (b8.mono (by omega)));have HP8:=H_ P8;have hs8:=b8.size;clear ht P8 b8 HE7 HG7 HV7 HB7 HP7;go_upto_region 3 with fail;have her8:=HE8.out.lt;have hgr8:=HG8.out.lt;obtain⟨cl,jy,hsj⟩:=R.known (cw T n true (q+1)) ⟨⟨#[]⟩,false,[],[]⟩
    refine ay 3 5 (λys=>{tmps:= #[.pointer (some ⟨p,0,none⟩),undef,.pointer (some ⟨g,0,none⟩),.pointer (some ⟨e,0,none⟩),.pointer (some ⟨p,0,none⟩),.bool false,.bool false,.pointer (some ⟨p,0,none⟩),.bool true,.bool true,(ys 0).getD u10,(ys 1).getD u11,(ys 2).getD u12,(ys 3).getD u13,(ys 4).getD u14,u15,u16,undef],defers:=[]})
     (RJ w8 p A c T q jy (cw T n true (q+1)= .ok cl jy)) w8.heap.size
     (λi=>match i with
       |0=>fEq (.pointer (some ⟨e,0,none⟩))
       |1=>fEq (.slice A' cs.length c')
       |2=>fEq (.pointer (some ⟨p,0,none⟩))
       |3=>λv W=>yS W (NG w8.heap.size noZ W) cl v
       |_=>λv W=>∃ra ds,v= .slice (some ⟨ra,0,none⟩) 1 1/\RowA w8.heap.size W ra ds.toArray 117/\ClC W (NG w8.heap.size noZ W) cl ds)
     (by
       intro k
       match k with
       |0=>exact fEq.st _ _
       |1=>exact fEq.st _ _
       |2=>exact fEq.st _ _
       |3=>exact λ_ _ _ hn h=>rvC.aA (λb hb=>⟨hb.mono hn.size,hn.block b hb.1 hb.2.1⟩) h
       |_+4=>exact λ_ _ _ hn ⟨ra,ds,h1,h2,h3⟩=>⟨ra,ds,h1,h2.nw hn,kCl.aA (λb hb=>⟨hb.mono hn.size,hn.block b hb.1 hb.2.1⟩) h3⟩)
     (by kernel_rfl) (by kernel_rfl) (by decide) (by kernel_rfl) (by decide) rfl ⟨(Bx.refl _ _ _).drew,HP8.out.drew⟩ ?_ ?_ ?_
    ·intro i' hi hic b ys W hJ hd;obtain rfl|rfl|rfl|rfl:i'=0\/i'=1\/i'=2\/i'=4:=by omega
     ·refine AE rfl λK hK=>?_;go_simp;exact hK _ _ ⟨_,rfl,hJ,rfl,Nw.refl _ _⟩
     ·obtain⟨_,h0,rfl⟩:=hd 0;have d0:=(HE8.out.bx hJ.1 her8 (by omega)).k0;refine AE rfl λK hK=>?_;go_simp;exact hK _ _ ⟨_,by simp only[au,h0];rfl,hJ,rfl,Nw.refl _ _⟩
     ·refine AE rfl λK hK=>?_;go_simp;exact hK _ _ ⟨_,rfl,hJ,rfl,Nw.refl _ _⟩
     ·obtain⟨_,h3,ds,rfl,hds⟩:=hd 3;obtain⟨A1,n1,c1,A2,n2,c2,rfl,hs1,hs2⟩:=hds;have hb:=(AC W.heap.size W).alloc (AB _) (.cells #[.string cl.nm,.bool cl.actor,.slice A1 n1 c1,.slice A2 n2 c2] 117);have HCC:=H_ (show ClC W (NG w8.heap.size noZ W) cl [.string cl.nm,.bool cl.actor,.slice A1 n1 c1,.slice A2 n2 c2]from⟨A1,n1,c1,A2,n2,c2,rfl,hs1,hs2⟩);have HJ:=H_ hJ;have HB:=H_ hb;clear hs1 hs2 hJ hb;refine AE rfl λK hK=>?_;go_simp;exact hK _ _ ⟨.slice (some ⟨W.heap.size,0,none⟩) 1 1,by simp only[au,h3];rfl,HJ.out.below HB.out,⟨W.heap.size,_,rfl,⟨HJ.out.1.size,Blk.new W 117 _⟩,kCl.aA (λb hb'=>⟨hb'.mono HB.out.size,HB.out.block b hb'.2.1⟩) HCC.out⟩,Nw.below HB.out⟩
    ·intro ys W hJ hd;obtain⟨_,h2,rfl⟩:=hd 2;have hsW:=hJ.1.size;refine AE rfl λK hK=>?_;go_simp;refine Out.use (pH hn true HT.out (λh=>by cases h) p c A W hJ.2) (λj13 w13 hr b13=>?_) (λx' j13 v w13 hr hv P13 b13=>?_)
     ·exact⟨rfl,Out.bad (by rw[HE1.out];unfold cz;rw[AP HT.out,hr]) (hgz▸HB8.out.trans ((hJ.1.aB b13).mono (by omega)))⟩
     ·obtain⟨rfl,rfl⟩:=hsj _ _ hr;exact hK _ _ ⟨v,by simp only[au,h2];rfl,⟨hJ.1.aB b13,P13,hr⟩,rvC.aA (λb hb=>⟨⟨by have:=hb.1;omega,hb.2,λh=>h⟩,rfl⟩) hv,Nw.of b13 (by omega)⟩
    ·intro ys W hJ hd;obtain⟨_,h0,rfl⟩:=hd 0;obtain⟨_,h1,rfl⟩:=hd 1;obtain⟨_,h2,rfl⟩:=hd 2;obtain⟨v3,h3,_⟩:=hd 3;obtain⟨_,h4,ra,ds,rfl,hra,hds⟩:=hd 4;have hW:=hJ.1.size;have EW:=H_ (HE8.out.bx hJ.1 her8 (by omega));have GW:=H_ (HG8.out.bx hJ.1 hgr8 (by omega));have VW:=H_ (HV8.out.aA hJ.1.size (λk hk=>hJ.1.block k hk.2.1 (by have:=hk.1;omega)));have HJ:=H_ hJ;have HRA:=H_ hra;have HDS:=H_ hds;have HLT:=H_ HV8.out.lt;have HNZ:=H_ HV8.out.1;clear hJ hra hds hd HE8 HG8 HV8;rw[show List.range' 5 _=[5,6,7]from rfl,Bl];refine AE rfl λK hK=>?_;simp only[h0,h1,h2,h3,h4,Bz];rw[AP (by kernel_rfl)];refine cZ un (.tmp 11) (.tmp 14) rfl VW.out (ys:=[cl]) (dss:=[ds]) (b:=ra) (off:=0) (c:=1) (m:=1) rfl ?_ ?_ rfl rfl rfl ?_ ?_ ?_ ?_
     ·simpa using At.aG HRA.out.2
     ·intro j' x' cs' h1' h2';cases j' with
      |zero=>
       simp at h1' h2';subst h1' h2';exact kCl.aA (λb hb=>⟨⟨⟨by have:=hb.1;omega,hb.2.1,λh=>by have:=hb.1;unfold two at h;omega⟩,λh=>by have:=(HLT.out b h).2;have:=hb.1;omega⟩,rfl⟩) HDS.out
      |succ j'=>simp at h1'
     ·simp;omega
     ·omega
     ·exact λb hb h=>by unfold two at h;omega
     ·intro v' w14 hv14 hg14;refine hK _ _ ?_;have hs14:=hg14.size;have hown:∀k,(Value.slice A' cs.length c').ownBlock=some k->g<=k:=λk hk=>(HLT.out k hk).1;have hnz:∀k,(Value.slice A' cs.length c').ownBlock=some k->¬(k=g\/k=e):=λk hk=>HNZ.out k hk;have F14:=H_ ((hg14.block e EW.out.lt (λh=>hnz e h.symm (.inr rfl))).trans EW.out);have G14:=H_ ((hg14.block g GW.out.lt (λh=>hnz g h.symm (.inl rfl))).trans GW.out);have HP14:=H_ (HJ.out.2.1.grown hg14 (λk hk=>by have:=hown k hk;omega));have B14:=H_ ((HB8.out.trans (HJ.out.1.mono (by omega))).grown hg14 (by omega) hown);have HRJ:=H_ HJ.out.2.2;obtain⟨A15,c15,rfl,_⟩:=hv14.sl (by simp[BD];omega);rw[show(cs++[cl]).length=cs.length+1 from by simp]at hv14;have V14:=H_ hv14;clear hv14 hg14 HJ HRA HDS EW GW VW hK K HB8 HLT HNZ hown hnz;have x0:w14.cell? ⟨e,0,none⟩=some (.slice A' cs.length c'):=Blk.cell F14.out 0;have x0f:=Blk.frozen F14.out 0;rw[Bl];refine AE rfl λK hK=>?_;go_simp;refine hK _ _ ?_;rw[Bl];refine AE rfl λK hK=>?_;go_simp;refine hK _ _ ?_;obtain⟨w15,hw15⟩:=nm_ (w14.setCell ⟨e,0,none⟩ (.slice A15 (cs.length+1) c15));have bw:=bx1 hw15;have he14:=Blk.lt F14.out;have hg14':=Blk.lt G14.out;have F15:=H_ (show Blk w15 e 28 #[.slice A15 (cs.length+1) c15]from hw15▸Blk.set F14.out 0 _);have G15:=H_ (Blk.bx G14.out bw hg14' (by omega));have HP15:=H_ (HP14.out.put bw (by omega));have B15:=H_ (B14.out.put bw (by omega) (by omega));have V15:=H_ (V14.out.aA bw.size (λk hk=>bw.block k hk.2.1 (λh=>hk.2.2 (.inr h))));have hjT:=HP15.out.lt;have hjq:=((eM n true).up (λx=>by unfold csz;omega)) _ _ _ HRJ.out;rw[hw15];clear hw15 bw F14 G14 HP14 B14 V14 x0 x0f hK K;have HE8:=H_ (show cz T n (T.length+1) [] i=cz T n m (cs++[cl]) jy by rw[HE1.out];conv=>lhs;unfold cz;rw[AP HT.out,HRJ.out]);rw[show cs.length+1=(cs++[cl]).length from by simp]at F15 V15;unfold wpOps;go_wp2_with fail;go_roundg (T.length-jy)
      case rel=>exact⟨cs++[cl],jy,A15,c15,rfl,F15,V15,G15,HP15,B15,by omega,by simp;omega,H_ ⟨m,by omega,HE8.out⟩⟩
      case measure=>omega
   ·have HTA:=H_ ht;have HE8:=hbx HE7 b8 her7;have HG8:=hbx HG7 b8 hgr7;have HV8:=hvk HV7 b8;have HB8:=H_ (HB7.out.trans (b8.mono (by omega)));have HP8:=H_ P8;have hs8:=b8.size;clear ht P8 b8 HE7 HG7 HV7 HB7 HP7;have her8:=HE8.out.lt;have y0:=HE8.out.k0;have d0:=HG8.out.k0;have f0:=HG8.out.frozen 0;go_wp2_with fail;have N2:=(Bx.refl w8.heap.size g w8).aJ (o:=0) (.inr rfl) (.slice A' cs.length c');have HV:=HV8.out.slice (by unfold BD;omega)
    refine lZ g 28 _ _ rfl (by simp) (HG8.out.set 0 (.slice A' cs.length c')) Tryz.underlying28 rfl zq (Out.ok (by rw[HE1.out];unfold cz;rw[AL (by rw[HTA.out];simp),AL (by rw[HT.out];simp)])
     ⟨A',cs.length,c',rfl,HV.aA (λb hb=>⟨⟨by have:=hb.1;omega,AF hb.2.1 N2.size⟩,N2.block b hb.2.1 (λh=>hb.2.2 (.inl h))⟩)⟩ (HP8.out.put N2 (by omega)) (hgz▸HB8.out.put N2 (AB _) (by omega)))
theorem vO(w:World):(binOp .eql 20 Value.nilIface Value.nilIface).run Tryz.prog w= .ok (.bool true) w:=by kernel_rfl
theorem xQ(x:Int)(w:World):(binOp .eql 20 (Value.iface 201 (.int .i64 x)) Value.nilIface).run Tryz.prog w= .ok (.bool false) w:=by kernel_rfl
theorem Ak(x:Int)(w:World):(Instr.typeAssert (Value.iface 201 (.int .i64 x)) 20 201 true).run Tryz.prog w= .ok (.tuple #[.int .i64 x,.bool true]) w:=by kernel_rfl
theorem rh(a b c:Nat)(w:World):
 CallsD Tryz.prog 133 #[.pointer (some ⟨a,0,none⟩),.pointer (some ⟨b,0,none⟩),.pointer (some ⟨c,0,none⟩)] .returning w λe u' w'=>e= .returned (.tuple #[])/\u'= .returning/\w'=w:=by
 have hq:=vO;refine callsD_of_wpS Tryz.func133 rfl λc₀ cs hu=>?_;apply wpS_seq;apply wpS_region;simp[wpOpsS,go_sem,recoverD,hu,Tryz.ntmps133,Exit.thenS];refine wpS_of_wp ?_;rw[show(#[Value.pointer (some {block:=a,off:=0}),Value.pointer (some {block:=b,off:=0}),Value.pointer (some {block:=c,off:=0})]++(Array.replicate 12 undef).setIfInBounds 4 Value.nilIface)= #[Value.pointer (some {block:=a,off:=0}),Value.pointer (some {block:=b,off:=0}),Value.pointer (some {block:=c,off:=0}),undef,undef,undef,undef,Value.nilIface,undef,undef,undef,undef,undef,undef,undef]from rfl];go_wp2_with fail;cases c₀;simp_all [bodyPostS,results,Tryz.results133]
theorem lP(a b c:Nat)(x:Int)(older:List PanicEntry)(w:World)(v0:Value)(q0:Blk w a 28 #[v0])(q1:Blk w b 3 #[.int .i64 0])(q2:Blk w c 32 #[.int .i64 0])(hab:a≠b)(hac:a≠c)(hbc:b≠c):
 CallsD Tryz.prog 133 #[.pointer (some ⟨a,0,none⟩),.pointer (some ⟨b,0,none⟩),.pointer (some ⟨c,0,none⟩)] (.panicking ({v:= .iface 201 (.int .i64 x),recovered:=false}::older)) w λe u' w'=>
  e= .returned (.tuple #[])/\u'= .panicking ({v:= .iface 201 (.int .i64 x),recovered:=true}::older)/\w'=((((w.setCell ⟨a,0,none⟩ (.slice none 0 0)).setCell ⟨b,0,none⟩ (.int .i64 x)).setCell ⟨c,0,none⟩ (.int .i64 3))).alloc (.cells #[.slice none 0 0] 28):=by
 have hq:=xQ;have hs:=Ak;have a0:=q0.k0;have b0:=q1.k0;have c0:=q2.k0;have af:=q0.frozen 0;have bf:=q1.frozen 0;have cf:=q2.frozen 0;have al:=q0.lt;have bl:=q1.lt;have cl:=q2.lt;have hba:=hab.symm;have hca:=hac.symm;have hcb:=hbc.symm;clear q0 q1 q2;refine callsD_of_wpS Tryz.func133 rfl λc₀ cs hu=>?_;apply wpS_seq;apply wpS_region;simp[wpOpsS,go_sem,recoverD,hu,Tryz.ntmps133,Exit.thenS];refine wpS_of_wp ?_;rw[show(#[Value.pointer (some {block:=a,off:=0}),Value.pointer (some {block:=b,off:=0}),Value.pointer (some {block:=c,off:=0})]++(Array.replicate 12 undef).setIfInBounds 4 (Value.iface 201 (.int .i64 x)))= #[Value.pointer (some {block:=a,off:=0}),Value.pointer (some {block:=b,off:=0}),Value.pointer (some {block:=c,off:=0}),undef,undef,undef,undef,Value.iface 201 (.int .i64 x),undef,undef,undef,undef,undef,undef,undef]from rfl];go_wp2_with fail;cases c₀;simp_all [bodyPostS,results,Tryz.results133]
theorem sD(s:ByteArray)(w:World)(hg:Gl w):Calls Tryz.prog 132 #[.string s] w λe' w'=>∃(v:Value) (p e:Int),e'= .returned (.tuple #[v,.int .i64 p,.int .i64 e])/\Below w.heap.size w w'/\
 (match ce s.data.toList with
   | .toks T=>e=0/\p=0/\w'.ownsRow w.heap.size 162 4 v T.length (dj T)
   | .err p' e''=>p=(p':Int)/\e=e''/\e≠0):=by
 by_cases h:s.size<=16384
 ·refine(ui s w hg h).mono ?_;rintro e' w' ⟨v,ts,p,e,rfl,hb,h1,_,h3⟩;refine⟨v,p,e,rfl,hb,?_⟩;cases hs:ce s.data.toList with
  |toks T=>
   rw[hs]at h3;obtain⟨rfl,rfl,rfl⟩:=h3;exact⟨rfl,rfl,(h1 rfl).1⟩
  |err p' e''=>
   rw[hs]at h3;exact h3
 ·refine(kb s w (by omega)).mono ?_;rintro e' w' ⟨rfl,rfl⟩;refine⟨_,_,_,rfl,AC _ _,?_⟩;have:ce s.data.toList= .err 0 8:=by unfold ce;rw[AP (by show 16384<s.size;omega)]
  rw[this];exact⟨rfl,rfl,by decide⟩
def Am(s:ByteArray)(w:World)(e':Ending)(w':World):Prop:=Below w.heap.size w w'/\∃(v:Value) (p er:Int),e'= .returned (.tuple #[v,.int .i64 p,.int .i64 er])/\
 (match ce s.data.toList with
   | .err q e=>p=(q:Int)/\er=e/\v= .agg #[.slice none 0 0]/\er≠0
   | .toks T=>match cn T with
     | .bad j=>p=(tk T j).2.2.2/\er=3/\v= .agg #[.slice none 0 0]
     | .ok cs j=>p=0/\er=0/\rvP w' (Fr w w') cs v/\j<=20000)
theorem results85(tmps:Array Value)(W:World)(a b c:Nat)(v:Value)(p er:Int)(ha:Blk W a 28 #[v])(hb:Blk W b 3 #[.int .i64 p])(hc:Blk W c 32 #[.int .i64 er])
 (h4:tmps.getD 4 undef= .pointer (some ⟨a,0,none⟩)) (h5:tmps.getD 5 undef= .pointer (some ⟨b,0,none⟩)) (h6:tmps.getD 6 undef= .pointer (some ⟨c,0,none⟩)):
 (results Tryz.f85 tmps).run Tryz.prog W= .ok (.tuple #[.agg #[v],.int .i64 p,.int .i64 er]) W:=by
 have h1:=De (P:=Tryz.prog) W a 28 28 #[v] (0,0) _ ha Tryz.underlying28 rfl (by kernel_rfl);have c1:=hb.k0;have c2:=hc.k0
 have l1:(loadVar 3 ⟨b,0,none⟩).run Tryz.prog W= .ok (.int .i64 p) W:=by
  simp[loadVar,go_sem,c1]
 have l2:(loadVar 32 ⟨c,0,none⟩).run Tryz.prog W= .ok (.int .i64 er) W:=by
  simp[loadVar,go_sem,c2]
 have h4':tmps[4]?.getD undef= .pointer (some ⟨a,0,none⟩):=by simpa using h4
 have h5':tmps[5]?.getD undef= .pointer (some ⟨b,0,none⟩):=by simpa using h5
 have h6':tmps[6]?.getD undef= .pointer (some ⟨c,0,none⟩):=by simpa using h6
 simp[results,Tryz.results85,h4',h5',h6',asAddr,h1,l1,l2]
theorem nk{W:World}{a:Nat}{x y z:Value}(A:Blk W a 28 #[x])(C:Blk W (a+1) 3 #[y])(D:Blk W (a+1+1) 32 #[z])(x' y' z':Value):
 Blk (((W.setCell ⟨a,0,none⟩ x').setCell ⟨a+1,0,none⟩ y').setCell ⟨a+1+1,0,none⟩ z') a 28 #[x']/\Blk (((W.setCell ⟨a,0,none⟩ x').setCell ⟨a+1,0,none⟩ y').setCell ⟨a+1+1,0,none⟩ z') (a+1) 3 #[y']/\
 Blk (((W.setCell ⟨a,0,none⟩ x').setCell ⟨a+1,0,none⟩ y').setCell ⟨a+1+1,0,none⟩ z') (a+1+1) 32 #[z']/\(∀B:World,Below a B W->Below a B (((W.setCell ⟨a,0,none⟩ x').setCell ⟨a+1,0,none⟩ y').setCell ⟨a+1+1,0,none⟩ z'))/\
 ∀k,k≠a->k≠a+1->k≠a+1+1->(((W.setCell ⟨a,0,none⟩ x').setCell ⟨a+1,0,none⟩ y').setCell ⟨a+1+1,0,none⟩ z').heap[k]?=W.heap[k]?:=by
 have h:∀(w:World) (b k:Nat) (u:Value),k≠b->(w.setCell ⟨b,0,none⟩ u).heap[k]?=w.heap[k]?:=λw b k u hk=>AG _ _ _ _ hk;refine⟨?_,?_,?_,λB hB=>?_,λk h1 h2 h3=>?_⟩
 ·exact(h _ _ _ _ (by omega)).trans ((h _ _ _ _ (by omega)).trans (A.set 0 x'))
 ·exact(h _ _ _ _ (by omega)).trans (Blk.set ((h _ _ _ _ (by omega)).trans C) 0 y')
 ·exact Blk.set ((h _ _ _ _ (by omega)).trans ((h _ _ _ _ (by omega)).trans D)) 0 z'
 ·exact((hB.setCell (p:=⟨a,0,none⟩) (AB _) _).setCell (p:=⟨a+1,0,none⟩) (by show a<=a+1;omega) _).setCell (p:=⟨a+1+1,0,none⟩) (by show a<=a+1+1;omega) _
 ·rw[h _ _ _ _ h3,h _ _ _ _ h2,h _ _ _ _ h1]
theorem zU(s:ByteArray)(w:World)(hg:Gl w):Calls Tryz.prog 85 #[.string s,.func (.func 86) #[] #[]] w (Am s w):=by
 have hE:∀(ar:Array Value) (w:World),(callFunc 86 ar).run Tryz.prog w= .ok (.enter 86 ar) w:=λ_ _=>by kernel_rfl
 have hmf:∀(fn:Fn) (first cap:Array Value) (w:World),(Instr.makeFunc fn first cap).run Tryz.prog w= .ok (.func fn first cap) w:=λ_ _ _ _=>rfl;obtain⟨w0,hw0⟩:=nm_ (((w.alloc (.cells #[.slice none 0 0] 28)).alloc (.cells #[.int .i64 0] 3)).alloc (.cells #[.int .i64 0] 32));have A0:=H_ (show Blk w0 w.heap.size 28 #[.slice none 0 0]from hw0▸((Blk.new w 28 _).alloc _).alloc _);have C0:=H_ (show Blk w0 (w.heap.size+1) 3 #[.int .i64 0]from hw0▸(by have:=(Blk.new (w.alloc (.cells #[.slice none 0 0] 28)) 3 #[.int .i64 0]).alloc (.cells #[.int .i64 0] 32);simpa using this));have D0:=H_ (show Blk w0 (w.heap.size+1+1) 32 #[.int .i64 0]from hw0▸(by have:=Blk.new ((w.alloc (.cells #[.slice none 0 0] 28)).alloc (.cells #[.int .i64 0] 3)) 32 #[.int .i64 0];simpa using this));have B0:=H_ (show Below w.heap.size w w0 from hw0▸(((AC _ _).alloc (AB _) _).alloc (by simp) _).alloc (by simp;omega) _);have HG:=H_ hg;clear hg;go_enter_defers Tryz.func85,Tryz.ntmps85;go_upto_region 1 with(fail);obtain⟨a,haz⟩:=nm_ (w.heap.size);rw[haz]at A0 C0 D0 B0⊢;have a0:=A0.out.k0;have c0:=C0.out.k0;have d0:=D0.out.k0;have hl0:=D0.out.lt;clear hw0;go_wp2_with fail;refine(sD s w0 (GlB.gl (GlB.below HG.out (haz▸B0.out)))).mono ?_;rintro e' w1 ⟨v,p,er,rfl,b1,hsc⟩;have A1:=H_ (A0.out.below b1 (by omega));have C1:=H_ (C0.out.below b1 (by omega));have D1:=H_ (D0.out.below b1 (by omega));have B1:=htm B0 b1;have a1:=A1.out.k0;have c1:=C1.out.k0;have d1:=D1.out.k0;have af:=A1.out.frozen 0;have cf:=C1.out.frozen 0;have df:=D1.out.frozen 0;have hl1:=D1.out.lt;have hb1:=b1.size;clear A0 C0 D0 B0 a0 c0 d0;cases hs:ce s.data.toList with
 |err p' e''=>
  rw[hs]at hsc;obtain⟨rfl,rfl,he⟩:=hsc;have hne:(er !=0)=true:=by simpa using he
  go_wp2_with fail;go_region;all_goals go_wp2_with fail
  all_goals
   have hset:∀(w:World) (b k:Nat) (u:Value),k≠b->(w.setCell ⟨b,0,none⟩ u).heap[k]?=w.heap[k]?:=λw b k u hk=>AG _ _ _ _ hk;have A2:Blk ((w1.setCell ⟨a+1,0,none⟩ (.int .i64 p')).setCell ⟨a+1+1,0,none⟩ (.int .i64 er)) a 28 #[.slice none 0 0]:=(hset _ _ _ _ (by omega)).trans ((hset _ _ _ _ (by omega)).trans A1.out);have C2:Blk ((w1.setCell ⟨a+1,0,none⟩ (.int .i64 p')).setCell ⟨a+1+1,0,none⟩ (.int .i64 er)) (a+1) 3 #[.int .i64 p']:=(hset _ _ _ _ (by omega)).trans (C1.out.set 0 _);have D2:Blk ((w1.setCell ⟨a+1,0,none⟩ (.int .i64 p')).setCell ⟨a+1+1,0,none⟩ (.int .i64 er)) (a+1+1) 32 #[.int .i64 er]:=Blk.set ((hset _ _ _ _ (by omega)).trans D1.out) 0 _;have B2:=(B1.out.setCell (p:=⟨a+1,0,none⟩) (by show a<=a+1;omega) (.int .i64 p')).setCell (p:=⟨a+1+1,0,none⟩) (by show a<=a+1+1;omega) (.int .i64 er);obtain⟨s1,s2,s3,s4,_⟩:=nk A2 C2 D2 (.slice none 0 0) (.int .i64 p') (.int .i64 er);exact⟨_,results85 _ _ a (a+1) (a+1+1) (.slice none 0 0) p' er s1 s2 s3 rfl rfl rfl,by rw[haz];exact(s4 _ B2).drew,_,_,_,rfl,by rw[hs];exact⟨rfl,rfl,rfl,he⟩⟩
 |toks T=>
  rw[hs]at hsc;obtain⟨rfl,rfl,hown⟩:=hsc;have htk:=ik hs
  obtain⟨g,cap,rfl⟩:∃g cap,v= .slice (some ⟨g,0,none⟩) T.length cap:=by
   rcases hown.2 with⟨_,h0⟩|⟨g,cap,cur,hv,_⟩
   ·omega
   ·exact⟨g,cap,hv⟩
  have hgl:=(hown.lt g rfl).2;have HOWN:=H_ hown;have HTK:=H_ htk;clear hown htk;go_wp2_with fail;obtain⟨P,hPz⟩:=nm_ (w1.heap.size);have hsz2:((w1.setCell ⟨a+1,0,none⟩ (.int .i64 0)).setCell ⟨a+1+1,0,none⟩ (.int .i64 0)).heap.size=P:=by simp[hPz]
  obtain⟨w2,hw2⟩:=nm_ ((((w1.setCell ⟨a+1,0,none⟩ (.int .i64 0)).setCell ⟨a+1+1,0,none⟩ (.int .i64 0)).alloc (.cells #[.slice (some ⟨g,0,none⟩) T.length cap,.int .i64 0] 203)));have hgw:=(HOWN.out.lt g rfl).1
  have hk2:∀k,k<P->k≠a+1->k≠a+1+1->w2.heap[k]?=w1.heap[k]?:=λk h1 h2 h3=>by
   rw[<-hw2,BR _ _ _ (by rw[hsz2];exact h1),AG _ _ _ _ h3,AG _ _ _ _ h2]
  have A2:=H_ (show Blk w2 a 28 #[.slice none 0 0]from(hk2 a (by omega) (by omega) (by omega)).trans A1.out);have C2:=H_ (show Blk w2 (a+1) 3 #[.int .i64 0]from hw2▸(Blk.alloc ((AG _ _ _ _ (by show a+1≠a+1+1;omega)).trans (C1.out.set 0 (.int .i64 0))) _));have D2:=H_ (show Blk w2 (a+1+1) 32 #[.int .i64 0]from hw2▸(Blk.alloc (Blk.set ((AG _ _ _ _ (by show a+1+1≠a+1;omega)).trans D1.out) 0 (.int .i64 0)) _));have B2:=H_ (show Below a w w2 from hw2▸((B1.out.setCell (p:=⟨a+1,0,none⟩) (by show a<=a+1;omega) _).setCell (p:=⟨a+1+1,0,none⟩) (by show a<=a+1+1;omega) _).alloc (by rw[hsz2];omega) _)
  have P2:=H_ (show PS w2 P (some ⟨g,0,none⟩) cap T 0 from
   ⟨by rw[<-hw2,<-hsz2];exact Blk.new _ 203 _,⟨g,0,rfl,by omega,λj u hj=>by
    have h1:=HOWN.out.cells (g:=g) rfl j u (by
     have:dj T=(T.map tkC).flatten:=by unfold dj;rw[List.flatMap_def];rfl
     rw[this];exact hj)
    rw[fY]at h1;exact(C8 (a:=⟨g,0+j,none⟩) (hk2 g (by omega) (by omega) (by omega))).trans h1⟩,
    ⟨HTK.out.2.2.1,by have:=HTK.out.1;have:=HTK.out.2.1;omega,HTK.out.2.2.2.1⟩,HTK.out.2.2.1⟩)
  rw[hw2,hPz];have hs2:w2.heap.size=P+1:=by rw[<-hw2];simp[hPz]
  clear hw2 hk2 hsz2 A1 C1 D1 B1 a1 c1 d1 af cf df;refine Out.use (sN (T:=T) (i:=0) (n:=T.length+1) (by omega) P cap (some ⟨g,0,none⟩) w2 P2.out) (λj w3 hr b3=>?_) (λcs j v w3 hr hv P3 b3=>?_)
  ·have A3:=A2.out.bx b3 (by omega) (by omega);have C3:=C2.out.bx b3 (by omega) (by omega);have D3:=D2.out.bx b3 (by omega) (by omega);show Leaves _ _ _ _ _ _ _;refine leaves_cons (f:=133) (args:= #[.pointer (some ⟨a,0,none⟩),.pointer (some ⟨a+1,0,none⟩),.pointer (some ⟨a+1+1,0,none⟩)]) (by simp) (by simp[go_sem]) ?_;refine(lP a (a+1) (a+1+1) _ [] w3 _ A3 C3 D3 (by omega) (by omega) (by omega)).mono ?_;rintro e u' w4 ⟨rfl,rfl,rfl⟩;obtain⟨s1,s2,s3,s4,_⟩:=nk A3 C3 D3 (.slice none 0 0) (.int .i64 (tk T j).2.2.2) (.int .i64 3);have hB3:=B2.out.trans ((b3.below (B':=a) (by omega) (by omega)));refine⟨_,results85 _ _ a (a+1) (a+1+1) (.slice none 0 0) _ 3 (s1.alloc _) (s2.alloc _) (s3.alloc _) rfl rfl rfl,by rw[haz];exact(s4 _ hB3).alloc (by have:=b3.size;simp;omega) _,_,_,_,rfl,?_⟩
   have hpr:cn T= .bad j:=by
    have:=ew T (T.length+1) (T.length+1) [] 0;rw[hr]at this;exact this
   rw[hs];simp only;rw[hpr];refine⟨?_,?_,?_⟩<;>first|rfl|trivial
  ·obtain⟨A',n',c',rfl,hsl⟩:=hv;have hgP:∃off,(some ⟨g,0,none⟩:Option Addr)=some ⟨g,off,none⟩:=⟨0,rfl⟩;obtain⟨-,A3,-,C3,-,D3,-⟩:=fn3 A2 C2 D2 b3;have a3:=A3.out.k0;have af:=A3.out.frozen 0;have hP3:=P3.aG.lt;have hs3:=b3.size;have hjT:=P3.lt;have B3:=H_ (B2.out.trans ((b3.below (B':=a) (by omega) (by omega))));have HR:=H_ hr;have HP3':=H_ P3;have HSL:=H_ hsl;clear hr P3 hsl A2 C2 D2 B2 P2 hgP;go_upto_region 7 with fail;obtain⟨w4,hw4⟩:=nm_ (w3.setCell ⟨a,0,none⟩ (.slice A' n' c'));have hk4:∀k,k≠a->w4.heap[k]?=w3.heap[k]?:=λk hk=>hw4▸AG _ _ _ _ hk;have hsz4:w4.heap.size=w3.heap.size:=by rw[<-hw4];simp
   have A4:=hs0 A3 hw4;have C4:=H_ (show Blk w4 (a+1) 3 #[.int .i64 0]from(hk4 _ (by omega)).trans C3.out);have D4:=H_ (show Blk w4 (a+1+1) 32 #[.int .i64 0]from(hk4 _ (by omega)).trans D3.out);have B4:=H_ (show Below a w w4 from hw4▸B3.out.setCell (p:=⟨a,0,none⟩) (AB _) _)
   have P4:=H_ (show PS w4 P (some ⟨g,0,none⟩) cap T j from by
    refine⟨(hk4 P (by omega)).trans HP3'.out.aG,?_,HP3'.out.wf,HP3'.out.lt⟩;obtain⟨b,off,h1,h2,h3⟩:=HP3'.out.tok;simp only[Option.some.injEq,Addr.mk.injEq,Bn]at h1;obtain⟨rfl,rfl⟩:=h1;exact⟨g,0,rfl,h2,h3.aA (hk4 g (by omega))⟩)
   have SL4:=H_ (HSL.out.aA (G':=Fr w2 w4) (λb hb=>⟨⟨hb.1,by rw[hsz4];exact hb.2⟩,hk4 b (by have:=hb.1;omega)⟩));rw[hw4];clear hw4 hk4 A3 C3 D3 B3 HP3' HSL a3 af;have hf0:=py;obtain⟨⟨k,ts,z,q⟩,htk⟩:∃x,tk T j=x:=⟨_,rfl⟩
   have HN:=H_ (show Calls Tryz.prog 134 #[.pointer (some ⟨P,0,none⟩)] w4 (λe w'=>e= .returned (.agg #[.int .i64 k,.string ts,.int .i64 z,.int .i64 q])/\Below w4.heap.size w4 w')from
    (fP P j cap (some ⟨g,0,none⟩) T w4 P4.out).mono λe w' ⟨h1,h2⟩=>⟨by rw[h1,htk];rfl,h2⟩)
   have HTKJ:=H_ htk;clear htk;by_cases hk0:k=0
   ·subst hk0;go_wp2_with fail;refine HN.out.mono ?_;rintro e w5 ⟨rfl,b5⟩;have A5:=H_ (A4.out.below b5 (by omega));have C5:=H_ (C4.out.below b5 (by omega));have D5:=H_ (D4.out.below b5 (by omega));have B5:=H_ (B4.out.trans (b5.mono (by omega)));have SL5:=H_ (SL4.out.aA (G':=Fr w2 w5) (λb hb=>⟨⟨hb.1,AF hb.2 b5.size⟩,b5.block b hb.2⟩));have hs5:=b5.size;have a5:=A5.out.k0;have c5:=C5.out.k0;have d5:=D5.out.k0;have af:=A5.out.frozen 0;have cf:=C5.out.frozen 0;have df:=D5.out.frozen 0;clear b5 A4 C4 D4 B4 SL4;go_wp2_with fail;obtain⟨s1,s2,s3,s4,s5⟩:=nk A5.out C5.out D5.out (.slice A' n' c') (.int .i64 0) (.int .i64 0);show Leaves _ _ _ _ _ _ _;refine leaves_cons (f:=133) (args:= #[.pointer (some ⟨a,0,none⟩),.pointer (some ⟨a+1,0,none⟩),.pointer (some ⟨a+1+1,0,none⟩)]) (by simp) (by simp[go_sem]) ?_;refine(rh a (a+1) (a+1+1) _).mono ?_;rintro e u' w7 ⟨rfl,rfl,rfl⟩;refine⟨_,results85 _ _ a (a+1) (a+1+1) (.slice A' n' c') 0 0 s1 s2 s3 rfl rfl rfl,by rw[haz];exact s4 _ B5.out,_,_,_,rfl,?_⟩
    have hpr:cn T= .ok cs j:=by
     have:=ew T (T.length+1) (T.length+1) [] 0;rw[HR.out]at this;refine this.trans ?_;unfold zD;simp only;rw[AP (by rw[HTKJ.out])]
    rw[hs];simp only;rw[hpr];refine⟨by first|rfl|trivial,by first|rfl|trivial,⟨A',n',c',rfl,SL5.out.aA (λb hb=>⟨⟨by have:=hb.1;omega,?_⟩,s5 b (by have:=hb.1;omega) (by have:=hb.1;omega) (by have:=hb.1;omega)⟩)⟩,by have:=HTK.out.1;have:=HTK.out.2.1;omega⟩;have:=hb.2;simp;omega
   ·have hk0':(k !=0)=true:=by simpa using hk0
    go_wp2_with fail;refine HN.out.mono ?_;rintro e w5 ⟨rfl,b5⟩;have P5:=P4.out.below b5;have A5:=A4.out.below b5 (by omega);have C5:=C4.out.below b5 (by omega);have D5:=D4.out.below b5 (by omega);have hB5:=B4.out.trans (b5.mono (by omega));have hs5:=b5.size;have HF:=H_ (nW P j cap (some ⟨g,0,none⟩) T w5 P5);go_wp2_with fail;refine HF.out.mono ?_;rintro e w6 ⟨rfl,b6⟩;have A6:=A5.below b6 (by omega);have C6:=C5.below b6 (by omega);have D6:=D5.below b6 (by omega);have hB6:=hB5.trans (b6.mono (by omega));have hs6:=b6.size;show Leaves _ _ _ _ _ _ _;refine leaves_cons (f:=133) (args:= #[.pointer (some ⟨a,0,none⟩),.pointer (some ⟨a+1,0,none⟩),.pointer (some ⟨a+1+1,0,none⟩)]) (by simp) (by simp[go_sem]) ?_;refine(lP a (a+1) (a+1+1) _ [] w6 _ A6 C6 D6 (by omega) (by omega) (by omega)).mono ?_;rintro e u' w7 ⟨rfl,rfl,rfl⟩;obtain⟨s1,s2,s3,s4,_⟩:=nk A6 C6 D6 (.slice none 0 0) (.int .i64 (tk T j).2.2.2) (.int .i64 3);refine⟨_,results85 _ _ a (a+1) (a+1+1) (.slice none 0 0) _ 3 (s1.alloc _) (s2.alloc _) (s3.alloc _) rfl rfl rfl,by rw[haz];exact(s4 _ hB6).alloc (by simp;omega) _,_,_,_,rfl,?_⟩
    have hpr:cn T= .bad j:=by
     have:=ew T (T.length+1) (T.length+1) [] 0;rw[HR.out]at this;refine this.trans ?_;unfold zD;simp only;rw[AL (by rw[HTKJ.out];exact hk0)]
    rw[hs];simp only;rw[hpr];refine⟨?_,?_,?_⟩<;>first|rfl|trivial
inductive PR where
 |err (p e:Int):PR
 |ok (cs:List Cl):PR
def ca(l:List UInt8):PR:=match ce l with
 | .err q e=> .err q e
 | .toks T=>match cn T with
   | .bad j=> .err (tk T j).2.2.2 3
   | .ok cs j=>if 4000<lsz csz cs then .err 0 8 else .ok cs
def sg(s:ByteArray)(w:World)(e':Ending)(w':World):Prop:=Below w.heap.size w w'/\∃(v:Value) (p er:Int),e'= .returned (.tuple #[v,.int .i64 p,.int .i64 er])/\
 (match ca s.data.toList with
   | .err q e=>p=q/\er=e/\v= .agg #[.slice none 0 0]/\er≠0
   | .ok cs=>p=0/\er=0/\rvP w' (Fr w w') cs v)
theorem ul{w w':World}{e':Ending}(h:Am s w e' w'):Below w.heap.size w w'/\∃(A:Option Addr) (n c:Nat) (p er:Int),e'= .returned (.tuple #[.agg #[.slice A n c],.int .i64 p,.int .i64 er])/\
 ((er≠0/\ca s.data.toList= .err p er/\A=none/\n=0/\c=0)\/(er=0/\p=0/\∃cs,Sl kCl w' (Fr w w') cs A n/\lsz csz cs<=20000/\ca s.data.toList=if 4000<lsz csz cs then .err 0 8 else .ok cs)):=by
 obtain⟨hb,v,p,er,rfl,h⟩:=h;unfold ca;cases hs:ce s.data.toList with
 |err q e=>
  rw[hs]at h;obtain⟨rfl,rfl,rfl,he⟩:=h;exact⟨hb,none,0,0,_,_,rfl,.inl ⟨he,rfl,rfl,rfl,rfl⟩⟩
 |toks T=>
  rw[hs]at h;simp only at h⊢;cases hp:cn T with
  |bad j=>
   rw[hp]at h;obtain⟨rfl,rfl,rfl⟩:=h;exact⟨hb,none,0,0,_,_,rfl,.inl ⟨by decide,rfl,rfl,rfl,rfl⟩⟩
  |ok cs j=>
   rw[hp]at h;obtain⟨rfl,rfl,⟨A,n,c,rfl,hsl⟩,hj⟩:=h;exact⟨hb,A,n,c,_,_,rfl,.inr ⟨rfl,rfl,cs,hsl,AW (ke hp) hj,rfl⟩⟩
theorem results49(tmps:Array Value)(W:World)(a:Nat)(v u1 u2:Value)(ha:Blk W a 28 #[v])(h2:tmps.getD 2 undef= .pointer (some ⟨a,0,none⟩))(h3:tmps.getD 3 undef=u1)(h4:tmps.getD 4 undef=u2):
 (results Tryz.f49 tmps).run Tryz.prog W= .ok (.tuple #[.agg #[v],u1,u2]) W:=by
 have h1:=De (P:=Tryz.prog) W a 28 28 #[v] (0,0) _ ha Tryz.underlying28 rfl (by kernel_rfl);have h2':tmps[2]?.getD undef= .pointer (some ⟨a,0,none⟩):=by simpa using h2
 have h3':tmps[3]?.getD undef=u1:=by simpa using h3
 have h4':tmps[4]?.getD undef=u2:=by simpa using h4
 simp[results,Tryz.results49,h2',h3',h4',asAddr,h1]
theorem sP(s:ByteArray)(w:World)(hg:Gl w):Calls Tryz.prog 49 #[.string s] w (sg s w):=by
 obtain⟨w0,hw0⟩:=nm_ (w.alloc (.cells #[.slice none 0 0] 28));have A0:=hnw hw0;have b0:=bal hw0;have HR:=H_ (zU s w0 (GlB.gl (GlB.below hg b0)));have B0:=H_ b0;clear hg b0;go_enter Tryz.func49,Tryz.ntmps49;go_upto_region 1 with(fail);obtain⟨a,haz⟩:=nm_ (w.heap.size);rw[haz]at A0 B0⊢;have hl0:=A0.out.lt;clear hw0;go_wp2_with fail;refine HR.out.mono ?_;intro e' w1 hrun;obtain⟨b1,A,n,c,p,er,rfl,hcase⟩:=ul hrun;have A1:=H_ (A0.out.below b1 (by omega));have B1:=htm B0 b1;have hs1:=b1.size;have HC:=H_ hcase;clear b1 hrun hcase A0 HR;have a1:=A1.out.k0;have af:=A1.out.frozen 0;obtain⟨w2,hw2⟩:=nm_ (w1.alloc (.cells #[.slice none 0 0] 28));obtain⟨g,hgz⟩:=nm_ (w1.heap.size);have Q2:=H_ (show Blk w2 g 28 #[.slice none 0 0]from hw2▸hgz▸(Blk.new w1 28 _));have q0:=Q2.out.k0;have qf:=Q2.out.frozen 0;obtain⟨w3,hw3⟩:=nm_ (w2.setCell ⟨g,0,none⟩ (.slice A n c));have Q3:=hs0 Q2 hw3;have q3:=Q3.out.k0
 have hk3:∀k,k<g->w3.heap[k]?=w1.heap[k]?:=λk hk=>by
  rw[<-hw3,AG _ _ _ _ (show k≠g by omega),<-hw2,BR _ _ _ (by omega)]
 have A3:=H_ (show Blk w3 a 28 #[.slice none 0 0]from(hk3 a (by omega)).trans A1.out);have B3:=H_ (show Below a w w3 from hw3▸(hw2▸B1.out.alloc (by omega) _).setCell (p:=⟨g,0,none⟩) (by show a<=g;omega) _);have hs3:w3.heap.size=g+1:=by rw[<-hw3,<-hw2,<-hgz];simp
 have a3:=A3.out.k0;have af3:=A3.out.frozen 0;have HK3:=H_ hk3;clear hk3;rcases HC.out with⟨he,hp,rfl,rfl,rfl⟩|⟨rfl,rfl,cs,hsl,hl,hp⟩
 ·clear HC;have hne:(er==0)=false:=by simpa using he
  go_upto_region 4 with fail;clear hw2 hw3;go_wp2_with fail;refine AO (results49 _ _ a (.slice none 0 0) _ _ (A3.out.set 0 _) rfl rfl rfl) rfl ⟨by rw[haz];exact B3.out.setCell (p:=⟨a,0,none⟩) (AB _) _,_,_,_,rfl,?_⟩;rw[hp];exact⟨rfl,rfl,rfl,he⟩
 ·clear HC;have SL3:=H_ (hsl.aA (G':=Fr w0 w3) (w':=w3) (λb hb=>⟨⟨hb.1,by have:=hb.2;omega⟩,HK3.out b (by have:=hb.2;omega)⟩));have HP:=H_ hp;have HS:=H_ (yK cs A n c w3 (Fr w0 w3) SL3.out (λb hb=>hb.2) (by omega));clear hsl hp;go_upto_region 2 with fail;clear hw2 hw3;go_wp2_with fail;refine HS.out.mono ?_;rintro e w4 ⟨rfl,b4⟩;have A4:=H_ (A3.out.below b4 (by omega));have Q4:=H_ (Q3.out.below b4 (by omega));have B4:=htm B3 b4;have hs4:=b4.size;have SL4:=H_ (SL3.out.aA (G':=Fr w0 w4) (w':=w4) (λb hb=>⟨⟨hb.1,by have:=hb.2;omega⟩,b4.block b hb.2⟩));have a4:=A4.out.k0;have af4:=A4.out.frozen 0;have q4:=Q4.out.k0;clear b4 SL3 HS A3 Q3 B3 q3 a3 af3;by_cases hb:4000<lsz csz cs
  ·have hbz:((4000:Int)<(lsz csz cs:Int)):=by omega
   go_wp2_with fail;refine AO (results49 _ _ a (.slice none 0 0) _ _ (A4.out.set 0 _) rfl rfl rfl) rfl ⟨by rw[haz];exact B4.out.setCell (p:=⟨a,0,none⟩) (AB _) _,_,_,_,rfl,?_⟩;rw[HP.out,AP hb];exact⟨rfl,rfl,rfl,by decide⟩
  ·have hbz:¬((4000:Int)<(lsz csz cs:Int)):=by omega
   go_wp2_with fail;refine AO (results49 _ _ a (.slice A n c) _ _ (A4.out.set 0 _) rfl rfl rfl) rfl ⟨by rw[haz];exact B4.out.setCell (p:=⟨a,0,none⟩) (AB _) _,_,_,_,rfl,?_⟩;rw[HP.out,AL hb];refine⟨rfl,rfl,A,n,c,rfl,SL4.out.aA (λb hb=>⟨⟨?_,by simpa using hb.2⟩,AG _ _ _ _ (show b≠a by have:=hb.1;omega)⟩)⟩;have:=hb.1;omega
def cS(b:UInt8)(s:ByteArray):List ByteArray:=Lib.splitB ⟨#[b]⟩ 0 (Lib.countB s ⟨#[b]⟩) s
theorem lN(b:UInt8)(s:ByteArray):be (cS b s)=Lib.splitK [b] 0 (Lib.countB s ⟨#[b]⟩) s.data.toList:=Lib.splitB_data ⟨#[b]⟩ 0 _ s
def dv(b:UInt8)(xs:List (List UInt8)):List UInt8:=xs.flatMap λx=>x++[b]
theorem kg(b:UInt8):∀(out:List (List UInt8)) (last:List UInt8),∃h t,out++[last]=h::t/\dv b out++last=h++bB b t
 |[],last=>⟨last,[],rfl,by simp[dv,bB]⟩
 |x::out,last=>by
  obtain⟨h,t,h1,h2⟩:=kg b out last;refine⟨x,h::t,by rw[BN,h1],?_⟩;have e:dv b (x::out)=x++b::dv b out:=by simp[dv]
  rw[e];simp only[Cp,BN];rw[h2];simp[bB]
theorem iA{b:UInt8}(s:ByteArray)(ws:List ByteArray)(last:ByteArray)(hn:∀x∈be (ws++[last]),∀c∈x,c≠b)(hj:dv b (be ws)++last.data.toList=s.data.toList):cS b s=ws++[last]:=by
 obtain⟨h,t,h1,h2⟩:=kg b (be ws) last.data.toList;refine fE ?_;rw[lN];have e:be (ws++[last])=h::t:=by rw[<-h1];simp[be]
 rw[e]at hn⊢;have hs:s.data.toList=h++bB b t:=by rw[<-hj,h2]
 have hc:Lib.countB s ⟨#[b]⟩=t.length:=by
  rw[<-gL b t h hn,<-hs]
 rw[hc,hs,gv b t h hn]
theorem iu(ws:List ByteArray)(x:ByteArray):be (ws++[x])=be ws++[x.data.toList]:=by simp[be]
theorem eH(s:ByteArray)(p k:Nat):(s.extract p k).data.toList=(s.data.toList.take k).drop p:=by
 rw[BE,BM,Bq,List.take_drop];by_cases h:p<=k
 ·rw[Nat.add_sub_cancel' h]
 ·rw[Cw (by rw[Ck];omega),Cw (by rw[Ck];omega)]
theorem jl{b:UInt8}{p k:Nat}(h:∀j,p<=j->j<k->s.data.toList[j]?≠some b):∀c∈(s.extract p k).data.toList,c≠b:=by
 intro c hc he;subst he;rw[eH]at hc;obtain⟨j,hj⟩:=List.mem_iff_getElem?.1 hc;rw[CS,D8]at hj;split at hj
 ·exact h (p+j) (by omega) (by assumption) hj
 ·cases hj
theorem ns(b:UInt8)(s:ByteArray)(w:World)(hs:s.size<=100000):Calls Tryz.prog 51 #[.string s,.int .u8 b.toNat] w λe w'=>∃A c,e= .returned (.slice A (cS b s).length c)/\(cS b s).length<=c/\Strs w' w'.heap.size A (cS b s).length (cS b s)/\Below w.heap.size w w':=by
 obtain⟨i0,hi,hz0,hz1,hz2⟩:=CZ pm;go_enter Tryz.func51,Tryz.ntmps51;go_upto_region 2 with fail;have hown:(w.alloc (.cells #[] 9)).ownsRow w.heap.size 9 1 (.slice (some ⟨w.heap.size,0,none⟩) 0 0) 0 []:=World.ownsRow_made w #[] 0 (AB _) (AM _) rfl;have hb:Below w.heap.size w (w.alloc (.cells #[] 9)):=(AC _ _).alloc (AB _) _;generalize w.alloc (.cells #[] 9)=W0 at hown hb⊢;have HO:=H_ hown;have HB:=H_ hb;clear hown hb;go_wp2_with fail
 go_loopw [5,6,7] (λu a i wr=>∃(k p:Nat) (out:List ByteArray),k<=s.size+1/\i= .int .i64 k/\a= .int .i64 p/\Hid (wr.ownsRow w.heap.size 9 1 u out.length (out.map Value.string))/\Hid (Below w.heap.size w wr)/\out.length<=k/\(k<=s.size->p<=k)/\
  Hid ((k<=s.size->dv b (be out)=s.data.toList.take p/\(∀x∈be out,∀c∈x,c≠b)/\∀j,p<=j->j<k->s.data.toList[j]?≠some b)/\(k=s.size+1->cS b s=out))) (λ_ _ i _=>s.size+1-(intOf i).toNat)
 case atStart=>exact⟨0,0,[],AM _,rfl,rfl,HO,HB,AB _,λ_=>AB _,H_ ⟨λ_=>⟨by simp[dv,be],by simp[be],λj h1 h2=>by omega⟩,λh=>by omega⟩⟩
 case round=>
  clear HO HB;obtain⟨k,p,out,hk,rfl,rfl,HO,HB,hol,hpk,HI⟩:=hrel;by_cases hlt:k<=s.size
  ·have hp:=hpk hlt;have hk0:0<=(k:Int):=by omega
   have hp0:0<=(p:Int):=by omega
   have hkz:(k:Int)<=(s.size:Int):=by omega
   have hpz:(p:Int)<=(k:Int):=by omega
   by_cases hend:k=s.size
   ·subst hend;have hes:((s.size:Int)==(s.size:Int))=true:=Ch _;obtain⟨P,hP⟩:=nm_ (s.extract p s.size);have HP:=H_ hP;clear hP;go_wp2_with (first|(at_builtin;rw[HP.out];refine Cr _ rfl (.tmp 26) (.tmp 31) 67 rfl w.heap.size 9 i0 _ 1 16 Tryz.underlying67 hi hz0 hz1 hz2 rfl (by decide) _ _ _ rfl (HO.out.alloc _) ⟨wr.heap.size,0,none⟩ 1 1 [.string P] rfl rfl (λj u hu=>by rw[bY,By,(Blk.new wr 9 #[.string P]).cell j];simpa using hu) (by simp[Value.oneCell']) (by unfold maxLen;omega) (by omega) (by have:=HB.out.size;simp;omega) ?_));intro u' w3 hown3 hgrow _;have HO3:=H_ hown3;have HB3:=H_ ((HB.out.alloc HB.out.size (.cells #[.string P] 9)).grown hgrow (by have:=HB.out.size;simp;omega) (λq hq=>(HO.out.lt q hq).1));clear hown3 hgrow;go_wp2_with fail;go_roundw
    case rel=>
     refine⟨s.size+1,s.size+1,out++[P],by omega,by go_num,by go_num,?_,HB3,by rw[AT,BV];omega,λ_=>AB _,?_⟩
     ·rw[AT,Cg];exact HO3
     ·obtain⟨h1,h2,h3⟩:=HI.out.1 (by omega)
      have hsp:∀x∈be (out++[P]),∀c∈x,c≠b:=by
       intro x hx;rw[iu]at hx;rcases CL.1 hx with hx|hx
       ·exact h2 x hx
       ·simp only[AV,AX,BU]at hx;subst hx;rw[<-HP.out];exact jl h3
      refine H_ ⟨λh=>by omega,λ_=>iA s out P hsp ?_⟩;rw[h1,<-HP.out,eH,AK (i:=s.size) (AB _),Bu]
    case measure=>simp[intOf]
   ·have hkl:k<s.size:=by omega
    have hkl2:(k:Int)<(s.size:Int):=by omega
    have hes:((k:Int)==(s.size:Int))=false:=AD.2 (by omega);have hget:s.data.toList[k]?=some (s[k]'hkl):=AI hkl;by_cases hsp:s.data.toList[k]?=some b
    ·have hc:(s[k]'hkl)=b:=by rw[hget]at hsp;simpa using hsp
     have hc32:(((s[k]'hkl).toNat:Int)==(b.toNat:Int))=true:=by rw[hc];exact Ch _
     have HSP:=H_ hsp;clear hsp hget hc;obtain⟨P,hP⟩:=nm_ (s.extract p k);have HP:=H_ hP;clear hP;go_wp2_with (first|(at_builtin;rw[HP.out];refine Cr _ rfl (.tmp 26) (.tmp 31) 67 rfl w.heap.size 9 i0 _ 1 16 Tryz.underlying67 hi hz0 hz1 hz2 rfl (by decide) _ _ _ rfl (HO.out.alloc _) ⟨wr.heap.size,0,none⟩ 1 1 [.string P] rfl rfl (λj u hu=>by rw[bY,By,(Blk.new wr 9 #[.string P]).cell j];simpa using hu) (by simp[Value.oneCell']) (by unfold maxLen;omega) (by omega) (by have:=HB.out.size;simp;omega) ?_));intro u' w3 hown3 hgrow _;have HO3:=H_ hown3;have HB3:=H_ ((HB.out.alloc HB.out.size (.cells #[.string P] 9)).grown hgrow (by have:=HB.out.size;simp;omega) (λq hq=>(HO.out.lt q hq).1));clear hown3 hgrow;go_wp2_with fail;go_roundw
     case rel=>
      refine⟨k+1,k+1,out++[P],by omega,by go_num,by go_num,?_,HB3,by rw[AT,BV];omega,λ_=>AB _,?_⟩
      ·rw[AT,Cg];exact HO3
      ·obtain⟨h1,h2,h3⟩:=HI.out.1 (by omega)
       have hsp:∀x∈be (out++[P]),∀c∈x,c≠b:=by
        intro x hx;rw[iu]at hx;rcases CL.1 hx with hx|hx
        ·exact h2 x hx
        ·simp only[AV,AX,BU]at hx;subst hx;rw[<-HP.out];exact jl h3
       refine H_ ⟨λh=>⟨?_,hsp,λj h4 h5=>by omega⟩,λh=>by omega⟩;have hk:=(AH.1 HSP.out).1;have e:dv b (be (out++[P]))=dv b (be out)++(P.data.toList++[b]):=by rw[iu];simp[dv]
       rw[e,h1,<-HP.out,eH,<-Cp];have h6:s.data.toList.take p=(s.data.toList.take k).take p:=by rw[List.take_take,Nat.min_eq_left hp]
       rw[h6,Bu,BT,HSP.out];rfl
     case measure=>simp[intOf];omega
    ·have hc:(s[k]'hkl)≠b:=λe=>hsp (by rw[hget,e]);have hc32:(((s[k]'hkl).toNat:Int)==(b.toNat:Int))=false:=AD.2 λe=>hc (CD.1 (by show(s[k]'hkl).toNat=b.toNat;omega));have HSP:=H_ hsp;clear hsp hget hc;go_wp2_with fail;go_roundw
     case rel=>
      refine⟨k+1,p,out,by omega,by go_num,rfl,HO,HB,by omega,λ_=>by omega,H_ ⟨λh=>?_,λh=>by omega⟩⟩;obtain⟨h1,h2,h3⟩:=HI.out.1 (by omega);refine⟨h1,h2,λj h4 h5=>?_⟩;by_cases hjk:j=k
      ·subst hjk;exact HSP.out
      ·exact h3 j h4 (by omega)
     case measure=>simp[intOf];omega
  ·obtain rfl:k=s.size+1:=by omega
   have hw:=HI.out.2 rfl;have hgt:decide (((s.size+1:Nat):Int)<=(s.size:Int))=false:=by simp;omega
   obtain⟨A,c,hu⟩:∃A c,u5= .slice A out.length c/\out.length<=c:=by
    obtain⟨A,c,⟨hv,hc⟩|⟨hv,h0⟩⟩:=bC HO.out
    ·exact⟨A,c,hv,hc⟩
    ·exact⟨none,0,by rw[hv,h0],by omega⟩
   obtain⟨rfl,hoc⟩:=hu;have HW:=H_ hw;clear hw;go_wp2_with fail;go_ret;rw[HW.out];exact⟨A,c,rfl,hoc,Row.aL HO.out (by simp),HB.out⟩
theorem wN(s:ByteArray)(w:World)(hs:s.size<=100000):Calls Tryz.prog 51 #[.string s,.int .u8 32] w λe w'=>∃A c,e= .returned (.slice A (aw s).length c)/\(aw s).length<=c/\Strs w' w'.heap.size A (aw s).length (aw s)/\Below w.heap.size w w':=ns 32 s w hs
def jD(K:Int)(ws:List ByteArray):ByteArray×ByteArray×List ByteArray:=
 if K=11/\3<=ws.length then(ws.getD 1 ⟨#[]⟩,ws.getD 2 ⟨#[]⟩,ws.getD 0 ⟨#[]⟩::ws.drop 3)
 else if K=12/\2<=ws.length then(ws.getD 0 ⟨#[]⟩,ws.getD 1 ⟨#[]⟩,ws.drop 2)
 else if K=13/\1<=ws.length then(ws.getD 0 ⟨#[]⟩,⟨#[]⟩,ws.drop 1)
 else(⟨#[]⟩,⟨#[]⟩,ws)
def ix(K:Int)(nm mt:ByteArray)(zs:List Int):Ad:=
 if K=12 then⟨K,0,0,nm,mt,zs,[]⟩
 else if K=11 then⟨K,zs.getD 0 0,0,nm,mt,zs.drop 1,[]⟩
 else if K=7 then⟨K,zs.getD 0 0,0,nm,mt,[],zs.drop 1⟩
 else if K=15 then⟨K,0,zs.getD 0 0,nm,mt,[],[]⟩
 else⟨K,zs.getD 0 0,zs.getD 1 0,nm,mt,[],[]⟩
def dD(z:Int):Prop:= -4611686018427387904<=z/\z<=4611686018427387904
theorem kc(h:dX zs=true):∀z∈zs,dD z:=by
 intro z hz;have:=Bb.1 h z hz;simp only[Ba,Bk]at this;unfold dD;omega
theorem ko(h:zs.all countB=true):∀z∈zs,dD z:=by
 intro z hz;have:=Bb.1 h z hz;simp only[countB,Ba,Bk]at this;unfold dD;omega
def eF(d:Ad):List Int:=
 if d.k=12\/d.k=13 then d.args
 else if d.k=11 then d.a::d.args
 else if d.k=7 then d.a::d.surv
 else if d.k=15 then[d.b]
 else if d.k=0\/d.k=10\/d.k=14 then[d.a,d.b]
 else[d.a]
theorem ir{lo hi:Int}(h:gg s lo hi=true):s.size<=31:=by
 unfold gg at h;split at h
 ·cases h
 ·simp only[Ba,Bk]at h;exact h.1.1.1.1
theorem uq(d:Ad)(f:FD)(hf:cP d.k=some f)(h:iX d f=true):
 jD d.k (f.pds.flatMap (dE d))=(d.nm,d.mt,(eF d).map bM)/\ix d.k d.nm d.mt (eF d)=d/\∀z∈eF d,dD z:=by
 have ho:okD d=true:=by unfold okD;rw[hf];exact h
 have hv:aR d=true:=by rw[<-dY];exact ho
 obtain⟨q,hq,hk⟩:=gI hf;obtain⟨k,a,b,nm,mt,zs,ys⟩:=d;dsimp only at hk hf;subst hk;clear h ho;rw[dy hq]at hf;have e1:nm.toList=[]->nm=⟨#[]⟩:=fH;have e2:mt.toList=[]->mt=⟨#[]⟩:=fH;have s1:dX zs=true->∀z∈zs,dD z:=kc;have s2:ys.all countB=true->∀z∈ys,dD z:=ko;obtain rfl|rfl|rfl|rfl|rfl|rfl|rfl|rfl|rfl|rfl|rfl|rfl|rfl|rfl|rfl|rfl:q=0\/q=1\/q=2\/q=3\/q=4\/q=5\/q=6\/q=7\/q=8\/q=9\/q=10\/q=11\/q=12\/q=13\/q=14\/q=15:=by omega
 all_goals
  simp only[ax,CG,Bt,Option.some.injEq]at hf;subst hf;simp only[aR,bZ,cF,bL,countB,BZ,Ba,Bk,CJ,Bool.false_or,Bool.true_or,CR,CH]at hv;refine⟨?_,?_,?_⟩
  ·simp[jD,eF,dE]<;>grind
  ·simp[ix,eF]<;>grind
  ·simp[eF]<;>unfold dD at* <;>grind
theorem kS{d:Ad}(hv:aR d=true):WfA d/\d.nm.size<=31/\d.mt.size<=31/\d.args.length<=30/\d.surv.length<=20:=by
 obtain⟨q,hq,hk⟩:=gq hv;obtain⟨k,a,b,nm,mt,zs,ys⟩:=d;dsimp only at hk;subst hk;have e1:nm.toList=[]->nm.size<=31:=λh=>by rw[fH h];decide
 have e2:mt.toList=[]->mt.size<=31:=λh=>by rw[fH h];decide
 have e3:jw nm=true->nm.size<=31:=ir;have e4:jw mt=true->mt.size<=31:=ir;have e5:gM mt=true->mt.size<=31:=ir;have s1:dX zs=true->∀z∈zs,I64 z:=λh z hz=>by have:=kc h z hz;unfold dD at this;unfold I64;omega
 have s2:ys.all countB=true->∀z∈ys,I64 z:=λh z hz=>by have:=ko h z hz;unfold dD at this;unfold I64;omega
 have s3:zs=[]->∀z∈zs,I64 z:=λh=>by subst h;simp
 have s4:ys=[]->∀z∈ys,I64 z:=λh=>by subst h;simp
 obtain rfl|rfl|rfl|rfl|rfl|rfl|rfl|rfl|rfl|rfl|rfl|rfl|rfl|rfl|rfl|rfl:q=0\/q=1\/q=2\/q=3\/q=4\/q=5\/q=6\/q=7\/q=8\/q=9\/q=10\/q=11\/q=12\/q=13\/q=14\/q=15:=by omega
 all_goals
  simp only[aR,bZ,cF,bL,countB,BZ,Ba,Bk,CJ,Bool.false_or,Bool.true_or,CR,CH]at hv;refine⟨⟨?_,?_,?_,?_⟩,?_,?_,?_,?_⟩
  ·dsimp only;unfold I64;grind
  ·dsimp only;unfold I64;grind
  ·dsimp only;clear e1 e2 e3 e4 e5 s2 s4;grind
  ·dsimp only;clear e1 e2 e3 e4 e5 s1 s3;grind
  ·dsimp only;clear s1 s2 s3 s4;grind
  ·dsimp only;clear s1 s2 s3 s4;grind
  ·dsimp only;clear s1 s2 s3 s4 e1 e2 e3 e4 e5;grind
  ·dsimp only;clear s1 s2 s3 s4 e1 e2 e3 e4 e5;grind
def pQ(l:List UInt8):Nat:=l.foldl (λa c=>a*10+(c.toNat-48)) 0
theorem mp(l:List UInt8)(c:UInt8):pQ (l++[c])=pQ l*10+(c.toNat-48):=by unfold pQ;rw[List.foldl_append];rfl
theorem gr(n:Nat):pQ (Lib.decDigits n)=n:=by
 induction n using Nat.strongRecOn with
 |_ n ih=>
  by_cases h:n<10
  ·have e:(UInt8.ofNat (48+n)).toNat=48+n:=by simp;omega
   rw[cE h];unfold pQ;simp only[List.foldl_cons,List.foldl_nil,e];omega
  ·have e:(UInt8.ofNat (48+n%10)).toNat=48+n%10:=by simp;omega
   rw[eV (by omega),mp,ih _ (by omega),e];omega
theorem rU:∀(k n:Nat),n<10^(k+1)->(Lib.decDigits n).length<=k+1
 |0,n,h=>by rw[cE (by simpa using h)];simp
 |k+1,n,h=>by
  by_cases h10:n<10
  ·rw[cE h10];simp
  ·rw[eV (by omega),AT,BV];have:=rU k (n/10) (by rw[Nat.pow_succ]at h;omega);omega
theorem mY{m:Nat}(h:U64 m):1<=(cr m).size/\(cr m).size<=20:=by
 unfold U64 at h;have h1:(cr m).size=(Lib.decDigits m).length:=by unfold cr;simp[ByteArray.size]
 have h2:=rU 19 m (by omega);have h3:=qW m;rw[h1];exact⟨List.length_pos_iff.2 h3,h2⟩
def yd(s:ByteArray)(w:World)(e:Ending)(w':World):Prop:=
 ∃(n:Nat) (ok:Bool),e= .returned (.tuple #[.int .u64 n,.bool ok])/\U64 n/\(∀m:Nat,U64 m->s=cr m->ok=true/\n=m)/\(ok=true->s=cr n)/\Below w.heap.size w w'
theorem lK(s:ByteArray)(w:World)(hs:s.size<=1000000):Calls Tryz.prog 52 #[.string s] w (yd s w):=by
 by_cases h0:s.size=0
 ·have h1:((s.size:Int)==0)=true:=CE.2 (by omega);have HZ:=H_ h0;clear h0;go_enter Tryz.func52,Tryz.ntmps52;go_wp2_with fail;go_ret2;exact⟨0,false,rfl,by unfold U64;decide,λm hm e=>absurd (mY hm).1 (by rw[<-e,HZ.out];decide),(λh=>by cases h),AC _ _⟩
 ·have h1:((s.size:Int)==0)=false:=AD.2 (by omega);by_cases h20:20<s.size
  ·have h2:decide ((20:Int)<(s.size:Int))=true:=BJ (by omega);have HZ:=H_ h20;clear h0 h20;go_enter Tryz.func52,Tryz.ntmps52;go_wp2_with fail;go_ret2;exact⟨0,false,rfl,by unfold U64;decide,λm hm e=>absurd (mY hm).2 (by rw[<-e];have:=HZ.out;omega),(λh=>by cases h),AC _ _⟩
  ·have h2:decide ((20:Int)<(s.size:Int))=false:=Bg (by omega);clear h0;go_enter Tryz.func52,Tryz.ntmps52;go_wp2_with fail;go_loopw [4,5] (λn i wr=>∃k N:Nat,k<=s.size/\i= .int .i64 k/\n= .int .u64 N/\wr=w/\Hid (U64 N)/\Hid (∀m:Nat,U64 m->s=cr m->N=pQ (s.data.toList.take k)%18446744073709551616)) (λ_ i _=>s.size-(intOf i).toNat)
   case atStart=>exact⟨0,0,AM _,rfl,rfl,rfl,H_ (by unfold U64;decide),H_ λm _ _=>rfl⟩
   case round=>
    obtain⟨k,N,hk,rfl,rfl,rfl,HU,HV⟩:=hrel;by_cases hlt:k<s.size
    ·have hk0:0<=(k:Int):=by omega
     have hk1:(k:Int)<(s.size:Int):=by omega
     obtain⟨c,hc⟩:=nm_ ((s[k]'hlt));have HC:=H_ (show s.data.toList[k]?=some c from by rw[<-hc];exact AI hlt);by_cases hd:48<=c.toNat/\c.toNat<=57
     ·have d1:decide ((c.toNat:Int)<48)=false:=Bg (by omega);have d2:decide ((57:Int)<(c.toNat:Int))=false:=Bg (by omega);have hlt2:=HU.out;unfold U64 at hlt2;have hm1:IntKind.u64.wrap ((N:Int)*10)=((N*10%18446744073709551616:Nat):Int):=by rw[CX];omega
      have hm2:IntKind.u8.wrap ((c.toNat:Int)-48)=((c.toNat-48:Nat):Int):=by rw[IntKind.wrap_u8];omega
      have hm3:IntKind.u64.wrap (((c.toNat-48:Nat):Int))=((c.toNat-48:Nat):Int):=by rw[CX];omega
      have hm4:IntKind.u64.wrap (((N*10%18446744073709551616:Nat):Int)+((c.toNat-48:Nat):Int))=(((N*10+(c.toNat-48))%18446744073709551616:Nat):Int):=by rw[CX];omega
      go_wp2_with fail;go_roundw
      case rel=>
       refine⟨k+1,(N*10+(c.toNat-48))%18446744073709551616,by omega,by go_num,by congr 1,trivial,H_ (by unfold U64;omega),H_ λm hm e=>?_⟩;rw[BT,HC.out];show _=pQ (_++[c])%_;rw[mp,HV.out m hm e];omega
      case measure=>simp[intOf];omega
     ·have HD:=H_ (show∀m:Nat,U64 m->s=cr m->False from λm _ e=>hd (ec m c (by
       have:=AJ HC.out;rw[e]at this;exact this)))
      by_cases hd1:c.toNat<48
      ·have d1:decide ((c.toNat:Int)<48)=true:=BJ (by omega);clear hd;go_wp2_with fail;go_ret2;exact⟨0,false,rfl,by unfold U64;decide,λm hm e=>(HD.out m hm e).elim,(λh=>by cases h),AC _ _⟩
      ·have d1:decide ((c.toNat:Int)<48)=false:=Bg (by omega);have d2:decide ((57:Int)<(c.toNat:Int))=true:=BJ (by omega);clear hd;go_wp2_with fail;go_ret2;exact⟨0,false,rfl,by unfold U64;decide,λm hm e=>(HD.out m hm e).elim,(λh=>by cases h),AC _ _⟩
    ·obtain rfl:k=s.size:=by omega
     have hN:=HV.out;rw[AK (show s.data.toList.length<=s.size from AB _)]at hN;have HN:=H_ hN;have HK:=H_ (lM N wr HU.out);clear hN;go_wp2_with fail;refine HK.out.mono ?_;rintro e w1 ⟨rfl,b1⟩;have HB:=H_ b1;clear b1 HK;obtain⟨ok,hok⟩:=nm_ (((cr N).toList==s.toList));have HOK:=H_ hok
     cases ok<;>(
      clear HOK;have HOK:=H_ hok;go_wp2_with fail;go_ret2;refine⟨N,_,rfl,HU.out,λm hm e=>?_,λhk=>?_,HB.out⟩
      rotate_left
      ·first
       |exact absurd hk (by decide)
       |(have h4:=eq_of_beq HOK.out
         rw[Bf,Bf]at h4;exact(AN h4).symm)
      have h1:=HN.out m hm e;rw[e,show(cr m).data.toList=Lib.decDigits m from rfl,gr]at h1;have h2:N=m:=by unfold U64 at hm;omega
      refine⟨?_,h2⟩
      first
      |rfl
      |(have h3:=HOK.out
        rw[h2,<-e]at h3;exact absurd h3 (by simp)))
theorem pi(m:Nat):bM (m:Int)=cr m:=by
 unfold bM cr;rw[Lib.itoa_nonneg]
theorem pg(u:Nat)(h:1<=u):(bM (-(u:Int))).data.toList=45::(cr u).data.toList:=by
 show Lib.itoa _=45::Lib.decDigits u;exact Lib.itoa_neg u h
theorem nX(s:ByteArray):(s.extract 1 s.size).data.toList=s.data.toList.drop 1:=by
 rw[BE,BM,Bq];exact AK (by rw[BY];exact AB _)
def yc(s:ByteArray)(w:World)(e:Ending)(w':World):Prop:=
 ∃(z:Int) (ok:Bool),e= .returned (.tuple #[.int .i64 z,.bool ok])/\I64 z/\(∀x,dD x->s=bM x->ok=true/\z=x)/\Below w.heap.size w w'
theorem vP(n:Nat)(c:UInt8)(l:List UInt8)(h:Lib.decDigits n=c::l):c≠45:=by
 intro e;have:=ec n c (by rw[h];simp);rw[e]at this;simp at this
theorem mW{ok:Bool}(hn:∀m:Nat,m<=4611686018427387904->s=cr m->ok=true/\n=m)(hm:∀l,s.data.toList≠45::l):∀x,dD x->s=bM x->ok=true/\(n:Int)=x/\n<=4611686018427387904:=by
 intro x hx e;unfold dD at hx;by_cases h0:0<=x
 ·obtain⟨m,rfl⟩:=Bh h0;rw[pi]at e;obtain⟨h1,h2⟩:=hn m (by omega) e;exact⟨h1,by omega,by omega⟩
 ·obtain⟨u,rfl⟩:∃u:Nat,x= -(u:Int):=⟨x.natAbs,by omega⟩;exact absurd (by rw[e,pg u (by omega)]) (hm _)
theorem tm{S:ByteArray}{l:List UInt8}{ok:Bool}(hs:s.data.toList=45::S.data.toList)(hn:∀m:Nat,m<=4611686018427387904->S=cr m->ok=true/\n=m):∀x,dD x->s=bM x->ok=true/\ -(n:Int)=x/\n<=4611686018427387904/\n≠0:=by
 intro x hx e;unfold dD at hx;by_cases h0:0<=x
 ·obtain⟨m,rfl⟩:=Bh h0;rw[pi]at e;rw[e]at hs;exact absurd rfl (vP m 45 _ hs)
 ·obtain⟨u,rfl⟩:∃u:Nat,x= -(u:Int):=⟨x.natAbs,by omega⟩;rw[e,pg u (by omega)]at hs;simp only[List.cons.injEq,true_and]at hs;obtain⟨h1,h2⟩:=hn u (by omega) (AN hs).symm;exact⟨h1,by omega,by omega,by omega⟩
theorem tj(s:ByteArray)(w:World)(hs:s.size<=1000000):Calls Tryz.prog 94 #[.string s] w (yc s w):=by
 have D:=H_ (lK s w hs);by_cases hm:∃l,s.data.toList=45::l
 ·obtain⟨l,hl⟩:=hm
  have h1:1<=s.size:=by
   change 1<=s.data.toList.length;rw[hl];simp
  have hz:decide ((0:Int)<(s.size:Int))=true:=BJ (by omega);have hz1:(1:Int)<=(s.size:Int):=by omega
  have hz0:(0:Int)<(s.size:Int):=by omega
  have hc:(s[0]'(by omega))=45:=by
   have h2:s.data.toList[0]?=some 45:=by rw[hl];rfl
   exact(AH.1 h2).2
  have hc45:(((s[0]'(by omega)).toNat:Int)==45)=true:=by rw[hc];rfl
  have hS:s.data.toList=45::(s.extract 1 s.size).data.toList:=by
   rw[nX,hl];rfl
  have hSz:(s.extract 1 s.size).size<=1000000:=by rw[CM];omega
  have D2:=H_ (lK (s.extract 1 s.size) w hSz);have HS:=H_ hS;clear hl hc hS D;go_enter Tryz.func94,Tryz.ntmps94;go_wp2_with fail;refine D2.out.mono ?_;rintro e w1 ⟨n,ok,rfl,hu,hn0,_,b1⟩;have hn:=λ(m:Nat) (hm:m<=4611686018427387904)=>hn0 m (D9 hm (by decide));clear hn0;have HP:=H_ (tm (l:=l) HS.out hn);have HB:=H_ b1;have HU:=H_ hu;clear hn b1 hu D2;cases ok with
  |false=>
   go_wp2_with fail;go_ret2;exact⟨0,false,rfl,by unfold I64;omega,λx hx e=>absurd (HP.out x hx e).1 (by decide),HB.out⟩
  |true=>
   by_cases hbig:4611686018427387904<n
   ·have hb:decide ((4611686018427387904:Int)<(n:Int))=true:=BJ (by omega);go_wp2_with fail;go_ret2;exact⟨0,false,rfl,by unfold I64;omega,λx hx e=>absurd (HP.out x hx e).2.2.1 (by omega),HB.out⟩
   ·have hb:decide ((4611686018427387904:Int)<(n:Int))=false:=Bg (by omega);by_cases hn0:n=0
    ·subst hn0;go_wp2_with fail;go_ret2;exact⟨0,false,rfl,by unfold I64;omega,λx hx e=>absurd rfl (HP.out x hx e).2.2.2,HB.out⟩
    ·have hn1:((n:Int)==0)=false:=AD.2 (by omega);have hw1:IntKind.i64.wrap (n:Int)=n:=AY _ (by omega);have hw2:IntKind.i64.wrap (-(n:Int))= -(n:Int):=AY _ (by omega);go_wp2_with fail;go_ret2;exact⟨-(n:Int),true,rfl,by unfold I64;omega,λx hx e=>⟨rfl,(HP.out x hx e).2.1⟩,HB.out⟩
 ·have hm':∀l,s.data.toList≠45::l:=λl h=>hm ⟨l,h⟩;have HM:=H_ hm'
  have hcase:∃z0 m0:Bool,decide ((0:Int)<(s.size:Int))=z0/\(z0=true->∃h:0<s.size,(((s[0]'h).toNat:Int)==45)=false):=by
   refine⟨_,true,rfl,λh=>?_⟩;have h0:0<s.size:=by have:=Cz h;omega
   refine⟨h0,AD.2 λe=>?_⟩
   have hl:∃c l,s.data.toList=c::l:=by
    cases hx:s.data.toList with
    |nil=>
     change 0<s.data.toList.length at h0;rw[hx]at h0;simp at h0
    |cons c l=>exact⟨c,l,rfl⟩
   obtain⟨c,l,hl⟩:=hl
   have hc:(s[0]'h0)=c:=by
    have h2:s.data.toList[0]?=some c:=by rw[hl];rfl
    exact(AH.1 h2).2
   rw[hc]at e;have hc45:c=45:=CD.1 (by show c.toNat=45;omega);rw[hc45]at hl;exact hm' l hl
  obtain⟨z0,_,hz0,hz1⟩:=hcase;clear hm hm';cases z0 with
  |false=>
   clear hz1
   have hz2:¬(0<s.size):=λh=>by
    have:=of_decide_eq_false hz0;omega
   go_enter Tryz.func94,Tryz.ntmps94;go_wp2_with fail;refine D.out.mono ?_;rintro e w1 ⟨n,ok,rfl,hu,hn0,_,b1⟩;have hn:=λ(m:Nat) (hm:m<=4611686018427387904)=>hn0 m (D9 hm (by decide));clear hn0;have HP:=H_ (mW hn HM.out);have HB:=H_ b1;clear hn b1 D;cases ok with
   |false=>
    go_wp2_with fail;go_ret2;exact⟨0,false,rfl,by unfold I64;omega,λx hx e=>absurd (HP.out x hx e).1 (by decide),HB.out⟩
   |true=>
    by_cases hbig:4611686018427387904<n
    ·have hb:decide ((4611686018427387904:Int)<(n:Int))=true:=BJ (by omega);go_wp2_with fail;go_ret2;exact⟨0,false,rfl,by unfold I64;omega,λx hx e=>absurd (HP.out x hx e).2.2 (by omega),HB.out⟩
    ·have hb:decide ((4611686018427387904:Int)<(n:Int))=false:=Bg (by omega);have hw1:IntKind.i64.wrap (n:Int)=n:=AY _ (by omega);go_wp2_with fail;go_ret2;exact⟨n,true,rfl,by unfold I64;omega,λx hx e=>⟨rfl,(HP.out x hx e).2.1⟩,HB.out⟩
  |true=>
   obtain⟨h0,hc45⟩:=hz1 rfl;clear hz1;go_enter Tryz.func94,Tryz.ntmps94;go_wp2_with fail;refine D.out.mono ?_;rintro e w1 ⟨n,ok,rfl,hu,hn0,_,b1⟩;have hn:=λ(m:Nat) (hm:m<=4611686018427387904)=>hn0 m (D9 hm (by decide));clear hn0;have HP:=H_ (mW hn HM.out);have HB:=H_ b1;clear hn b1 D;cases ok with
   |false=>
    go_wp2_with fail;go_ret2;exact⟨0,false,rfl,by unfold I64;omega,λx hx e=>absurd (HP.out x hx e).1 (by decide),HB.out⟩
   |true=>
    by_cases hbig:4611686018427387904<n
    ·have hb:decide ((4611686018427387904:Int)<(n:Int))=true:=BJ (by omega);go_wp2_with fail;go_ret2;exact⟨0,false,rfl,by unfold I64;omega,λx hx e=>absurd (HP.out x hx e).2.2 (by omega),HB.out⟩
    ·have hb:decide ((4611686018427387904:Int)<(n:Int))=false:=Bg (by omega);have hw1:IntKind.i64.wrap (n:Int)=n:=AY _ (by omega);go_wp2_with fail;go_ret2;exact⟨n,true,rfl,by unfold I64;omega,λx hx e=>⟨rfl,(HP.out x hx e).2.1⟩,HB.out⟩
end
end Go.Proofs.YtjpbckbpeblibaaGreatDoor
