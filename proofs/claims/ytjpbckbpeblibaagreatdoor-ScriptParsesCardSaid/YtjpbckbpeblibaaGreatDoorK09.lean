/- part of a proof -/
import Derived.Test.YtjpbckbpeblibaaGreatDoorK08
namespace Go.Proofs.YtjpbckbpeblibaaGreatDoor
set_option linter.unusedVariables false
set_option linter.unusedSimpArgs false
set_option maxRecDepth 100000
set_option maxHeartbeats 64000000
section
open Go.RowKit
variable{A:Option Addr}{G Z:Nat->Prop}{T:List Tk}{W w w2:World}{a d e v v0 v1 v2 v3 v4:Value}{base c g i n o p:Nat}{ops:List Nat}{x:Ex}{α:Type}
theorem Bz:type_of% @Option.getD_some:=@Option.getD_some
theorem uC{c2:Nat}{Q:Ending->World->Prop}(h:PS w p A c T i)(ho:OpsAt w g ops)
 (hn:opT T ops i=none->∀w',PS w' p A c T i->Bx w.heap.size p w w'->Q (.returned (.tuple #[.int .i64 0,.bool false])) w')
 (hy:∀o:Nat,opT T ops i=some o->∀w',PS w' p A c T (i+1)->Bx w.heap.size p w w'->Q (.returned (.tuple #[.int .i64 o,.bool true])) w'):
 Calls Tryz.prog 306 #[.pointer (some ⟨p,0,none⟩),.slice (some ⟨g,0,none⟩) ops.length c2] w Q:=by
 cases hr:opT T ops i with
 |none=>exact(wU p i c g c2 A T ops w h ho hr).mono λe w' ⟨h1,h2⟩=>h1▸hn hr w' (h.below h2) (Bx.of h2)
 |some o=>exact(wT p i c g c2 o A T ops w h ho hr).mono λe w' ⟨h1,h2,h3⟩=>h1▸hy o hr w' h2 h3
def two(g e:Nat):Nat->Prop:=λb=>b=g\/b=e
theorem ExV.st:fZ g (λv W=>ExV W (NG g Z W) x v):=λv W W' hn h=>h.aA λb hb=>⟨hb.mono hn.size,hn.block b hb.1 hb.2.1⟩
theorem kO{f:Nat->R Ex}{ga c2:Nat}(hE:∀(ar:Array Value) (w:World),(callFunc n ar).run Tryz.prog w= .ok (.enter n ar) w)(HF:∀j,i<=j->RdAt rvE n T f j)(hup:Up f)(p c:Nat)(A:Option Addr)(w:World)(h:PS w p A c T i)
 (ho:OpsAt w ga ops) (hga:ga≠p):
 Calls Tryz.prog 300 #[.pointer (some ⟨p,0,none⟩),.func (.func n) #[.pointer (some ⟨p,0,none⟩)] #[],.slice (some ⟨ga,0,none⟩) ops.length c2] w (Out rvE p A c T w (dB T f ops i)):=by
 have hp:=h.aG.lt;obtain⟨w0,hw0,q0,b0,P0⟩:=m9 h;have Q0:=H_ q0;have B0:=H_ b0;have HP0:=H_ P0;have HF':=H_ HF;have HU:=H_ hup;have HO:=H_ ho;clear h HF hup q0 b0 P0 ho;go_enter Tryz.func300,Tryz.ntmps300;go_upto_region 1 with(fail);have hsz:=B0.out.size;have hg0:=Q0.out.lt;obtain⟨g,hgz⟩:=nm_ (w.heap.size);rw[hgz]at Q0 hg0⊢;clear hw0;go_wp2_with fail;refine Out.use (HF'.out i (AB _) p c A w0 HP0.out) (λj w1 hr b1=>?_) (λx j v w1 hr hv P1 b1=>?_)
 ·exact⟨rfl,Out.bad (by unfold dB;rw[hr]) (B0.out.aB b1)⟩
 ·obtain⟨-,B1,Q1,hg1⟩:=fr1 B0 Q0 b1;have HP1:=H_ P1;have hij:=HU.out _ _ _ hr;obtain⟨k0,op0,z0,nm0,at0,A0,n0,c0,rfl,hv'⟩:=ExV.inv hv;have HV:=H_ hv';have HR1:=H_ hr;clear hv hv' hr Q0 B0 HP0 P1 b1;go_wp2_with fail;obtain⟨e,hez⟩:=nm_ (w1.heap.size);rw[hez];obtain⟨w2,hw2⟩:=nm_ (w1.alloc (.cells #[.int .i64 k0,.int .i64 op0,.int .i64 z0,.string nm0,.bool at0,.slice A0 n0 c0] 172));have b2:=bal hw2;have Q2:=H_ (Q1.out.below b2 hg1);have E2:=H_ (show Blk w2 e 172 _ from hw2▸hez▸Blk.new w1 172 #[.int .i64 k0,.int .i64 op0,.int .i64 z0,.string nm0,.bool at0,.slice A0 n0 c0]);have B2:=H_ (B1.out.aB (Bx.of b2));have HP2:=H_ (HP1.out.below b2);have V2:=H_ (ExC.aA (G':=NG g (two g e) w2) (λb hb=>⟨⟨by have:=hb.1;omega,AF hb.2 b2.size,λh=>by have:=hb.1;have:=hb.2;unfold two at h;omega⟩,b2.block b hb.2⟩) HV.out);rw[hw2];clear hw2 b2 Q1 B1 HP1 HV
  go_loopg [] (T.length-j) (λkk wr=>∃(x:Ex) (q:Nat) (k op z:Int) (nm:ByteArray) (at_:Bool) (A':Option Addr) (n c':Nat),kk=T.length-q/\Hid (Blk wr e 172 #[.int .i64 k,.int .i64 op,.int .i64 z,.string nm,.bool at_,.slice A' n c'])/\Hid (ExC wr (NG g (two g e) wr) x [.int .i64 k,.int .i64 op,.int .i64 z,.string nm,.bool at_,.slice A' n c'])/\
   Hid (Blk wr g 172 #[.int .i64 0,.int .i64 0,.int .i64 0,.string ⟨#[]⟩,.bool false,.slice none 0 0])/\Hid (PS wr p A c T q)/\Hid (Bx g p w wr)/\i<q/\Hid (∃m,T.length+1<=m+q/\dB T f ops i=cp T f ops m x q))
  case atStart=>exact⟨x,j,k0,op0,z0,nm0,at0,A0,n0,c0,rfl,E2,V2,Q2,HP2,hgz▸B2,hij,H_ ⟨T.length+1,by omega,show dB T f ops i=cp T f ops (T.length+1) x j by unfold dB;rw[HR1.out]⟩⟩
  case round=>
   clear E2 V2 Q2 HP2 B2 HR1;obtain⟨x,q,k,op,z,nm,at_,A',n',c',rfl,HE,HV,HG,HPr,HBr,hiq,HEr⟩:=hrel;obtain⟨m,hm,heq⟩:=HEr.out;have hqT:=HPr.out.lt;obtain⟨m,rfl⟩:∃m',m=m'+1:=⟨m-1,by omega⟩;have HE1:=H_ heq;have her:=HE.out.lt;have hgr:=HG.out.lt;clear HEr heq;go_wp2_with fail;refine uC HPr.out (HO.out.bx (hgz▸HBr.out) hga) (λht w5 P5 b5=>?_) (λo ht w5 P5 b5=>?_)
   ·have HT5:=H_ ht;have HE5:=hbx HE b5 her;have HG5:=hbx HG b5 hgr;have HV5:=H_ (ExC.aA (G':=NG g (two g e) w5) (λb hb=>⟨hb.mono b5.size,b5.block b hb.2.1 (by have:=hb.1;omega)⟩) HV.out);have HB5:=H_ (HBr.out.trans (b5.mono (by have:=HBr.out.size;omega)));have HP5:=H_ P5;have her5:=HE5.out.lt;have hgr5:=HG5.out.lt;obtain⟨c0',c1',c2',c3',c4',c5'⟩:=HE5.out.aC.1;obtain⟨⟨d0,d1,d2,d3,d4,d5⟩,e0,e1,e2,e3,e4,e5⟩:=HG5.out.aC;clear ht P5 b5 HE HG HV HBr HPr;go_wp2_with fail;obtain⟨N1,N2⟩:=eB HG5.out (.int .i64 k) (.int .i64 op) (.int .i64 z) (.string nm) (.bool at_) (.slice A' n' c');exact eG rfl (by simp) N1 (Out.ok (by rw[HE1.out];unfold cp;rw[HT5.out]) ⟨_,rfl,HV5.out.aA (λb hb=>⟨⟨by have:=hb.1;omega,AF hb.2.1 N2.size⟩,N2.block b hb.2.1 (λh=>hb.2.2 (.inl h))⟩)⟩ (HP5.out.put N2 (by omega)) (hgz▸HB5.out.put N2 (AB _) (by omega)))
   ·have HT5:=H_ ht;have HE5:=hbx HE b5 her;have HG5:=hbx HG b5 hgr;have HV5:=H_ (ExC.aA (G':=NG g (two g e) w5) (λb hb=>⟨hb.mono b5.size,b5.block b hb.2.1 (by have:=hb.1;omega)⟩) HV.out);have HB5:=H_ (HBr.out.trans (b5.mono (by have:=HBr.out.size;omega)));have HP5:=H_ P5;have her5:=HE5.out.lt;have hgr5:=HG5.out.lt;clear ht P5 b5 HE HG HV HBr HPr;have hs5:=HB5.out.size;go_upto_region 5 with fail;obtain⟨y,j6,hsj⟩:=R.known (f (q+1)) (lJ 0)
    refine aW 3 5 (λxs=>{tmps:= #[.pointer (some ⟨p,0,none⟩),.func (.func n) #[.pointer (some ⟨p,0,none⟩)] #[],.slice (some ⟨ga,0,none⟩) ops.length c2,undef,undef,undef,.pointer (some ⟨g,0,none⟩),.pointer (some ⟨e,0,none⟩),.int .i64 o,.bool true,.func (.func n) #[.pointer (some ⟨p,0,none⟩)] #[],.agg #[.int .i64 k0,.int .i64 op0,.int .i64 z0,.string nm0,.bool at0,.slice A0 n0 c0],.tuple #[.int .i64 o,.bool true],.pointer (some ⟨p,0,none⟩),.slice (some ⟨ga,0,none⟩) ops.length c2,.tuple #[.int .i64 o,.bool true],.int .i64 o,.bool true,.bool true,.bool false,u20,(xs 0).getD u21,(xs 1).getD u22,(xs 2).getD u23,(xs 3).getD u24,(xs 4).getD u25],defers:=[]})
     (RJ w5 p A c T (q+1) j6 (f (q+1)= .ok y j6)) g
     (λi=>match i with
       |0=>fEq (.int .i64 o)
       |1=>fEq (.agg #[.int .i64 k,.int .i64 op,.int .i64 z,.string nm,.bool at_,.slice A' n' c'])
       |2=>fEq (.func (.func n) #[.pointer (some ⟨p,0,none⟩)] #[])
       |3=>λv W=>ExV W (NG g (two g e) W) y v
       |_=>λv W=>ExV W (NG g (two g e) W) (gK o x y) v)
     (by
       intro k
       match k with
       |0=>exact fEq.st _ _
       |1=>exact fEq.st _ _
       |2=>exact fEq.st _ _
       |3=>exact ExV.st
       |_+4=>exact ExV.st)
     (by kernel_rfl) (by kernel_rfl) rfl (by kernel_rfl) (by decide) rfl ⟨(Bx.refl _ _ _).drew,HP5.out.drew⟩ ?_ ?_ ?_
    ·intro i' hi hic b xs W hJ hd;obtain rfl|rfl|rfl|rfl:i'=0\/i'=1\/i'=2\/i'=4:=by omega
     ·refine AE rfl λK hK=>?_;go_simp;exact hK _ _ ⟨_,rfl,hJ,rfl,Nw.refl _ _⟩
     ·obtain⟨⟨d0,d1,d2,d3,d4,d5⟩,_⟩:=(HE5.out.bx hJ.1 her5 (by omega)).aC;refine AE rfl λK hK=>?_;go_simp;exact hK _ _ ⟨_,rfl,hJ,rfl,Nw.refl _ _⟩
     ·refine AE rfl λK hK=>?_;go_simp;exact hK _ _ ⟨_,rfl,hJ,rfl,Nw.refl _ _⟩
     ·obtain⟨_,h0,rfl⟩:=hd 0;obtain⟨_,h1,rfl⟩:=hd 1;obtain⟨vy,h3,hy⟩:=hd 3
      have HX:=H_ (show ExV W (NG g (two g e) W) x (.agg #[.int .i64 k,.int .i64 op,.int .i64 z,.string nm,.bool at_,.slice A' n' c'])from
       ⟨_,rfl,ExC.aA (λb hb=>⟨hb.mono hJ.1.size,hJ.1.block b hb.2.1 (by have:=hb.1;omega)⟩) HV5.out⟩)
      have HY:=H_ (show ExV W (NG g (two g e) W) y vy from hy);have HJ:=H_ hJ;have hsW:=hJ.1.size;clear hJ hy hd;refine AE rfl λK hK=>?_;go_simp;refine(nc o x y _ vy W _ HX.out HY.out (λb hb=>hb.2.1)).mono ?_;rintro e' w6 ⟨⟨v,rfl,hv⟩,b6⟩
      exact hK _ _ ⟨v,by simp only[au,h0,h1,h3];rfl,HJ.out.below b6,hv.aA (λb hb=>⟨by
       have:=b6.size;rcases hb with hb|hb
       ·exact hb.mono b6.size
       ·exact⟨by have:=hb.1;omega,hb.2,λh=>by have:=hb.1;unfold two at h;omega⟩,rfl⟩),Nw.below b6⟩
    ·intro xs W hJ hd;obtain⟨_,h2,rfl⟩:=hd 2;have hsW:=hJ.1.size;refine AE rfl λK hK=>?_;go_simp;refine Out.use (HF'.out (q+1) (by omega) p c A W hJ.2) (λj w6 hr b6=>?_) (λx' j v w6 hr hv P6 b6=>?_)
     ·exact⟨rfl,Out.bad (by rw[HE1.out];unfold cp;rw[HT5.out];simp only;rw[hr]) (hgz▸(HB5.out.trans ((hJ.1.aB b6).mono (by omega))))⟩
     ·obtain⟨rfl,rfl⟩:=hsj _ _ hr;exact hK _ _ ⟨v,by simp only[au,h2];rfl,⟨hJ.1.aB b6,P6,hr⟩,rvC.aA (λb hb=>⟨⟨by have:=hb.1;omega,hb.2,λh=>by have:=hb.1;unfold two at h;omega⟩,rfl⟩) hv,Nw.of b6 (by omega)⟩
    ·intro xs W hJ hd;obtain⟨_,h0,rfl⟩:=hd 0;obtain⟨_,h1,rfl⟩:=hd 1;obtain⟨_,h2,rfl⟩:=hd 2;obtain⟨v3,h3,_⟩:=hd 3;obtain⟨v4,h4,hv4⟩:=hd 4;obtain⟨k',op',z',nm',at',A4,n4,c4,rfl,hv4'⟩:=ExV.inv hv4;have HEW:=H_ (HE5.out.bx hJ.1 her5 (by omega));have HGW:=H_ (HG5.out.bx hJ.1 hgr5 (by omega));have HJ:=H_ hJ;have HV4:=H_ hv4';obtain⟨⟨d0,d1,d2,d3,d4,d5⟩,e0,e1,e2,e3,e4,e5⟩:=HEW.out.aC;have hW5:=hJ.1.size;clear hJ hv4 hv4' hd;refine AE rfl λK hK=>?_;go_simp;refine hK _ _ ?_;obtain⟨N1,N2⟩:=eB HEW.out (.int .i64 k') (.int .i64 op') (.int .i64 z') (.string nm') (.bool at') (.slice A4 n4 c4);generalize((((((W.setCell ⟨e,0,none⟩ (.int .i64 k')).setCell ⟨e,1,none⟩ (.int .i64 op')).setCell ⟨e,2,none⟩ (.int .i64 z')).setCell ⟨e,3,none⟩ (.string nm')).setCell ⟨e,4,none⟩ (.bool at')).setCell ⟨e,5,none⟩ (.slice A4 n4 c4))=W2 at N1 N2⊢;have hj:=HU.out _ _ _ HJ.out.2.2
     have V7:=H_ (show ExC W2 (NG g (two g e) W2) (gK o x y) [.int .i64 k',.int .i64 op',.int .i64 z',.string nm',.bool at',.slice A4 n4 c4]from
      ExC.aA (λb hb=>⟨hb.mono N2.size,N2.block b hb.2.1 (λh=>hb.2.2 (.inr h))⟩) HV4.out)
     have HE7:=H_ N1;have HG7:=hbx HGW N2;have HP7:=H_ (HJ.out.2.1.put N2 (by omega));have HB7:=H_ ((HB5.out.trans (HJ.out.1.mono (by omega))).put N2 (by omega) (by omega));have HQ7:=H_ (show dB T f ops i=cp T f ops m (gK o x y) j6 by rw[HE1.out];conv=>lhs;unfold cp;rw[HT5.out];simp only;rw[HJ.out.2.2]);have hj6:=HP7.out.lt;clear N1 N2 HEW HGW HJ HV4 HE5 HG5 HB5 HP5 HV5;go_wp2_with fail;go_roundg (T.length-j6)
     case rel=>exact⟨gK o x y,j6,k',op',z',nm',at',A4,n4,c4,rfl,HE7,V7,HG7,HP7,HB7,by omega,H_ ⟨m,by omega,HQ7.out⟩⟩
     case measure=>omega
theorem fC(w:World)(ops:List Nat)(cs:Array Value)(t:TypeId)(hc:cs=(ops.map λo=>Value.string (bP o)).toArray)(hl:ops.length<=13)(h:∀o∈ops,o<13):OpsAt (w.alloc (.cells cs t)) w.heap.size ops:=by
 subst hc;refine⟨by simp,hl,λj o hj=>⟨h o (AJ hj),?_⟩⟩;rw[(Blk.new w t _).cell j];simp[hj]
section
variable{T:List Tk}{rec:Nat->Nat->R Ex}{i:Nat}
theorem xM(HF:∀j,i<=j->RdAt rvE 301 T (pJ T rec) j)(hup:Up (pJ T rec)):RdAt rvE 293 T (pB T rec) i:=by
 intro p c A w h;have hp:=h.aG.lt;obtain⟨w0,hw0,q0,b0,P0⟩:=m9 h;have Q0:=H_ q0;have B0:=H_ b0;have HP0:=H_ P0;have HL:=H_ (λ(W:World) (ga c2:Nat)=>kO (T:=T) (i:=i) (ga:=ga) (c2:=c2) (ops:=oOr) (λ_ _=>by kernel_rfl) HF hup p c A W);clear h HF hup q0 b0 P0;go_enter Tryz.func293,Tryz.ntmps293;go_upto_region 1 with(fail);have hsz:=B0.out.size;have hg0:=Q0.out.lt;obtain⟨g,hgz⟩:=nm_ (w.heap.size);rw[hgz]at Q0 hg0⊢;clear hw0;go_wp2_with fail;refine Out.use (HL.out _ _ _ (HP0.out.alloc _) (fC w0 oOr _ _ rfl (by decide) (by decide)) (by omega)) (λj w1 hr b1=>?_) (λx j v w1 hr hv P1 b1=>?_)
 ·exact⟨rfl,Out.bad hr ((B0.out.new _ (AB _)).aB b1)⟩
 ·have Q1:=H_ ((Q0.out.alloc _).bx b1 (by simp;omega) (by omega));have B1:=H_ ((B0.out.new _ (AB _)).aB b1);have HP1:=H_ P1;have hg1:=Q1.out.lt;obtain⟨k,op,z,nm,at_,A',n,c',rfl,hv'⟩:=ExV.inv hv;have HV:=H_ hv';have HR1:=H_ hr;obtain⟨⟨c0,c1,c2,c3,c4,c5⟩,f0,f1,f2,f3,f4,f5⟩:=Q1.out.aC;clear hv hv' hr Q0 B0 HP0 P1 b1;go_wp2_with fail;obtain⟨N1,N2⟩:=eB Q1.out (.int .i64 k) (.int .i64 op) (.int .i64 z) (.string nm) (.bool at_) (.slice A' n c');exact eG rfl (by simp) N1 (Out.ok HR1.out ⟨_,rfl,HV.out.aA (Fr.aA N2 (by simp;omega) (by simp;omega))⟩ (HP1.out.put N2 (by omega)) (B1.out.put N2 (by omega) (AB _)))
theorem zJ(HF:∀j,i<=j->RdAt rvE 308 T (gk T rec) j)(hup:Up (gk T rec)):RdAt rvE 301 T (pJ T rec) i:=by
 intro p c A w h;have hp:=h.aG.lt;obtain⟨w0,hw0,q0,b0,P0⟩:=m9 h;have Q0:=H_ q0;have B0:=H_ b0;have HP0:=H_ P0;have HL:=H_ (λ(W:World) (ga c2:Nat)=>kO (T:=T) (i:=i) (ga:=ga) (c2:=c2) (ops:=oW) (λ_ _=>by kernel_rfl) HF hup p c A W);clear h HF hup q0 b0 P0;go_enter Tryz.func301,Tryz.ntmps301;go_upto_region 1 with(fail);have hsz:=B0.out.size;have hg0:=Q0.out.lt;obtain⟨g,hgz⟩:=nm_ (w.heap.size);rw[hgz]at Q0 hg0⊢;clear hw0;go_wp2_with fail;refine Out.use (HL.out _ _ _ (HP0.out.alloc _) (fC w0 oW _ _ rfl (by decide) (by decide)) (by omega)) (λj w1 hr b1=>?_) (λx j v w1 hr hv P1 b1=>?_)
 ·exact⟨rfl,Out.bad hr ((B0.out.new _ (AB _)).aB b1)⟩
 ·have Q1:=H_ ((Q0.out.alloc _).bx b1 (by simp;omega) (by omega));have B1:=H_ ((B0.out.new _ (AB _)).aB b1);have HP1:=H_ P1;have hg1:=Q1.out.lt;obtain⟨k,op,z,nm,at_,A',n,c',rfl,hv'⟩:=ExV.inv hv;have HV:=H_ hv';have HR1:=H_ hr;obtain⟨⟨c0,c1,c2,c3,c4,c5⟩,f0,f1,f2,f3,f4,f5⟩:=Q1.out.aC;clear hv hv' hr Q0 B0 HP0 P1 b1;go_wp2_with fail;obtain⟨N1,N2⟩:=eB Q1.out (.int .i64 k) (.int .i64 op) (.int .i64 z) (.string nm) (.bool at_) (.slice A' n c');exact eG rfl (by simp) N1 (Out.ok HR1.out ⟨_,rfl,HV.out.aA (Fr.aA N2 (by simp;omega) (by simp;omega))⟩ (HP1.out.put N2 (by omega)) (B1.out.put N2 (by omega) (AB _)))
theorem yH(HF:∀j,i<=j->RdAt rvE 313 T (ej T rec) j)(hup:Up (ej T rec)):RdAt rvE 312 T (fp T rec) i:=by
 intro p c A w h;have hp:=h.aG.lt;obtain⟨w0,hw0,q0,b0,P0⟩:=m9 h;have Q0:=H_ q0;have B0:=H_ b0;have HP0:=H_ P0;have HL:=H_ (λ(W:World) (ga c2:Nat)=>kO (T:=T) (i:=i) (ga:=ga) (c2:=c2) (ops:=oT) (λ_ _=>by kernel_rfl) HF hup p c A W);clear h HF hup q0 b0 P0;go_enter Tryz.func312,Tryz.ntmps312;go_upto_region 1 with(fail);have hsz:=B0.out.size;have hg0:=Q0.out.lt;obtain⟨g,hgz⟩:=nm_ (w.heap.size);rw[hgz]at Q0 hg0⊢;clear hw0;go_wp2_with fail;refine Out.use (HL.out _ _ _ (HP0.out.alloc _) (fC w0 oT _ _ rfl (by decide) (by decide)) (by omega)) (λj w1 hr b1=>?_) (λx j v w1 hr hv P1 b1=>?_)
 ·exact⟨rfl,Out.bad hr ((B0.out.new _ (AB _)).aB b1)⟩
 ·have Q1:=H_ ((Q0.out.alloc _).bx b1 (by simp;omega) (by omega));have B1:=H_ ((B0.out.new _ (AB _)).aB b1);have HP1:=H_ P1;have hg1:=Q1.out.lt;obtain⟨k,op,z,nm,at_,A',n,c',rfl,hv'⟩:=ExV.inv hv;have HV:=H_ hv';have HR1:=H_ hr;obtain⟨⟨c0,c1,c2,c3,c4,c5⟩,f0,f1,f2,f3,f4,f5⟩:=Q1.out.aC;clear hv hv' hr Q0 B0 HP0 P1 b1;go_wp2_with fail;obtain⟨N1,N2⟩:=eB Q1.out (.int .i64 k) (.int .i64 op) (.int .i64 z) (.string nm) (.bool at_) (.slice A' n c');exact eG rfl (by simp) N1 (Out.ok HR1.out ⟨_,rfl,HV.out.aA (Fr.aA N2 (by simp;omega) (by simp;omega))⟩ (HP1.out.put N2 (by omega)) (B1.out.put N2 (by omega) (AB _)))
theorem ql(HF:∀j,i<=j->RdAt rvE 303 T (bS T rec) j)(hup:Up (bS T rec)):RdAt rvE 313 T (ej T rec) i:=by
 intro p c A w h;have hp:=h.aG.lt;obtain⟨w0,hw0,q0,b0,P0⟩:=m9 h;have Q0:=H_ q0;have B0:=H_ b0;have HP0:=H_ P0;have HL:=H_ (λ(W:World) (ga c2:Nat)=>kO (T:=T) (i:=i) (ga:=ga) (c2:=c2) (ops:=oU) (λ_ _=>by kernel_rfl) HF hup p c A W);clear h HF hup q0 b0 P0;go_enter Tryz.func313,Tryz.ntmps313;go_upto_region 1 with(fail);have hsz:=B0.out.size;have hg0:=Q0.out.lt;obtain⟨g,hgz⟩:=nm_ (w.heap.size);rw[hgz]at Q0 hg0⊢;clear hw0;go_wp2_with fail;refine Out.use (HL.out _ _ _ (HP0.out.alloc _) (fC w0 oU _ _ rfl (by decide) (by decide)) (by omega)) (λj w1 hr b1=>?_) (λx j v w1 hr hv P1 b1=>?_)
 ·exact⟨rfl,Out.bad hr ((B0.out.new _ (AB _)).aB b1)⟩
 ·have Q1:=H_ ((Q0.out.alloc _).bx b1 (by simp;omega) (by omega));have B1:=H_ ((B0.out.new _ (AB _)).aB b1);have HP1:=H_ P1;have hg1:=Q1.out.lt;obtain⟨k,op,z,nm,at_,A',n,c',rfl,hv'⟩:=ExV.inv hv;have HV:=H_ hv';have HR1:=H_ hr;obtain⟨⟨c0,c1,c2,c3,c4,c5⟩,f0,f1,f2,f3,f4,f5⟩:=Q1.out.aC;clear hv hv' hr Q0 B0 HP0 P1 b1;go_wp2_with fail;obtain⟨N1,N2⟩:=eB Q1.out (.int .i64 k) (.int .i64 op) (.int .i64 z) (.string nm) (.bool at_) (.slice A' n c');exact eG rfl (by simp) N1 (Out.ok HR1.out ⟨_,rfl,HV.out.aA (Fr.aA N2 (by simp;omega) (by simp;omega))⟩ (HP1.out.put N2 (by omega)) (B1.out.put N2 (by omega) (AB _)))
end
--hand
section
variable{T:List Tk}{rec:Nat->Nat->R Ex}{i:Nat}
theorem r8(HF:∀j,i<=j->RdAt rvE 312 T (fp T rec) j)(hup:Up (fp T rec)):RdAt rvE 311 T (bN T rec) i:=by
 intro p c A w h;have hp:=h.aG.lt;obtain⟨w0,hw0,q0,b0,P0⟩:=m9 h;have Q0:=H_ q0;have B0:=H_ b0;have HP0:=H_ P0;have HF':=H_ HF;have HU:=H_ hup;clear h HF hup q0 b0 P0;go_enter Tryz.func311,Tryz.ntmps311;go_upto_region 1 with(fail);have hsz:=B0.out.size;have hg0:=Q0.out.lt;obtain⟨g,hgz⟩:=nm_ (w.heap.size);rw[hgz]at Q0 hg0⊢;clear hw0;go_wp2_with fail;refine Out.use (HF'.out i (AB _) p c A w0 HP0.out) (λj w1 hr b1=>?_) (λx j v w1 hr hv P1 b1=>?_)
 ·exact⟨rfl,Out.bad (by unfold bN;rw[hr]) (B0.out.aB b1)⟩
 ·obtain⟨-,B1,Q1,hg1⟩:=fr1 B0 Q0 b1;have HP1:=H_ P1;have hij:=HU.out _ _ _ hr;obtain⟨k,op,z,nm,at_,A',n',c',rfl,hv'⟩:=ExV.inv hv;have HV:=H_ hv';have HR1:=H_ hr;clear hv hv' hr Q0 B0 HP0 P1 b1;go_upto_region 2 with fail;obtain⟨e,hez⟩:=nm_ (w1.heap.size);rw[hez];obtain⟨w2,hw2⟩:=nm_ (w1.alloc (.cells #[.int .i64 k,.int .i64 op,.int .i64 z,.string nm,.bool at_,.slice A' n' c'] 172));have b2:=bal hw2;have Q2:=H_ (Q1.out.below b2 hg1);have E2:=H_ (show Blk w2 e 172 _ from hw2▸hez▸Blk.new w1 172 #[.int .i64 k,.int .i64 op,.int .i64 z,.string nm,.bool at_,.slice A' n' c']);have B2:=H_ (B1.out.aB (Bx.of b2));have HP2:=H_ (HP1.out.below b2);have V2:=H_ (ExC.aA (G':=NG g (two g e) w2) (λb hb=>⟨⟨by have:=hb.1;omega,AF hb.2 b2.size,λh=>by have:=hb.1;have:=hb.2;unfold two at h;omega⟩,b2.block b hb.2⟩) HV.out);rw[hw2];clear hw2 b2 Q1 B1 HP1 HV;go_wp2_with fail;refine uC (ops:=oV) (c2:=6) (HP2.out.alloc _) (fC w2 oV _ _ rfl (by decide) (by decide)) (λht w5 P5 b5=>?_) (λo ht w5 P5 b5=>?_)
  ·have HT5:=H_ ht;have b6:=((Bx.refl w2.heap.size p w2).new _ (AB _)).aB b5;have HE5:=H_ (E2.out.bx b6 E2.out.lt (by omega));have HG5:=H_ (Q2.out.bx b6 Q2.out.lt (by omega));have HV5:=H_ (ExC.aA (G':=NG g (two g e) w5) (λb hb=>⟨hb.mono b6.size,b6.block b hb.2.1 (by have:=hb.1;omega)⟩) V2.out);have HB5:=hth B2 b6;have HP5:=H_ P5;have her5:=HE5.out.lt;have hgr5:=HG5.out.lt;obtain⟨c0',c1',c2',c3',c4',c5'⟩:=HE5.out.aC.1;obtain⟨⟨d0,d1,d2,d3,d4,d5⟩,e0,e1,e2,e3,e4,e5⟩:=HG5.out.aC;clear ht P5 b5 b6 E2 Q2 V2 B2 HP2;go_wp2_with fail;obtain⟨N1,N2⟩:=eB HG5.out (.int .i64 k) (.int .i64 op) (.int .i64 z) (.string nm) (.bool at_) (.slice A' n' c');exact eG rfl (by simp) N1 (Out.ok (by unfold bN;rw[HR1.out];simp only;rw[HT5.out]) ⟨_,rfl,HV5.out.aA (λb hb=>⟨⟨by have:=hb.1;omega,AF hb.2.1 N2.size⟩,N2.block b hb.2.1 (λh=>hb.2.2 (.inl h))⟩)⟩ (HP5.out.put N2 (by omega)) (HB5.out.put N2 (by omega) (by omega)))
  ·have HT5:=H_ ht;have b6:=((Bx.refl w2.heap.size p w2).new _ (AB _)).aB b5;have HE5:=H_ (E2.out.bx b6 E2.out.lt (by omega));have HG5:=H_ (Q2.out.bx b6 Q2.out.lt (by omega));have HV5:=H_ (ExC.aA (G':=NG g (two g e) w5) (λb hb=>⟨hb.mono b6.size,b6.block b hb.2.1 (by have:=hb.1;omega)⟩) V2.out);have HB5:=hth B2 b6;have HP5:=H_ P5;have her5:=HE5.out.lt;have hgr5:=HG5.out.lt;clear ht P5 b5 b6 E2 Q2 V2 B2 HP2;have hs5:=HB5.out.size;go_upto_region 4 with fail;obtain⟨y,j6,hsj⟩:=R.known (fp T rec (j+1)) (lJ 0)
   refine aW 3 5 (λxs=>{tmps:= #[.pointer (some ⟨p,0,none⟩),undef,.pointer (some ⟨g,0,none⟩),.pointer (some ⟨e,0,none⟩),.int .i64 o,.bool true,.pointer (some ⟨p,0,none⟩),.agg #[.int .i64 k,.int .i64 op,.int .i64 z,.string nm,.bool at_,.slice A' n' c'],.tuple #[.int .i64 o,.bool true],.pointer (some ⟨p,0,none⟩),.slice (some ⟨w2.heap.size,0,none⟩) 6 6,.tuple #[.int .i64 o,.bool true],.int .i64 o,.bool true,.bool true,(xs 0).getD undef,(xs 1).getD undef,(xs 2).getD undef,(xs 3).getD undef,(xs 4).getD undef,undef],defers:=[]})
    (RJ w5 p A c T (j+1) j6 (fp T rec (j+1)= .ok y j6)) g
    (λi=>match i with
      |0=>fEq (.int .i64 o)
      |1=>fEq (.agg #[.int .i64 k,.int .i64 op,.int .i64 z,.string nm,.bool at_,.slice A' n' c'])
      |2=>fEq (.pointer (some ⟨p,0,none⟩))
      |3=>λv W=>ExV W (NG g (two g e) W) y v
      |_=>λv W=>ExV W (NG g (two g e) W) (gK o x y) v)
    (by
      intro k
      match k with
      |0=>exact fEq.st _ _
      |1=>exact fEq.st _ _
      |2=>exact fEq.st _ _
      |3=>exact ExV.st
      |_+4=>exact ExV.st)
    (by kernel_rfl) (by kernel_rfl) rfl (by kernel_rfl) (by decide) rfl ⟨(Bx.refl _ _ _).drew,HP5.out.drew⟩ ?_ ?_ ?_
   ·intro i' hi hic b xs W hJ hd;obtain rfl|rfl|rfl|rfl:i'=0\/i'=1\/i'=2\/i'=4:=by omega
    ·refine AE rfl λK hK=>?_;go_simp;exact hK _ _ ⟨_,rfl,hJ,rfl,Nw.refl _ _⟩
    ·obtain⟨⟨d0,d1,d2,d3,d4,d5⟩,_⟩:=(HE5.out.bx hJ.1 her5 (by omega)).aC;refine AE rfl λK hK=>?_;go_simp;exact hK _ _ ⟨_,rfl,hJ,rfl,Nw.refl _ _⟩
    ·refine AE rfl λK hK=>?_;go_simp;exact hK _ _ ⟨_,rfl,hJ,rfl,Nw.refl _ _⟩
    ·obtain⟨_,h0,rfl⟩:=hd 0;obtain⟨_,h1,rfl⟩:=hd 1;obtain⟨vy,h3,hy⟩:=hd 3
     have HX:=H_ (show ExV W (NG g (two g e) W) x (.agg #[.int .i64 k,.int .i64 op,.int .i64 z,.string nm,.bool at_,.slice A' n' c'])from
      ⟨_,rfl,ExC.aA (λb hb=>⟨hb.mono hJ.1.size,hJ.1.block b hb.2.1 (by have:=hb.1;omega)⟩) HV5.out⟩)
     have HY:=H_ (show ExV W (NG g (two g e) W) y vy from hy);have HJ:=H_ hJ;have hsW:=hJ.1.size;clear hJ hy hd;refine AE rfl λK hK=>?_;go_simp;refine(nc o x y _ vy W _ HX.out HY.out (λb hb=>hb.2.1)).mono ?_;rintro e' w6 ⟨⟨v,rfl,hv⟩,b6⟩
     exact hK _ _ ⟨v,by simp only[au,h0,h1,h3];rfl,HJ.out.below b6,hv.aA (λb hb=>⟨by
      have:=b6.size;rcases hb with hb|hb
      ·exact hb.mono b6.size
      ·exact⟨by have:=hb.1;omega,hb.2,λh=>by have:=hb.1;unfold two at h;omega⟩,rfl⟩),Nw.below b6⟩
   ·intro xs W hJ hd;obtain⟨_,h2,rfl⟩:=hd 2;have hsW:=hJ.1.size;refine AE rfl λK hK=>?_;go_simp;refine Out.use (HF'.out (j+1) (by omega) p c A W hJ.2) (λj7 w6 hr b6=>?_) (λx' j7 v w6 hr hv P6 b6=>?_)
    ·exact⟨rfl,Out.bad (by unfold bN;rw[HR1.out];simp only;rw[HT5.out];simp only;rw[hr]) (HB5.out.trans ((hJ.1.aB b6).mono (by omega)))⟩
    ·obtain⟨rfl,rfl⟩:=hsj _ _ hr;exact hK _ _ ⟨v,by simp only[au,h2];rfl,⟨hJ.1.aB b6,P6,hr⟩,rvC.aA (λb hb=>⟨⟨by have:=hb.1;omega,hb.2,λh=>by have:=hb.1;unfold two at h;omega⟩,rfl⟩) hv,Nw.of b6 (by omega)⟩
   ·intro xs W hJ hd;obtain⟨v4,h4,hv4⟩:=hd 4;obtain⟨k',op',z',nm',at',A4,n4,c4,rfl,hv4'⟩:=ExV.inv hv4;have HGW:=H_ (HG5.out.bx hJ.1 hgr5 (by omega));have HJ:=H_ hJ;have HV4:=H_ hv4';obtain⟨⟨d0,d1,d2,d3,d4,d5⟩,e0,e1,e2,e3,e4,e5⟩:=HGW.out.aC;have hW5:=hJ.1.size;clear hJ hv4 hv4' hd;refine AE rfl λK hK=>?_;go_simp;refine hK _ _ ?_;obtain⟨N1,N2⟩:=eB HGW.out (.int .i64 k') (.int .i64 op') (.int .i64 z') (.string nm') (.bool at') (.slice A4 n4 c4);go_wp2_with fail;exact eG rfl (by simp) N1 (Out.ok (by unfold bN;rw[HR1.out];simp only;rw[HT5.out];simp only;rw[HJ.out.2.2]) ⟨_,rfl,HV4.out.aA (λb hb=>⟨⟨by have:=hb.1;omega,AF hb.2.1 N2.size⟩,N2.block b hb.2.1 (λh=>hb.2.2 (.inl h))⟩)⟩ (HJ.out.2.1.put N2 (by omega)) ((HB5.out.trans (HJ.out.1.mono (by omega))).put N2 (by omega) (by omega)))
end
theorem Bx.aJ{B:Nat}(h:Bx B p w w2)(hg:B<=g\/g=p)(v:Value):Bx B p w (w2.setCell ⟨g,o,none⟩ v):=h.setCell (q:=⟨g,o,none⟩) hg v
theorem bx1{w':World}(e:w.setCell ⟨p,o,none⟩ v=w'):Bx w.heap.size p w w':=e▸(Bx.refl _ _ _).aJ (.inr rfl) _
theorem nZ{a b:Int}(h:¬a=b):(a==b)=false:=AD.2 h
theorem p7{f:Nat->R α}(i:Nat)(x:List α)(j:Nat)(hup:Up f)(h:bg T f i= .ok x j):i<j:=by
 have:=jb (sz:=λ_=>0) (λi x j h=>by have:=hup i x j h;simp;omega) i x j h;omega
theorem Vec.slice{K:Kd α}{E:Nat}{xs:List α}(h:Vec K E base Z w (.slice A n c) xs)(hb:xs.length<=BD):Sl K w (NG base Z w) xs A n:=by
 obtain⟨A',c',h1,h2⟩:=h.sl hb;simp only[Value.slice.injEq]at h1;obtain⟨rfl,rfl,rfl⟩:=h1;exact h2
theorem rI(w:World)(G:Nat->Prop)(k z:Int)(nm:ByteArray):ExC w G (.mk k 0 z nm false []) [.int .i64 k,.int .i64 0,.int .i64 z,.string nm,.bool false,.slice none 0 0]:=ExC.of k 0 z nm false 0 (Sl.nil _ _ _)
section
variable{T:List Tk}{rec:Nat->Nat->R Ex}{i:Nat}
theorem qy(HR:∀j,i<j->RdAt rvE 293 T (rec 0) j)(HU:∀j,i<j->RdAt rvE 303 T (rec 6) j)(hup:Up (rec 0)):RdAt rvE 296 T (ai T rec) i:=by
 intro p c A w h;have hp:=h.aG.lt;obtain⟨w0,hw0,q0,b0,P0⟩:=m9 h;have HWF:=H_ h.wf;have hiT:=h.lt;have hT:=h.wf.few;have Q0:=H_ q0;have B0:=H_ b0;have HP0:=H_ P0;have HR':=H_ HR;have HU':=H_ HU;have HUP:=H_ hup;clear h HR HU hup q0 b0 P0;go_enter Tryz.func296,Tryz.ntmps296;go_upto_region 1 with(fail);have hsz:=B0.out.size;have hg0:=Q0.out.lt;obtain⟨g,hgz⟩:=nm_ (w.heap.size);rw[hgz]at Q0 hg0⊢;clear hw0;go_wp2_with fail;refine(fP p i c A T w0 HP0.out).mono ?_;rintro e' w1 ⟨rfl,b1⟩;have P1:=HP0.out.below b1;replace b1:Bx w0.heap.size p w0 w1:=Bx.of b1;obtain⟨hs1,B1,Q1,hg1⟩:=fr1 B0 Q0 b1;have HP1:=H_ P1;clear Q0 B0 HP0 P1 b1;unfold tkV;obtain⟨⟨k,s,z,q⟩,htk⟩:∃x,tk T i=x:=⟨_,rfl⟩;rw[htk];simp only;have HTK:=H_ htk;clear htk;go_upto_region 2 with fail;obtain⟨e,hez⟩:=nm_ (w1.heap.size);rw[hez];obtain⟨w2,hw2⟩:=nm_ (w1.alloc (.cells #[.int .i64 k,.string s,.int .i64 z,.int .i64 q] 162));have E2:=H_ (show Blk w2 e 162 _ from hw2▸hez▸Blk.new w1 162 #[.int .i64 k,.string s,.int .i64 z,.int .i64 q]);have b2:Bx w1.heap.size p w1 w2:=bxn hw2;have P2:=HP1.out.al hw2;obtain⟨hs2,B2,Q2,hg2⟩:=fr1 B1 Q1 b2;have HP2:=H_ P2;clear Q1 B1 HP1 P2 b2;rw[hw2];clear hw2;have e0:=E2.out.k0;have e2:=E2.out.k2;by_cases h1:k=1
 ·subst h1;have HI:=H_ (HWF.out.next hiT (by rw[HTK.out];show(1:Int)≠0;decide));have p1:=HP2.out.aG.k1;have pf:=HP2.out.aG.frozen 1;have hpe:p≠e:=by omega
  have hep:e≠p:=by omega
  have hpg:p≠g:=by omega
  have hgp:g≠p:=by omega
  obtain⟨⟨c0,c1,c2,c3,c4,c5⟩,f0,f1,f2,f3,f4,f5⟩:=Q2.out.aC;go_wp2_with fail;have P3:=HP2.out.move HI.out;simp only[Ce,Ca]at P3;have Q3:Blk (w2.setCell ⟨p,1,none⟩ (.int .i64 (i+1))) g 172 _:=(AG _ _ _ _ (by show g≠p;omega)).trans Q2.out;have B3:=B2.out.aJ (o:=1) (.inr rfl) (.int .i64 (i+1));obtain⟨N1,N2⟩:=eB Q3 (.int .i64 0) (.int .i64 0) (.int .i64 z) (.string ⟨#[]⟩) (.bool false) (.slice none 0 0);exact eG rfl (by simp) N1 (Out.ok (by unfold ai;rw[HTK.out];rfl) ⟨_,rfl,rI _ _ 0 z ⟨#[]⟩⟩ (P3.put N2 (by omega)) (B3.put N2 (by omega) (AB _)))
 ·have h1':=nZ h1;by_cases h2:k=2
  ·subst h2;have hsp:ai T rec i= .ok (ib 3 s) (i+1):=by unfold ai;rw[HTK.out];rfl
   have hw:aj T 2 i= .ok s (i+1):=by unfold aj;rw[HTK.out];rfl
   have HSP:=H_ hsp;have HN:=H_ (λW=>wZ hw (p:=p) (c:=c) (A:=A) W);clear hsp hw;go_wp2_with fail;refine(HN.out _ HP2.out).mono ?_;rintro e' w3 ⟨rfl,P3,b3⟩;obtain⟨hs3,B3,Q3,hg3⟩:=fr1 B2 Q2 b3;have HP3:=H_ P3;clear Q2 B2 HP2 P3 b3;obtain⟨⟨c0,c1,c2,c3,c4,c5⟩,f0,f1,f2,f3,f4,f5⟩:=Q3.out.aC;go_wp2_with fail;obtain⟨N1,N2⟩:=eB Q3.out (.int .i64 3) (.int .i64 0) (.int .i64 0) (.string s) (.bool false) (.slice none 0 0);exact eG rfl (by simp) N1 (Out.ok HSP.out ⟨_,rfl,rI _ _ 3 0 s⟩ (HP3.out.put N2 (by omega)) (B3.out.put N2 (by omega) (AB _)))
  ·have h2':=nZ h2;have HK:=H_ (show(tk T i).1≠1/\(tk T i).1≠2 by rw[HTK.out];exact⟨h1,h2⟩);clear HTK;go_wp2_with fail;refine bd HP2.out nR (λht w3 P3 b3=>?_) (λht w3 P3 b3=>?_)
   ·obtain⟨hs3,B3,Q3,hg3⟩:=fr1 B2 Q2 b3;have HP3:=H_ P3;have HT:=H_ ht;clear Q2 B2 HP2 P3 b3 ht;obtain⟨⟨c0,c1,c2,c3,c4,c5⟩,f0,f1,f2,f3,f4,f5⟩:=Q3.out.aC;go_wp2_with fail;obtain⟨N1,N2⟩:=eB Q3.out (.int .i64 1) (.int .i64 0) (.int .i64 0) (.string ⟨#[]⟩) (.bool false) (.slice none 0 0);exact eG rfl (by simp) N1 (Out.ok (by unfold ai;rw[AL HK.out.1,AL HK.out.2];rw[AP HT.out];rfl) ⟨_,rfl,rI _ _ 1 0 ⟨#[]⟩⟩ (HP3.out.put N2 (by omega)) (B3.out.put N2 (by omega) (AB _)))
   ·obtain⟨hs3,B3,Q3,hg3⟩:=fr1 B2 Q2 b3;have HP3:=H_ P3;have HN2:=H_ ht;clear Q2 B2 HP2 P3 b3 ht;go_wp2_with fail;refine bd HP3.out km (λht w4 P4 b4=>?_) (λht w4 P4 b4=>?_)
    ·obtain⟨hs4,B4,Q4,hg4⟩:=fr1 B3 Q3 b4;have HP4:=H_ P4;have HT:=H_ ht;clear Q3 B3 HP3 P4 b4 ht;obtain⟨⟨c0,c1,c2,c3,c4,c5⟩,f0,f1,f2,f3,f4,f5⟩:=Q4.out.aC;go_wp2_with fail;obtain⟨N1,N2⟩:=eB Q4.out (.int .i64 2) (.int .i64 0) (.int .i64 0) (.string ⟨#[]⟩) (.bool false) (.slice none 0 0);exact eG rfl (by simp) N1 (Out.ok (by unfold ai;rw[AL HK.out.1,AL HK.out.2];rw[AL (show ¬isT T nR i=true from by rw[HN2.out];simp)];rw[AP HT.out];rfl) ⟨_,rfl,rI _ _ 2 0 ⟨#[]⟩⟩ (HP4.out.put N2 (by omega)) (B4.out.put N2 (by omega) (AB _)))
    ·obtain⟨hs4,B4,Q4,hg4⟩:=fr1 B3 Q3 b4;have HP4:=H_ P4;have HN3:=H_ ht;clear Q3 B3 HP3 P4 b4 ht;go_wp2_with fail;refine bd HP4.out eA (λht w5 P5 b5=>?_) (λht w5 P5 b5=>?_)
     ·obtain⟨hs5,B5,Q5,hg5⟩:=fr1 B4 Q4 b5;have HP5:=H_ P5;have HT:=H_ ht;clear Q4 B4 HP4 P5 b5 ht;go_wp2_with fail;refine Out.use (HR'.out (i+1) (by omega) p c A w5 HP5.out) (λj w6 hr b6=>?_) (λx j v w6 hr hv P6 b6=>?_)
      ·exact⟨rfl,Out.bad (by unfold ai;rw[AL HK.out.1,AL HK.out.2];rw[AL (show ¬isT T nR i=true from by rw[HN2.out];simp)];rw[AL (show ¬isT T km i=true from by rw[HN3.out];simp)];rw[AP HT.out];rw[hr]) (B5.out.aB b6)⟩
      ·obtain⟨k1,op1,z1,nm1,at1,A1,n1,c1,rfl,hv'⟩:=ExV.inv hv;have HV:=H_ hv';have HRR:=H_ hr;clear hv hv' hr;obtain⟨hs6,B6,Q6,hg6⟩:=fr1 B5 Q5 b6;have HP6:=H_ P6;clear Q5 B5 HP5 P6 b6;go_upto_region 13 with fail;obtain⟨f,hfz⟩:=nm_ (w6.heap.size);rw[hfz];obtain⟨w7,hw7⟩:=nm_ (w6.alloc (.cells #[.int .i64 k1,.int .i64 op1,.int .i64 z1,.string nm1,.bool at1,.slice A1 n1 c1] 172));have F7:=H_ (show Blk w7 f 172 _ from hw7▸hfz▸Blk.new w6 172 #[.int .i64 k1,.int .i64 op1,.int .i64 z1,.string nm1,.bool at1,.slice A1 n1 c1]);have b7:Bx w6.heap.size p w6 w7:=bxn hw7;have P7:=HP6.out.al hw7;have V7:=H_ (ExC.aA (G':=NG g (two g f) w7) (λb hb=>⟨⟨by have:=hb.1;omega,AF hb.2 b7.size,λh=>by have:=hb.1;have:=hb.2;unfold two at h;omega⟩,b7.block b hb.2 (by have:=hb.1;omega)⟩) HV.out);obtain⟨hs7,B7,Q7,hg7⟩:=fr1 B6 Q6 b7;have HP7:=H_ P7;clear Q6 B6 HP6 P7 b7;rw[hw7];clear hw7 HV;go_wp2_with fail;refine bR (s:=eg) (HP7.out.alloc _) ((Blk.new w7 _ _).cell 0) (λj8 w8 hr b8=>?_) (λj8 w8 hr P8 b8=>?_)
       ·exact⟨rfl,Out.bad (by unfold ai;rw[AL HK.out.1,AL HK.out.2];rw[AL (show ¬isT T nR i=true from by rw[HN2.out];simp)];rw[AL (show ¬isT T km i=true from by rw[HN3.out];simp)];rw[AP HT.out];rw[HRR.out];simp only;rw[show ap T eg j= .bad j8 from hr]) ((B7.out.new _ (AB _)).aB b8)⟩
       ·have HR8:=H_ hr;replace b8:=((Bx.refl w7.heap.size p w7).new _ (AB _)).aB b8;have F8:=H_ (F7.out.bx b8 F7.out.lt (by omega));have V8:=H_ (ExC.aA (G':=NG g (two g f) w8) (λb hb=>⟨hb.mono b8.size,b8.block b hb.2.1 (by have:=hb.1;omega)⟩) V7.out);clear hr F7 V7;obtain⟨hs8,B8,Q8,hg8⟩:=fr1 B7 Q7 b8;have HP8:=H_ P8;clear Q7 B7 HP7 P8 b8;obtain⟨x0,x1,x2,x3,x4,x5⟩:=F8.out.aC.1;obtain⟨⟨c0,c1',c2,c3,c4,c5⟩,f0,f1,f2,f3,f4,f5⟩:=Q8.out.aC;go_wp2_with fail;obtain⟨N1,N2⟩:=eB Q8.out (.int .i64 k1) (.int .i64 op1) (.int .i64 z1) (.string nm1) (.bool at1) (.slice A1 n1 c1);exact eG rfl (by simp) N1 (Out.ok (by unfold ai;rw[AL HK.out.1,AL HK.out.2];rw[AL (show ¬isT T nR i=true from by rw[HN2.out];simp)];rw[AL (show ¬isT T km i=true from by rw[HN3.out];simp)];rw[AP HT.out];rw[HRR.out];simp only;rw[HR8.out]) ⟨_,rfl,V8.out.aA (λb hb=>⟨⟨by have:=hb.1;omega,AF hb.2.1 N2.size⟩,N2.block b hb.2.1 (λh=>hb.2.2 (.inl h))⟩)⟩ (HP8.out.put N2 (by omega)) (B8.out.put N2 (by omega) (AB _)))
     ·obtain⟨hs5,B5,Q5,hg5⟩:=fr1 B4 Q4 b5;have HP5:=H_ P5;have HN4:=H_ ht;clear Q4 B4 HP4 P5 b5 ht;have HSP:=H_ (show ai T rec i=iZ T rec i by unfold ai;rw[AL HK.out.1,AL HK.out.2];rw[AL (show ¬isT T nR i=true from by rw[HN2.out];simp)];rw[AL (show ¬isT T km i=true from by rw[HN3.out];simp)];rw[AL (show ¬isT T eA i=true from by rw[HN4.out];simp)]);clear HN2 HN3 HN4 HK;go_wp2_with fail;refine bR (s:=qM) (HP5.out.alloc _) ((Blk.new w5 _ _).cell 0) (λj6 w6 hr b6=>?_) (λj6 w6 hr P6 b6=>?_)
      ·exact⟨rfl,Out.bad (by rw[HSP.out];unfold iZ;rw[show ap T qM i= .bad j6 from hr]) ((B5.out.new _ (AB _)).aB b6)⟩
      ·have H6:=H_ hr;have hij6:=(bV hr).2;replace b6:=((Bx.refl w5.heap.size p w5).new _ (AB _)).aB b6;clear hr;obtain⟨hs6,B6,Q6,hg6⟩:=fr1 B5 Q5 b6;have HP6:=H_ P6;clear Q5 B5 HP5 P6 b6;go_wp2_with fail;refine Out.use (ot HP6.out 3 (by decide)) (λj7 w7 hr b7=>?_) (λs7 j7 v w7 hr hv P7 b7=>?_)
       ·exact⟨rfl,Out.bad (by rw[HSP.out];unfold iZ;rw[H6.out];simp only;rw[hr]) (B6.out.aB b7)⟩
       ·obtain rfl:v= .string s7:=hv;have H7:=H_ hr;have hij7:=(dm hr).2.2;clear hr;obtain⟨hs7,B7,Q7,hg7⟩:=fr1 B6 Q6 b7;have HP7:=H_ P7;clear Q6 B6 HP6 P7 b7;go_upto_region 17 with fail;obtain⟨f,hfz⟩:=nm_ (w7.heap.size);rw[hfz];obtain⟨w8,hw8⟩:=nm_ (w7.alloc (.cells #[.int .i64 5,.int .i64 0,.int .i64 0,.string s7,.bool false,.slice none 0 0] 172));have F8:=H_ (show Blk w8 f 172 _ from hw8▸hfz▸Blk.new w7 172 #[.int .i64 5,.int .i64 0,.int .i64 0,.string s7,.bool false,.slice none 0 0]);have b8:Bx w7.heap.size p w7 w8:=bxn hw8;have P8:=HP7.out.al hw8;obtain⟨hs8,B8,Q8,hg8⟩:=fr1 B7 Q7 b8;have HP8:=H_ P8;clear Q7 B7 HP7 P8 b8;rw[hw8];clear hw8;have hf8:=F8.out.lt;have HLL:=H_ (rG (n:=293) (f:=rec 0) (λ_ _=>by kernel_rfl) (λj hj=>HR'.out j (by omega)) HUP.out p c A w8 HP8.out);go_wp2_with fail;refine Out.use HLL.out (λj9 w9 hr b9=>?_) (λxs j9 v w9 hr hv P9 b9=>?_)
        ·exact⟨rfl,Out.bad (by rw[HSP.out];unfold iZ;rw[H6.out];simp only;rw[H7.out];simp only;rw[hr]) (B8.out.aB b9)⟩
        ·obtain⟨⟨hvec,hxl⟩,_⟩:=hv;have hij9:=p7 _ _ _ HUP.out hr;obtain⟨A9,c9,rfl,hs9'⟩:=hvec.sl (by unfold BD;omega);have V9:=H_ hvec;have H9:=H_ hr;have F9:=hbx F8 b9 hf8;clear hr hvec hs9' F8 HLL;obtain⟨hs9,B9,Q9,hg9⟩:=fr1 B8 Q8 b9;have HP9:=H_ P9;clear Q8 B8 HP8 P9 b9;have hf9:=F9.out.lt;obtain⟨f0',f1',f2',f3',f4',f5'⟩:=F9.out.aC.2;have x5:=F9.out.k5;go_upto_region 18 with fail;obtain⟨w10,hw10⟩:=nm_ (w9.setCell ⟨f,5,none⟩ (.slice A9 xs.length c9));have bw:=bx1 hw10;have F10:=H_ (show Blk w10 f 172 #[.int .i64 5,.int .i64 0,.int .i64 0,.string s7,.bool false,.slice A9 xs.length c9]from hw10▸F9.out.set 5 _);have Q10:=hbx Q9 bw hg9;have HP10:=H_ (HP9.out.put bw (by omega));have B10:=H_ (B9.out.put bw (by omega) (AB _));have V10:=hvk V9 bw;have hs10:=bw.size;have hg10:=Q10.out.lt;have hf10:=F10.out.lt;rw[hw10];clear hw10 bw F9 Q9 HP9 B9 V9;go_wp2_with fail;refine bd HP10.out kAt (λht w11 P11 b11=>?_) (λht w11 P11 b11=>?_)
         ·have F11:=hbx F10 b11 hf10;have V11:=hvk V10 b11;clear F10 V10;obtain⟨hs11,B11,Q11,hg11⟩:=fr1 B10 Q10 b11;have HP11:=H_ P11;have HT:=H_ ht;clear Q10 B10 HP10 P11 b11 ht;have a4:=F11.out.k4;have a4f:=F11.out.frozen 4;have hf11:=F11.out.lt;go_upto_region 20 with fail;obtain⟨w12,hw12⟩:=nm_ (w11.setCell ⟨f,4,none⟩ (.bool true));have bw:=bx1 hw12;have F12:=H_ (show Blk w12 f 172 #[.int .i64 5,.int .i64 0,.int .i64 0,.string s7,.bool true,.slice A9 xs.length c9]from hw12▸F11.out.set 4 _);have Q12:=hbx Q11 bw hg11;have HP12:=H_ (HP11.out.put bw (by omega));have B12:=H_ (B11.out.put bw (by omega) (AB _));have V12:=hvk V11 bw;have hs12:=bw.size;have hg12:=Q12.out.lt;have hf12:=F12.out.lt;rw[hw12];clear hw12 bw F11 Q11 HP11 B11 V11;obtain⟨y,jy,hsj⟩:=R.known (rec 6 (j9+1)) (lJ 0)
          refine ay 3 5 (λys=>{tmps:= #[.pointer (some ⟨p,0,none⟩),undef,.pointer (some ⟨g,0,none⟩),.pointer (some ⟨e,0,none⟩),undef,.pointer (some ⟨f,0,none⟩),.pointer (some ⟨p,0,none⟩),.agg #[.int .i64 k,.string s,.int .i64 z,.int .i64 q],.bool false,.pointer (some ⟨e,0,none⟩),.int .i64 k,.bool false,undef,undef,undef,undef,undef,undef,undef,undef,undef,undef,.bool false,.pointer (some ⟨e,0,none⟩),.int .i64 k,.bool false,undef,undef,undef,.bool false,.pointer (some ⟨p,0,none⟩),.bool false,undef,.bool false,.pointer (some ⟨p,0,none⟩),.bool false,undef,.bool false,.pointer (some ⟨p,0,none⟩),.bool false,undef,undef,undef,undef,undef,undef,.pointer (some ⟨p,0,none⟩),.slice (some ⟨w5.heap.size,0,none⟩) 1 1,.tuple #[],.pointer (some ⟨p,0,none⟩),.string s7,.agg #[.int .i64 5,.int .i64 0,.int .i64 0,.string s7,.bool false,.slice none 0 0],.pointer (some ⟨p,0,none⟩),.pointer (some ⟨p,0,none⟩),.func (.func 293) #[.pointer (some ⟨p,0,none⟩)] #[],.slice A9 xs.length c9,.pointer (some ⟨f,5,none⟩),.pointer (some ⟨p,0,none⟩),.bool true,.pointer (some ⟨f,4,none⟩),(ys 0).getD undef,(ys 1).getD undef,(ys 2).getD undef,(ys 3).getD undef,(ys 4).getD undef,undef,undef,undef],defers:=[]})
           (RJ w12 p A c T (j9+1) jy (rec 6 (j9+1)= .ok y jy)) w12.heap.size
           (λi=>match i with
             |0=>fEq (.pointer (some ⟨f,5,none⟩))
             |1=>fEq (.slice A9 xs.length c9)
             |2=>fEq (.pointer (some ⟨p,0,none⟩))
             |3=>λv W=>ExV W (NG w12.heap.size noZ W) y v
             |_=>λv W=>∃a cs,v= .slice (some ⟨a,0,none⟩) 1 1/\RowA w12.heap.size W a cs.toArray 172/\ExC W (NG w12.heap.size noZ W) y cs)
           (by
             intro k
             match k with
             |0=>exact fEq.st _ _
             |1=>exact fEq.st _ _
             |2=>exact fEq.st _ _
             |3=>exact ExV.st
             |_+4=>exact λ_ _ _ hn ⟨a,cs,h1,h2,h3⟩=>⟨a,cs,h1,h2.nw hn,h3.aA λb hb=>⟨hb.mono hn.size,hn.block b hb.1 hb.2.1⟩⟩)
           (by kernel_rfl) (by kernel_rfl) (by decide) (by kernel_rfl) (by decide) rfl ⟨(Bx.refl _ _ _).drew,HP12.out.drew⟩ ?_ ?_ ?_
          ·intro i' hi hic b ys W hJ hd;obtain rfl|rfl|rfl|rfl:i'=0\/i'=1\/i'=2\/i'=4:=by omega
           ·refine AE rfl λK hK=>?_;go_simp;exact hK _ _ ⟨_,rfl,hJ,rfl,Nw.refl _ _⟩
           ·obtain⟨_,h0,rfl⟩:=hd 0;have d5:=(F12.out.bx hJ.1 hf12 (by omega)).k5;refine AE rfl λK hK=>?_;go_simp;exact hK _ _ ⟨_,by simp only[au,h0];rfl,hJ,rfl,Nw.refl _ _⟩
           ·refine AE rfl λK hK=>?_;go_simp;exact hK _ _ ⟨_,rfl,hJ,rfl,Nw.refl _ _⟩
           ·obtain⟨_,h3,hy⟩:=hd 3;obtain⟨k',op',z',nm',at',A4,n4,c4,rfl,hy'⟩:=ExV.inv hy;have HY:=H_ hy';have HJ:=H_ hJ;have hb:=(AC W.heap.size W).alloc (AB _) (.cells #[.int .i64 k',.int .i64 op',.int .i64 z',.string nm',.bool at',.slice A4 n4 c4] 172);have HB:=H_ hb;clear hy hy' hJ hb;refine AE rfl λK hK=>?_;go_simp;exact hK _ _ ⟨.slice (some ⟨W.heap.size,0,none⟩) 1 1,by simp only[au,h3];rfl,HJ.out.below HB.out,⟨W.heap.size,_,rfl,⟨HJ.out.1.size,Blk.new W 172 _⟩,HY.out.aA λb hb'=>⟨hb'.mono HB.out.size,HB.out.block b hb'.2.1⟩⟩,Nw.below HB.out⟩
          ·intro ys W hJ hd;obtain⟨_,h2,rfl⟩:=hd 2;refine AE rfl λK hK=>?_;go_simp;refine Out.use (HU'.out (j9+1) (by omega) p c A W hJ.2) (λj13 w13 hr b13=>?_) (λx' j13 v w13 hr hv P13 b13=>?_)
           ·exact⟨rfl,Out.bad (by rw[HSP.out];unfold iZ;rw[H6.out];simp only;rw[H7.out];simp only;rw[H9.out];simp only;rw[AP HT.out,hr]) (B12.out.trans ((hJ.1.aB b13).mono (by omega)))⟩
           ·obtain⟨rfl,rfl⟩:=hsj _ _ hr;have:=hJ.1.size;exact hK _ _ ⟨v,by simp only[au,h2];rfl,⟨hJ.1.aB b13,P13,hr⟩,rvC.aA (λb hb=>⟨⟨by have:=hb.1;omega,hb.2,λh=>h⟩,rfl⟩) hv,Nw.of b13 (by omega)⟩
          ·intro ys W hJ hd;obtain⟨_,h0,rfl⟩:=hd 0;obtain⟨_,h1,rfl⟩:=hd 1;obtain⟨_,h2,rfl⟩:=hd 2;obtain⟨v3,h3,_⟩:=hd 3;obtain⟨_,h4,a,cs,rfl,hra,hcs⟩:=hd 4;have hW:=hJ.1.size;have FW:=H_ (F12.out.bx hJ.1 hf12 (by omega));have QW:=H_ (Q12.out.bx hJ.1 hg12 (by omega));have VW:=H_ (V12.out.aA hJ.1.size (λk hk=>hJ.1.block k hk.2.1 (by have:=hk.1;omega)));have HJ:=H_ hJ;have HCS:=H_ hcs;have HRA:=H_ hra;have HLT:=H_ V12.out.lt;clear hJ hcs hra hd F12 Q12 V12;rw[show List.range' 5 _=[5,6,7]from rfl,Bl];refine AE rfl λK hK=>?_;simp only[h0,h1,h2,h3,h4,Bz];rw[AP (by kernel_rfl)];refine cZ iM (.tmp 61) (.tmp 64) rfl VW.out (ys:=[y]) (dss:=[cs]) (b:=a) (off:=0) (c:=1) (m:=1) rfl ?_ ?_ rfl rfl rfl ?_ ?_ ?_ ?_
           ·simpa using At.aG HRA.out.2
           ·intro j' x' cs' h1' h2';cases j' with
            |zero=>
             simp at h1' h2';subst h1' h2';exact HCS.out.aA λb hb=>⟨⟨⟨by have:=hb.1;omega,hb.2.1,λh=>h⟩,λe=>by have:=(HLT.out b e).2;have:=hb.1;omega⟩,rfl⟩
            |succ j'=>simp at h1'
           ·simp;omega
           ·omega
           ·exact λ_ _ h=>h
           ·intro v' w14 hv14 hg14;refine hK _ _ ?_;have hs14:=hg14.size;have hown:∀q,(Value.slice A9 xs.length c9).ownBlock=some q->w8.heap.size<=q:=λq hq=>(HLT.out q hq).1;have F14:=H_ ((hg14.block f FW.out.lt (λe=>by have:=hown f e.symm;omega)).trans FW.out);have Q14:=H_ ((hg14.block g QW.out.lt (λe=>by have:=hown g e.symm;omega)).trans QW.out);have HP14:=H_ (HJ.out.2.1.grown hg14 (λq hq=>by have:=hown q hq;omega));have B14:=H_ ((B12.out.trans (HJ.out.1.mono (by omega))).grown hg14 (by omega) (λq hq=>by have:=hown q hq;omega));have HRJ:=H_ HJ.out.2.2;obtain⟨A15,c15,rfl,_⟩:=hv14.sl (by simp[BD];omega);rw[show(xs++[y]).length=xs.length+1 from by simp]at hv14;have V14:=H_ hv14;clear hv14 hg14 HJ HCS HRA FW QW VW hK K B12 HLT;have x5:w14.cell? ⟨f,5,none⟩=some (.slice A9 xs.length c9):=Blk.cell F14.out 5;have x5f:=Blk.frozen F14.out 5;rw[Bl];refine AE rfl λK hK=>?_;go_simp;refine hK _ _ ?_;rw[Bl];refine AE rfl λK hK=>?_;go_simp;refine hK _ _ ?_;obtain⟨w15,hw15⟩:=nm_ (w14.setCell ⟨f,5,none⟩ (.slice A15 (xs.length+1) c15));have bw:=bx1 hw15;have F15:=H_ (show Blk w15 f 172 #[.int .i64 5,.int .i64 0,.int .i64 0,.string s7,.bool true,.slice A15 (xs.length+1) c15]from hw15▸Blk.set F14.out 5 _);have Q15:=H_ (Blk.bx Q14.out bw (Blk.lt Q14.out) (by omega));have HP15:=H_ (HP14.out.put bw (by omega));have B15:=H_ (B14.out.put bw (by omega) (AB _));have V15:=hvk V14 bw;have hs15:=bw.size;have hg15:=Blk.lt Q15.out;rw[hw15];clear hw15 bw F14 Q14 HP14 B14 V14 x5 x5f hK K;obtain⟨x0,x1,x2,x3,x4,x5'⟩:=(Blk.aC F15.out).1;obtain⟨⟨c0,c1,c2,c3,c4,c5⟩,f0,f1,f2,f3,f4,f5⟩:=Blk.aC Q15.out;unfold wpOps;go_wp2_with fail;obtain⟨N1,N2⟩:=eB Q15.out (.int .i64 5) (.int .i64 0) (.int .i64 0) (.string s7) (.bool true) (.slice A15 (xs.length+1) c15);have HV:=ExC.of 5 0 0 s7 true c15 (V15.out.slice (by simp[BD];omega));exact eG rfl (by simp) N1 (Out.ok (by rw[HSP.out];unfold iZ;rw[H6.out];simp only;rw[H7.out];simp only;rw[H9.out];simp only;rw[AP HT.out,HRJ.out]) ⟨_,rfl,HV.aA (λb hb=>⟨⟨by have:=hb.1;omega,AF hb.2.1 N2.size⟩,N2.block b hb.2.1 (by have:=hb.1;omega)⟩)⟩ (HP15.out.put N2 (by omega)) (B15.out.put N2 (by omega) (AB _)))
         ·have F11:=hbx F10 b11 hf10;have V11:=hvk V10 b11;clear F10 V10;obtain⟨hs11,B11,Q11,hg11⟩:=fr1 B10 Q10 b11;have HP11:=H_ P11;have HT:=H_ ht;clear Q10 B10 HP10 P11 b11 ht;obtain⟨x0,x1,x2,x3,x4,x5'⟩:=F11.out.aC.1;obtain⟨⟨c0,c1,c2,c3,c4,c5⟩,f0,f1,f2,f3,f4,f5⟩:=Q11.out.aC;go_wp2_with fail;obtain⟨N1,N2⟩:=eB Q11.out (.int .i64 5) (.int .i64 0) (.int .i64 0) (.string s7) (.bool false) (.slice A9 xs.length c9);have HV:=ExC.of 5 0 0 s7 false c9 (V11.out.slice (by unfold BD;omega));exact eG rfl (by simp) N1 (Out.ok (by rw[HSP.out];unfold iZ;rw[H6.out];simp only;rw[H7.out];simp only;rw[H9.out];simp only;rw[AL (by rw[HT.out];simp)]) ⟨_,rfl,HV.aA (λb hb=>⟨⟨by have:=hb.1;omega,AF hb.2.1 N2.size⟩,N2.block b hb.2.1 (by have:=hb.1;omega)⟩)⟩ (HP11.out.put N2 (by omega)) (B11.out.put N2 (by omega) (AB _)))
end
theorem RdAt.of_lt{rv:Rv α}{f:Nat->R α}(h:i<T.length->RdAt rv n T f i):RdAt rv n T f i:=λp c A w hP=>h hP.lt p c A w hP
theorem qL{T:List Tk}:∀(n i:Nat),T.length-i<n->∀l,RdAt rvE (fnL l) T (E T n l) i
 |0,i,hi,l=>absurd hi (Dd _)
 |n+1,i0,hi0,l=>by
  have hup:∀l,Up (E T n l):=λl=>tH n l;have HR:∀(l i:Nat),T.length-i<n+1->i<T.length->∀j,i<j->RdAt rvE (fnL l) T (E T n l) j:=λl i hi hiT j hj=>qL n j (by omega) l;have h8:∀i,T.length-i<n+1->RdAt rvE 296 T (ai T (E T n)) i:=λi hi=> .of_lt λhiT=>qy (HR 0 i hi hiT) (HR 6 i hi hiT) (hup 0);have h7:∀i,T.length-i<n+1->RdAt rvE 309 T (bD T (E T n)) i:=λi hi=>qo (h8 i hi) ((gy (λl=>om n l)).up dw);have h6:∀i,T.length-i<n+1->RdAt rvE 303 T (bS T (E T n)) i:=λi hi=> .of_lt λhiT=>tS (h7 i hi) (HR 6 i hi hiT);have h5:∀i,T.length-i<n+1->RdAt rvE 313 T (ej T (E T n)) i:=λi hi=>ql (λj hj=>h6 j (by omega)) ((jx (λl=>om n l)).up dw);have h4:∀i,T.length-i<n+1->RdAt rvE 312 T (fp T (E T n)) i:=λi hi=>yH (λj hj=>h5 j (by omega)) ((gx (λl=>om n l)).up dw);have h3:∀i,T.length-i<n+1->RdAt rvE 311 T (bN T (E T n)) i:=λi hi=>r8 (λj hj=>h4 j (by omega)) ((kF (λl=>om n l)).up dw);have h2:∀i,T.length-i<n+1->RdAt rvE 308 T (gk T (E T n)) i:=λi hi=> .of_lt λhiT=>yZ (h3 i hi) (HR 2 i hi hiT);have h1:∀i,T.length-i<n+1->RdAt rvE 301 T (pJ T (E T n)) i:=λi hi=>zJ (λj hj=>h2 j (by omega)) ((nN (λl=>om n l)).up dw);have h0:∀i,T.length-i<n+1->RdAt rvE 293 T (pB T (E T n)) i:=λi hi=>xM (λj hj=>h1 j (by omega)) ((oh (λl=>om n l)).up dw)
  match l with
  |0=>exact h0 i0 hi0
  |1=>exact h1 i0 hi0
  |2=>exact h2 i0 hi0
  |3=>exact h3 i0 hi0
  |4=>exact h4 i0 hi0
  |5=>exact h5 i0 hi0
  |6=>exact h6 i0 hi0
  |7=>exact h7 i0 hi0
  |_+8=>exact h8 i0 hi0
theorem Blk.aE{t:TypeId}{b c:Value}(h:Blk w g t #[a,b,c,d,e]):
 (w.cell? ⟨g,0,none⟩=some a/\w.cell? ⟨g,1,none⟩=some b/\w.cell? ⟨g,2,none⟩=some c/\w.cell? ⟨g,3,none⟩=some d/\w.cell? ⟨g,4,none⟩=some e)/\
 w.frozen? ⟨g,0,none⟩=false/\w.frozen? ⟨g,1,none⟩=false/\w.frozen? ⟨g,2,none⟩=false/\w.frozen? ⟨g,3,none⟩=false/\w.frozen? ⟨g,4,none⟩=false:=
 ⟨⟨h.cell 0,h.cell 1,h.cell 2,h.cell 3,h.cell 4⟩,h.frozen 0,h.frozen 1,h.frozen 2,h.frozen 3,h.frozen 4⟩
theorem hH{t:TypeId}{b c:Value}(q:Blk w g t #[a,b,c,d,e])(a' b' c' d' e':Value):
 Blk (((((w.setCell ⟨g,0,none⟩ a').setCell ⟨g,1,none⟩ b').setCell ⟨g,2,none⟩ c').setCell ⟨g,3,none⟩ d').setCell ⟨g,4,none⟩ e') g t #[a',b',c',d',e']/\
 Bx w.heap.size g w (((((w.setCell ⟨g,0,none⟩ a').setCell ⟨g,1,none⟩ b').setCell ⟨g,2,none⟩ c').setCell ⟨g,3,none⟩ d').setCell ⟨g,4,none⟩ e'):=
 ⟨((((q.set 0 a').set 1 b').set 2 c').set 3 d').set 4 e',(((((Bx.refl _ _ _).aJ (.inr rfl) _).aJ (.inr rfl) _).aJ (.inr rfl) _).aJ (.inr rfl) _).aJ (.inr rfl) _⟩
theorem uR(h:PS w p A c T i):
 ∃w0,w.alloc (.cells #[.int .i64 0,.string ⟨#[]⟩,.slice none 0 0,.slice none 0 0,.slice none 0 0] 168)=w0/\Blk w0 w.heap.size 168 #[.int .i64 0,.string ⟨#[]⟩,.slice none 0 0,.slice none 0 0,.slice none 0 0]/\Bx w.heap.size p w w0/\PS w0 p A c T i:=
 ⟨_,rfl,Blk.new w 168 _,(Bx.refl _ _ _).new _ (AB _),h.alloc _⟩
theorem xG:(Tryz.prog.info? 168).map (·.size)=some 5:=by kernel_rfl
theorem gj{fn:Func}{s:Tmp}{tmps:Array Value}{R:Ending->World->Prop}(hf:fn.results= #[.cell s 168])(hs:tmps.getD s undef= .pointer (some ⟨g,0,none⟩))(q:Blk W g 168 #[v0,v1,v2,v3,v4])
 (hR:R (.returned (.agg #[v0,v1,v2,v3,v4])) W):bodyPost Tryz.prog fn R .ret {tmps:=tmps,defers:=[]} W:=
 lZ g 168 _ _ hf hs q Tryz.underlying168 rfl xG hR
abbrev rvS:Rv St:=rvC kSt
theorem SV.inv{x:St}(h:rvS w G x v):
 ∃k nm A n c A2 n2 c2 A3 n3 c3,v= .agg #[.int .i64 k,.string nm,.slice A n c,.slice A2 n2 c2,.slice A3 n3 c3]/\StC w G x [.int .i64 k,.string nm,.slice A n c,.slice A2 n2 c2,.slice A3 n3 c3]:=by
 obtain⟨cs,rfl,h2⟩:=h;obtain⟨k,nm,ex,b,e⟩:=x;obtain⟨A,n,c,A2,n2,c2,A3,n3,c3,rfl,_⟩:=StC.inv h2;exact⟨k,nm,A,n,c,A2,n2,c2,A3,n3,c3,rfl,h2⟩
theorem NG.put{b:Nat}(bw:Bx w.heap.size g w W)(hg:Z g)(hb:NG base Z w b):NG base Z W b/\W.heap[b]?=w.heap[b]?:=⟨hb.mono bw.size,bw.block b hb.2.1 (λe=>hb.2.2 (e▸hg))⟩
theorem ub{v5 o0 o1 o2 o3 o4:Value}(q:Blk w2 g 168 #[o0,o1,o2,o3,o4])(hx:ExC w2 G x [v0,v1,v2,v3,v4,v5])(hG:∀b,G b->b<w2.heap.size/\b≠g)
 (k:Int) (nm:ByteArray) (W:World) (hW:W=(((((w2.setCell ⟨g,0,none⟩ (.int .i64 k)).setCell ⟨g,1,none⟩ (.string nm)).setCell ⟨g,2,none⟩ (.slice (some ⟨w2.heap.size,0,none⟩) 1 1)).setCell ⟨g,3,none⟩ (.slice none 0 0)).setCell ⟨g,4,none⟩ (.slice none 0 0)).alloc (.cells #[v0,v1,v2,v3,v4,v5] 172)):
 Blk W g 168 #[.int .i64 k,.string nm,.slice (some ⟨w2.heap.size,0,none⟩) 1 1,.slice none 0 0,.slice none 0 0]/\Bx w2.heap.size g w2 W/\
 StC W (λb=>G b\/(b=w2.heap.size/\b<W.heap.size)) (stE k nm [x]) [.int .i64 k,.string nm,.slice (some ⟨w2.heap.size,0,none⟩) 1 1,.slice none 0 0,.slice none 0 0]:=by
 have h1:=hH q (.int .i64 k) (.string nm) (.slice (some ⟨w2.heap.size,0,none⟩) 1 1) (.slice none 0 0) (.slice none 0 0);have hs:(((((w2.setCell ⟨g,0,none⟩ (.int .i64 k)).setCell ⟨g,1,none⟩ (.string nm)).setCell ⟨g,2,none⟩ (.slice (some ⟨w2.heap.size,0,none⟩) 1 1)).setCell ⟨g,3,none⟩ (.slice none 0 0)).setCell ⟨g,4,none⟩ (.slice none 0 0)).heap.size=w2.heap.size:=by simp
 generalize(((((w2.setCell ⟨g,0,none⟩ (.int .i64 k)).setCell ⟨g,1,none⟩ (.string nm)).setCell ⟨g,2,none⟩ (.slice (some ⟨w2.heap.size,0,none⟩) 1 1)).setCell ⟨g,3,none⟩ (.slice none 0 0)).setCell ⟨g,4,none⟩ (.slice none 0 0))=V at h1 hs hW;subst hW;have hb:=h1.2.alloc (by omega) (.cells #[v0,v1,v2,v3,v4,v5] 172);refine⟨h1.1.alloc _,hb,?_⟩;refine StC.of k nm 1 0 0 ?_ (Sl.nil _ _ _) (Sl.nil _ _ _);rw[<-hs];exact dW (K:=kEx) (Blk.new V 172 #[v0,v1,v2,v3,v4,v5]) (.inr ⟨rfl,by simp⟩) (ExC.aA (λb hb'=>⟨.inl hb',hb.block b (hG b hb').1 (hG b hb').2⟩) hx)
section
variable{T:List Tk}{ex:Nat->Nat->R Ex}{st:Nat->R St}{i:Nat}
theorem tF(HX:∀j,i<j->RdAt rvE 293 T (ex 0) j)(k:Int)(p c:Nat)(A:Option Addr)(w:World)(h:PS w p A c T i):
 Calls Tryz.prog 294 #[.pointer (some ⟨p,0,none⟩),.int .i64 k] w (Out rvS p A c T w (cR T ex k i)):=by
 have hp:=h.aG.lt;obtain⟨w0,hw0,q0,b0,P0⟩:=uR h;have Q0:=H_ q0;have B0:=H_ b0;have HP0:=H_ P0;have HX':=H_ HX;clear h HX q0 b0 P0;go_enter Tryz.func294,Tryz.ntmps294;go_upto_region 1 with(fail);have hsz:=B0.out.size;have hg0:=Q0.out.lt;obtain⟨g,hgz⟩:=nm_ (w.heap.size);rw[hgz]at Q0 hg0⊢;clear hw0;go_wp2_with fail;refine Out.use (dL HP0.out) (λj w1 hr b1=>?_) (λs j v w1 hr hv P1 b1=>?_)
 ·exact⟨rfl,Out.bad (by unfold cR;rw[hr]) (B0.out.aB b1)⟩
 ·obtain rfl:v= .string s:=hv;have H1:=H_ hr;have hij:=(dm hr).2.2;clear hr;obtain⟨hs1,B1,Q1,hg1⟩:=fr1 B0 Q0 b1;have HP1:=H_ P1;clear Q0 B0 HP0 P1 b1;go_wp2_with fail;refine bR (s:=cj) (HP1.out.alloc _) ((Blk.new w1 _ _).cell 0) (λj2 w2 hr b2=>?_) (λj2 w2 hr P2 b2=>?_)
  ·exact⟨rfl,Out.bad (by unfold cR;rw[H1.out];simp only;rw[show ap T cj j= .bad j2 from hr]) ((B1.out.new _ (AB _)).aB b2)⟩
  ·have H2:=H_ hr;have hij2:=(bV hr).2;replace b2:=((Bx.refl w1.heap.size p w1).new _ (AB _)).aB b2;clear hr;obtain⟨hs2,B2,Q2,hg2⟩:=fr1 B1 Q1 b2;have HP2:=H_ P2;clear Q1 B1 HP1 P2 b2;go_wp2_with fail;refine Out.use (HX'.out j2 (by omega) p c A w2 HP2.out) (λj3 w3 hr b3=>?_) (λx j3 v w3 hr hv P3 b3=>?_)
   ·exact⟨rfl,Out.bad (by unfold cR;rw[H1.out];simp only;rw[H2.out];simp only;rw[hr]) (B2.out.aB b3)⟩
   ·obtain⟨k1,op1,z1,nm1,at1,A1,n1,c1',rfl,hv'⟩:=ExV.inv hv;have HV:=H_ hv';have H3:=H_ hr;clear hv hv' hr;obtain⟨hs3,B3,Q3,hg3⟩:=fr1 B2 Q2 b3;have HP3:=H_ P3;clear Q2 B2 HP2 P3 b3;obtain⟨⟨d0,d1,d2,d3,d4⟩,f0,f1,f2,f3,f4⟩:=Q3.out.aE;go_wp2_with fail;obtain⟨N1,N2,N3⟩:=ub Q3.out HV.out (λb hb=>⟨hb.2,by have:=hb.1;omega⟩) k s _ rfl;exact gj rfl (by simp) N1 (Out.ok (by unfold cR;rw[H1.out];simp only;rw[H2.out];simp only;rw[H3.out]) ⟨_,rfl,N3.aA (iw N2 (by omega) (by omega))⟩ (HP3.out.put N2 (by omega)) (B3.out.put N2 (by omega) (AB _)))
theorem jp(HS:∀j,i<j->RdAt rvS 255 T st j)(hup:Up st)(p c:Nat)(A:Option Addr)(w:World)(h:PS w p A c T i):
 Calls Tryz.prog 213 #[.pointer (some ⟨p,0,none⟩)] w (Out (rvV kSt 168 w.heap.size) p A c T w (bp T st i)):=by
 have hp:=h.aG.lt;have HP:=H_ h;have HF':=H_ HS;have HU:=H_ hup;clear h HS hup;go_enter Tryz.func213,Tryz.ntmps213;go_wp2_with fail;refine bR (HP.out.alloc _) ((Blk.new w _ _).cell 0) (λj w1 hr b1=>?_) (λj w1 hr P1 b1=>?_)
 ·exact⟨rfl,Out.bad (by unfold bp;rw[show ap T jT i= .bad j from hr]) (((Bx.refl w.heap.size p w).new _ (AB _)).aB b1)⟩
 ·have hij:=(bV hr).2;have HEQ:=H_ (show bp T st i=ck T st (T.length+1) [] j by unfold bp;rw[show ap T jT i= .ok () j from hr]);have B1:=H_ (((Bx.refl w.heap.size p w).new _ (AB _)).aB b1);have HP1:=H_ P1;have hj:=P1.lt;have hT:=P1.wf.few;clear hr b1 P1 HP;go_wp2_with fail;go_loopg [3] (T.length-j) (λk u wr=>∃(xs:List St) (q:Nat),k=T.length-q/\Hid (Vec kSt 168 w.heap.size noZ wr u xs)/\Hid (PS wr p A c T q)/\Hid (Bx w.heap.size p w wr)/\i<q/\xs.length<=q/\Hid (∃m,T.length+1<=m+q/\bp T st i=ck T st m xs q))
  case atStart=>exact⟨[],j,rfl,H_ (Vec.nil _ _ _ _ _),HP1,B1,by omega,by simp,H_ ⟨T.length+1,by omega,HEQ.out⟩⟩
  case round=>
   clear HP1 B1 HEQ;obtain⟨xs,q,rfl,HVr,HPr,HBr,hiq,hxq,HEr⟩:=hrel;obtain⟨m,hm,heq⟩:=HEr.out;have hqT:=HPr.out.lt;obtain⟨m,rfl⟩:∃m',m=m'+1:=⟨m-1,by omega⟩;have HE1:=H_ heq;clear HEr heq;go_wp2_with fail;refine bd HPr.out gn (λht w5 P5 b5=>?_) (λht w5 P5 b5=>?_)
   ·have B5:=hth HBr b5;have HT5:=H_ ht;have HP5:=H_ P5;have V5:=hvk HVr b5;clear b5 ht P5 HBr HPr HVr;go_wp2_with fail;go_ret;exact Out.ok (j:=q+1) (by rw[HE1.out];unfold ck;rw[AP HT5.out]) ⟨V5.out,by omega⟩ HP5.out B5.out
   ·have B5:=hth HBr b5;have HT5:=H_ ht;have HP5:=H_ P5;have V5:=hvk HVr b5;clear b5 ht P5 HBr HPr HVr;go_wp2_with fail;refine Out.use (HF'.out q (by omega) p c A w5 HP5.out) (λj6 w6 hr b6=>?_) (λx6 j6 v w6 hr hv P6 b6=>?_)
    ·exact⟨rfl,Out.bad (by rw[HE1.out];unfold ck;rw[AL (by rw[HT5.out];simp),hr]) (B5.out.aB b6)⟩
    ·have hj6:=HU.out _ _ _ hr;obtain⟨k0,nm,A',n',c',A2,n2,c2,A3,n3,c3,rfl,hv'⟩:=SV.inv hv;have HE6:=H_ (show bp T st i=ck T st m (xs++[x6]) j6 by rw[HE1.out];conv=>lhs;unfold ck;rw[AL (by rw[HT5.out];simp),hr]);have HP6:=H_ P6;have B6:=hth B5 b6;have hb5:=B5.out.size;have hb6:=B6.out.size;have HV:=H_ hv';have V6:=hvk V5 b6;have HO:=H_ V5.out.lt;have hj6T:=P6.lt;clear hv hv' hr P6 b6 V5 HE1;go_wp2_with (at_builtin;refine bv yj (K:=kSt) rfl (.tmp 10) (.tmp 13) rfl V6.out (kSt.aA (fR hb5 (λk hk=>(HO.out k hk).2)) HV.out) rfl rfl (by omega) hb6 (λb hb h=>h) ?_);intro u7 w7 hv7 hg7;have V7:=H_ hv7;have HP7:=H_ (HP6.out.grown hg7 (λk hk=>by have:=(HO.out k hk).1;omega));have B7:=H_ (B6.out.grown hg7 hb6 (λk hk=>(HO.out k hk).1));clear hv7 hg7 HP6 B6 HV V6 B5 HP5;go_wp2_with fail;go_roundg (T.length-j6)
     case rel=>exact⟨xs++[x6],j6,rfl,V7,HP7,B7,by omega,by simp;omega,H_ ⟨m,by omega,HE6.out⟩⟩
     case measure=>omega
end
end
end Go.Proofs.YtjpbckbpeblibaaGreatDoor
