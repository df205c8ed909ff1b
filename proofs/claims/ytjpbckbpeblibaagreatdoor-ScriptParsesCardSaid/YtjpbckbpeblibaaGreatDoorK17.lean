/- part of a proof -/
import Derived.Test.YtjpbckbpeblibaaGreatDoorK16
namespace Go.Proofs.YtjpbckbpeblibaaGreatDoor
set_option linter.unusedVariables false
set_option linter.unusedSimpArgs false
set_option maxRecDepth 100000
set_option maxHeartbeats 64000000
section
open Go.RowKit
variable{A:Option Addr}{B c g i j k l m n p:Nat}{K:Act->World->Prop}{P:Program}{Q:Exit->Act->World->Prop}{T:List Tk}{W w w':World}{a:Act}{cs:List Cl}{ex rec:Nat->Nat->R Ex}{f:Nat->R Ex}{o:Oper}{ops:List Nat}{r:R Ex}{s:ByteArray}{u v v0 v1 v2 v3 v4 v5 z:Value}{x y:Operand}{α:Type}
theorem Bx.on{w1 w2:World}(h:Bx B p w w1)(k:Bx w1.heap.size p w1 w2)(hB:B<=w1.heap.size):Bx B p w w2:=h.trans (k.mono hB)
theorem Is.known(r:R α):∃(j:Nat) (b:Bool),∀y j' b',Is r y j' b'->j'=j/\b'=b:=by
 unfold Is;cases r with
 |bad j=>exact⟨j,true,λy j' b' h=>by cases b'<;>simp at h;exact⟨h.symm,rfl⟩⟩
 |ok x j=>exact⟨j,false,λy j' b' h=>by cases b'<;>simp at h;exact⟨h.2.symm,rfl⟩⟩
theorem Is.ok{r:R α}{y:α}(h:r= .ok y j):Is r y j false:=h
theorem Is.bad{r:R α}(y:α)(h:r= .bad j):Is r y j true:=h
theorem Is.ok_of{r:R α}{y:α}(h:Is r y j false):r= .ok y j:=h
section
variable{p c i:Nat}{A:Option Addr}{T:List Tk}{b:Bool}{w:World}
theorem ROut.use{rv:Rv α}{r:R α}{args:Array Value}{Q:Ending->World->Prop}(h:Calls Tryz.prog n args w (ROut rv p A c T w i r))
 (hk:∀v y j b w',rv w' (Fr w w') y v->RS w' p A c T j b->Is r y j b->i<=j->Bx w.heap.size p w w'->Q (.returned v) w'):Calls Tryz.prog n args w Q:=
 h.mono λe w' ⟨v,y,j,b,h1,h2,h3,h4,h5,h6⟩=>h1▸hk v y j b w' h2 h3 h4 h5 h6
theorem du{Q:Ending->World->Prop}(h:RS w p A c T i b)(k:Int)(h0:k≠0)
 (hk:∀k' t v q j b' w',RS w' p A c T j b'->Is (lif (aj T k) i b) t j b'->i<=j->Bx w.heap.size p w w'->Q (.returned (.agg #[.int .i64 k',.string t,.int .i64 v,.int .i64 q])) w'):
 Calls Tryz.prog 144 #[.pointer (some ⟨p,0,none⟩),.int .i64 k] w Q:=
 (yE h k h0).mono λe w' ⟨k',t,v,q,j,b',h1,h2,h3,h4,h5⟩=>h1▸hk k' t v q j b' w' h2 h3 h4 h5
theorem bA{Q:Ending->World->Prop}(h:RS w p A c T i b)(s:ByteArray)
 (hk:∀j b' w',RS w' p A c T j b'->Is (lif (ap T s) i b) () j b'->i<=j->Bx w.heap.size p w w'->Q (.returned (.tuple #[])) w'):
 Calls Tryz.prog 143 #[.pointer (some ⟨p,0,none⟩),.string s] w Q:=
 (zB h s).mono λe w' ⟨h1,j,b',h2,h3,h4,h5⟩=>h1▸hk j b' w' h2 h3 h4 h5
end
def EAt(T:List Tk)(f:Nat->R Ex)(l:Int)(i:Nat):Prop:=
 ∀(p c:Nat) (A:Option Addr) (b:Bool) (w:World),RS w p A c T i b->Calls Tryz.prog 258 #[.pointer (some ⟨p,0,none⟩),.int .i64 l] w (ROut rvE p A c T w i (lif f i b))
def RAt{α:Type}(rv:Rv α)(n:Nat)(T:List Tk)(f:Nat->R α)(i:Nat):Prop:=
 ∀(p c:Nat) (A:Option Addr) (b:Bool) (w:World),RS w p A c T i b->Calls Tryz.prog n #[.pointer (some ⟨p,0,none⟩)] w (ROut rv p A c T w i (lif f i b))
def RQ(w5:World)(p:Nat)(A:Option Addr)(c:Nat)(T:List Tk)(j0:Nat)(b0:Bool)(j1:Nat)(b1:Bool)(b:Bool)(W:World):Prop:=
 Bx w5.heap.size p w5 W/\if b=true then RS W p A c T j1 b1/\j0<=j1 else RS W p A c T j0 b0
theorem RQ.below{w5:World}{j0 j1:Nat}{b0 b1:Bool}{b:Bool}{W':World}(h:RQ w5 p A c T j0 b0 j1 b1 b W)(hb:Below W.heap.size W W'):RQ w5 p A c T j0 b0 j1 b1 b W':=by
 refine⟨h.1.trans (Bx.of (hb.mono h.1.size)),?_⟩;have h2:=h.2;cases b with
 |true=>exact⟨h2.1.below hb,h2.2⟩
 |false=>exact RS.below h2 hb
theorem RS.drew{b:Bool}(h:RS w p A c T i b):RS w.drew p A c T i b:=⟨h.aG,h.tok,h.wf,h.lt⟩
def fEx(G:World->Nat->Prop)(r:R Ex)(j:Nat)(b:Bool)(f:Ex->Ex):Value->World->Prop:=λv W=>∃y,ExV W (G W) (f y) v/\Is r y j b
theorem fEx.st{Z:Nat->Prop}{b:Bool}{f:Ex->Ex}:fZ g (fEx (NG g Z) r j b f):=λv W W' hn ⟨y,h,hi⟩=>⟨y,ExV.st v W W' hn h,hi⟩
theorem m8{b:Bool}(h:RS w p A c T i b):
 ∃w0,w.alloc (.cells #[.int .i64 0,.int .i64 0,.int .i64 0,.string ⟨#[]⟩,.bool false,.slice none 0 0] 172)=w0/\Blk w0 w.heap.size 172 #[.int .i64 0,.int .i64 0,.int .i64 0,.string ⟨#[]⟩,.bool false,.slice none 0 0]/\Bx w.heap.size p w w0/\RS w0 p A c T i b:=
 ⟨_,rfl,Blk.new w 172 _,(Bx.refl _ _ _).alloc (AB _) _,h.below ((AC _ _).alloc (AB _) _)⟩
theorem oQ(h:Wf T){o:Nat}(hi:i<T.length)(ht:opT T ops i=some o):i+1<T.length:=by
 obtain⟨m,_,h2,_⟩:=fT ht;exact gE h hi h2
def zM(T:List Tk)(ops:List Nat)(i:Nat)(b:Bool)(u:Int):Prop:=(u= -1/\(b=true\/opT T ops i=none))\/(∃o:Nat,u=o/\b=false/\opT T ops i=some o)
theorem jI{c2:Nat}{b:Bool}{Q:Ending->World->Prop}(h:RS w p A c T i b)(ho:IntsAt w g ops)
 (hk:∀u w',zM T ops i b u->RS w' p A c T i b->Bx w.heap.size p w w'->Q (.returned (.int .i64 u)) w'):
 Calls Tryz.prog 281 #[.pointer (some ⟨p,0,none⟩),.slice (some ⟨g,0,none⟩) ops.length c2] w Q:=
 sW h ho (λh1 w' h2 h3=>hk (-1) w' (.inl ⟨rfl,h1⟩) h2 h3) (λh1 o h2 w' h3 h4=>hk o w' (.inr ⟨o,rfl,h1,h2⟩) (h1▸h3) h4)
theorem kP{l:Int}{ga c2:Nat}(HF:∀j,i<=j->EAt T f l j)(p c:Nat)(A:Option Addr)(w:World)(h:RS w p A c T i false)
 (ho:IntsAt w ga ops) (hga:ga≠p):
 Calls Tryz.prog 279 #[.pointer (some ⟨p,0,none⟩),.int .i64 l,.slice (some ⟨ga,0,none⟩) ops.length c2] w (ROut rvE p A c T w i (dB T f ops i)):=by
 have hp:=h.aG.lt;obtain⟨w0,hw0,q0,b0,P0⟩:=m8 h;have Q0:=H_ q0;have B0:=H_ b0;have HP0:=H_ P0;have HF':=H_ HF;have HO:=H_ ho;clear h HF q0 b0 P0 ho;go_enter Tryz.func279,Tryz.ntmps279;go_upto_region 1 with(fail);have hsz:=B0.out.size;have hg0:=Q0.out.lt;obtain⟨g,hgz⟩:=nm_ (w.heap.size);rw[hgz]at Q0 hg0⊢;clear hw0;go_wp2_with fail;refine ROut.use (HF'.out i (AB _) p c A false w0 HP0.out) (λv x j b1 w1 hv P1 hr hij b1x=>?_);obtain⟨-,B1,Q1,hg1⟩:=fr1 B0 Q0 b1x;have HP1:=H_ P1;obtain⟨k0,op0,z0,nm0,at0,A0,n0,c0,rfl,hv'⟩:=ExV.inv hv;have HV:=H_ hv';have HR1:=H_ hr;clear hv hv' hr Q0 B0 HP0 P1 b1x;go_wp2_with fail;obtain⟨e,hez⟩:=nm_ (w1.heap.size);rw[hez];obtain⟨w2,hw2⟩:=nm_ (w1.alloc (.cells #[.int .i64 k0,.int .i64 op0,.int .i64 z0,.string nm0,.bool at0,.slice A0 n0 c0] 172));have b2:=bal hw2;have Q2:=H_ (Q1.out.below b2 hg1);have E2:=H_ (show Blk w2 e 172 _ from hw2▸hez▸Blk.new w1 172 #[.int .i64 k0,.int .i64 op0,.int .i64 z0,.string nm0,.bool at0,.slice A0 n0 c0]);have B2:=H_ (B1.out.aB (Bx.of b2));have HP2:=H_ (HP1.out.below b2);have V2:=H_ (ExC.aA (G':=NG g (two g e) w2) (λb hb=>⟨⟨by have:=hb.1;omega,AF hb.2 b2.size,λh=>by have:=hb.1;have:=hb.2;unfold two at h;omega⟩,b2.block b hb.2⟩) HV.out);rw[hw2];clear hw2 b2 Q1 B1 HP1 HV;have hij':=hij;have heT:=E2.out.lt;refine jI HP2.out (HO.out.bx (hgz▸B2.out) hga) (λu w3 hu P3 b3=>?_);obtain⟨-,B3,Q3,-,E3,-⟩:=fr2 B2 Q2 E2 b3;have HP3:=H_ P3;have V3:=H_ (ExC.aA (G':=NG g (two g e) w3) (λb hb=>⟨hb.mono b3.size,b3.block b hb.2.1 (by have:=hb.1;omega)⟩) V2.out);have HU:=H_ hu;clear Q2 E2 B2 HP2 V2 P3 b3 hu;go_wp2_with fail
 go_loopg [8] (T.length-j) (λkk u wr=>∃(x:Ex) (q:Nat) (bq:Bool) (uz:Int) (k op z:Int) (nm:ByteArray) (at_:Bool) (A':Option Addr) (n c':Nat),kk=T.length-q/\u= .int .i64 uz/\Hid (Blk wr e 172 #[.int .i64 k,.int .i64 op,.int .i64 z,.string nm,.bool at_,.slice A' n c'])/\Hid (ExC wr (NG g (two g e) wr) x [.int .i64 k,.int .i64 op,.int .i64 z,.string nm,.bool at_,.slice A' n c'])/\
  Hid (Blk wr g 172 #[.int .i64 0,.int .i64 0,.int .i64 0,.string ⟨#[]⟩,.bool false,.slice none 0 0])/\Hid (RS wr p A c T q bq)/\Hid (Bx g p w wr)/\i<=q/\Hid (zM T ops q bq uz)/\Hid (∃m,T.length+1<=m+q/\dB T f ops i=lif (cp T f ops m x) q bq))
 case atStart=>exact⟨x,j,b1,u,k0,op0,z0,nm0,at0,A0,n0,c0,rfl,rfl,E3,V3,Q3,HP3,hgz▸B3,hij,HU,H_ ⟨T.length+1,by omega,by
  have h1:=HR1.out;unfold Is lif at h1;unfold dB lif;rw[AL (by decide)]at h1;rw[h1];all_goals(cases b1<;>rfl)⟩⟩
 case round=>
  clear E3 V3 Q3 HP3 B3 HR1 HU;obtain⟨x,q,bq,uz,k,op,z,nm,at_,A',n,c',rfl,rfl,HE,HV,HG,HPr,HBr,hiq,HUr,HEr⟩:=hrel;have her:=HE.out.lt;have hgr:=HG.out.lt;rcases HUr.out with⟨rfl,hno⟩|⟨o,rfl,rfl,hso⟩
  ·obtain⟨⟨c0',c1',c2',c3',c4',c5'⟩,_⟩:=HE.out.aC;obtain⟨⟨d0,d1,d2,d3,d4,d5⟩,e0,e1,e2,e3,e4,e5⟩:=HG.out.aC;have hqT:=HPr.out.lt;have HNO:=H_ hno;clear hno HUr;go_wp2_with fail;obtain⟨N1,N2⟩:=eB HG.out (.int .i64 k) (.int .i64 op) (.int .i64 z) (.string nm) (.bool at_) (.slice A' n c');refine eG rfl (by simp) N1 ⟨_,x,q,bq,rfl,⟨_,rfl,HV.out.aA (λb hb=>⟨⟨by have:=hb.1;omega,AF hb.2.1 N2.size⟩,N2.block b hb.2.1 (λh=>hb.2.2 (.inl h))⟩)⟩,HPr.out.aA N2 (by omega),?_,by omega,hgz▸HBr.out.put N2 (AB _) (by omega)⟩;obtain⟨m,hm,heq⟩:=HEr.out;obtain⟨m,rfl⟩:∃m',m=m'+1:=⟨m-1,by omega⟩;rw[heq];unfold Is lif;cases bq
   ·rcases HNO.out with h|h
    ·cases h
    ·unfold cp;rw[h]
   ·rfl
  ·have hqT:=HPr.out.lt;have hqn:=HPr.out.wf.few;have HQN:=H_ (oQ HPr.out.wf hqT hso);have HSO:=H_ hso;have ho0:0<=(o:Int):=by omega
   have pc1:=HPr.out.aG.k1;have pf1:=HPr.out.aG.frozen 1;clear hso HUr;go_upto_region 6 with fail;obtain⟨w5,hw5⟩:=nm_ (wr.setCell ⟨p,1,none⟩ (.int .i64 ((q:Int)+1)));have hk5:Bx wr.heap.size p wr w5:=hw5▸(Bx.refl _ _ _).setCell (q:=⟨p,1,none⟩) (.inr rfl) _;have HP5:=H_ (show RS w5 p A c T (q+1) false from by have:=HPr.out.move HQN.out;simp only[Ce,Ca]at this;rw[hw5]at this;exact this);have HE5:=hbx HE hk5 her;have HG5:=hbx HG hk5 hgr;have HV5:=H_ (ExC.aA (G':=NG g (two g e) w5) (λb hb=>⟨hb.mono hk5.size,hk5.block b hb.2.1 (by have:=hb.1;omega)⟩) HV.out);have HB5:=H_ (HBr.out.trans (hk5.mono (by have:=HBr.out.size;omega)));have her5:=HE5.out.lt;have hgr5:=HG5.out.lt;rw[hw5];clear hw5 hk5 HE HG HV HBr HPr pc1 pf1;have hs5:=HB5.out.size;obtain⟨j6,b6,hsj⟩:=Is.known (f (q+1))
   refine aW 4 6 (λxs=>{tmps:= #[.pointer (some ⟨p,0,none⟩),.int .i64 l,.slice (some ⟨ga,0,none⟩) ops.length c2,undef,undef,undef,.pointer (some ⟨g,0,none⟩),.pointer (some ⟨e,0,none⟩),.int .i64 o,.pointer (some ⟨p,0,none⟩),.int .i64 l,.agg #[.int .i64 k0,.int .i64 op0,.int .i64 z0,.string nm0,.bool at0,.slice A0 n0 c0],.pointer (some ⟨p,0,none⟩),.slice (some ⟨ga,0,none⟩) ops.length c2,.int .i64 u,.int .i64 o,.bool true,u17,u18,u19,.pointer (some ⟨p,0,none⟩),.pointer (some ⟨p,0,none⟩),.pointer (some ⟨p,0,none⟩),.pointer (some ⟨p,1,none⟩),.int .i64 q,.int .i64 ((q:Int)+1),.pointer (some ⟨p,0,none⟩),.pointer (some ⟨p,1,none⟩),(xs 0).getD u28,(xs 1).getD u29,(xs 2).getD u30,(xs 3).getD u31,(xs 4).getD u32,(xs 5).getD u33,undef],defers:=[]})
    (RQ w5 p A c T (q+1) false j6 b6) g
    (λi=>match i with
      |0=>fEq (.int .i64 o)
      |1=>fEq (.agg #[.int .i64 k,.int .i64 op,.int .i64 z,.string nm,.bool at_,.slice A' n c'])
      |2=>fEq (.pointer (some ⟨p,0,none⟩))
      |3=>fEq (.int .i64 l)
      |4=>fEx (NG g (two g e)) (f (q+1)) j6 b6 (λy=>y)
      |_=>fEx (NG g (two g e)) (f (q+1)) j6 b6 (λy=>gK o x y))
    (by
      intro k
      match k with
      |0=>exact fEq.st _ _
      |1=>exact fEq.st _ _
      |2=>exact fEq.st _ _
      |3=>exact fEq.st _ _
      |4=>exact fEx.st
      |_+5=>exact fEx.st)
    (by kernel_rfl) (by kernel_rfl) rfl (by kernel_rfl) (by decide) rfl ⟨(Bx.refl _ _ _).drew,HP5.out.drew⟩ ?_ ?_ ?_
   ·intro i' hi hic b xs W hJ hd;obtain rfl|rfl|rfl|rfl|rfl:i'=0\/i'=1\/i'=2\/i'=3\/i'=5:=by omega
    ·refine AE rfl λK hK=>?_;go_simp;exact hK _ _ ⟨_,rfl,hJ,rfl,Nw.refl _ _⟩
    ·obtain⟨⟨d0,d1,d2,d3,d4,d5⟩,_⟩:=(HE5.out.bx hJ.1 her5 (by omega)).aC;refine AE rfl λK hK=>?_;go_simp;exact hK _ _ ⟨_,rfl,hJ,rfl,Nw.refl _ _⟩
    ·refine AE rfl λK hK=>?_;go_simp;exact hK _ _ ⟨_,rfl,hJ,rfl,Nw.refl _ _⟩
    ·refine AE rfl λK hK=>?_;go_simp;exact hK _ _ ⟨_,rfl,hJ,rfl,Nw.refl _ _⟩
    ·obtain⟨_,h0,rfl⟩:=hd 0;obtain⟨_,h1,rfl⟩:=hd 1;obtain⟨vy,h3,y,hy,hyi⟩:=hd 4
     have HX:=H_ (show ExV W (NG g (two g e) W) x (.agg #[.int .i64 k,.int .i64 op,.int .i64 z,.string nm,.bool at_,.slice A' n c'])from
      ⟨_,rfl,ExC.aA (λb hb=>⟨hb.mono hJ.1.size,hJ.1.block b hb.2.1 (by have:=hb.1;omega)⟩) HV5.out⟩)
     have HY:=H_ (show ExV W (NG g (two g e) W) y vy from hy);have HYI:=H_ hyi;have HJ:=H_ hJ;have hsW:=hJ.1.size;clear hJ hy hd hyi;refine AE rfl λK hK=>?_;go_simp;refine(nd o x y _ vy W _ HX.out HY.out (λb hb=>hb.2.1)).mono ?_;rintro e' w6 ⟨⟨v,rfl,hv⟩,b6'⟩
     exact hK _ _ ⟨v,by simp only[au,h0,h1,h3];rfl,HJ.out.below b6',⟨y,hv.aA (λb hb=>⟨by
      have:=b6'.size;rcases hb with hb|hb
      ·exact hb.mono b6'.size
      ·exact⟨by have:=hb.1;omega,hb.2,λh=>by have:=hb.1;unfold two at h;omega⟩,rfl⟩),HYI.out⟩,Nw.below b6'⟩
   ·intro xs W hJ hd;obtain⟨_,h2,rfl⟩:=hd 2;obtain⟨_,h3,rfl⟩:=hd 3;have hsW:=hJ.1.size;refine AE rfl λK hK=>?_;go_simp;refine ROut.use (HF'.out (q+1) (by omega) p c A false W hJ.2) (λv y j b w6 hv P6 hr hqj b6'=>?_);obtain⟨rfl,rfl⟩:=hsj _ _ _ hr;exact hK _ _ ⟨v,by simp only[au,h2,h3];rfl,⟨hJ.1.aB b6',P6,hqj⟩,⟨y,rvC.aA (λb hb=>⟨⟨by have:=hb.1;omega,hb.2,λh=>by have:=hb.1;unfold two at h;omega⟩,rfl⟩) hv,hr⟩,Nw.of b6' (by omega)⟩
   ·intro xs W hJ hd;obtain⟨_,h0,rfl⟩:=hd 0;obtain⟨_,h1,rfl⟩:=hd 1;obtain⟨_,h2,rfl⟩:=hd 2;obtain⟨_,h3,rfl⟩:=hd 3;obtain⟨v4,h4,_⟩:=hd 4;obtain⟨v5,h5,y,hv5,hyi⟩:=hd 5;obtain⟨k',op',z',nm',at',A4,n4,c4,rfl,hv5'⟩:=ExV.inv hv5;have HEW:=H_ (HE5.out.bx hJ.1 her5 (by omega));have HGW:=H_ (HG5.out.bx hJ.1 hgr5 (by omega));have HJ:=H_ hJ;have HV5':=H_ hv5';have HYI:=H_ hyi;obtain⟨⟨d0,d1,d2,d3,d4,d5⟩,e0,e1,e2,e3,e4,e5⟩:=HEW.out.aC;have hW5:=hJ.1.size;clear hJ hv5 hv5' hd hyi;refine AE rfl λK hK=>?_;go_simp;refine hK _ _ ?_;obtain⟨N1,N2⟩:=eB HEW.out (.int .i64 k') (.int .i64 op') (.int .i64 z') (.string nm') (.bool at') (.slice A4 n4 c4);generalize((((((W.setCell ⟨e,0,none⟩ (.int .i64 k')).setCell ⟨e,1,none⟩ (.int .i64 op')).setCell ⟨e,2,none⟩ (.int .i64 z')).setCell ⟨e,3,none⟩ (.string nm')).setCell ⟨e,4,none⟩ (.bool at')).setCell ⟨e,5,none⟩ (.slice A4 n4 c4))=W2 at N1 N2⊢
    have V7:=H_ (show ExC W2 (NG g (two g e) W2) (gK o x y) [.int .i64 k',.int .i64 op',.int .i64 z',.string nm',.bool at',.slice A4 n4 c4]from
     ExC.aA (λb hb=>⟨hb.mono N2.size,N2.block b hb.2.1 (λh=>hb.2.2 (.inr h))⟩) HV5'.out)
    have HE7:=H_ N1;have HG7:=hbx HGW N2;have HP7:=H_ (HJ.out.2.1.aA N2 (by omega));have hqj:=HJ.out.2.2;have HB7:=H_ ((HB5.out.trans (HJ.out.1.mono (by omega))).put N2 (by omega) (by omega))
    have HQ7:=H_ (show∃m,T.length+1<=m+j6/\dB T f ops i=lif (cp T f ops m (gK o x y)) j6 b6 by
     obtain⟨m,hm,heq⟩:=HEr.out;obtain⟨m,rfl⟩:∃m',m=m'+1:=⟨m-1,by omega⟩;refine⟨m,by omega,?_⟩;rw[heq];have hy:=HYI.out;unfold Is at hy;unfold lif;rw[AL (by decide)]
     conv=>lhs;unfold cp;rw[HSO.out];simp only;rw[hy]
     cases b6<;>rfl)
    have hj6:=HP7.out.lt;have heW:=HE7.out.lt;have hgW:=HG7.out.lt;clear N1 N2 HEW HGW HJ HV5' HE5 HG5 HB5 HP5 HV5 HYI HEr;go_wp2_with fail;refine jI HP7.out (HO.out.bx (hgz▸HB7.out) hga) (λu' w8 hu' P8 b8=>?_);have HE8:=hbx HE7 b8 heW;have HG8:=hbx HG7 b8 hgW;have HP8:=H_ P8;have V8:=H_ (ExC.aA (G':=NG g (two g e) w8) (λb hb=>⟨hb.mono b8.size,b8.block b hb.2.1 (by have:=hb.1;omega)⟩) V7.out);have HB8:=H_ (HB7.out.trans (b8.mono (by have:=HB7.out.size;omega)));have HU8:=H_ hu';clear P8 b8 hu';go_wp2_with fail;go_roundg (T.length-j6)
    case rel=>exact⟨gK o x y,j6,b6,u',k',op',z',nm',at',A4,n4,c4,rfl,rfl,HE8,V8,HG8,HP8,HB8,by omega,HU8,HQ7⟩
    case measure=>omega
theorem eU{fn:Func}{s:Tmp}{tmps:Array Value}{b:Bool}{x:Ex}{G:Nat->Prop}{o0 o1 o2 o3 o4 o5:Value}
 (hf:fn.results= #[.cell s 172]) (hs:tmps.getD s undef= .pointer (some ⟨g,0,none⟩)) (q:Blk W g 172 #[o0,o1,o2,o3,o4,o5]) (hx:ExC W G x [v0,v1,v2,v3,v4,v5])
 (hG:∀b,G b->g<b/\b<W.heap.size) (hP:RS W p A c T j b) (hr:Is r x j b) (hij:i<=j) (hB:Bx g p w W) (hg:w.heap.size=g) (hp:p<g):
 bodyPost Tryz.prog fn (ROut rvE p A c T w i r) .ret {tmps:=tmps,defers:=[]} ((((((W.setCell ⟨g,0,none⟩ v0).setCell ⟨g,1,none⟩ v1).setCell ⟨g,2,none⟩ v2).setCell ⟨g,3,none⟩ v3).setCell ⟨g,4,none⟩ v4).setCell ⟨g,5,none⟩ v5):=by
 obtain⟨N1,N2⟩:=eB q v0 v1 v2 v3 v4 v5;have hgl:=q.lt;refine eG hf hs N1 ⟨_,x,j,b,rfl,⟨_,rfl,hx.aA (λk hk=>⟨⟨by rw[hg];exact Be (hG k hk).1,AF (hG k hk).2 N2.size⟩,N2.block k (hG k hk).2 (by have:=(hG k hk).1;omega)⟩)⟩,hP.aA N2 (by omega),hr,hij,?_⟩;subst hg;exact hB.put N2 (AB _) (AB _)
theorem lv(w:World)(G:Nat->Prop)(k z:Int)(s:ByteArray):ExC w G (.mk k 0 z s false []) [.int .i64 k,.int .i64 0,.int .i64 z,.string s,.bool false,.slice none 0 0]:=ExC.of k 0 z s false 0 (Sl.nil _ _ _)
theorem gF{t:TypeId}{cs:Array Value}(ops:List Nat)(hc:cs=(ops.map λ(o:Nat)=>Value.int .i64 (o:Int)).toArray)(h:∀o∈ops,o<13)(hl:ops.length<=13):IntsAt (w.alloc (.cells cs t)) w.heap.size ops:=by
 subst hc;refine⟨by simp,hl,λj o hj=>⟨h o (AJ hj),?_⟩⟩;rw[(Blk.new w t _).cell j];simp[hj]
theorem Is.pref{k:Int}{x:Ex}{b:Bool}(h:Is (lif (rec l) i false) x j b):Is (eE rec k l i) (eUn k x) j b:=by
 have h':rec l i=if b=true then .bad j else .ok x j:=h;unfold Is eE;rw[h'];cases b<;>rfl
theorem cG{c:Bool}{a b:R α}(h:c=true):(if c=true then a else b)=a:=AP h
theorem az{c:Bool}{a b:R α}(h:c=false):(if c=true then a else b)=b:=AL (by rw[h];decide)
theorem eI(p c i:Nat)(A:Option Addr)(T:List Tk)(l:Int)(w:World)(h:RS w p A c T i true):Calls Tryz.prog 258 #[.pointer (some ⟨p,0,none⟩),.int .i64 l] w (ROut rvE p A c T w i (.bad i)):=by
 have hp:=h.aG.lt;obtain⟨w0,hw0,q0,b0,P0⟩:=m8 h;have Q0:=H_ q0;have B0:=H_ b0;have HP0:=H_ P0;have c2:=P0.aG.k2;clear h q0 b0 P0;go_enter Tryz.func258,Tryz.ntmps258;go_upto_region 1 with(fail);have hsz:=B0.out.size;have hg0:=Q0.out.lt;obtain⟨g,hgz⟩:=nm_ (w.heap.size);rw[hgz]at Q0 hg0⊢;clear hw0;obtain⟨⟨d0,d1,d2,d3,d4,d5⟩,f0,f1,f2,f3,f4,f5⟩:=Q0.out.aC;go_wp2_with fail;exact eU rfl (by simp) Q0.out (lv _ (λ_=>False) 0 0 ⟨#[]⟩) (λb hb=>hb.elim) HP0.out (Is.bad (lJ 0) rfl) (AB _) (hgz▸B0.out) hgz (by omega)
theorem zi(HF:∀j,i<=j->EAt T f 1 j):EAt T (dB T f oOr) 0 i:=by
 intro p c A b w h;cases b with
 |true=>exact eI p c i A T 0 w h
 |false=>
  have HF':=H_ HF;clear HF;have hp:=h.aG.lt;obtain⟨w0,hw0,q0,b0,P0⟩:=m8 h;have Q0:=H_ q0;have B0:=H_ b0;have HP0:=H_ P0;have c2:=P0.aG.k2;clear h q0 b0 P0;go_enter Tryz.func258,Tryz.ntmps258;go_upto_region 1 with(fail);have hsz:=B0.out.size;have hg0:=Q0.out.lt;obtain⟨g,hgz⟩:=nm_ (w.heap.size);rw[hgz]at Q0 hg0⊢;clear hw0;go_wp2_with fail;refine ROut.use (kP (ops:=oOr) HF'.out p c A _ (HP0.out.below ((AC _ _).alloc (AB _) _)) (gF oOr rfl (by unfold oOr;decide) (by unfold oOr;decide)) (by omega)) (λv x j b1 w1 hv P1 hr hij b1x=>?_);have hb1:=b1x.size;rw[AR]at hb1;have Q1:=H_ ((Q0.out.alloc _).bx b1x (by rw[AR];omega) (by omega));have B1:=H_ ((B0.out.new _ (AB _)).aB b1x);have HP1:=H_ P1;obtain⟨k0,op0,z0,nm0,at0,A0,n0,c0,rfl,hv'⟩:=ExV.inv hv;have HV:=H_ hv';have HR:=H_ hr;clear hv hv' hr Q0 B0 HP0 P1 b1x c2;have hgW:=Q1.out.lt;obtain⟨⟨d0,d1,d2,d3,d4,d5⟩,f0,f1,f2,f3,f4,f5⟩:=Q1.out.aC;go_wp2_with fail;exact eU rfl (by simp) Q1.out HV.out (λb hb=>⟨by have:=hb.1;rw[AR]at this;omega,hb.2⟩) HP1.out HR.out (hij) (hgz▸B1.out) hgz (by omega)
theorem xw(HF:∀j,i<=j->EAt T f 2 j):EAt T (dB T f oW) 1 i:=by
 intro p c A b w h;cases b with
 |true=>exact eI p c i A T 1 w h
 |false=>
  have HF':=H_ HF;clear HF;have hp:=h.aG.lt;obtain⟨w0,hw0,q0,b0,P0⟩:=m8 h;have Q0:=H_ q0;have B0:=H_ b0;have HP0:=H_ P0;have c2:=P0.aG.k2;clear h q0 b0 P0;go_enter Tryz.func258,Tryz.ntmps258;go_upto_region 1 with(fail);have hsz:=B0.out.size;have hg0:=Q0.out.lt;obtain⟨g,hgz⟩:=nm_ (w.heap.size);rw[hgz]at Q0 hg0⊢;clear hw0;go_wp2_with fail;refine ROut.use (kP (ops:=oW) HF'.out p c A _ (HP0.out.below ((AC _ _).alloc (AB _) _)) (gF oW rfl (by unfold oW;decide) (by unfold oW;decide)) (by omega)) (λv x j b1 w1 hv P1 hr hij b1x=>?_);have hb1:=b1x.size;rw[AR]at hb1;have Q1:=H_ ((Q0.out.alloc _).bx b1x (by rw[AR];omega) (by omega));have B1:=H_ ((B0.out.new _ (AB _)).aB b1x);have HP1:=H_ P1;obtain⟨k0,op0,z0,nm0,at0,A0,n0,c0,rfl,hv'⟩:=ExV.inv hv;have HV:=H_ hv';have HR:=H_ hr;clear hv hv' hr Q0 B0 HP0 P1 b1x c2;have hgW:=Q1.out.lt;obtain⟨⟨d0,d1,d2,d3,d4,d5⟩,f0,f1,f2,f3,f4,f5⟩:=Q1.out.aC;go_wp2_with fail;exact eU rfl (by simp) Q1.out HV.out (λb hb=>⟨by have:=hb.1;rw[AR]at this;omega,hb.2⟩) HP1.out HR.out (hij) (hgz▸B1.out) hgz (by omega)
theorem xr(HF:∀j,i<=j->EAt T f 5 j):EAt T (dB T f oT) 4 i:=by
 intro p c A b w h;cases b with
 |true=>exact eI p c i A T 4 w h
 |false=>
  have HF':=H_ HF;clear HF;have hp:=h.aG.lt;obtain⟨w0,hw0,q0,b0,P0⟩:=m8 h;have Q0:=H_ q0;have B0:=H_ b0;have HP0:=H_ P0;have c2:=P0.aG.k2;clear h q0 b0 P0;go_enter Tryz.func258,Tryz.ntmps258;go_upto_region 1 with(fail);have hsz:=B0.out.size;have hg0:=Q0.out.lt;obtain⟨g,hgz⟩:=nm_ (w.heap.size);rw[hgz]at Q0 hg0⊢;clear hw0;go_wp2_with fail;refine ROut.use (kP (ops:=oT) HF'.out p c A _ (HP0.out.below ((AC _ _).alloc (AB _) _)) (gF oT rfl (by unfold oT;decide) (by unfold oT;decide)) (by omega)) (λv x j b1 w1 hv P1 hr hij b1x=>?_);have hb1:=b1x.size;rw[AR]at hb1;have Q1:=H_ ((Q0.out.alloc _).bx b1x (by rw[AR];omega) (by omega));have B1:=H_ ((B0.out.new _ (AB _)).aB b1x);have HP1:=H_ P1;obtain⟨k0,op0,z0,nm0,at0,A0,n0,c0,rfl,hv'⟩:=ExV.inv hv;have HV:=H_ hv';have HR:=H_ hr;clear hv hv' hr Q0 B0 HP0 P1 b1x c2;have hgW:=Q1.out.lt;obtain⟨⟨d0,d1,d2,d3,d4,d5⟩,f0,f1,f2,f3,f4,f5⟩:=Q1.out.aC;go_wp2_with fail;exact eU rfl (by simp) Q1.out HV.out (λb hb=>⟨by have:=hb.1;rw[AR]at this;omega,hb.2⟩) HP1.out HR.out (hij) (hgz▸B1.out) hgz (by omega)
theorem xu(HF:∀j,i<=j->EAt T f 6 j):EAt T (dB T f oU) 5 i:=by
 intro p c A b w h;cases b with
 |true=>exact eI p c i A T 5 w h
 |false=>
  have HF':=H_ HF;clear HF;have hp:=h.aG.lt;obtain⟨w0,hw0,q0,b0,P0⟩:=m8 h;have Q0:=H_ q0;have B0:=H_ b0;have HP0:=H_ P0;have c2:=P0.aG.k2;clear h q0 b0 P0;go_enter Tryz.func258,Tryz.ntmps258;go_upto_region 1 with(fail);have hsz:=B0.out.size;have hg0:=Q0.out.lt;obtain⟨g,hgz⟩:=nm_ (w.heap.size);rw[hgz]at Q0 hg0⊢;clear hw0;go_wp2_with fail;refine ROut.use (kP (ops:=oU) HF'.out p c A _ (HP0.out.below ((AC _ _).alloc (AB _) _)) (gF oU rfl (by unfold oU;decide) (by unfold oU;decide)) (by omega)) (λv x j b1 w1 hv P1 hr hij b1x=>?_);have hb1:=b1x.size;rw[AR]at hb1;have Q1:=H_ ((Q0.out.alloc _).bx b1x (by rw[AR];omega) (by omega));have B1:=H_ ((B0.out.new _ (AB _)).aB b1x);have HP1:=H_ P1;obtain⟨k0,op0,z0,nm0,at0,A0,n0,c0,rfl,hv'⟩:=ExV.inv hv;have HV:=H_ hv';have HR:=H_ hr;clear hv hv' hr Q0 B0 HP0 P1 b1x c2;have hgW:=Q1.out.lt;obtain⟨⟨d0,d1,d2,d3,d4,d5⟩,f0,f1,f2,f3,f4,f5⟩:=Q1.out.aC;go_wp2_with fail;exact eU rfl (by simp) Q1.out HV.out (λb hb=>⟨by have:=hb.1;rw[AR]at this;omega,hb.2⟩) HP1.out HR.out (hij) (hgz▸B1.out) hgz (by omega)
theorem xt(H2:EAt T (rec 2) 2 (i+1))(H3:EAt T (bN T rec) 3 i):EAt T (gk T rec) 2 i:=by
 intro p c A b w h;cases b with
 |true=>exact eI p c i A T 2 w h
 |false=>
  have H2':=H_ H2;have H3':=H_ H3;clear H2 H3;have hp:=h.aG.lt;obtain⟨w0,hw0,q0,b0,P0⟩:=m8 h;have Q0:=H_ q0;have B0:=H_ b0;have HP0:=H_ P0;have c2:=P0.aG.k2;clear h q0 b0 P0;go_enter Tryz.func258,Tryz.ntmps258;go_upto_region 1 with(fail);have hsz:=B0.out.size;have hg0:=Q0.out.lt;obtain⟨g,hgz⟩:=nm_ (w.heap.size);rw[hgz]at Q0 hg0⊢;clear hw0;go_wp2_with fail;refine am HP0.out nQ (λ_ ht w1 P1 b1=>?_) (λht w1 P1 b1=>?_)
  ·have Q1:=hbx Q0 b1 hg0;have B1:=hth B0 b1;have HP1:=H_ P1;have HT:=H_ ht;have hb1:=b1.size;clear ht P1 b1 Q0 B0 HP0 c2;go_wp2_with fail;refine ROut.use (H2'.out p c A false w1 HP1.out) (λv x j b2 w2 hv P2 hr hij b2x=>?_);obtain⟨hb2,B2,Q2,-⟩:=fr1 B1 Q1 b2x;have HP2:=H_ P2;have HV:=H_ (show ExV w2 (Fr w1 w2) x v from hv);have HR:=H_ (show Is (gk T rec i) (eUn 9 x) j b2 by unfold gk;rw[cG HT.out];exact Is.pref hr);clear hv hr P2 b2x Q1 B1 HP1;go_wp2_with fail;refine(iH 9 x v w2 _ HV.out (λb hb=>hb.2)).mono ?_;rintro e w3 ⟨⟨v3,rfl,hv3⟩,b3⟩;have hb3:=b3.size;have Q3:=H_ (Q2.out.below b3 (by omega));have B3:=H_ (B2.out.aB (Bx.of b3));have HP3:=H_ (HP2.out.below b3);obtain⟨k0,op0,z0,nm0,at0,A0,n0,c0,rfl,hv'⟩:=ExV.inv hv3;have HV3:=H_ hv';clear hv3 hv' b3 Q2 B2 HP2 HV;have hgW:=Q3.out.lt;obtain⟨⟨d0,d1,d2,d3,d4,d5⟩,f0,f1,f2,f3,f4,f5⟩:=Q3.out.aC;go_wp2_with fail;exact eU rfl (by simp) Q3.out HV3.out (λb hb=>⟨by rcases hb with hb|hb<;>(have:=hb.1;omega),by rcases hb with hb|hb<;>(have:=hb.2;omega)⟩) HP3.out HR.out (by omega) (hgz▸B3.out) hgz (by omega)
  ·have Q1:=hbx Q0 b1 hg0;have B1:=hth B0 b1;have HP1:=H_ P1;have HT:=H_ (show isT T nQ i=false from by rcases ht with h|h;cases h;exact h);have hb1:=b1.size;clear ht P1 b1 Q0 B0 HP0 c2;go_wp2_with fail;refine ROut.use (H3'.out p c A false w1 HP1.out) (λv x j b2 w2 hv P2 hr hij b2x=>?_);obtain⟨hb2,B2,Q2,-⟩:=fr1 B1 Q1 b2x;have HP2:=H_ P2;obtain⟨k0,op0,z0,nm0,at0,A0,n0,c0,rfl,hv'⟩:=ExV.inv hv;have HV:=H_ hv';have HR:=H_ (show Is (gk T rec i) x j b2 by unfold gk;rw[az HT.out];exact hr);clear hv hv' hr P2 b2x Q1 B1 HP1;have hgW:=Q2.out.lt;obtain⟨⟨d0,d1,d2,d3,d4,d5⟩,f0,f1,f2,f3,f4,f5⟩:=Q2.out.aC;go_wp2_with fail;exact eU rfl (by simp) Q2.out HV.out (λb hb=>⟨by have:=hb.1;omega,hb.2⟩) HP2.out HR.out (by omega) (hgz▸B2.out) hgz (by omega)
theorem zh(H6:EAt T (rec 6) 6 (i+1))(H7:EAt T (bD T rec) 7 i):EAt T (bS T rec) 6 i:=by
 intro p c A b w h;cases b with
 |true=>exact eI p c i A T 6 w h
 |false=>
  have H6':=H_ H6;have H7':=H_ H7;clear H6 H7;have hp:=h.aG.lt;obtain⟨w0,hw0,q0,b0,P0⟩:=m8 h;have Q0:=H_ q0;have B0:=H_ b0;have HP0:=H_ P0;have c2:=P0.aG.k2;clear h q0 b0 P0;go_enter Tryz.func258,Tryz.ntmps258;go_upto_region 1 with(fail);have hsz:=B0.out.size;have hg0:=Q0.out.lt;obtain⟨g,hgz⟩:=nm_ (w.heap.size);rw[hgz]at Q0 hg0⊢;clear hw0;go_wp2_with fail;refine am HP0.out ey (λ_ ht w1 P1 b1=>?_) (λht w1 P1 b1=>?_)
  ·have Q1:=hbx Q0 b1 hg0;have B1:=hth B0 b1;have HP1:=H_ P1;have HT1:=H_ ht;have hb1:=b1.size;clear ht P1 b1 Q0 B0 HP0 c2;go_wp2_with fail;refine ROut.use (H6'.out p c A false w1 HP1.out) (λv x j b2 w8 hv P8 hr hij b8=>?_);obtain⟨hb8,B8,Q8,-⟩:=fr1 B1 Q1 b8;have HP8:=H_ P8;have HV:=H_ (show ExV w8 (Fr w1 w8) x v from hv);have HR:=H_ (show Is (bS T rec i) (eUn 8 x) j b2 by unfold bS;rw[cG HT1.out];exact Is.pref hr);clear hv hr P8 b8 Q1 B1 HP1;go_wp2_with fail;refine(iH 8 x v w8 _ HV.out (λb hb=>hb.2)).mono ?_;rintro e w9 ⟨⟨v9,rfl,hv9⟩,b9⟩;have hb9:=b9.size;have Q9:=H_ (Q8.out.below b9 (by omega));have B9:=H_ (B8.out.aB (Bx.of b9));have HP9:=H_ (HP8.out.below b9);obtain⟨k0,op0,z0,nm0,at0,A0,n0,c0,rfl,hv'⟩:=ExV.inv hv9;have HV9:=H_ hv';clear hv9 hv' b9 Q8 B8 HP8 HV;have hgW:=Q9.out.lt;obtain⟨⟨d0,d1,d2,d3,d4,d5⟩,f0,f1,f2,f3,f4,f5⟩:=Q9.out.aC;go_wp2_with fail;exact eU rfl (by simp) Q9.out HV9.out (λb hb=>⟨by rcases hb with hb|hb<;>(have:=hb.1;omega),by rcases hb with hb|hb<;>(have:=hb.2;omega)⟩) HP9.out HR.out (by omega) (hgz▸B9.out) hgz (by omega)
  ·have Q1:=hbx Q0 b1 hg0;have B1:=hth B0 b1;have HP1:=H_ P1;have HT1:=H_ (show isT T ey i=false from by rcases ht with h|h;cases h;exact h);have hb1:=b1.size;clear ht P1 b1 Q0 B0 HP0 c2;go_wp2_with fail;refine am HP1.out fF (λ_ ht w2 P2 b2=>?_) (λht w2 P2 b2=>?_)
   ·have Q2:=hbx Q1 b2;have B2:=hth B1 b2;have HP2:=H_ P2;have HT2:=H_ ht;have hb2:=b2.size;clear ht P2 b2 Q1 B1 HP1;go_wp2_with fail;refine ROut.use (H6'.out p c A false w2 HP2.out) (λv x j b2 w8 hv P8 hr hij b8=>?_);obtain⟨hb8,B8,Q8,-⟩:=fr1 B2 Q2 b8;have HP8:=H_ P8;have HV:=H_ (show ExV w8 (Fr w2 w8) x v from hv);have HR:=H_ (show Is (bS T rec i) (eUn 6 x) j b2 by unfold bS;rw[az HT1.out,cG HT2.out];exact Is.pref hr);clear hv hr P8 b8 Q2 B2 HP2;go_wp2_with fail;refine(iH 6 x v w8 _ HV.out (λb hb=>hb.2)).mono ?_;rintro e w9 ⟨⟨v9,rfl,hv9⟩,b9⟩;have hb9:=b9.size;have Q9:=H_ (Q8.out.below b9 (by omega));have B9:=H_ (B8.out.aB (Bx.of b9));have HP9:=H_ (HP8.out.below b9);obtain⟨k0,op0,z0,nm0,at0,A0,n0,c0,rfl,hv'⟩:=ExV.inv hv9;have HV9:=H_ hv';clear hv9 hv' b9 Q8 B8 HP8 HV;have hgW:=Q9.out.lt;obtain⟨⟨d0,d1,d2,d3,d4,d5⟩,f0,f1,f2,f3,f4,f5⟩:=Q9.out.aC;go_wp2_with fail;exact eU rfl (by simp) Q9.out HV9.out (λb hb=>⟨by rcases hb with hb|hb<;>(have:=hb.1;omega),by rcases hb with hb|hb<;>(have:=hb.2;omega)⟩) HP9.out HR.out (by omega) (hgz▸B9.out) hgz (by omega)
   ·have Q2:=hbx Q1 b2;have B2:=hth B1 b2;have HP2:=H_ P2;have HT2:=H_ (show isT T fF i=false from by rcases ht with h|h;cases h;exact h);have hb2:=b2.size;clear ht P2 b2 Q1 B1 HP1;go_wp2_with fail;refine am HP2.out nS (λ_ ht w3 P3 b3=>?_) (λht w3 P3 b3=>?_)
    ·have Q3:=hbx Q2 b3;have B3:=hth B2 b3;have HP3:=H_ P3;have HT3:=H_ ht;have hb3:=b3.size;clear ht P3 b3 Q2 B2 HP2;go_wp2_with fail;refine ROut.use (H6'.out p c A false w3 HP3.out) (λv x j b2 w8 hv P8 hr hij b8=>?_);obtain⟨hb8,B8,Q8,-⟩:=fr1 B3 Q3 b8;have HP8:=H_ P8;have HV:=H_ (show ExV w8 (Fr w3 w8) x v from hv);have HR:=H_ (show Is (bS T rec i) (eUn 7 x) j b2 by unfold bS;rw[az HT1.out,az HT2.out,cG HT3.out];exact Is.pref hr);clear hv hr P8 b8 Q3 B3 HP3;go_wp2_with fail;refine(iH 7 x v w8 _ HV.out (λb hb=>hb.2)).mono ?_;rintro e w9 ⟨⟨v9,rfl,hv9⟩,b9⟩;have hb9:=b9.size;have Q9:=H_ (Q8.out.below b9 (by omega));have B9:=H_ (B8.out.aB (Bx.of b9));have HP9:=H_ (HP8.out.below b9);obtain⟨k0,op0,z0,nm0,at0,A0,n0,c0,rfl,hv'⟩:=ExV.inv hv9;have HV9:=H_ hv';clear hv9 hv' b9 Q8 B8 HP8 HV;have hgW:=Q9.out.lt;obtain⟨⟨d0,d1,d2,d3,d4,d5⟩,f0,f1,f2,f3,f4,f5⟩:=Q9.out.aC;go_wp2_with fail;exact eU rfl (by simp) Q9.out HV9.out (λb hb=>⟨by rcases hb with hb|hb<;>(have:=hb.1;omega),by rcases hb with hb|hb<;>(have:=hb.2;omega)⟩) HP9.out HR.out (by omega) (hgz▸B9.out) hgz (by omega)
    ·have Q3:=hbx Q2 b3;have B3:=hth B2 b3;have HP3:=H_ P3;have HT3:=H_ (show isT T nS i=false from by rcases ht with h|h;cases h;exact h);have hb3:=b3.size;clear ht P3 b3 Q2 B2 HP2;go_wp2_with fail;refine ROut.use (H7'.out p c A false w3 HP3.out) (λv x j b2 w8 hv P8 hr hij b8=>?_);obtain⟨hb8,B8,Q8,-⟩:=fr1 B3 Q3 b8;have HP8:=H_ P8;obtain⟨k0,op0,z0,nm0,at0,A0,n0,c0,rfl,hv'⟩:=ExV.inv hv;have HV:=H_ hv';have HR:=H_ (show Is (bS T rec i) x j b2 by unfold bS;rw[az HT1.out,az HT2.out,az HT3.out];exact hr);clear hv hv' hr P8 b8 Q3 B3 HP3;have hgW:=Q8.out.lt;obtain⟨⟨d0,d1,d2,d3,d4,d5⟩,f0,f1,f2,f3,f4,f5⟩:=Q8.out.aC;go_wp2_with fail;exact eU rfl (by simp) Q8.out HV.out (λb hb=>⟨by have:=hb.1;omega,hb.2⟩) HP8.out HR.out (by omega) (hgz▸B8.out) hgz (by omega)
set_option pp.deepTerms true
set_option pp.maxSteps 10000000
theorem ge(hr:(execOp a.eval o).run P w= .ok (.value v) w')(h:K (a.put o.dst v) w'):Oper.wp P o a w K Q:=by
 unfold Oper.wp;rw[hr];exact h
theorem iT{t:TypeId}(ho:o.op= .load t x)(hx:a.eval x=v)(hr:(Instr.loadAt t v).run P w= .ok u w')(h:K (a.put o.dst u) w'):Oper.wp P o a w K Q:=
 ge (by simp only[execOp,ho,BC,Bv,hx,hr,Bi]) h
theorem ja{e:Nat}(h:Blk w e 172 #[v0,v1,v2,v3,v4,v5]):(Instr.loadAt 172 (.pointer (some ⟨e,0,none⟩))).run Tryz.prog w= .ok (.agg #[v0,v1,v2,v3,v4,v5]) w:=by
 have h1:=De (P:=Tryz.prog) w e 172 172 _ (0,0) _ h Tryz.underlying172 rfl rP;simp[Instr.loadAt,Instr.sureAddr,asAddr,Result.andThen,h1]
theorem ip{t:TypeId}(ho:o.op= .buildSlice t n #[(i,x)])(hx:a.eval x=v)(hr:(Instr.buildSlice t n #[(i,v)]).run P w= .ok u w')(h:K (a.put o.dst u) w'):Oper.wp P o a w K Q:=
 ge (by simp only[execOp,ho,BC,Bv,Cm,BG,Ct,hx,hr,Bi]) h
theorem nF(w:World)(u0 u1 u2 u3 u4 u5:Value):
 (Instr.buildSlice 166 1 #[(0,.agg #[u0,u1,u2,u3,u4,u5])]).run Tryz.prog w= .ok (.slice (some ⟨w.heap.size,0,none⟩) 1 1) (w.alloc (.cells #[u0,u1,u2,u3,u4,u5] 172)):=by
 kernel_rfl
theorem qC{t:TypeId}{s:Operand}{r:Value}(ho:o.op= .build t #[(i,x),(j,y),(k,s)])(hx:a.eval x=v)(hy:a.eval y=z)(hs:a.eval s=r)(hr:(Instr.build t #[(i,v),(j,z),(k,r)]).run P w= .ok u w')(h:K (a.put o.dst u) w'):Oper.wp P o a w K Q:=
 ge (by simp only[execOp,ho,BC,Bv,Cm,BG,Ct,hx,hy,hs,hr,Bi]) h
theorem yY{t:TypeId}(ho:o.op= .build t #[(i,x),(j,y)])(hx:a.eval x=v)(hy:a.eval y=z)(hr:(Instr.build t #[(i,v),(j,z)]).run P w= .ok u w')(h:K (a.put o.dst u) w'):Oper.wp P o a w K Q:=
 ge (by simp only[execOp,ho,BC,Bv,Cm,BG,Ct,hx,hy,hr,Bi]) h
theorem qB{t:TypeId}(ho:o.op= .buildSlice t n #[(i,x),(j,y)])(hx:a.eval x=v)(hy:a.eval y=z)(hr:(Instr.buildSlice t n #[(i,v),(j,z)]).run P w= .ok u w')(h:K (a.put o.dst u) w'):Oper.wp P o a w K Q:=
 ge (by simp only[execOp,ho,BC,Bv,Cm,BG,Ct,hx,hy,hr,Bi]) h
theorem kK(ho:o.op= .move x)(hx:a.eval x=v)(h:K (a.put o.dst v) w):Oper.wp P o a w K Q:=
 ge (by simp only[execOp,ho,Bv,hx]) h
theorem lp{t:TypeId}{f:Nat}(ho:o.op= .field t x f)(hx:a.eval x=v)(hr:(Instr.field t v f).run P w= .ok u w')(h:K (a.put o.dst u) w'):Oper.wp P o a w K Q:=
 ge (by simp only[execOp,ho,BC,Bv,hx,hr,Bi]) h
theorem cV{t:Array TypeId}(ho:o.op= .call {callee:= .value (.func n),args:= #[x,y],argTypes:=t})(hx:a.eval x=v)(hy:a.eval y=u)
 (he:(callFunc n #[v,u]).run P w= .ok (.enter n #[v,u]) w) (h:Calls P n #[v,u] w λe w''=>match e,w'' with
   | .returned u,w''=>K (a.put o.dst u) w''
   | .panicked chain,w''=>Q (.panic chain) a w''
   | .outgrown,_=>LetsOut Q):Oper.wp P o a w K Q:=by
 have hr:(execOp a.eval o).run P w= .ok (.enter n #[v,u]) w:=by
  have hf:a.eval (.func n)= .func (.func n) #[] #[]:=rfl;simp[execOp,ho,resolve,invoke,hx,hy,hf,he,BC,Bv,Deferred.ofValue]
 unfold Oper.wp;rw[hr];exact h
theorem um(w:World)(k:Int)(s:ByteArray)(A:Option Addr)(n c:Nat):(Instr.build 172 #[(0,.int .i64 k),(3,.string s),(5,.slice A n c)]).run Tryz.prog w= .ok (.agg #[.int .i64 k,.int .i64 0,.int .i64 0,.string s,.bool false,.slice A n c]) w:=by kernel_rfl
theorem wW{c2:Nat}{b:Bool}{Q:Ending->World->Prop}(hn:ops.length=n)(h:RS w p A c T i b)(ho:IntsAt w g ops)
 (hk:∀u w',zM T ops i b u->RS w' p A c T i b->Bx w.heap.size p w w'->Q (.returned (.int .i64 u)) w'):
 Calls Tryz.prog 281 #[.pointer (some ⟨p,0,none⟩),.slice (some ⟨g,0,none⟩) n c2] w Q:=by
 subst hn;exact jI h ho hk
theorem xv(H4:∀j,i<=j->EAt T (fp T rec) 4 j):EAt T (bN T rec) 3 i:=by
 intro p c A b w h;cases b with
 |true=>exact eI p c i A T 3 w h
 |false=>
  have H4':=H_ H4;clear H4;have hp:=h.aG.lt;obtain⟨w0,hw0,q0,b0,P0⟩:=m8 h;have Q0:=H_ q0;have B0:=H_ b0;have HP0:=H_ P0;have c2:=P0.aG.k2;clear h q0 b0 P0;go_enter Tryz.func258,Tryz.ntmps258;go_upto_region 1 with(fail);have hsz:=B0.out.size;have hg0:=Q0.out.lt;obtain⟨g,hgz⟩:=nm_ (w.heap.size);rw[hgz]at Q0 hg0⊢;clear hw0;go_wp2_with fail;refine ROut.use (H4'.out i (AB _) p c A false w0 HP0.out) (λv x j b1 w1 hv P1 hr hij b1x=>?_);obtain⟨hb1x,B1,Q1,hg1⟩:=fr1 B0 Q0 b1x;have HP1:=H_ P1;obtain⟨k,op,z,nm,at_,A',n,c',rfl,hv'⟩:=ExV.inv hv;have HV:=H_ hv';have HR1:=H_ hr;clear hv hv' hr Q0 B0 HP0 P1 b1x c2;go_wp2_with fail;obtain⟨e,hez⟩:=nm_ (w1.heap.size);rw[hez];obtain⟨w2,hw2⟩:=nm_ (w1.alloc (.cells #[.int .i64 k,.int .i64 op,.int .i64 z,.string nm,.bool at_,.slice A' n c'] 172));have b2:=bal hw2;have Q2:=H_ (Q1.out.below b2 hg1);have E2:=H_ (show Blk w2 e 172 _ from hw2▸hez▸Blk.new w1 172 #[.int .i64 k,.int .i64 op,.int .i64 z,.string nm,.bool at_,.slice A' n c']);have B2:=H_ (B1.out.aB (Bx.of b2));have HP2:=H_ (HP1.out.below b2);have V2:=H_ (ExC.aA (G':=NG g (two g e) w2) (λb hb=>⟨⟨by have:=hb.1;omega,AF hb.2 b2.size,λh=>by have:=hb.1;have:=hb.2;unfold two at h;omega⟩,b2.block b hb.2⟩) HV.out);have heT:=E2.out.lt;have hgT:=Q2.out.lt;have hz2:w2.heap.size=e+1:=by rw[<-hw2,AR,hez]
  rw[hw2];clear hw2 b2 Q1 B1 HP1 HV;obtain⟨wi,hwi⟩:=nm_ (w2.alloc (.cells #[.int .i64 5,.int .i64 6,.int .i64 7,.int .i64 8,.int .i64 9,.int .i64 10] 3));have hsi:wi.heap.size=w2.heap.size+1:=by rw[<-hwi];exact AR _ _
  have hbi:=bal hwi;have hoi:IntsAt wi (e+1) oV:=by rw[<-hz2,<-hwi];exact gF oV rfl (by unfold oV;decide) (by unfold oV;decide)
  rw[hwi];clear hwi;refine wW (ops:=oV) (n:=6) rfl (HP2.out.below hbi) hoi (λu w3 hu P3 b3=>?_);have hb3:=b3.size;have HG3:=H_ ((Q2.out.below hbi hgT).bx b3 (by omega) (by omega));have HE3:=H_ ((E2.out.below hbi heT).bx b3 (by omega) (by omega));have HB3:=H_ (show Bx g p w w3 from hgz▸(B2.out.aB (Bx.of hbi)).aB b3);have HP3:=H_ P3;have HV3:=H_ (ExC.aA (G':=NG g (two g e) w3) (λb hb=>⟨hb.mono (by omega),(b3.block b (by have:=hb.2.1;omega) (by have:=hb.1;omega)).trans (hbi.block b hb.2.1)⟩) V2.out);clear hoi hbi;have her3:=HE3.out.lt;have hgr3:=HG3.out.lt;clear Q2 E2 B2 HP2 V2 P3 b3;rcases hu with⟨rfl,hno⟩|⟨o,rfl,rfl,hso⟩
  ·have HR:=H_ (show Is (bN T rec i) x j b1 by
    have h1:fp T rec i=if b1=true then .bad j else .ok x j:=HR1.out;unfold Is bN;rw[h1];cases b1 with
    |true=>rfl
    |false=>
     rcases hno with h|h
     ·cases h
     ·simp only[AU,BO];rw[h])
   obtain⟨c0',c1',c2',c3',c4',c5'⟩:=HE3.out.aC.1;clear hno HR1;have hgW:=HG3.out.lt;obtain⟨⟨d0,d1,d2,d3,d4,d5⟩,f0,f1,f2,f3,f4,f5⟩:=HG3.out.aC;go_wp2_with fail;exact eU rfl (by simp) HG3.out HV3.out (λb hb=>⟨by have:=hb.1;have:=hb.2.2;unfold two at this;omega,hb.2.1⟩) HP3.out HR.out (by omega) (HB3.out) hgz (by omega)
  ·have HQN:=H_ (oQ HP3.out.wf HP3.out.lt hso);have HSO:=H_ hso;have hqT:=HP3.out.lt;have hqn:=HP3.out.wf.few;have ho0:0<=(o:Int):=by omega
   have pc1:=HP3.out.aG.k1;have pf1:=HP3.out.aG.frozen 1;clear hso;go_upto_region 5 with fail;obtain⟨w5,hw5⟩:=nm_ (w3.setCell ⟨p,1,none⟩ (.int .i64 ((j:Int)+1)));have hk5:Bx w3.heap.size p w3 w5:=hw5▸(Bx.refl _ _ _).setCell (q:=⟨p,1,none⟩) (.inr rfl) _;have HP5:=H_ (show RS w5 p A c T (j+1) false from by have:=HP3.out.move HQN.out;simp only[Ce,Ca]at this;rw[hw5]at this;exact this);obtain⟨-,HE5,-,HG5,-⟩:=fn2 HE3 HG3 hk5;have HV5:=H_ (ExC.aA (G':=NG g (two g e) w5) (λb hb=>⟨hb.mono hk5.size,hk5.block b hb.2.1 (by have:=hb.1;omega)⟩) HV3.out);have HB5:=H_ (HB3.out.trans (hk5.mono (by have:=HB3.out.size;omega)));have her5:=HE5.out.lt;have hgr5:=HG5.out.lt;rw[hw5];clear hw5 hk5 HE3 HG3 HV3 HB3 HP3 pc1 pf1;have hs5:=HB5.out.size;obtain⟨j6,b6,hsj⟩:=Is.known (fp T rec (j+1))
   refine aW 3 5 (λxs=>{tmps:= #[.pointer (some ⟨p,0,none⟩),.int .i64 3,undef,undef,.pointer (some ⟨g,0,none⟩),.pointer (some ⟨e,0,none⟩),.int .i64 ↑o,undef,.pointer (some ⟨p,0,none⟩),.pointer (some ⟨p,0,none⟩),.pointer (some ⟨p,2,none⟩),.bool false,undef,.int .i64 3,.bool false,.bool false,undef,undef,undef,.bool false,.bool false,undef,undef,undef,.bool false,.bool false,undef,undef,undef,undef,undef,undef,undef,.bool true,.bool true,.pointer (some ⟨p,0,none⟩),.agg #[.int .i64 k,.int .i64 op,.int .i64 z,.string nm,.bool at_,.slice A' n c'],.pointer (some ⟨p,0,none⟩),.slice (some ⟨e+1,0,none⟩) 6 6,.int .i64 ↑o,.int .i64 ↑o,.bool true,.pointer (some ⟨p,0,none⟩),.pointer (some ⟨p,0,none⟩),.pointer (some ⟨p,0,none⟩),.pointer (some ⟨p,1,none⟩),.int .i64 ↑j,.int .i64 (↑j+1),.pointer (some ⟨p,0,none⟩),.pointer (some ⟨p,1,none⟩),(xs 0).getD undef,(xs 1).getD undef,(xs 2).getD undef,(xs 3).getD undef,(xs 4).getD undef,undef,undef,undef,undef,undef,undef,undef,undef,undef,undef,undef,undef,undef,undef,undef,undef,undef,undef,undef,undef,undef,undef,undef,undef,undef,undef,undef,undef,undef,undef,undef,undef,undef,undef,undef,undef,undef,undef,undef,undef,undef],defers:=[]})
    (RQ w5 p A c T (j+1) false j6 b6) g
    (λi=>match i with
      |0=>fEq (.int .i64 o)
      |1=>fEq (.agg #[.int .i64 k,.int .i64 op,.int .i64 z,.string nm,.bool at_,.slice A' n c'])
      |2=>fEq (.pointer (some ⟨p,0,none⟩))
      |3=>fEx (NG g (two g e)) (fp T rec (j+1)) j6 b6 (λy=>y)
      |_=>fEx (NG g (two g e)) (fp T rec (j+1)) j6 b6 (λy=>gK o x y))
    (by
      intro k
      match k with
      |0=>exact fEq.st _ _
      |1=>exact fEq.st _ _
      |2=>exact fEq.st _ _
      |3=>exact fEx.st
      |_+4=>exact fEx.st)
    (by kernel_rfl) (by kernel_rfl) rfl (by kernel_rfl) (by decide) rfl ⟨(Bx.refl _ _ _).drew,HP5.out.drew⟩ ?_ ?_ ?_
   ·intro i' hi hic b xs W hJ hd;obtain rfl|rfl|rfl|rfl:i'=0\/i'=1\/i'=2\/i'=4:=by omega
    ·refine AE rfl λK hK=>?_;go_simp;exact hK _ _ ⟨_,rfl,hJ,rfl,Nw.refl _ _⟩
    ·obtain⟨⟨d0,d1,d2,d3,d4,d5⟩,_⟩:=(HE5.out.bx hJ.1 her5 (by omega)).aC;refine AE rfl λK hK=>?_;go_simp;exact hK _ _ ⟨_,rfl,hJ,rfl,Nw.refl _ _⟩
    ·refine AE rfl λK hK=>?_;go_simp;exact hK _ _ ⟨_,rfl,hJ,rfl,Nw.refl _ _⟩
    ·obtain⟨_,h0,rfl⟩:=hd 0;obtain⟨_,h1,rfl⟩:=hd 1;obtain⟨vy,h3,y,hy,hyi⟩:=hd 3
     have HX:=H_ (show ExV W (NG g (two g e) W) x (.agg #[.int .i64 k,.int .i64 op,.int .i64 z,.string nm,.bool at_,.slice A' n c'])from
      ⟨_,rfl,ExC.aA (λb hb=>⟨hb.mono hJ.1.size,hJ.1.block b hb.2.1 (by have:=hb.1;omega)⟩) HV5.out⟩)
     have HY:=H_ (show ExV W (NG g (two g e) W) y vy from hy);have HYI:=H_ hyi;have HJ:=H_ hJ;have hsW:=hJ.1.size;clear hJ hy hd hyi;refine AE rfl λK hK=>?_;go_simp;refine(nd o x y _ vy W _ HX.out HY.out (λb hb=>hb.2.1)).mono ?_;rintro e' w6 ⟨⟨v,rfl,hv⟩,b6'⟩
     exact hK _ _ ⟨v,by simp only[au,h0,h1,h3];rfl,HJ.out.below b6',⟨y,hv.aA (λb hb=>⟨by
      have:=b6'.size;rcases hb with hb|hb
      ·exact hb.mono b6'.size
      ·exact⟨by have:=hb.1;omega,hb.2,λh=>by have:=hb.1;unfold two at h;omega⟩,rfl⟩),HYI.out⟩,Nw.below b6'⟩
   ·intro xs W hJ hd;obtain⟨_,h2,rfl⟩:=hd 2;have hsW:=hJ.1.size;refine AE rfl λK hK=>?_;go_simp;refine ROut.use (H4'.out (j+1) (by omega) p c A false W hJ.2) (λv y j b w6 hv P6 hr hqj b6'=>?_);obtain⟨rfl,rfl⟩:=hsj _ _ _ hr;exact hK _ _ ⟨v,by simp only[au,h2];rfl,⟨hJ.1.aB b6',P6,hqj⟩,⟨y,rvC.aA (λb hb=>⟨⟨by have:=hb.1;omega,hb.2,λh=>by have:=hb.1;unfold two at h;omega⟩,rfl⟩) hv,hr⟩,Nw.of b6' (by omega)⟩
   ·intro xs W hJ hd;obtain⟨_,h0,rfl⟩:=hd 0;obtain⟨_,h1,rfl⟩:=hd 1;obtain⟨_,h2,rfl⟩:=hd 2;obtain⟨v3,h3,_⟩:=hd 3;obtain⟨v4,h4,y,hv5,hyi⟩:=hd 4;obtain⟨k',op',z',nm',at',A4,n4,c4,rfl,hv5'⟩:=ExV.inv hv5;have HGW:=H_ (HG5.out.bx hJ.1 hgr5 (by omega));have HJ:=H_ hJ;have HV5':=H_ hv5'
    have HR:=H_ (show Is (bN T rec i) (gK o x y) j6 b6 by
     unfold bN;rw[show fp T rec i= .ok x j from HR1.out];simp only;rw[HSO.out];simp only;rw[show fp T rec (j+1)=if b6=true then .bad j6 else .ok y j6 from hyi];cases b6<;>rfl)
    have HB7:=H_ (HB5.out.trans (HJ.out.1.mono (by omega)));have hW5:=hJ.1.size;have HPW:=H_ hJ.2.1;have hjj:=hJ.2.2;obtain⟨⟨d0,d1,d2,d3,d4,d5⟩,e0,e1,e2,e3,e4,e5⟩:=HGW.out.aC;clear hJ hv5 hv5' hd hyi;refine AE rfl λK hK=>?_;go_simp;refine hK _ _ ?_;go_wp2_with fail;exact eU rfl (by simp) HGW.out HV5'.out (λb hb=>⟨by have:=hb.1;have:=hb.2.2;unfold two at this;omega,hb.2.1⟩) HPW.out HR.out (by omega) HB7.out hgz (by omega)
def fTk(r:R ByteArray)(j:Nat)(b:Bool):Value->World->Prop:=λv _=>∃(k:Int) (t:ByteArray) (z q:Int),v= .agg #[.int .i64 k,.string t,.int .i64 z,.int .i64 q]/\Is r t j b
theorem fTk.st{r:R ByteArray}{b:Bool}:fZ B (fTk r j b):=λ_ _ _ _ h=>h
def fTx(r:R ByteArray)(j:Nat)(b:Bool):Value->World->Prop:=λv _=>∃(t:ByteArray),v= .string t/\Is r t j b
theorem fTx.st{r:R ByteArray}{b:Bool}:fZ B (fTx r j b):=λ_ _ _ _ h=>h
theorem vm(H8:RAt rvE 283 T (ai T rec) i):EAt T (bD T rec) 7 i:=by
 intro p c A b w h;cases b with
 |true=>exact eI p c i A T 7 w h
 |false=>
  have H8':=H_ H8;clear H8;have hp:=h.aG.lt;obtain⟨w0,hw0,q0,b0,P0⟩:=m8 h;have Q0:=H_ q0;have B0:=H_ b0;have HP0:=H_ P0;have c2:=P0.aG.k2;clear h q0 b0 P0;go_enter Tryz.func258,Tryz.ntmps258;go_upto_region 1 with(fail);have hsz:=B0.out.size;have hg0:=Q0.out.lt;obtain⟨g,hgz⟩:=nm_ (w.heap.size);rw[hgz]at Q0 hg0⊢;clear hw0;go_wp2_with fail;refine ROut.use (H8'.out p c A false w0 HP0.out) (λv x j b1 w1 hv P1 hr hij b1x=>?_);obtain⟨hb1x,B1,Q1,hg1⟩:=fr1 B0 Q0 b1x;have HP1:=H_ P1;obtain⟨k0,op0,z0,nm0,at0,A0,n0,c0,rfl,hv'⟩:=ExV.inv hv;have HV:=H_ hv';have HR1:=H_ hr;clear hv hv' hr Q0 B0 HP0 P1 b1x c2;go_wp2_with fail;obtain⟨e,hez⟩:=nm_ (w1.heap.size);rw[hez];obtain⟨w2,hw2⟩:=nm_ (w1.alloc (.cells #[.int .i64 k0,.int .i64 op0,.int .i64 z0,.string nm0,.bool at0,.slice A0 n0 c0] 172));have b2:=bal hw2;have Q2:=H_ (Q1.out.below b2 hg1);have E2:=H_ (show Blk w2 e 172 _ from hw2▸hez▸Blk.new w1 172 #[.int .i64 k0,.int .i64 op0,.int .i64 z0,.string nm0,.bool at0,.slice A0 n0 c0]);have B2:=H_ (B1.out.aB (Bx.of b2));have HP2:=H_ (HP1.out.below b2);have V2:=H_ (ExC.aA (G':=NG g (two g e) w2) (λb hb=>⟨⟨by have:=hb.1;omega,AF hb.2 b2.size,λh=>by have:=hb.1;have:=hb.2;unfold two at h;omega⟩,b2.block b hb.2⟩) HV.out);have heT:=E2.out.lt;have hgT:=Q2.out.lt;have hz2:w2.heap.size=e+1:=by rw[<-hw2,AR,hez]
  rw[hw2];clear hw2 b2 Q1 B1 HP1 HV
  go_loopg [] (T.length-j) (λkk wr=>∃(x:Ex) (q:Nat) (bq:Bool) (k op z:Int) (nm:ByteArray) (at_:Bool) (A':Option Addr) (n c':Nat),kk=T.length-q/\Hid (Blk wr e 172 #[.int .i64 k,.int .i64 op,.int .i64 z,.string nm,.bool at_,.slice A' n c'])/\Hid (ExC wr (NG g (two g e) wr) x [.int .i64 k,.int .i64 op,.int .i64 z,.string nm,.bool at_,.slice A' n c'])/\
   Hid (Blk wr g 172 #[.int .i64 0,.int .i64 0,.int .i64 0,.string ⟨#[]⟩,.bool false,.slice none 0 0])/\Hid (RS wr p A c T q bq)/\Hid (Bx g p w wr)/\i<=q/\Hid (∃m,T.length+1<=m+q/\bD T rec i=lif (bH T m x) q bq))
  case atStart=>exact⟨x,j,b1,k0,op0,z0,nm0,at0,A0,n0,c0,rfl,E2,V2,Q2,HP2,hgz▸B2,hij,H_ ⟨T.length+1,by omega,by
   have h1:ai T rec i=if b1=true then .bad j else .ok x j:=HR1.out;unfold bD lif;rw[h1];cases b1<;>rfl⟩⟩
  case round=>
   clear E2 V2 Q2 HP2 B2 HR1 heT hgT;obtain⟨x,q,bq,k,op,z,nm,at_,A',n,c',rfl,HE,HV,HG,HPr,HBr,hiq,HEr⟩:=hrel;have hqT:=HPr.out.lt;have her:=HE.out.lt;have hgr:=HG.out.lt;go_wp2_with fail;refine am HPr.out DOT (λhbq ht w5 P5 b5=>?_) (λht w5 P5 b5=>?_)
   ·subst hbq;have HT5:=H_ ht;have HE5:=hbx HE b5 her;have HG5:=hbx HG b5 hgr;have HV5:=H_ (ExC.aA (G':=NG g (two g e) w5) (λb hb=>⟨hb.mono b5.size,b5.block b hb.2.1 (by have:=hb.1;omega)⟩) HV.out);have HB5:=H_ (HBr.out.trans (b5.mono (by have:=HBr.out.size;omega)));have HP5:=H_ P5;have her5:=HE5.out.lt;have hgr5:=HG5.out.lt;clear ht P5 b5 HE HG HV HBr HPr;have hs5:=HB5.out.size;go_upto_region 3 with fail;obtain⟨j6,b6,hsj⟩:=Is.known (aj T 2 (q+1));obtain⟨c0',c1',c2',c3',c4',c5'⟩:=HE5.out.aC.1
    refine aW 1 6 (λxs=>{tmps:= #[.pointer (some ⟨p,0,none⟩),.int .i64 7,undef,undef,.pointer (some ⟨g,0,none⟩),undef,undef,.pointer (some ⟨e,0,none⟩),.pointer (some ⟨p,0,none⟩),.pointer (some ⟨p,0,none⟩),.pointer (some ⟨p,2,none⟩),.bool false,undef,.int .i64 7,.bool false,.bool false,undef,undef,undef,.bool false,.bool false,undef,undef,undef,.bool false,.bool false,undef,undef,undef,undef,undef,undef,undef,.bool false,.bool false,undef,undef,undef,undef,undef,undef,undef,undef,undef,undef,undef,undef,undef,undef,undef,undef,undef,undef,undef,undef,undef,.bool false,.bool false,undef,undef,undef,.bool false,.bool false,undef,undef,undef,.bool false,.bool false,undef,undef,undef,undef,undef,undef,undef,undef,undef,undef,undef,undef,undef,undef,undef,undef,undef,.pointer (some ⟨p,0,none⟩),.agg #[.int .i64 k0,.int .i64 op0,.int .i64 z0,.string nm0,.bool at0,.slice A0 n0 c0],.pointer (some ⟨p,0,none⟩),.bool true,(xs 0).getD u89,(xs 1).getD u90,(xs 2).getD u91,(xs 3).getD u92,(xs 4).getD u93,(xs 5).getD u94,undef],defers:=[]})
     (RQ w5 p A c T (q+1) false j6 b6) w5.heap.size
     (λi=>match i with
       |0=>fEq (.pointer (some ⟨p,0,none⟩))
       |1=>fTk (aj T 2 (q+1)) j6 b6
       |2=>fTx (aj T 2 (q+1)) j6 b6
       |3=>fEq (.agg #[.int .i64 k,.int .i64 op,.int .i64 z,.string nm,.bool at_,.slice A' n c'])
       |4=>fRow w5.heap.size 172 #[.int .i64 k,.int .i64 op,.int .i64 z,.string nm,.bool at_,.slice A' n c']
       |_=>λv W=>∃s a,v= .agg #[.int .i64 4,.int .i64 0,.int .i64 0,.string s,.bool false,.slice (some ⟨a,0,none⟩) 1 1]/\Is (aj T 2 (q+1)) s j6 b6/\RowA w5.heap.size W a #[.int .i64 k,.int .i64 op,.int .i64 z,.string nm,.bool at_,.slice A' n c'] 172)
     (by
       intro k
       match k with
       |0=>exact fEq.st _ _
       |1=>exact fTk.st
       |2=>exact fTx.st
       |3=>exact fEq.st _ _
       |4=>exact fRow.st _ _ _
       |_+5=>exact λ_ _ _ hn ⟨s,a,h1,h2,h3⟩=>⟨s,a,h1,h2,h3.nw hn⟩)
     (by kernel_rfl) (by kernel_rfl) rfl (by kernel_rfl) (by decide) rfl ⟨(Bx.refl _ _ _).drew,HP5.out.drew⟩ ?_ ?_ ?_
    ·intro i hi hic b xs W hJ hd;obtain rfl|rfl|rfl|rfl|rfl:i=0\/i=2\/i=3\/i=4\/i=5:=by omega
     ·refine AE rfl λK hK=>?_;go_simp;exact hK _ _ ⟨_,rfl,hJ,rfl,Nw.refl _ _⟩
     ·obtain⟨_,h1,k7,s,z7,q7,rfl,hs⟩:=hd 1;refine AE rfl λK hK=>?_;go_simp;exact hK _ _ ⟨_,by simp only[au,h1];rfl,hJ,⟨s,rfl,hs⟩,Nw.refl _ _⟩
     ·refine stp rfl (by kernel_rfl) λK hK=>?_;refine iT (x:= .tmp 7) rfl rfl (ja (HE5.out.bx hJ.1 her5 (by omega))) ?_;exact hK _ _ ⟨_,rfl,hJ,rfl,Nw.refl _ _⟩
     ·obtain⟨_,h3,rfl⟩:=hd 3;refine stp rfl (by kernel_rfl) λK hK=>?_;refine ip (x:= .tmp 92) rfl (gd h3 _) (nF W _ _ _ _ _ _) ?_;have hb:=(AC W.heap.size W).alloc (AB _) (.cells #[.int .i64 k,.int .i64 op,.int .i64 z,.string nm,.bool at_,.slice A' n c'] 172);exact hK _ _ ⟨.slice (some ⟨W.heap.size,0,none⟩) 1 1,rfl,hJ.below hb,⟨W.heap.size,rfl,hJ.1.size,Blk.new W 172 _⟩,Nw.below hb⟩
     ·obtain⟨_,h2,s,rfl,hs⟩:=hd 2;obtain⟨_,h4,a,rfl,hra⟩:=hd 4;refine stp rfl (by kernel_rfl) λK hK=>?_;refine qC (x:= .const (.int .i64 4)) (y:= .tmp 91) (s:= .tmp 93) rfl rfl (gd h2 _) (gd h4 _) (um W _ _ _ _ _) ?_;exact hK _ _ ⟨_,rfl,hJ,⟨s,a,rfl,hs,hra⟩,Nw.refl _ _⟩
    ·intro xs W hJ hd;obtain⟨_,h0,rfl⟩:=hd 0;refine AE rfl λK hK=>?_;go_simp;refine du hJ.2 2 (by decide) (λk7 s z7 q7 j' b' w6 P6 hr hqj b6'=>?_);obtain⟨rfl,rfl⟩:=hsj _ _ _ hr;exact hK _ _ ⟨_,by simp only[au,h0];rfl,⟨hJ.1.aB b6',P6,hqj⟩,⟨k7,s,z7,q7,rfl,hr⟩,Nw.of b6' (by omega)⟩
    ·intro xs W hJ hd;obtain⟨_,h0,rfl⟩:=hd 0;obtain⟨_,h1,k7,s7,z7,q7,rfl,hs7⟩:=hd 1;obtain⟨_,h2,s8,rfl,hs8⟩:=hd 2;obtain⟨_,h3,rfl⟩:=hd 3;obtain⟨_,h4,a',h4',_⟩:=hd 4;subst h4';obtain⟨_,h5,s,a,rfl,hs,hra⟩:=hd 5;have HEW:=H_ (HE5.out.bx hJ.1 her5 (by omega));have HGW:=H_ (HG5.out.bx hJ.1 hgr5 (by omega));have HJ:=H_ hJ;have HRA:=H_ hra;have HS:=H_ hs;obtain⟨⟨d0,d1,d2,d3,d4,d5⟩,k0,k1,k2,k3,k4,k5⟩:=HEW.out.aC;have hW5:=hJ.1.size;clear hJ hra hd hs hs7 hs8;refine AE rfl λK hK=>?_;go_simp;refine hK _ _ ?_;obtain⟨N1,N2⟩:=eB HEW.out (.int .i64 4) (.int .i64 0) (.int .i64 0) (.string s) (.bool false) (.slice (some ⟨a,0,none⟩) 1 1);have hsz:((((((W.setCell ⟨e,0,none⟩ (.int .i64 4)).setCell ⟨e,1,none⟩ (.int .i64 0)).setCell ⟨e,2,none⟩ (.int .i64 0)).setCell ⟨e,3,none⟩ (.string s)).setCell ⟨e,4,none⟩ (.bool false)).setCell ⟨e,5,none⟩ (.slice (some ⟨a,0,none⟩) 1 1)).heap.size=W.heap.size:=by simp
     generalize((((((W.setCell ⟨e,0,none⟩ (.int .i64 4)).setCell ⟨e,1,none⟩ (.int .i64 0)).setCell ⟨e,2,none⟩ (.int .i64 0)).setCell ⟨e,3,none⟩ (.string s)).setCell ⟨e,4,none⟩ (.bool false)).setCell ⟨e,5,none⟩ (.slice (some ⟨a,0,none⟩) 1 1))=W2 at N1 N2 hsz⊢;have hal:=HRA.out.2.lt;have hab:=HRA.out.1
     have V7:=H_ (show ExC W2 (NG g (two g e) W2) (cY s x) [.int .i64 4,.int .i64 0,.int .i64 0,.string s,.bool false,.slice (some ⟨a,0,none⟩) 1 1]from
      ExC.of 4 0 0 s false 1 (dW (K:=kEx) (g:=a) (t:=172) ((N2.block a (by omega) (by omega)).trans HRA.out.2) ⟨by omega,by omega,λh=>by unfold two at h;omega⟩
       (ExC.aA (λb hb=>⟨hb.mono (by omega),(N2.block b (by have:=hb.2.1;omega) (λh=>hb.2.2 (.inr h))).trans (HJ.out.1.block b hb.2.1 (by have:=hb.1;omega))⟩) HV5.out)))
     have HE7:=H_ N1;have HG7:=hbx HGW N2;have HP7:=H_ (HJ.out.2.1.aA N2 (by omega));have HB7:=H_ ((HB5.out.trans (HJ.out.1.mono (by omega))).put N2 (by omega) (by omega));have hqj:=HJ.out.2.2
     have HQ7:=H_ (show∃m,T.length+1<=m+j6/\bD T rec i=lif (bH T m (cY s x)) j6 b6 by
      obtain⟨m,hm,heq⟩:=HEr.out;obtain⟨m,rfl⟩:∃m',m=m'+1:=⟨m-1,by omega⟩;refine⟨m,by omega,?_⟩;rw[heq];have hy:aj T 2 (q+1)=if b6=true then .bad j6 else .ok s j6:=HS.out;unfold lif;rw[AL (by decide)]
      conv=>lhs;unfold bH;rw[AP HT5.out,hy]
      cases b6<;>rfl)
     have hj6:=HP7.out.lt;clear N1 N2 HEW HGW HJ HRA HE5 HG5 HB5 HP5 HV5 HEr;go_wp2_with fail;go_roundg (T.length-j6)
     case rel=>exact⟨cY s x,j6,b6,4,0,0,s,false,_,_,_,rfl,HE7,V7,HG7,HP7,HB7,by omega,HQ7⟩
     case measure=>omega
   ·have HR:=H_ (show Is (bD T rec i) x q bq by
     obtain⟨m,hm,heq⟩:=HEr.out;obtain⟨m,rfl⟩:∃m',m=m'+1:=⟨m-1,by omega⟩;unfold Is;rw[heq];unfold lif;cases bq
     ·rcases ht with h|h
      ·cases h
      ·unfold bH;rw[az (show isT T DOT q=false from h)]
     ·rfl)
    have HE5:=hbx HE b5 her;have HG5:=hbx HG b5 hgr;have HV5:=H_ (ExC.aA (G':=NG g (two g e) w5) (λb hb=>⟨hb.mono b5.size,b5.block b hb.2.1 (by have:=hb.1;omega)⟩) HV.out);have HB5:=H_ (HBr.out.trans (b5.mono (by have:=HBr.out.size;omega)));have HP5:=H_ P5;have her5:=HE5.out.lt;have hgr5:=HG5.out.lt;obtain⟨c0',c1',c2',c3',c4',c5'⟩:=HE5.out.aC.1;clear ht P5 b5 HE HG HV HBr HPr HEr;have hgW:=HG5.out.lt;obtain⟨⟨d0,d1,d2,d3,d4,d5⟩,f0,f1,f2,f3,f4,f5⟩:=HG5.out.aC;go_wp2_with fail;exact eU rfl (by simp) HG5.out HV5.out (λb hb=>⟨by have:=hb.1;have:=hb.2.2;unfold two at this;omega,hb.2.1⟩) HP5.out HR.out (by omega) (HB5.out) hgz (by omega)
def Ex.kd:Ex->Int
 | .mk k _ _ _ _ _=>k
def Ex.nm:Ex->ByteArray
 | .mk _ _ _ s _ _=>s
def tG(T:List Tk):Prop:=∀i,(tk T i).1=4->(tk T i).2.1≠cj
theorem p9{c:UInt8}(h:dF c=true):c≠61:=by
 rintro rfl;revert h;decide
theorem sn{l:List UInt8}{k v:Int}{t:List UInt8}(h:ci l= .tok k t v)(hk:k=4):ba t≠cj:=by
 cases l with
 |nil=>cases h
 |cons c r=>
  unfold ci at h;simp only at h;split at h
  ·rename_i hc;unfold mM at h;simp only at h;split at h
   ·cases h
   ·cases h;have hw:eZ c=true:=by unfold eZ;rw[hc];rfl
    rw[Bj hw];intro he;have he':=CU (λb:ByteArray=>b.data.toList.head?) he;simp[ba,cj]at he';exact p9 hc he'
  ·split at h
   ·unfold fa at h;simp only at h;split at h
    ·cases h
    ·split at h
     ·cases h
     ·cases h;cases hk
   ·unfold fo at h;split at h
    ·cases h;cases hk
    ·split at h
     ·cases h;cases hk
     ·cases h
def NoEqL(ts:List Tk):Prop:=∀x∈ts,x.1=4->x.2.1≠cj
theorem NoEqL.snoc{ts:List Tk}{x:Tk}(h:NoEqL ts)(hx:x.1=4->x.2.1≠cj):NoEqL (ts++[x]):=λy hy=>by
 rcases CL.1 hy with h1|h1
 ·exact h y h1
 ·simp at h1;subst h1;exact hx
theorem i7{N:Nat}:∀(k:Nat) (r:List UInt8) (ts T:List Tk),bj N k r ts= .toks T->NoEqL ts->NoEqL T
 |0,r,ts,T,h,ht=>by cases h
 |k+1,r,ts,T,h,ht=>by
  unfold bj at h;split at h
  ·cases h;exact ht.snoc (λh=>by simp at h)
  ·split at h
   ·cases h
   ·rename_i kd t v htk;exact i7 k _ _ T h (ht.snoc (λhk=>sn htk hk))
theorem qa{s:List UInt8}(h:ce s= .toks T):tG T:=by
 unfold ce at h;split at h
 ·cases h
 ·have h1:=i7 _ _ _ _ h (λx hx=>by cases hx);intro i hi;unfold tk at hi⊢;rw[Bo]at hi⊢;cases hg:T[i]? with
  |none=>rw[hg]at hi;simp at hi
  |some x=>rw[hg]at hi;exact h1 x (AJ hg) hi
section
variable{T:List Tk}
theorem lB(h:isT T s i=true):(tk T i).1=4\/(tk T i).1=5:=by
 unfold isT at h;simpa using(Bool.and_eq_true_iff.1 h).2
theorem je(h:isT T s i=true):(tk T i).2.1=s:=by
 unfold isT at h;simpa using(Bool.and_eq_true_iff.1 h).1
theorem zn{t:ByteArray}(h:isT T s i=true)(hst:s≠t):isT T t i=false:=by
 cases h2:isT T t i with
 |false=>rfl
 |true=>exact absurd ((je h).symm.trans (je h2)) hst
theorem m7{x:Ex}(h:ai T rec i= .ok x j)(hk:x.kd=3)(hj:(tk T (j-1)).1=2):(tk T i).1=2/\j=i+1/\x.nm=(tk T i).2.1:=by
 unfold ai at h;split at h
 ·cases h;cases hk
 ·split at h
  ·cases h;exact⟨‹_›,rfl,rfl⟩
  ·split at h
   ·cases h;cases hk
   ·split at h
    ·cases h;cases hk
    ·split at h
     ·split at h
      ·cases h
      ·split at h
       ·cases h
       ·rename_i l hl;cases h;obtain⟨h1,rfl⟩:=bV hl;rw[Nat.add_sub_cancel]at hj;rcases lB h1 with h2|h2<;>rw[h2]at hj<;>cases hj
     ·unfold iZ at h;split at h
      ·cases h
      ·split at h
       ·cases h
       ·split at h
        ·cases h
        ·split at h
         ·split at h
          ·cases h
          ·cases h;cases hk
         ·cases h;cases hk
theorem jH(h:(tk T i).1=2):ai T rec i= .ok (ib 3 (tk T i).2.1) (i+1):=by
 unfold ai;rw[AL (by rw[h];decide),AP h]
def cA(ex:Nat->Nat->R Ex)(m:Nat)(x:Ex)(s:ByteArray)(l:Nat):R St:=
 if isT T eA l=true then(match bg T (ex 0) l with
  | .bad m=> .bad m
  | .ok xs m=> .ok (stE 5 s (x::xs)) m)
 else bW T ex m (cY s x) l
theorem nA{x:Ex}(h:isT T DOT l=true):
 cA (T:=T) ex (m+1) x s l=match aj T 2 (l+1)with
  | .bad j=> .bad j
  | .ok s2 j=>cA (T:=T) ex m (cY s x) s2 j:=by
 unfold cA;rw[zn h (λh=>by have:=CU (λb:ByteArray=>b.data.toList) h;simp[DOT,eA]at this),AL (by decide)]
 conv=>lhs;unfold bW
 unfold ap;rw[AP h];rfl
theorem nx{x:Ex}(h:isT T DOT l=false):
 cA (T:=T) ex m x s l=match bg T (ex 0) l with
  | .bad j=> .bad j
  | .ok xs j=> .ok (stE 5 s (x::xs)) j:=by
 unfold cA;split
 ·rfl
 ·rename_i h2;have h3:isT T eA l=false:=by simpa using h2
  have:bg T (ex 0) l= .bad l:=by unfold bg ap;rw[h3];rfl
  rw[this];cases m with
  |zero=>rfl
  |succ m=>unfold bW ap;rw[h];rfl
theorem nB{x:Ex}:bW T ex (m+1) x l=match ap T DOT l with
 | .bad j=> .bad j
 | .ok _ j=>match aj T 2 j with
   | .bad q=> .bad q
   | .ok s q=>cA (T:=T) ex m x s q:=by
 rfl
def gm(T:List Tk)(n i:Nat):R Cl:=
 if isT T fj i=true then cw T n true (i+1)else match ap T ei i with
  | .bad j=> .bad j
  | .ok _ j=>cw T n false j
theorem pk(h:(tk T i).1=0):isT T s i=false:=by
 cases h2:isT T s i with
 |false=>rfl
 |true=>rcases lB h2 with h3|h3<;>rw[h]at h3<;>cases h3
theorem kA(h:(tk T i).1=0):aY T n (k+1) cs i= .ok cs i:=by
 unfold aY;rw[pk h,pk h,AL (by decide),AL (by decide),AP h]
theorem jP(h:(tk T i).1≠0):aY T n (k+1) cs i=match gm T n i with
  | .bad j=> .bad j
  | .ok c j=>aY T n k (cs++[c]) j:=by
 conv=>lhs;unfold aY
 unfold gm ap;cases h1:isT T fj i with
 |true=>rfl
 |false=>
  cases h2:isT T ei i with
  |true=>rfl
  |false=>
   rw[AL (by decide),AL (by decide),AL h];rfl
end
end
end Go.Proofs.YtjpbckbpeblibaaGreatDoor
