/- part of a proof -/
import Derived.Test.YtjpbckbpeblibaaGreatDoorCC19
import Derived.OwnWalkIn
import Derived.TacticsInMore
import Derived.LoopNIn
import Derived.LoopIn
namespace Go.Proofs.YtjpbckbpeblibaaGreatDoor
set_option linter.unusedVariables false
set_option linter.unusedSimpArgs false
set_option maxRecDepth 100000
set_option maxHeartbeats 64000000
section
open Go.RowKit
variable{W W' w:World}{g j:Nat}{v:Option Value}{xs:Nat->Option Value}
theorem FM:type_of% @Nat.le_succ_of_le:=@Nat.le_succ_of_le
abbrev pt(N:Nat):Value:= .pointer (some ⟨N,0,none⟩)
def F27s(p q b off b' off' n c1 c2 k S:Nat)(d e:Value×Value×Value×Value)(i:Nat)(xs:Nat->Option Value)(W:World):Prop:=match i with
 |0=>xs 0=some (pt p)
 |1=>xs 1=some (.slice (some ⟨b,off,none⟩) n c1)
 |2=>xs 2=some (.int .i64 (k:Int))
 |3=>xs 3=some (.pointer (some ⟨b,off+k*4,none⟩))
 |4=>xs 4=some (.agg #[d.1,d.2.1,d.2.2.1,d.2.2.2])
 |5=>xs 5=some (pt q)
 |6=>xs 6=some (.slice (some ⟨b',off',none⟩) n c2)
 |7=>xs 7=some (.int .i64 (k:Int))
 |8=>xs 8=some (.pointer (some ⟨b',off'+k*4,none⟩))
 |9=>xs 9=some (.agg #[e.1,e.2.1,e.2.2.1,e.2.2.2])
 |10=>∃N u0 u1 u2 u3,xs 10=some (pt N)/\S<=N/\Blk W N 117 #[u0,u1,u2,u3]
 |11=>∃N u0 u1 u2 u3,xs 11=some (pt N)/\S<=N/\Blk W N 117 #[u0,u1,u2,u3]
 |12=>∃N,xs 10=some (pt N)/\S<=N/\Blk W N 117 #[d.1,d.2.1,d.2.2.1,d.2.2.2]
 |13=>∃N,xs 11=some (pt N)/\S<=N/\Blk W N 117 #[e.1,e.2.1,e.2.2.1,e.2.2.2]
 |_=>True
def oU(k j:Nat):Bool:=(k==12&&j==10)||(k==13&&j==11)
theorem F27s.aA{p q b off b' off' n c1 c2 k S i:Nat}{d e:Value×Value×Value×Value}(hne:i≠j)(hd:oU i j=false)(h:F27s p q b off b' off' n c1 c2 k S d e i xs W)
 (hA:∀N u0 u1 u2 u3,xs 10=some (pt N)->S<=N->Blk W N 117 #[u0,u1,u2,u3]->(∃v0 v1 v2 v3,Blk W' N 117 #[v0,v1,v2,v3])/\(j≠12->Blk W' N 117 #[u0,u1,u2,u3]))
 (hB:∀N u0 u1 u2 u3,xs 11=some (pt N)->S<=N->Blk W N 117 #[u0,u1,u2,u3]->(∃v0 v1 v2 v3,Blk W' N 117 #[v0,v1,v2,v3])/\(j≠13->Blk W' N 117 #[u0,u1,u2,u3])):
 F27s p q b off b' off' n c1 c2 k S d e i (bG xs j v) W':=by
 by_cases hi:i<14
 rotate_left
 ·obtain⟨m,rfl⟩:∃m,i=m+14:=⟨i-14,by omega⟩;trivial
 obtain rfl|rfl|rfl|rfl|rfl|rfl|rfl|rfl|rfl|rfl|rfl|rfl|rfl|rfl:i=0\/i=1\/i=2\/i=3\/i=4\/i=5\/i=6\/i=7\/i=8\/i=9\/i=10\/i=11\/i=12\/i=13:=by omega
 rotate_right 4
 ·obtain⟨N,u0,u1,u2,u3,h1,h2,h3⟩:=h;obtain⟨v0,v1,v2,v3,h4⟩:=(hA N u0 u1 u2 u3 h1 h2 h3).1;exact⟨N,v0,v1,v2,v3,(cn xs v hne).trans h1,h2,h4⟩
 ·obtain⟨N,u0,u1,u2,u3,h1,h2,h3⟩:=h;obtain⟨v0,v1,v2,v3,h4⟩:=(hB N u0 u1 u2 u3 h1 h2 h3).1;exact⟨N,v0,v1,v2,v3,(cn xs v hne).trans h1,h2,h4⟩
 ·obtain⟨N,h1,h2,h3⟩:=h;have hj:10≠j:=λe=>by subst e;exact absurd hd (by decide)
  exact⟨N,(cn xs v hj).trans h1,h2,(hA N _ _ _ _ h1 h2 h3).2 (λe=>hne e.symm)⟩
 ·obtain⟨N,h1,h2,h3⟩:=h;have hj:11≠j:=λe=>by subst e;exact absurd hd (by decide)
  exact⟨N,(cn xs v hj).trans h1,h2,(hB N _ _ _ _ h1 h2 h3).2 (λe=>hne e.symm)⟩
 all_goals exact(cn xs v hne).trans h
def J27s(wr:World)(xs:Nat->Option Value)(W:World):Prop:=Below wr.heap.size wr W/\(∀N M,xs 10=some (pt N)->xs 11=some (pt M)->N≠M)/\(∀N,xs 10=some (pt N)->N<W.heap.size)/\∀N,xs 11=some (pt N)->N<W.heap.size
theorem J27s.same{wr:World}(h:J27s wr xs W)(hj:j≠10/\j≠11)(hb:Below wr.heap.size W W'):J27s wr (bG xs j v) W':=by
 have e0:=cn xs v hj.1.symm;have e1:=cn xs v hj.2.symm;refine⟨h.1.trans hb,?_,?_,?_⟩
 ·rw[e0,e1];exact h.2.1
 ·rw[e0];exact λN hN=>DR (h.2.2.1 N hN) hb.size
 ·rw[e1];exact λN hN=>DR (h.2.2.2 N hN) hb.size
theorem km{N M:Nat}(h:some (pt N)=some (pt M)):N=M:=by cases h;rfl
theorem J27s.new10{wr:World}(h:J27s wr xs W)(o:Obj):J27s wr (bG xs 10 (some (pt W.heap.size))) (W.alloc o):=by
 refine⟨h.1.alloc h.1.size o,λN M h1 h2=>?_,λN h1=>?_,λN h1=>?_⟩
 ·have e:=km ((dw xs 10 _).symm.trans h1);have:=h.2.2.2 M ((cn xs _ (by decide)).symm.trans h2);omega
 ·have e:=km ((dw xs 10 _).symm.trans h1);simp;omega
 ·have:=h.2.2.2 N ((cn xs _ (by decide)).symm.trans h1);simp;omega
theorem J27s.new11{wr:World}(h:J27s wr xs W)(o:Obj):J27s wr (bG xs 11 (some (pt W.heap.size))) (W.alloc o):=by
 refine⟨h.1.alloc h.1.size o,λN M h1 h2=>?_,λN h1=>?_,λN h1=>?_⟩
 ·have e:=km ((dw xs 11 _).symm.trans h2);have:=h.2.2.1 N ((cn xs _ (by decide)).symm.trans h1);omega
 ·have:=h.2.2.1 N ((cn xs _ (by decide)).symm.trans h1);simp;omega
 ·have e:=km ((dw xs 11 _).symm.trans h1);simp;omega
def An(w:World)(g:Nat)(a b c d:Value):World:=(((w.setCell ⟨g,0,none⟩ a).setCell ⟨g,1,none⟩ b).setCell ⟨g,2,none⟩ c).setCell ⟨g,3,none⟩ d
theorem Blk.oth4{g':Nat}{t:TypeId}{cs:Array Value}(h:Blk w g' t cs)(hne:g'≠g)(a b c d:Value):Blk (An w g a b c d) g' t cs:=
 (((h.other ⟨g,0,none⟩ a hne).other ⟨g,1,none⟩ b hne).other ⟨g,2,none⟩ c hne).other ⟨g,3,none⟩ d hne
theorem yu{S:Nat}(h:S<=g)(a b c d:Value):Below S w (An w g a b c d):=
 ((((DN S w).setCell (p:=⟨g,0,none⟩) h a).setCell (p:=⟨g,1,none⟩) h b).setCell (p:=⟨g,2,none⟩) h c).setCell (p:=⟨g,3,none⟩) h d
theorem AZ(cs:List Cl)(A B:Option Addr)(n c1 c2:Nat)(w:World)(h1:Sl kCl w (AllB w) cs A n)(h2:Sl kCl w (AllB w) cs B n)(hm:lsz csz cs<=1000000):Calls Tryz.prog 27 #[.agg #[.slice A n c1],.agg #[.slice B n c2]] w (kP w):=by
 have hn:=eD csz (λx=>by unfold csz;omega) cs;rw[h1.1]at hn;have hn6:n<=1000000:=by omega
 obtain⟨w0,hw0⟩:=nm_ (w.alloc (.cells #[.slice A n c1] 28));obtain⟨w1,hw1⟩:=nm_ (w0.alloc (.cells #[.slice B n c2] 28));have hsz0:w0.heap.size=w.heap.size+1:=by rw[<-hw0];simp
 have hsz1:w1.heap.size=w.heap.size+2:=by rw[<-hw1];simp[hsz0]
 have hb0:=bal hw0;have hb1':Below w0.heap.size w0 w1:=hw1▸(DN _ _).alloc (DK _) _;have hb1:Below w.heap.size w w1:=hb0.trans (hb1'.mono hb0.size);have p0:Blk w0 w.heap.size 28 #[.slice A n c1]:=hw0▸Blk.new w 28 _;have P1:=H_ (show Blk w1 w.heap.size 28 #[.slice A n c1]from(hb1'.block _ (by omega)).trans p0);have P2:=H_ (show Blk w1 (w.heap.size+1) 28 #[.slice B n c2] by rw[<-hsz0];exact hw1▸Blk.new w0 28 _);have H1:=H_ (h1.aA (G':=AllB w1) (AllB.aA hb1));have H2:=H_ (h2.aA (G':=AllB w1) (AllB.aA hb1));have HB1:=H_ hb1;have HS1:=H_ hsz1;clear hb0 hb1' hb1 p0 h1 h2 hn;generalize hpz:w.heap.size=p at*
 have x1:=P1.out.cell 0;have x2:=P2.out.cell 0;go_enter Tryz.func27,Tryz.ntmps27;go_wp2_with fail;clear x1 x2;go_loopw [5] (λi wr=>∃k:Nat,k<=n/\i= .int .i64 k/\Hid (Below w1.heap.size w1 wr)) (λi _=>n-(intOf i).toNat)
 case atStart=>exact⟨0,Ea _,rfl,H_ (DN _ _)⟩
 case round=>
  obtain⟨k,hk,rfl,HB⟩:=hrel;have HY:=HS1.out;have Q1:=H_ (P1.out.below HB.out (by omega));have Q2:=H_ (P2.out.below HB.out (by omega));have x1:=Q1.out.cell 0;have x2:=Q2.out.cell 0;by_cases hkm:k<n
  ·have hkz:(k:Int)<(n:Int):=by omega
   obtain⟨b,off,x,cs1,rfl,hgb,hx,hrd,hat⟩:=(H1.out.aA (AllB.aA HB.out)).at_ hkm;obtain⟨b',off',x',cs2,rfl,hgb',hx',hrd',hat'⟩:=(H2.out.aA (AllB.aA HB.out)).at_ hkm;obtain rfl:x'=x:=Option.some.inj (hx'.symm.trans hx);have hsz:=cd csz hx;obtain⟨A2,n2,c3,A3,n3,c4,rfl,hf1,hm1⟩:=hrd;obtain⟨B2,n2',d3,B3,n3',d4,rfl,hf2,hm2⟩:=hrd';obtain rfl:n2'=n2:=hf2.1.symm.trans hf1.1;obtain rfl:n3'=n3:=hm2.1.symm.trans hm1.1;have R1:=H_ (show wr.rangeAt b (off+k*4) [.string x'.nm,.bool x'.actor,.slice A2 n2' c3,.slice A3 n3' c4]from λj u hj=>by have:=hat j u hj;rwa[show kCl.sz=4 from rfl,El]at this);have R2:=H_ (show wr.rangeAt b' (off'+k*4) [.string x'.nm,.bool x'.actor,.slice B2 n2' d3,.slice B3 n3' d4]from λj u hj=>by have:=hat' j u hj;rwa[show kCl.sz=4 from rfl,El]at this);have HF:=H_ (And.intro (And.intro hf1 hf2) (And.intro hm1 hm2));have HGB:=H_ (And.intro hgb hgb');clear hat hat' hf1 hf2 hm1 hm2 hx hx' hgb hgb';go_upto_region 6 with fail
   refine kb (λxs=>{tmps:= #[.agg #[.slice (some ⟨b,off,none⟩) n c1],.agg #[.slice (some ⟨b',off',none⟩) n c2],.pointer (some ⟨p,0,none⟩),.pointer (some ⟨p+1,0,none⟩),u4,.int .i64 ↑k,(xs 10).getD u6,(xs 11).getD u7,u8,.pointer (some ⟨p,0,none⟩),.slice (some ⟨b,off,none⟩) n c1,.int .i64 ↑n,.pointer (some ⟨p+1,0,none⟩),.slice (some ⟨b',off',none⟩) n c2,.int .i64 ↑n,.bool false,.int .i64 ↑k,.pointer (some ⟨p,0,none⟩),.slice (some ⟨b,off,none⟩) n c1,.int .i64 ↑n,.bool true,u21,u22,(xs 0).getD u23,(xs 1).getD u24,(xs 2).getD u25,(xs 3).getD u26,(xs 4).getD u27,(xs 5).getD u28,(xs 6).getD u29,(xs 7).getD u30,(xs 8).getD u31,(xs 9).getD u32,u33,u34,u35,u36,u37,u38,u39,u40,u41,u42,u43,u44,u45,u46,u47,u48,u49,u50,u51,u52,u53,u54,u55,u56,u57,u58,u59,u60,u61,u62,u63,u64,u65,u66,u67,u68,u69,u70,u71,u72,u73,u74,u75,u76,u77,u78,u79,u80,u81,u82,u83,u84,u85,u86,u87,u88,u89,u90,u91,u92,u93,u94,u95,u96,u97,u98,u99,u100,u101,u102,u103,u104,u105,u106,u107,u108,u109,u110,u111,u112,u113],defers:=[]}) (λ_=>none) (J27s wr)
    (F27s p (p+1) b off b' off' n c1 c2 k wr.heap.size (.string x'.nm,.bool x'.actor,.slice A2 n2' c3,.slice A3 n3' c4) (.string x'.nm,.bool x'.actor,.slice B2 n2' d3,.slice B3 n3' d4)) oU
    (by kernel_rfl) (by kernel_rfl) ?_ rfl ⟨(DN _ _).drew,(λ_ _ h=>by cases h),(λ_ h=>by cases h),(λ_ h=>by cases h)⟩ ?_ ?_
   ·intro k' j' hk' hd;unfold oU at hd;simp only[Ee,EY,FG]at hd;obtain⟨rfl,rfl⟩|⟨rfl,rfl⟩:=hd<;>kernel_rfl
   ·intro i hi xs W hJ hno _ hd;have hpw:p<wr.heap.size:=Q1.out.lt;have hpw2:p+1<wr.heap.size:=Q2.out.lt
    have still:∀(v:Value) (k':Nat),k'≠i->oU k' i=false->i≠10->i≠11->F27s p (p+1) b off b' off' n c1 c2 k wr.heap.size (.string x'.nm,.bool x'.actor,.slice A2 n2' c3,.slice A3 n3' c4) (.string x'.nm,.bool x'.actor,.slice B2 n2' d3,.slice B3 n3' d4) k' xs W->F27s p (p+1) b off b' off' n c1 c2 k wr.heap.size (.string x'.nm,.bool x'.actor,.slice A2 n2' c3,.slice A3 n3' c4) (.string x'.nm,.bool x'.actor,.slice B2 n2' d3,.slice B3 n3' d4) k' (bG xs i (some v)) W:=
     λv k' h1 h2 _ _ h=>h.aA h1 h2 (λN u0 u1 u2 u3 _ _ hq=>⟨⟨_,_,_,_,hq⟩,λ_=>hq⟩) (λN u0 u1 u2 u3 _ _ hq=>⟨⟨_,_,_,_,hq⟩,λ_=>hq⟩)
    have HST:=H_ still;have HJ:=H_ hJ;clear still;obtain rfl|rfl|rfl|rfl|rfl|rfl|rfl|rfl|rfl|rfl|rfl|rfl|rfl|rfl:i=0\/i=1\/i=2\/i=3\/i=4\/i=5\/i=6\/i=7\/i=8\/i=9\/i=10\/i=11\/i=12\/i=13:=by have:i<14:=hi;omega
    ·refine DU rfl λK hK=>?_;go_simp;exact hK _ _ ⟨some (pt p),rfl,HJ.out.same (by decide) (DN _ _),rfl,λk' h1 h2 h=>HST.out _ k' h1 h2 (by decide) (by decide) h⟩
    ·have h0:xs 0=some (pt (p)):=hd 0;have d0:=(Q1.out.below hJ.1 (by omega)).cell 0;refine DU rfl λK hK=>?_;go_simp;exact hK _ _ ⟨some (.slice (some ⟨b,off,none⟩) n c1),by simp only[bG,h0];rfl,HJ.out.same (by decide) (DN _ _),rfl,λk' h1 h2 h=>HST.out _ k' h1 h2 (by decide) (by decide) h⟩
    ·refine DU rfl λK hK=>?_;go_simp;exact hK _ _ ⟨some (.int .i64 (k:Int)),rfl,HJ.out.same (by decide) (DN _ _),rfl,λk' h1 h2 h=>HST.out _ k' h1 h2 (by decide) (by decide) h⟩
    ·have h0:xs 1=some (.slice (some ⟨b,off,none⟩) n c1):=hd 1;have h1:xs 2=some (.int .i64 (k:Int)):=hd 2;refine DU rfl λK hK=>?_;go_simp;exact hK _ _ ⟨some (.pointer (some ⟨b,off+k*4,none⟩)),by simp only[bG,h0,h1];rfl,HJ.out.same (by decide) (DN _ _),rfl,λk' h1 h2 h=>HST.out _ k' h1 h2 (by decide) (by decide) h⟩
    ·have h0:xs 3=some (.pointer (some ⟨b,off+k*4,none⟩)):=hd 3;have ld0:W.cell? ⟨b,off+k*4,none⟩=_:=(ab hJ.1 HGB.out.1 _).trans (R1.out 0 _ rfl);have ld1:W.cell? ⟨b,off+k*4+1,none⟩=_:=(ab hJ.1 HGB.out.1 _).trans (R1.out 1 _ rfl);have ld2:W.cell? ⟨b,off+k*4+2,none⟩=_:=(ab hJ.1 HGB.out.1 _).trans (R1.out 2 _ rfl);have ld3:W.cell? ⟨b,off+k*4+3,none⟩=_:=(ab hJ.1 HGB.out.1 _).trans (R1.out 3 _ rfl);refine DU rfl λK hK=>?_;go_simp;exact hK _ _ ⟨some (.agg #[.string x'.nm,.bool x'.actor,.slice A2 n2' c3,.slice A3 n3' c4]),by simp only[bG,h0];rfl,HJ.out.same (by decide) (DN _ _),rfl,λk' h1 h2 h=>HST.out _ k' h1 h2 (by decide) (by decide) h⟩
    ·refine DU rfl λK hK=>?_;go_simp;exact hK _ _ ⟨some (pt (p+1)),rfl,HJ.out.same (by decide) (DN _ _),rfl,λk' h1 h2 h=>HST.out _ k' h1 h2 (by decide) (by decide) h⟩
    ·have h0:xs 5=some (pt (p+1)):=hd 5;have d0:=(Q2.out.below hJ.1 (by omega)).cell 0;refine DU rfl λK hK=>?_;go_simp;exact hK _ _ ⟨some (.slice (some ⟨b',off',none⟩) n c2),by simp only[bG,h0];rfl,HJ.out.same (by decide) (DN _ _),rfl,λk' h1 h2 h=>HST.out _ k' h1 h2 (by decide) (by decide) h⟩
    ·refine DU rfl λK hK=>?_;go_simp;exact hK _ _ ⟨some (.int .i64 (k:Int)),rfl,HJ.out.same (by decide) (DN _ _),rfl,λk' h1 h2 h=>HST.out _ k' h1 h2 (by decide) (by decide) h⟩
    ·have h0:xs 6=some (.slice (some ⟨b',off',none⟩) n c2):=hd 6;have h1:xs 7=some (.int .i64 (k:Int)):=hd 7;refine DU rfl λK hK=>?_;go_simp;exact hK _ _ ⟨some (.pointer (some ⟨b',off'+k*4,none⟩)),by simp only[bG,h0,h1];rfl,HJ.out.same (by decide) (DN _ _),rfl,λk' h1 h2 h=>HST.out _ k' h1 h2 (by decide) (by decide) h⟩
    ·have h0:xs 8=some ((.pointer (some ⟨b',off'+k*4,none⟩))):=hd 8;have ld0:W.cell? ⟨b',off'+k*4,none⟩=_:=(ab hJ.1 HGB.out.2 _).trans (R2.out 0 _ rfl);have ld1:W.cell? ⟨b',off'+k*4+1,none⟩=_:=(ab hJ.1 HGB.out.2 _).trans (R2.out 1 _ rfl);have ld2:W.cell? ⟨b',off'+k*4+2,none⟩=_:=(ab hJ.1 HGB.out.2 _).trans (R2.out 2 _ rfl);have ld3:W.cell? ⟨b',off'+k*4+3,none⟩=_:=(ab hJ.1 HGB.out.2 _).trans (R2.out 3 _ rfl);refine DU rfl λK hK=>?_;go_simp;exact hK _ _ ⟨some (.agg #[.string x'.nm,.bool x'.actor,.slice B2 n2' d3,.slice B3 n3' d4]),by simp only[bG,h0];rfl,HJ.out.same (by decide) (DN _ _),rfl,λk' h1 h2 h=>HST.out _ k' h1 h2 (by decide) (by decide) h⟩
    ·have hq:=H_ (Blk.new W 117 #[.string ⟨#[]⟩,.bool false,.slice none 0 0,.slice none 0 0]);have hj:=H_ (hJ.new10 (.cells #[.string ⟨#[]⟩,.bool false,.slice none 0 0,.slice none 0 0] 117));refine DU rfl λK hK=>?_;go_simp;exact hK _ _ ⟨some (pt W.heap.size),rfl,hj.out,⟨W.heap.size,_,_,_,_,dw _ _ _,HJ.out.1.size,hq.out⟩,λk' h1 h2 h=>h.aA h1 h2 (λN u0 u1 u2 u3 _ _ hq'=>⟨⟨_,_,_,_,hq'.alloc _⟩,λ_=>hq'.alloc _⟩) (λN u0 u1 u2 u3 _ _ hq'=>⟨⟨_,_,_,_,hq'.alloc _⟩,λ_=>hq'.alloc _⟩)⟩
    ·have hq:=H_ (Blk.new W 117 #[.string ⟨#[]⟩,.bool false,.slice none 0 0,.slice none 0 0]);have hj:=H_ (hJ.new11 (.cells #[.string ⟨#[]⟩,.bool false,.slice none 0 0,.slice none 0 0] 117));refine DU rfl λK hK=>?_;go_simp;exact hK _ _ ⟨some (pt W.heap.size),rfl,hj.out,⟨W.heap.size,_,_,_,_,dw _ _ _,HJ.out.1.size,hq.out⟩,λk' h1 h2 h=>h.aA h1 h2 (λN u0 u1 u2 u3 _ _ hq'=>⟨⟨_,_,_,_,hq'.alloc _⟩,λ_=>hq'.alloc _⟩) (λN u0 u1 u2 u3 _ _ hq'=>⟨⟨_,_,_,_,hq'.alloc _⟩,λ_=>hq'.alloc _⟩)⟩
    ·obtain⟨N,u0,u1,u2,u3,h0,hN,hq⟩:=hd 10;have h1:xs 4=some (.agg #[.string x'.nm,.bool x'.actor,.slice A2 n2' c3,.slice A3 n3' c4]):=hd 4;have ld0:=hq.cell 0;have ld1:=hq.cell 1;have ld2:=hq.cell 2;have ld3:=hq.cell 3;obtain⟨fz0,fz1,fz2,fz3⟩:=hq.f4;have HQ:=H_ hq;clear hq;refine DU rfl λK hK=>?_;go_simp;exact hK _ _ ⟨none,by simp only[bG,h0,h1];rfl,HJ.out.same (by decide) (yu hN (.string x'.nm) (.bool x'.actor) (.slice A2 n2' c3) (.slice A3 n3' c4)),⟨N,(cn xs _ (by decide)).trans h0,hN,HQ.out.aH⟩,λk' g1 g2 h=>h.aA g1 g2 (λN' w0 w1 w2 w3 e1 _ hq'=>by obtain rfl:=km (h0.symm.trans e1);exact⟨⟨_,_,_,_,hq'.aH⟩,λe=>absurd rfl e⟩) (λN' w0 w1 w2 w3 e1 _ hq'=>have hne:=HJ.out.2.1 N N' h0 e1;⟨⟨_,_,_,_,hq'.oth4 hne.symm _ _ _ _⟩,λ_=>hq'.oth4 hne.symm _ _ _ _⟩)⟩
    ·obtain⟨N,u0,u1,u2,u3,h0,hN,hq⟩:=hd 11;have h1:xs 9=some (.agg #[.string x'.nm,.bool x'.actor,.slice B2 n2' d3,.slice B3 n3' d4]):=hd 9;have ld0:=hq.cell 0;have ld1:=hq.cell 1;have ld2:=hq.cell 2;have ld3:=hq.cell 3;obtain⟨fz0,fz1,fz2,fz3⟩:=hq.f4;have HQ:=H_ hq;clear hq;refine DU rfl λK hK=>?_;go_simp;exact hK _ _ ⟨none,by simp only[bG,h0,h1];rfl,HJ.out.same (by decide) (yu hN (.string x'.nm) (.bool x'.actor) (.slice B2 n2' d3) (.slice B3 n3' d4)),⟨N,(cn xs _ (by decide)).trans h0,hN,HQ.out.aH⟩,λk' g1 g2 h=>h.aA g1 g2 (λN' w0 w1 w2 w3 e1 _ hq'=>have hne:=HJ.out.2.1 N' N e1 h0;⟨⟨_,_,_,_,hq'.oth4 hne _ _ _ _⟩,λ_=>hq'.oth4 hne _ _ _ _⟩) (λN' w0 w1 w2 w3 e1 _ hq'=>by obtain rfl:=km (h0.symm.trans e1);exact⟨⟨_,_,_,_,hq'.aH⟩,λe=>absurd rfl e⟩)⟩
   ·intro xs W hJ hF;have g0:xs 0=some (pt p):=hF 0 (show 0<14 by decide);have g1:xs 1=some (.slice (some ⟨b,off,none⟩) n c1):=hF 1 (show 1<14 by decide);have g2:xs 2=some (.int .i64 (k:Int)):=hF 2 (show 2<14 by decide);have g3:xs 3=some (.pointer (some ⟨b,off+k*4,none⟩)):=hF 3 (show 3<14 by decide);have g4:xs 4=some (.agg #[.string x'.nm,.bool x'.actor,.slice A2 n2' c3,.slice A3 n3' c4]):=hF 4 (show 4<14 by decide);have g5:xs 5=some (pt (p+1)):=hF 5 (show 5<14 by decide);have g6:xs 6=some (.slice (some ⟨b',off',none⟩) n c2):=hF 6 (show 6<14 by decide);have g7:xs 7=some (.int .i64 (k:Int)):=hF 7 (show 7<14 by decide);have g8:xs 8=some (.pointer (some ⟨b',off'+k*4,none⟩)):=hF 8 (show 8<14 by decide);have g9:xs 9=some (.agg #[.string x'.nm,.bool x'.actor,.slice B2 n2' d3,.slice B3 n3' d4]):=hF 9 (show 9<14 by decide);obtain⟨N,g10,hN,hq1⟩:=hF 12 (show 12<14 by decide);obtain⟨M,g11,hM,hq2⟩:=hF 13 (show 13<14 by decide);simp only[g0,g1,g2,g3,g4,g5,g6,g7,g8,g9,g10,g11,Fz];have HBW:=H_ (HB.out.trans (hJ.1.mono HB.out.size));have hbW:=hJ.1;have hcz:csz x'=1+x'.fields.length+lsz msz x'.methods:=rfl;have hN6:n2'<=1000000:=by have h:=HF.out.1.1.1;omega
    have hM6:n3'<=1000000:=by
     have h:=eD msz (λx=>by unfold msz;omega) x'.methods;rw[HF.out.2.1.1]at h;omega
    have hms:lsz msz x'.methods<=1000000:=by omega
    have C56:=H_ (wo x'.fields A2 B2 n2' c3 d3 W (HF.out.1.1.aA (AllB.aA hbW)) (HF.out.1.2.aA (AllB.aA hbW)) hN6);have HM:=H_ (And.intro (HF.out.2.1.aA (AllB.aA hbW)) (HF.out.2.2.aA (AllB.aA hbW)));have HQ1:=H_ hq1;have HQ2:=H_ hq2;have n0:=hq1.cell 0;have n1:=hq1.cell 1;have n2:=hq1.cell 2;have m0:=hq2.cell 0;have m1:=hq2.cell 1;have m2:=hq2.cell 2;clear g0 g1 g2 g3 g4 g5 g6 g7 g8 g9 g10 g11 hF hJ hq1 hq2 R1 R2 HF HGB hbW x1 x2;go_wp2_with fail;refine C56.out.mono ?_;rintro _ W2 ⟨rfl,b2⟩;have hs2:=b2.size;have QN:=hbl HQ1 b2;have QM:=hbl HQ2 b2;have HBW2:=htr HBW b2;have HM2:=H_ (And.intro (HM.out.1.aA (AllB.aA b2)) (HM.out.2.aA (AllB.aA b2)));clear b2 n0 n1 n2 m0 m1 m2 HQ1 HQ2 HM HBW C56;have n3:=QN.out.cell 3;have m3:=QM.out.cell 3;go_wp2_with fail;clear n3 m3;go_loopw [8] (λi wr=>∃q:Nat,q<=n3'/\i= .int .i64 q/\Hid (Below W2.heap.size W2 wr)) (λi _=>n3'-(intOf i).toNat)
    case atStart=>exact⟨0,Ea _,rfl,H_ (DN _ _)⟩
    case round=>
     obtain⟨q,hq,rfl,HBq⟩:=hrel;have n3:=(QN.out.below HBq.out QN.out.lt).cell 3;have m3:=(QM.out.below HBq.out QM.out.lt).cell 3;by_cases hqm:q<n3'
     ·have hqz:(q:Int)<(n3':Int):=by omega
      have HMq:=And.intro (HM2.out.1.aA (AllB.aA HBq.out)) (HM2.out.2.aA (AllB.aA HBq.out));obtain⟨g,og,y,cs3,rfl,hgg,hy,hry,hay⟩:=HMq.1.at_ hqm;obtain⟨g',og',y',cs4,rfl,hgg',hy',hry',hay'⟩:=HMq.2.at_ hqm;obtain rfl:y'=y:=Option.some.inj (hy'.symm.trans hy);have hsy:=cd msz hy;have hcy:msz y'=1+y'.params.length+lsz ssz y'.body:=rfl;obtain⟨A4,n4,c5,A5,n5,c6,rfl,hp1,hs1⟩:=hry;obtain⟨B4,n4',d5,B5,n5',d6,rfl,hp2,hs2⟩:=hry';obtain rfl:n4'=n4:=hp2.1.symm.trans hp1.1;obtain rfl:n5'=n5:=hs2.1.symm.trans hs1.1;have hp6:n4'<=1000000:=by have h:=hp1.1;omega
      obtain⟨TT,f,hne,hf,hcov⟩:=cq wr.heap.size wr;have R1:=λ(z:TT) (j:Nat) (u:Value) (hj:[Value.string y'.nm,.slice A4 n4' c5,.slice A5 n5' c6][j]?=some u)=>(ab (hf z) hgg _).trans (show wr.cell? ⟨g,og+q*3+j,none⟩=some u by have:=hay j u hj;rwa[show kMe.sz=3 from rfl,El]at this);have R2:=λ(z:TT) (j:Nat) (u:Value) (hj:[Value.string y'.nm,.slice B4 n4' d5,.slice B5 n5' d6][j]?=some u)=>(ab (hf z) hgg' _).trans (show wr.cell? ⟨g',og'+q*3+j,none⟩=some u by have:=hay' j u hj;rwa[show kMe.sz=3 from rfl,El]at this);have a0:∀z,(f z).cell? ⟨g,og+q*3,none⟩=some (.string y'.nm):=λz=>R1 z 0 _ rfl;have a1:∀z,(f z).cell? ⟨g,og+q*3+1,none⟩=some (.slice A4 n4' c5):=λz=>R1 z 1 _ rfl;have a2:∀z,(f z).cell? ⟨g,og+q*3+2,none⟩=some (.slice A5 n5' c6):=λz=>R1 z 2 _ rfl;have e0:∀z,(f z).cell? ⟨g',og'+q*3,none⟩=some (.string y'.nm):=λz=>R2 z 0 _ rfl;have e1:∀z,(f z).cell? ⟨g',og'+q*3+1,none⟩=some (.slice B4 n4' d5):=λz=>R2 z 1 _ rfl;have e2:∀z,(f z).cell? ⟨g',og'+q*3+2,none⟩=some (.slice B5 n5' d6):=λz=>R2 z 2 _ rfl;have QNq:=QN.out.below HBq.out QN.out.lt;have QMq:=QM.out.below HBq.out QM.out.lt;have nz3:∀z,(f z).cell? ⟨N,3,none⟩=some (.slice (some ⟨g,og,none⟩) n3' c4):=λz=>(QNq.below (hf z) QNq.lt).cell 3;have mz3:∀z,(f z).cell? ⟨M,3,none⟩=some (.slice (some ⟨g',og',none⟩) n3' d4):=λz=>(QMq.below (hf z) QMq.lt).cell 3
      have C1:=H_ (show∀z,Calls Tryz.prog 56 #[.slice A4 n4' c5,.slice B4 n4' d5] (f z) (λe w''=>e= .returned (.bool true)/\∃z',w''=f z')from λz=>
       (wo y'.params A4 B4 _ _ _ (f z) (hp1.aA (AllB.aA (hf z))) (hp2.aA (AllB.aA (hf z))) hp6).mono λe w'' ⟨h1,h2⟩=>⟨h1,hcov _ ((hf z).trans (h2.mono (hf z).size))⟩)
      have C2:=H_ (show∀z,Calls Tryz.prog 57 #[.slice A5 n5' c6,.slice B5 n5' d6] (f z) (λe w''=>e= .returned (.bool true)/\∃z',w''=f z')from λz=>
       (AY y'.body A5 B5 _ _ _ (f z) (hs1.aA (AllB.aA (hf z))) (hs2.aA (AllB.aA (hf z))) (by omega)).mono λe w'' ⟨h1,h2⟩=>⟨h1,hcov _ ((hf z).trans (h2.mono (hf z).size))⟩)
      have HFF:=H_ (λz=>HBq.out.trans ((hf z).mono HBq.out.size));have HCOV:=H_ hcov;clear hay hay' hf hcov hy hy' hgg hgg' R1 R2 hp1 hp2 hs1 hs2 hsy hcy QNq QMq HMq;go_upto_region 12 with fail;refine az f (by kernel_rfl) (by kernel_rfl) (HCOV.out _ (DN _ _).drew) ?_;try simp only[List.append_eq,EK,EG]
      repeat (go_big_quiet_step (fail))
      go_big_quiet_step ((go_at_call 56;exact C1.out _));repeat (go_big_quiet_step (fail))
      go_big_quiet_step ((go_at_call 57;exact C2.out _));repeat (go_big_quiet_step (fail))
      refine Fp ?_;rintro _ ⟨z,rfl⟩;go_wp2_with fail;go_roundw
      case rel=>exact⟨q+1,by omega,by go_num,H_ (HFF.out z)⟩
      case measure=>simp[intOf];omega
     ·obtain rfl:q=n3':=by omega
      go_wp2_with fail;go_roundw
      case rel=>exact⟨k+1,by omega,by go_num,H_ (HBW2.out.trans (HBq.out.mono HBW2.out.size))⟩
      case measure=>simp[intOf];omega
  ·obtain rfl:k=n:=by omega
   go_wp2_with fail;go_ret;exact⟨rfl,hpz▸HB1.out.trans (HB.out.mono (by omega))⟩
end
section
open Go.RowKit Go.Shelf
theorem xK:(Tryz.prog.info? 58).map (·.size)=some 2:=by kernel_rfl
theorem By:liesAt Tryz.prog Tryz.prog.depth 60 (9/Tryz.prog.cellsOf 60) 6 58 1=true:=by kernel_rfl
theorem BJ:(Tryz.prog.info? 5).map (λi=>(i.zero,i.size,i.bytes))=some (some (.int .u8 0),1,1):=by kernel_rfl
theorem oV(b:Nat)(w:World)(h0:w.cell? ⟨b,6,none⟩=some (.pointer (some ⟨b,6,none⟩))):
 Calls Tryz.prog 63 #[.pointer (some ⟨b,6,none⟩)] w λe w'=>e= .returned (.tuple #[])/\w'=w:=by
 obtain⟨j,hj,_⟩:=Ev.1 xK;go_enter Tryz.func63,Tryz.ntmps63;go_wp2;rw[Lib.run_neq_ptr_same w _ Tryz.underlying56 hj];go_wp2;go_end0;exact⟨rfl,rfl⟩
theorem nt(b:Nat)(w:World)(h0:w.cell? ⟨b,6,none⟩=some (.pointer none))(hsh:w.shape? b=some (60,9))(hfz:w.frozen? ⟨b,6,none⟩=false):
 Calls Tryz.prog 63 #[.pointer (some ⟨b,6,none⟩)] w λe w'=>e= .returned (.tuple #[])/\w'=w.setCell ⟨b,6,none⟩ (.pointer (some ⟨b,6,none⟩)):=by
 obtain⟨j,hj,hjs⟩:=Ev.1 xK;go_enter Tryz.func63,Tryz.ntmps63;go_wp2;rw[Lib.run_to_unsafe w ⟨b,6,none⟩ Tryz.underlying56 Tryz.underlying180 hj (by rw[hjs];decide) hsh (by show 6<9;decide)];simp only[Result.andThen];rw[FS];go_wp2;rw[run_callFunc_extern Tryz.func106 (by kernel_rfl) (by kernel_rfl) (by kernel_rfl) (e:=Extern.AbiNoEscape.same) (by kernel_rfl)];rw[Lib.run_noEscape];simp only[Result.andThen];rw[FS];go_wp2;rw[Lib.run_from_unsafe w ⟨b,6,none⟩ Tryz.underlying180 Tryz.underlying56 hj hsh By];simp only[Result.andThen];rw[FS];go_wp2;go_end0;exact⟨rfl,rfl⟩
section
variable{b B n:Nat}{sa sv c0 c1 c2 c3 c4 c5 c8:Value}
theorem Ah(w:World)(hb:Blk w b 60 #[c0,c1,c2,c3,c4,c5,sa,sv,c8])(hsa:sa= .pointer none\/sa= .pointer (some ⟨b,6,none⟩)):
 Calls Tryz.prog 63 #[.pointer (some ⟨b,6,none⟩)] w λe w'=>e= .returned (.tuple #[])/\Blk w' b 60 #[c0,c1,c2,c3,c4,c5,.pointer (some ⟨b,6,none⟩),sv,c8]/\(∀k,k≠b->w'.heap[k]?=w.heap[k]?)/\Lk B b w w'/\w'.heap.size=w.heap.size:=by
 rcases hsa with rfl|rfl
 ·refine(nt b w (hb.cell 6) (by unfold Blk at hb;simp[World.shape?,hb]) (hb.frozen 6)).mono ?_;rintro e w' ⟨rfl,rfl⟩;exact⟨rfl,hb.set 6 _,λk hk=>DZ _ _ _ _ hk,(Lk.refl _ _ _).set 6 _,by simp[World.setCell]⟩
 ·refine(oV b w (hb.cell 6)).mono ?_;rintro e w' ⟨rfl,rfl⟩;exact⟨rfl,hb,λ_ _=>rfl,Lk.refl _ _ _,rfl⟩
theorem yI(bs:List Value)(s:ByteArray)(w:World)(hb:Blk w b 60 #[c0,c1,c2,c3,c4,c5,sa,sv,c8])(hsa:sa= .pointer none\/sa= .pointer (some ⟨b,6,none⟩))(hown:w.ownsRow B 5 1 sv n bs)(hbB:b<B)(hBw:B<=w.heap.size)(hlen:n+s.size<=4000000000):
 Calls Tryz.prog 31 #[.pointer (some ⟨b,6,none⟩),.string s] w λe w'=>e= .returned (.tuple #[.int .i64 s.size,.nilIface])/\Lk B b w w'/\
  ∃sv',Blk w' b 60 #[c0,c1,c2,c3,c4,c5,.pointer (some ⟨b,6,none⟩),sv',c8]/\w'.ownsRow B 5 1 sv' (n+s.size) (bs++Lib.strCells s):=by
 obtain⟨i0,hi,hz0,hz1,hz2⟩:=FY BJ;have HC:=H_ (Ah (B:=B) w hb hsa);have HO:=H_ hown;clear hb hsa hown;go_enter Tryz.func31,Tryz.ntmps31;go_wp2_with fail;refine HC.out.mono ?_;rintro e w1 ⟨rfl,q1,hk1,l1,hs1⟩;have hown1:=ek HO.out (w':=w1) (λk hk _ _=>hk1 k (by omega));have d1:=q1.k7;have HQ:=H_ q1;have HL:=H_ l1;have HO1:=H_ hown1;clear q1 hk1 l1 hown1 HC HO;go_wp2_with (at_builtin;refine Lib.wpList_append_own_string _ rfl _ _ 51 9 rfl B 5 i0 Tryz.underlying51 Tryz.underlying9 hi hz0 hz1 hz2 _ _ _ rfl HO1.out s rfl (by unfold maxLen;omega) (by omega) (by omega) ?_);intro v' w2 hown' hgrow _;have hlt:=HQ.out.lt;have hnb:some b≠sv.ownBlock:=λe=>by have:=(HO1.out.lt b e.symm).1;omega
 have q2:Blk w2 b 60 #[c0,c1,c2,c3,c4,c5,.pointer (some ⟨b,6,none⟩),sv,c8]:=(hgrow.block b hlt hnb).trans HQ.out;have d2:=q2.k7;have f2:=q2.frozen 7
 have HL2:=H_ (show Lk B b w w2 from HL.out.grown hgrow λk hk=>⟨(HO1.out.lt k hk).1,by
  rcases HO1.out.2 with⟨hv,_⟩|⟨g,cap,cur,hv,_,hg,_⟩
  ·rw[hv]at hk;cases hk
  ·rw[hv]at hk;cases hk;exact⟨cur,(0,0),.inr hg⟩⟩)
 have HQ2:=H_ q2;have HO2:=H_ hown'
 obtain⟨ao,n',cap,rfl⟩:∃ao n' cap,v'= .slice ao n' cap:=by
  rcases hown'.2 with⟨hv,_⟩|⟨g,cap,cur,hv,_⟩
  ·exact⟨_,_,_,hv⟩
  ·exact⟨_,_,_,hv⟩
 clear q2 hgrow hown' HQ HL HO1 d1;go_wp2_with fail;go_ret2;exact⟨rfl,HL2.out.set 7 _,_,HQ2.out.set 7 _,ek HO2.out λk hk _ _=>DZ _ _ _ _ (show k≠b by omega)⟩
theorem vV(l:List UInt8)(w:World)(hb:Blk w b 60 #[c0,c1,c2,c3,c4,c5,sa,sv,c8])(hown:w.ownsRow B 5 1 sv l.length (Lib.byteCells l))(h0:l=[]->sv= .slice none 0 0)(hbB:b<B)(hl:l.length<=4000000000):
 Calls Tryz.prog 35 #[.pointer (some ⟨b,6,none⟩)] w λe w'=>e= .returned (.string ⟨l.toArray⟩)/\Lk B b w w'/\Blk w' b 60 #[c0,c1,c2,c3,c4,c5,sa,sv,c8]:=by
 have mixed:Tryz.prog.follows .mixedOrders=true:=by kernel_rfl
 by_cases hl0:l=[]
 ·subst hl0;obtain rfl:=h0 rfl;have hUS:∀W,(Builtin.unsafeString_ #[130,3] 9 #[.pointer none,.int .i64 0]).run Tryz.prog W= .ok (.string .empty) W:=λW=>Lib.run_unsafeString_none W _ _ _ none;have d1:=hb.drew.k7;have hSD:(Builtin.unsafeSliceData_ #[51] 130 #[.slice none 0 0]).run Tryz.prog w.drew= .ok (.pointer none) w.drew:=rfl;have HB:=H_ hb;clear hb hown h0;go_enter Tryz.func35,Tryz.ntmps35;go_wp2;go_region_o;all_goals(go_wp2;go_ret;exact⟨rfl,Lk.of (Below.drew (DN w.heap.size w)) (DK _),HB.out.drew⟩)
 ·obtain⟨g,cap,cur,rfl,hbg,hg,hnc,hcm,hcs,htake⟩:∃g cap cur,sv= .slice (some ⟨g,0,none⟩) l.length cap/\B<=g/\w.heap[g]?=some (.cells cur 5 (0,0))/\l.length<=cap/\cap<=maxLen/\cur.size=cap*1/\cur.toList.take (l.length*1)=Lib.byteCells l:=by
   rcases hown.2 with⟨_,hz⟩|⟨g,cap,cur,hv,r⟩
   ·exact absurd (En hz) hl0
   ·exact⟨g,cap,cur,hv,r⟩
  have hlz:l.length≠0:=λe=>hl0 (En e);have d1:=hb.drew.k7
  have hSD:(Builtin.unsafeSliceData_ #[51] 130 #[.slice (some ⟨g,0,none⟩) l.length cap]).run Tryz.prog w.drew= .ok (.pointer (some ⟨g,0,none⟩)) w.drew:=
   Lib.run_unsafeSliceData_row _ _ _ _ _ _ (by omega)
  have hUS:(Builtin.unsafeString_ #[130,3] 9 #[.pointer (some ⟨g,0,none⟩),.int .i64 l.length]).run Tryz.prog w.drew= .ok (.string ⟨l.toArray⟩) (w.drew.freeze ⟨g,0,none⟩ l.length):=by
   refine Lib.run_unsafeString_row w.drew 130 3 9 5 Tryz.underlying130 (by kernel_rfl) g cur.size (by have hg':w.drew.heap[g]?=some (.cells cur 5 (0,0)):=hg;simp[World.shape?,hg']) l hl0 (by omega) (by omega) ?_;intro j x hx;have:=hown.cells (g:=g) rfl j (.int .u8 x.toNat) (by simp[Lib.byteCells,hx]);exact this
  have hfr:∀k,k≠g->(w.drew.freeze ⟨g,0,none⟩ l.length).heap[k]?=w.heap[k]?:=λk hk=>by
   unfold World.freeze;split
   ·rfl
   ·simp only[Array.getElem?_modify];rw[DS (Ne.symm hk)];rfl
  have hfin:Lk B b w (w.drew.freeze ⟨g,0,none⟩ l.length)/\Blk (w.drew.freeze ⟨g,0,none⟩ l.length) b 60 #[c0,c1,c2,c3,c4,c5,sa,.slice (some ⟨g,0,none⟩) l.length cap,c8]:=by
   have hq:=Lib.below_freeze (Below.drew (DN B w)) (p:=⟨g,0,none⟩) hbg l.length;refine⟨⟨hq.os,hq.tape,hq.output,hq.size,λk hk hkb ht=>hfr k λe=>?_⟩,(hfr b (by omega)).trans hb⟩;subst e;exact(ht hbg cur (0,0)).2 hg
  have HF:=H_ hfin
  clear hfin hfr hb hown h0 hg htake;go_enter Tryz.func35,Tryz.ntmps35;go_wp2;go_region_o;all_goals(go_wp2;go_ret;exact⟨rfl,HF.out.1,HF.out.2⟩)
end
end
section
open Go.RowKit
variable{B N f:Nat}{a:List UInt8}{l:ByteArray}{p':Ph}{w w':World}{x x':Sc}
theorem zZ(s:ByteArray)(w:World):Calls Tryz.prog 50 #[.string s,.string ⟨#[10]⟩] w λe w'=>e= .returned (.int .i64 (s.data.toList.count 10:Nat))/\w'=w:=Any.strings_Count_one Tryz.lays138 s 10 w
def DG(B b f:Nat)(sa sv:Value)(m sd y pt:Int)(a:List UInt8)(w:World)(e:Ending)(w':World):Prop:=Lk B b w w'/\match en a with
 | .err q er=>e= .returned (.tuple #[.int .i64 ((f+(a.take q.toNat).count 10:Nat):Int),.int .i64 er])/\er≠0
 | .ok cs=>e= .returned (.tuple #[.int .i64 0,.int .i64 0])/\∃A n c,Blk w' b 60 #[.int .i64 m,.int .u64 sd,.int .i64 y,.slice A n c,.slice none 0 0,.int .i64 pt,sa,sv,.int .i64 (f:Int)]/\Sl kCl w' (λg=>B<=g/\g<w'.heap.size) cs A n
theorem nM{b:Nat}{sa sv:Value}{m sd y pt:Int}(a:List UInt8)(w:World)(hb:Blk w b 60 #[.int .i64 m,.int .u64 sd,.int .i64 y,.slice none 0 0,.slice none 0 0,.int .i64 pt,sa,sv,.int .i64 (f:Int)])
 (hown:w.ownsRow B 5 1 sv a.length (Lib.byteCells a)) (h0:a=[]->sv= .slice none 0 0) (hgB:GlB w b) (hbB:b<B) (hBw:B<=w.heap.size) (hl:a.length<=3000000000) (hf:f<=1000000):
 Calls Tryz.prog 21 #[.pointer (some ⟨b,0,none⟩)] w (DG B b f sa sv m sd y pt a w):=by
 have HS:=H_ (vV a w hb hown h0 hbB (by omega));have HG:=H_ hgB;have hlt:=hb.lt;clear hb hown h0 hgB;go_enter Tryz.func21,Tryz.ntmps21;go_wp2_with fail;refine HS.out.mono ?_;rintro e w1 ⟨rfl,l1,q1⟩;have HL1:=H_ l1;have HQ1:=H_ q1;have hs1:=l1.size;have hg1:=(GlB.below HG.out (l1.below (by omega) (DK _) (by omega))).gl;have HP:=H_ (ut ⟨a.toArray⟩ w1 hg1);clear l1 q1 hg1 HS;go_wp2_with fail;refine HP.out.mono ?_;rintro e w2 ⟨b2,v,p,er,rfl,hcase⟩;have hs2:=b2.size;have HL2:=H_ (HL1.out.trans (Lk.of b2 (DK _)));have HQ2:=H_ (HQ1.out.below b2 (by omega));have HB2:=H_ b2;have HC:=H_ (show(match en a with| .err q e=>p=q/\er=e/\v= .agg #[.slice none 0 0]/\er≠0| .ok cs=>p=0/\er=0/\rvP w2 (Fr w1 w2) cs v)from hcase);clear hcase b2 HL1 HQ1 HP;cases hp:en a with
 |err q e'=>
  have hc:=HC.out;rw[hp]at hc;obtain⟨rfl,rfl,rfl,hne⟩:=hc;obtain⟨hq0,hq1⟩:=rH hp;obtain⟨j,rfl⟩:=Ei hq0;have hjl:j<=a.length:=by omega
  clear hq0 hq1 HC;have hne2:(er==0)=false:=by simpa using hne
  obtain⟨w3,hw3⟩:=nm_ (w2.alloc (.cells #[.slice none 0 0] 28));have b3:=bal hw3;have HL3:=H_ (HL2.out.trans (Lk.of b3 (DK _)));have Q3:=HQ2.out.below b3 HQ2.out.lt;have hs3:=b3.size;obtain⟨TT,F,_,hF,hcov⟩:=cq w3.heap.size w3;have d8:=λz=>(Q3.below (hF z) Q3.lt).k8;have hsz:(⟨a.toArray⟩:ByteArray).size=a.length:=by simp[ByteArray.size]
  have hcnt:((⟨a.toArray⟩:ByteArray).extract 0 j).data.toList.count 10=(a.take j).count 10:=by rw[oP];rfl
  have hcl:(a.take j).count 10<=3000000000:=Ek List.count_le_length (by rw[Fd];omega)
  have C50:=H_ (show∀z,Calls Tryz.prog 50 #[.string ((⟨a.toArray⟩:ByteArray).extract 0 j),.string ⟨#[10]⟩] (F z) (λe w''=>e= .returned (.int .i64 ((a.take j).count 10:Nat))/\∃z',w''=F z')from λz=>
   (zZ _ (F z)).mono λe w'' ⟨h1,h2⟩=>⟨by rw[h1,hcnt],z,h2⟩)
  have hj0:(0:Int)<=(j:Int):=by omega
  have hj1:(j:Int)<=((⟨a.toArray⟩:ByteArray).size:Int):=by rw[hsz];omega
  have hwr:IntKind.i64.wrap ((f:Int)+((a.take j).count 10:Nat))=(((f+(a.take j).count 10:Nat)):Int):=by rw[Fj _ (by omega)];omega
  have HCOV:=H_ hcov;have HFB:=H_ hF;obtain⟨N,hN⟩:=nm_ ((a.take j).count 10);rw[hN]at C50 hwr hcl;have HNN:=H_ hN;have HW3:=H_ hw3;clear hcov hF b3 Q3 hcnt hN hs3 hw3;go_upto_region 4 with fail;rw[HW3.out];refine az F (by kernel_rfl) (by kernel_rfl) (HCOV.out _ (DN _ _).drew) ?_;repeat (go_big_quiet_step (fail))
  go_big_quiet_step ((go_at_call 50;exact C50.out _));repeat (go_big_quiet_step (fail))
  refine Fp ?_;rintro _ ⟨z,rfl⟩;go_wp2_with fail;go_ret2;refine⟨HL3.out.trans (Lk.of (HFB.out z) (DK _)),?_⟩;rw[hp];exact⟨by rw[EZ,HNN.out,Int.natCast_add];rfl,hne⟩
 |ok cs=>
  have hc:=HC.out;rw[hp]at hc;obtain⟨rfl,rfl,A,n,c,rfl,hsl⟩:=hc;clear HC;obtain⟨w3,hw3⟩:=nm_ (w2.alloc (.cells #[.slice A n c] 28));obtain⟨g,hgz⟩:=nm_ (w2.heap.size);have b3:=bal hw3;have HL3:=H_ (HL2.out.trans (Lk.of b3 (DK _)));have HQ3:=hbl HQ2 b3;have hg3:=Blk.ng hw3 hgz;have d0:=hg3.cell 0;have d3:=HQ3.out.cell 3;have f3:=HQ3.out.frozen 3;have hs3:=b3.size;have hlt3:=HQ3.out.lt;have HSL:=H_ (hsl.aA (G':=λg=>B<=g/\g<w3.heap.size/\g≠b) (w':=w3) (λk hk=>⟨⟨by have:=hk.1;omega,by have:=hk.2;omega,by have:=hk.1;omega⟩,b3.block k hk.2⟩));have HW3:=H_ hw3;clear b3 hsl hg3 hw3;go_upto_region 5 with fail;rw[HW3.out];go_wp2_with fail;go_ret2;refine⟨HL3.out.set 3 _,?_⟩;rw[hp];refine⟨rfl,A,n,c,HQ3.out.set 3 _,HSL.out.aA (λk hk=>⟨⟨hk.1,by simp[World.setCell];exact hk.2.1⟩,DZ _ _ _ _ hk.2.2⟩)⟩
def LineP(n:Nat)(l:ByteArray)(p:Ph)(x:Sc)(B b:Nat)(w:World)(e:Ending)(w':World):Prop:=Lk B b w w'/\match bA n l p x with
 | .err q er=>e= .returned (.tuple #[.int .i64 (q:Int),.int .i64 er])/\er≠0
 | .go p' x'=>e= .returned (.tuple #[.int .i64 0,.int .i64 0])/\RdP w' B b x' p'
theorem LineP.err{n q:Nat}{er:Int}{p:Ph}{b:Nat}(h:bA n l p x= .err q er)(he:er≠0)(hk:Lk B b w w'):LineP n l p x B b w (.returned (.tuple #[.int .i64 (q:Int),.int .i64 er])) w':=by
 refine⟨hk,?_⟩;rw[h];exact⟨rfl,he⟩
theorem LineP.go{n:Nat}{p:Ph}{b:Nat}(h:bA n l p x= .go p' x')(hk:Lk B b w w')(hr:RdP w' B b x' p'):LineP n l p x B b w (.returned (.tuple #[.int .i64 0,.int .i64 0])) w':=by
 refine⟨hk,?_⟩;rw[h];exact⟨rfl,hr⟩
theorem nk{S:ByteArray}(h:S.data.toList=l.data.toList++[10]):Lib.byteCells a++Lib.strCells S=Lib.byteCells (a++l.data.toList++[10]):=by
 simp[Lib.byteCells,Lib.strCells,h]
theorem xA{n:Nat}{b:Nat}(hr:RdP w B b x (.src a f))(hgB:GlB w b)(hbB:b<B)(hBw:B<=w.heap.size)(hl:l.size<=100000)(ha:a.length<=3000000000)(hf:f<=1000000):
 Calls Tryz.prog 20 #[.pointer (some ⟨b,0,none⟩),.int .i64 (n:Int),.string l] w (LineP n l (.src a f) x B b w):=by
 obtain⟨sa,sv,hb,hsa,hown,h0,hcs,hac⟩:=hr;have q5:=hb.cell 5;have f5:=hb.frozen 5;have HB:=H_ hb;have HX:=H_ (And.intro hcs hac);by_cases he:l=eX
 ·obtain⟨w1,hw1⟩:=nm_ (w.setCell ⟨b,5,none⟩ (.int .i64 5));have hk1:∀k,k≠b->w1.heap[k]?=w.heap[k]?:=λk hk=>hw1▸DZ _ _ _ _ hk;have hs1:w1.heap.size=w.heap.size:=by rw[<-hw1];simp[World.setCell]
  have q1:=hb.s5 hw1;have hg1:GlB w1 b:=GlB.below hgB (hw1▸(DN _ _).setCell (p:=⟨b,5,none⟩) (DK _) _);have HP:=H_ (nM a w1 q1 (ek hown λk hk _ _=>hk1 k (by omega)) h0 hg1 hbB (by omega) ha hf);have HL:=H_ (show Lk B b w w1 from hw1▸(Lk.refl _ _ _).set 5 _);have HW:=H_ hw1;have hst:bA n l (.src a f) x=om a f x:=by unfold bA;exact Ed he
  have HST:=H_ hst;have heq:(eX.toList==[101,110,100])=true:=by rw[Ey];rfl
  subst he;unfold eX at heq HST⊢;clear hb hown h0 hgB hw1 hk1 q1 hg1 hst hsa hcs hac;go_enter Tryz.func20,Tryz.ntmps20;go_upto_region 6 with fail;rw[HW.out];clear q5 f5;go_wp2_with fail;refine HP.out.mono ?_;rintro e w2 ⟨l2,hcase⟩;have HL2:=H_ (HL.out.trans l2);clear l2;cases hp:en a with
  |err q er=>
   rw[hp]at hcase;obtain⟨rfl,hne⟩:=hcase;go_wp2_with fail;go_ret2;exact LineP.err (HST.out.trans (by unfold om;rw[hp])) hne HL2.out
  |ok cs=>
   rw[hp]at hcase;obtain⟨rfl,A,m,c,q2,hsl⟩:=hcase;have HQ:=H_ (And.intro q2 hsl);clear q2 hsl;go_wp2_with fail;go_ret2;exact LineP.go (p':= .acts) (x':={x with cs:=cs}) (HST.out.trans (by unfold om;rw[hp])) HL2.out ⟨A,m,c,_,sa,sv,f,HQ.out.1,HQ.out.2.aA (λk hk=>⟨⟨⟨hk.1,hk.2,λh=>h⟩,λh=>by cases h⟩,rfl⟩),HX.out.2▸Vec.nil _ _ _ _ _⟩
 ·obtain⟨S,hS,hSz,hadd⟩:=gg l ⟨#[10]⟩ (by have:(⟨#[10]⟩:ByteArray).size=1:=rfl;omega);have hS1:S.size=l.size+1:=hSz;have HC:=H_ (yI (Lib.byteCells a) S w hb hsa hown hbB hBw (by omega));have HSN:=H_ (nk (a:=a) hS)
  have HSL:=H_ (show a.length+S.size=(a++l.data.toList++[10]).length by
   have h:l.data.toList.length=l.size:=rfl;rw[DJ,DJ,h,hS1];simp;omega)
  have hst:bA n l (.src a f) x= .go (.src (a++l.data.toList++[10]) f) x:=by unfold bA;exact DS he
  have HST:=H_ hst;have hne:(l.toList==[101,110,100])=false:=DM.2 λe=>he (eK (e.trans (Ey eX).symm));clear hb hown h0 hgB hst hsa hS hSz hS1 hcs hac he;go_enter Tryz.func20,Tryz.ntmps20;go_wp2_with fail;refine HC.out.mono ?_;rintro e w1 ⟨rfl,l1,sv',q1,o1⟩;rw[HSN.out,HSL.out]at o1;have HQ:=H_ (And.intro l1 (And.intro q1 o1));clear l1 q1 o1;go_wp2_with fail;go_ret2;exact LineP.go HST.out HQ.out.1 ⟨_,sv',HQ.out.2.1,.inr rfl,HQ.out.2.2,λh=>by simp at h,HX.out.1,HX.out.2⟩
def wI:Ph->Int
 | .conf k=>k
 | .src _ _=>4
 | .acts=>5
theorem RdP.part{b:Nat}{p:Ph}(h:RdP w B b x p):w.cell? ⟨b,5,none⟩=some (.int .i64 (wI p)):=by
 cases p with
 |conf k=>exact h.1.cell 5
 |src a f=>obtain⟨sa,sv,hb,_⟩:=h;exact hb.cell 5
 |acts=>obtain⟨A,n,c,u,sa,sv,f,hb,_⟩:=h;exact hb.cell 5
theorem nR{n:Nat}{p:Ph}{b:Nat}(hr:RdP w B b x p)(hp:wI p≠4)(hs:eZ l=true)(hst:bA n l p x= .go p x):
 Calls Tryz.prog 20 #[.pointer (some ⟨b,0,none⟩),.int .i64 (n:Int),.string l] w (LineP n l p x B b w):=by
 have q5:=hr.part;have hp4:=DM.2 hp;have HR:=H_ hr;have HST:=H_ hst;clear hr hst;generalize wI p=pn at q5 hp4 hp;by_cases h0:l.size=0
 ·obtain rfl:l=⟨#[]⟩:=Eh (En h0);clear h0 hs hp;go_enter Tryz.func20,Tryz.ntmps20;go_wp2_with fail;go_ret2;exact LineP.go HST.out (Lk.refl _ _ _) HR.out
 ·have h1:0<l.size:=by omega
  have hz0:(0:Int)<(l.size:Int):=by omega
  have hc:(l[0]'h1)=35:=by
   unfold eZ at hs;cases hl:l.data.toList with
   |nil=>have h2:l.data.toList.length=l.size:=rfl;rw[hl]at h2;simp at h2;omega
   |cons c r=>
    rw[hl]at hs;have h2:l.data.toList[0]?=some c:=by rw[hl];rfl
    have h3:=(DQ.1 h2).2;have h4:c=35:=by simpa using hs
    rw[<-h4];exact h3
  have hc35:(((l[0]'h1).toNat:Int)==35)=true:=by rw[hc];rfl
  have hne:(l.toList==[])=false:=DM.2 λe=>h0 (by rw[Ey]at e;exact Fo List.length e);clear hc h0 hs hp;go_enter Tryz.func20,Tryz.ntmps20;go_wp2_with fail;go_ret2;exact LineP.go HST.out (Lk.refl _ _ _) HR.out
theorem rJ(h:eZ l=false):∃h1:0<l.size,(((l[0]'h1).toNat:Int)==35)=false/\(l.toList==[])=false:=by
 unfold eZ at h;cases hl:l.data.toList with
 |nil=>rw[hl]at h;cases h
 |cons c r=>
  rw[hl]at h;have h2:l.data.toList.length=l.size:=rfl;have h1:0<l.size:=by rw[hl]at h2;simp at h2;omega
  refine⟨h1,?_,by rw[Ey,hl];rfl⟩;have h3:l.data.toList[0]?=some c:=by rw[hl];rfl
  have h4:=(DQ.1 h3).2;have h5:(l[0]'h1)=c:=h4;rw[h5];have h6:c≠35:=by simpa using h
  exact DM.2 λe=>h6 (UInt8.toNat_inj.1 (by show c.toNat=35;omega))
theorem Vec.kind{α:Type}{K:Kd α}{base:Nat}{Z:Nat->Prop}{u:Value}{xs:List α}(h:Vec K 48 base Z w u xs):∀k,u.ownBlock=some k->base<=k/\∃cs fz,w.heap[k]?=some (.cells cs 48 fz)\/w.heap[k]?=some (.cells cs 5 fz):=λk hk=>by
 refine⟨(h.lt k hk).1,?_⟩;obtain⟨_,css,h1,_⟩:=h;rcases h1.2 with⟨hv,_⟩|⟨g,cap,cur,hv,_,hg,_⟩
 ·rw[hv]at hk;cases hk
 ·rw[hv]at hk;cases hk;exact⟨cur,(0,0),.inl hg⟩
theorem CE:nj 7 29 48:=iA (z:= .agg #[.int .i64 0,.int .i64 0,.int .i64 0,.string ⟨#[]⟩,.string ⟨#[]⟩,.slice none 0 0,.slice none 0 0]) (bytes:=104) (by kernel_rfl) (by kernel_rfl) rfl (by decide)
theorem xB{n:Nat}{b:Nat}(hr:RdP w B b x .acts)(hg:Gl w)(hbB:b<B)(hBw:B<=w.heap.size)(hl:l.size<=100000)(hs:eZ l=false)(hac:x.ac.length<=100000):
 Calls Tryz.prog 20 #[.pointer (some ⟨b,0,none⟩),.int .i64 (n:Int),.string l] w (LineP n l .acts x B b w):=by
 obtain⟨h1,hc35,hne⟩:=rJ hs;have hz0:(0:Int)<(l.size:Int):=by omega
 obtain⟨A,m,c,u,sa,sv,f,hb,hsl,hv⟩:=hr;have q5:=hb.cell 5;have HB:=H_ hb;have HP:=H_ (kp l w hg (by omega));have HV:=H_ (And.intro hsl hv);have hul:=hv.lt;clear hb hsl hv hg;go_enter Tryz.func20,Tryz.ntmps20;go_wp2_with fail;refine HP.out.mono ?_;rintro e w1 ⟨v,ad,rfl,had,hrd,hn1,hn2,hap,b1⟩;have hkad:=hrd.ad hn1 hn2 hap;obtain⟨ok,hok⟩:=nm_ ((cF (bc l)).isSome);have HOK:=H_ hok;rw[hok];clear hok;obtain⟨code,hcd⟩:∃code:Int,(if ok=true then(0:Int)else 3)=code:=⟨_,rfl⟩;have hcode:(code==0)=ok:=by rw[<-hcd];cases ok<;>rfl
 rw[hcd];obtain⟨k',a',b',nm,mt,A1,n1,c1,A2,n2,c2⟩:=v;have hs1:=b1.size;have HB1:=hbl HB b1;have HL1:=H_ (Lk.of (B:=B) (b:=b) b1 (DK _));have HV1:=H_ (And.intro (HV.out.1.aA (G':=λg=>NG B noZ w1 g/\u.ownBlock≠some g) (λg hg=>⟨⟨hg.1.mono hs1,hg.2⟩,b1.block g hg.1.2.1⟩)) (HV.out.2.aA hs1 (λk hk=>b1.block k hk.2.1)));have HK1:=H_ (kAd.aA (G':=λk=>NG B noZ w1 k/\u.ownBlock≠some k) (w':=w1) (λk hk=>⟨⟨⟨by have:=hk.1;omega,hk.2,λh=>h⟩,λe=>by have:=(hul k e).2;have:=hk.1;omega⟩,rfl⟩) hkad);have HAD:=H_ had;unfold Av.cells at HK1⊢;dsimp only at HK1⊢;clear hrd hn1 hn2 hap hkad HP HB HV q5 b1 had;obtain⟨g,hgz⟩:=nm_ (w1.heap.size);obtain⟨w2,hw2⟩:=nm_ (w1.alloc (.cells #[.int .i64 k',.int .i64 a',.int .i64 b',.string nm,.string mt,.slice A1 n1 c1,.slice A2 n2 c2] 48));have b2:=bal hw2;have hs2:w2.heap.size=g+1:=by rw[<-hw2,<-hgz];simp
 have HB2:=hbl HB1 b2;have HL2:=H_ (HL1.out.trans (Lk.of (B:=B) (b:=b) b2 (DK _)));have HG2:=hng hw2 hgz;have HV2:=H_ (And.intro (HV1.out.1.aA (G':=λg=>NG B noZ w2 g/\u.ownBlock≠some g) (λg hg=>⟨⟨hg.1.mono b2.size,hg.2⟩,b2.block g hg.1.2.1⟩)) (HV1.out.2.aA b2.size (λk hk=>b2.block k hk.2.1)));have HK2:=H_ (kAd.aA (G':=λk=>NG B noZ w2 k/\u.ownBlock≠some k) (w':=w2) (λk hk=>⟨⟨hk.1.mono b2.size,hk.2⟩,b2.block k hk.1.2.1⟩) HK1.out);have HW:=H_ hw2;have hgw:w.heap.size<=g:=by omega
 clear b2 hw2 HB1 HL1 HV1 HK1;go_upto_region 12 with fail;rw[HW.out];have h1b:=HB2.out.lt;have hgb:g≠b:=by omega
 refine gS 7 8 9 (λj=>j==7) (λxs=>{tmps:= #[.pointer (some ⟨b,0,none⟩),.int .i64 (n:Int),.string l,undef,undef,undef,.int .i64 0,.int .i64 0,.bool ok,.pointer (some ⟨g,0,none⟩),.int .i64 code,.pointer (some ⟨b,0,none⟩),.pointer (some ⟨b,0,none⟩),.pointer (some ⟨b,5,none⟩),.int .i64 5,.bool false,undef,undef,undef,undef,undef,undef,undef,undef,undef,undef,undef,undef,undef,undef,undef,undef,undef,undef,undef,.string l,.bool false,.bool false,.string l,.int .u8 ((l[0]'h1).toNat:Int),.bool false,.bool false,.tuple #[.agg #[.int .i64 k',.int .i64 a',.int .i64 b',.string nm,.string mt,.slice A1 n1 c1,.slice A2 n2 c2],.int .i64 code],.string l,.tuple #[.agg #[.int .i64 k',.int .i64 a',.int .i64 b',.string nm,.string mt,.slice A1 n1 c1,.slice A2 n2 c2],.int .i64 code],.agg #[.int .i64 k',.int .i64 a',.int .i64 b',.string nm,.string mt,.slice A1 n1 c1,.slice A2 n2 c2],.int .i64 code,.int .i64 code,.bool ok,(xs 0).getD undef,(xs 1).getD undef,(xs 2).getD undef,(xs 3).getD undef,(xs 4).getD undef,(xs 5).getD undef,(xs 6).getD undef,(xs 7).getD undef,(xs 8).getD undef,undef,undef,undef,.bool false,.pointer (some ⟨b,0,none⟩),.pointer (some ⟨b,0,none⟩),.pointer (some ⟨b,5,none⟩),.int .i64 5,.bool false,undef,undef,undef,undef,undef,undef,undef,undef,undef,undef,.bool false,.pointer (some ⟨b,0,none⟩),.pointer (some ⟨b,0,none⟩),.pointer (some ⟨b,5,none⟩),.int .i64 5,.bool false,undef,undef,undef,undef,undef,undef,undef,undef,undef,undef,undef,undef,undef],defers:=[]})
  (λd W=>Lk B b w W/\Blk W b 60 #[.int .i64 x.m,.int .u64 x.sd,.int .i64 x.y,.slice A m c,u,.int .i64 5,sa,sv,.int .i64 f]/\Blk W g 48 #[.int .i64 k',.int .i64 a',.int .i64 b',.string nm,.string mt,.slice A1 n1 c1,.slice A2 n2 c2]/\(d=false->Below w2.heap.size w2 W)) 0
  (λi=>match i with
    |0=>fEq (.pointer (some ⟨b,0,none⟩))
    |1=>fEq (.pointer (some ⟨b,0,none⟩))
    |2=>fEq (.pointer (some ⟨b,0,none⟩))
    |3=>fEq (.pointer (some ⟨b,0,none⟩))
    |4=>fEq (.pointer (some ⟨b,4,none⟩))
    |5=>fEq u
    |6=>fEq (.agg #[.int .i64 k',.int .i64 a',.int .i64 b',.string nm,.string mt,.slice A1 n1 c1,.slice A2 n2 c2])
    |7=>λv W=>∃ra,v= .slice (some ⟨ra,0,none⟩) 1 1/\w2.heap.size<=ra/\Blk W ra 48 #[.int .i64 k',.int .i64 a',.int .i64 b',.string nm,.string mt,.slice A1 n1 c1,.slice A2 n2 c2]/\kAd.rd W (λk=>NG B noZ W k/\u.ownBlock≠some k) ad [.int .i64 k',.int .i64 a',.int .i64 b',.string nm,.string mt,.slice A1 n1 c1,.slice A2 n2 c2]/\Vec kAd 48 B noZ W u x.ac/\Sl kCl W (λg=>NG B noZ W g/\u.ownBlock≠some g) x.cs A m
    |8=>λv W=>Vec kAd 48 B noZ W v (x.ac++[ad])/\Sl kCl W (λg=>NG B noZ W g/\v.ownBlock≠some g) x.cs A m
    |_=>λ_ _=>True)
  (by
    intro k
    match k with
    |0|1|2|3|4|5|6=>exact fEq.st _ _
    |7=>exact λ_ W W' hn ⟨ra,e1,e2,e3,e4,e5,e6⟩=>⟨ra,e1,e2,(hn.block ra (Ea _) e3.lt).trans e3,kAd.aA (λk hk=>⟨⟨hk.1.mono hn.size,hk.2⟩,hn.block k (Ea _) hk.1.2.1⟩) e4,e5.aA hn.size (λk hk=>hn.block k (Ea _) hk.2.1),e6.aA (λk hk=>⟨⟨hk.1.mono hn.size,hk.2⟩,hn.block k (Ea _) hk.1.2.1⟩)⟩
    |8=>exact λ_ W W' hn ⟨e5,e6⟩=>⟨e5.aA hn.size (λk hk=>hn.block k (Ea _) hk.2.1),e6.aA (λk hk=>⟨⟨hk.1.mono hn.size,hk.2⟩,hn.block k (Ea _) hk.1.2.1⟩)⟩
    |_+9=>exact λ_ _ _ _ _=>trivial)
  (by kernel_rfl) (by kernel_rfl) (by decide) (by kernel_rfl) (by decide) (by decide) (by kernel_rfl) rfl ⟨HL2.out.trans (Lk.of (DN _ _).drew (DK _)),HB2.out,HG2.out,λ_=>(DN _ _).drew⟩ ?_ ?_ ?_ ?_
 ·intro i hi hic hid d xs W hJ hd;have HJ:=H_ hJ;have p4:=hJ.2.1.cell 4;have s0:=hJ.2.2.1.cell 0;have s1:=hJ.2.2.1.cell 1;have s2:=hJ.2.2.1.cell 2;have s3:=hJ.2.2.1.cell 3;have s4:=hJ.2.2.1.cell 4;have s5:=hJ.2.2.1.cell 5;have s6:=hJ.2.2.1.cell 6;clear hJ;obtain rfl|rfl|rfl|rfl|rfl|rfl|rfl:i=0\/i=1\/i=2\/i=3\/i=4\/i=5\/i=6:=by omega
  ·refine DU rfl λK hK=>?_;go_simp;exact hK _ _ ⟨_,rfl,HJ.out,rfl,Nw.refl _ _⟩
  ·refine DU rfl λK hK=>?_;go_simp;exact hK _ _ ⟨_,rfl,HJ.out,rfl,Nw.refl _ _⟩
  ·obtain⟨_,h1,rfl⟩:=hd 1;refine DU rfl λK hK=>?_;go_simp;exact hK _ _ ⟨_,by simp only[bG,h1];rfl,HJ.out,rfl,Nw.refl _ _⟩
  ·obtain⟨_,h2,rfl⟩:=hd 2;refine DU rfl λK hK=>?_;go_simp;exact hK _ _ ⟨_,by simp only[bG,h2];rfl,HJ.out,rfl,Nw.refl _ _⟩
  ·obtain⟨_,h3,rfl⟩:=hd 3;refine DU rfl λK hK=>?_;go_simp;exact hK _ _ ⟨_,by simp only[bG,h3];rfl,HJ.out,rfl,Nw.refl _ _⟩
  ·obtain⟨_,h4,rfl⟩:=hd 4;refine DU rfl λK hK=>?_;go_simp;exact hK _ _ ⟨_,by simp only[bG,h4];rfl,HJ.out,rfl,Nw.refl _ _⟩
  ·refine DU rfl λK hK=>?_;go_simp;exact hK _ _ ⟨_,rfl,HJ.out,rfl,Nw.refl _ _⟩
 ·intro xs W hJ hd;obtain⟨_,h6,rfl⟩:=hd 6;have hb2:=hJ.2.2.2 rfl;have hbn:=(DN W.heap.size W).alloc (DK _) (.cells #[.int .i64 k',.int .i64 a',.int .i64 b',.string nm,.string mt,.slice A1 n1 c1,.slice A2 n2 c2] 48);have hbw:=hb2.alloc hb2.size (.cells #[.int .i64 k',.int .i64 a',.int .i64 b',.string nm,.string mt,.slice A1 n1 c1,.slice A2 n2 c2] 48);have HJ:=H_ hJ;have HN:=H_ hbn;have HBW:=H_ hbw;clear hJ hbn hbw hb2;refine DU rfl λK hK=>?_;go_simp
  exact hK _ _ ⟨.slice (some ⟨W.heap.size,0,none⟩) 1 1,by simp only[bG,h6];rfl,⟨HJ.out.1.trans (Lk.of HN.out (DK _)),HJ.out.2.1.below HN.out HJ.out.2.1.lt,HJ.out.2.2.1.below HN.out HJ.out.2.2.1.lt,λh=>by cases h⟩,
   ⟨W.heap.size,rfl,(HJ.out.2.2.2 rfl).size,Blk.new W 48 _,kAd.aA (λk hk=>⟨⟨hk.1.mono HBW.out.size,hk.2⟩,HBW.out.block k hk.1.2.1⟩) HK2.out,HV2.out.2.aA HBW.out.size (λk hk=>HBW.out.block k hk.2.1),HV2.out.1.aA (λk hk=>⟨⟨hk.1.mono HBW.out.size,hk.2⟩,HBW.out.block k hk.1.2.1⟩)⟩,Nw.below HN.out⟩
 ·intro _ xs W hJ hd;obtain⟨v5,h5,e5⟩:=hd 5;rw[show v5=u from e5]at h5;clear e5;obtain⟨_,h7,ra,rfl,hra,hrow,hkad,hvec,hsl⟩:=hd 7;have hWb:=hJ.2.1.lt;have hsW:=hJ.1.size;have hkind:=hvec.kind;refine DU rfl λK hK=>?_
  have hy:∀(j:Nat) (x':Ad) (cs':List Value),[ad][j]?=some x'->([[.int .i64 k',.int .i64 a',.int .i64 b',.string nm,.string mt,.slice A1 n1 c1,.slice A2 n2 c2]]:List (List Value))[j]?=some cs'->kAd.rd W (λk=>NG B noZ W k/\u.ownBlock≠some k) x' cs':=λj x' cs' e1 e2=>by
   cases j with
   |zero=>
    simp at e1 e2;subst e1 e2;exact hkad
   |succ j=>simp at e1
  obtain⟨v',W',hr,hv',hgrow,hat⟩:=ik CE 29 (c:=1) hvec (ys:=[ad]) (dss:=[[.int .i64 k',.int .i64 a',.int .i64 b',.string nm,.string mt,.slice A1 n1 c1,.slice A2 n2 c2]]) (b:=ra) (off:=0) rfl (by simpa using At.aE hrow) hy (by simp;omega) (by omega) (λ_ _ h=>h);refine fX (.tmp 54) (.tmp 56) 29 rfl (by show(xs 5).getD undef=_;rw[h5];rfl) (by show(xs 7).getD undef=_;rw[h7];rfl) hr ?_
  ·have hub:=hul;have hkeep:∀k,k<W.heap.size->u.ownBlock≠some k->W'.heap[k]?=W.heap[k]?:=λk hk hne=>hgrow.block k hk (λe=>hne e.symm);refine hK _ _ ⟨v',rfl,⟨hJ.1.grown hgrow hkind,(hkeep b hWb (λe=>by have:=(hub b e).1;omega)).trans hJ.2.1,(hkeep g hJ.2.2.1.lt (λe=>by have:=(hub g e).2;omega)).trans hJ.2.2.1,λh=>by rw[h7]at h;cases h⟩,⟨hv',?_⟩,λk v hkd h1 h2=>?_⟩
   ·refine hsl.aA λk hk=>⟨⟨hk.1.mono hgrow.size,λe=>?_⟩,hkeep k hk.1.2.1 hk.2⟩;rcases hat with e2|e2
    ·exact hk.2 (e2▸e)
    ·rw[e2]at e;cases e;exact absurd hk.1.2.1 (Fv _)
   ·match k,hkd,h1,h2 with
    |0,_,_,h2|1,_,_,h2|2,_,_,h2|3,_,_,h2|4,_,_,h2|5,_,_,h2|6,_,_,h2=>exact h2
    |8,hkd,_,_=>exact absurd rfl hkd
    |k+9,_,_,_=>trivial
 ·intro xs W hJ hF;obtain⟨_,h0,rfl⟩:=hF 0 (by omega) rfl;obtain⟨_,h1',rfl⟩:=hF 1 (by omega) rfl;obtain⟨_,h2,rfl⟩:=hF 2 (by omega) rfl;obtain⟨_,h3,rfl⟩:=hF 3 (by omega) rfl;obtain⟨_,h4,rfl⟩:=hF 4 (by omega) rfl;obtain⟨v5,h5,e5⟩:=hF 5 (by omega) rfl;rw[show v5=u from e5]at h5;obtain⟨_,h6,rfl⟩:=hF 6 (by omega) rfl;obtain⟨v',h8,hv',hsl'⟩:=hF 8 (by omega) rfl;have q4:=hJ.2.1.cell 4;have qf:=hJ.2.1.frozen 4;have HV:=H_ (And.intro hv' hsl');have HJ:=H_ hJ;obtain⟨A',c',rfl,_⟩:=hv'.sl (by simp[BD];omega);rw[show(x.ac++[ad]).length=x.ac.length+1 from by simp]at h8 HV;clear hv' hsl' hJ hF e5;rw[show List.range' 9 _=[9,10,11,12]from rfl,Fb];refine DU rfl λK hK=>?_;rw[show(xs 7)=xs 7 from rfl];generalize xs 7=x7;simp only[h0,h1',h2,h3,h4,h5,h6,h8,Fz];go_simp;refine hK _ _ ?_;rw[Fb];refine DU rfl λK hK=>?_;go_simp;refine hK _ _ ?_;rw[Fb];refine DU rfl λK hK=>?_;go_simp;refine hK _ _ ?_;rw[Fb];refine DU rfl λK hK=>?_;go_simp;refine hK _ _ ?_
  have HR:=H_ (show RdP (W.setCell ⟨b,4,none⟩ (.slice A' (x.ac.length+1) c')) B b {x with ac:=x.ac++[ad]} .acts from
   ⟨A,m,c,.slice A' (x.ac.length+1) c',sa,sv,f,HJ.out.2.1.set 4 _,HV.out.2.aA (λk hk=>⟨⟨hk.1.mono (by simp[World.setCell]),hk.2⟩,DZ _ _ _ _ (show k≠b by have:=hk.1.1;omega)⟩),
     HV.out.1.aA (by simp[World.setCell]) (λk hk=>DZ _ _ _ _ (show k≠b by have:=hk.1;omega))⟩)
  have HL:=H_ (HJ.out.1.set 4 (.slice A' (x.ac.length+1) c'));clear q4 qf HJ HV;unfold wpOps;cases hpw:cF (bc l)with
  |none=>
   have hok:=HOK.out;rw[hpw]at hok;obtain rfl:false=ok:=hok;obtain rfl:(3:Int)=code:=hcd;have hst:bA n l .acts x= .err n 3:=by unfold bA;simp only[hs,hpw];rfl
   have HST:=H_ hst;clear hst hpw;go_wp2_with fail;go_ret2;exact LineP.err HST.out (by decide) HL.out
  |some ad'=>
   have hok:=HOK.out;rw[hpw]at hok;obtain rfl:true=ok:=hok;obtain rfl:(0:Int)=code:=hcd
   have hst:bA n l .acts x= .go .acts {x with ac:=x.ac++[ad]}:=by
    have h:=HAD.out;rw[hpw]at h;unfold bA;simp only[hs,hpw,h];rfl
   have HST:=H_ hst;clear hst hpw;go_wp2_with fail;go_ret2;exact LineP.go HST.out HL.out HR.out
theorem uG{n:Nat}{b:Nat}(hr:RdP w B b x (.conf 3))(hbB:b<B)(hBw:B<=w.heap.size)(hs:eZ l=false)(hn:n<=1000000):
 Calls Tryz.prog 20 #[.pointer (some ⟨b,0,none⟩),.int .i64 (n:Int),.string l] w (LineP n l (.conf 3) x B b w):=by
 obtain⟨h1,hc35,hne⟩:=rJ hs;have hz0:(0:Int)<(l.size:Int):=by omega
 obtain⟨hb,hcs,hac,_⟩:=hr;have q5:=hb.cell 5;have q8:=hb.cell 8;have f5:=hb.frozen 5;have f8:=hb.frozen 8;have hwr:IntKind.i64.wrap ((n:Int)+1)=((n+1:Nat):Int):=by rw[Fj _ (by omega)];rfl
 have HB:=H_ hb;have HX:=H_ (And.intro hcs hac);have HS:=H_ hs;clear hb hcs hac hs;by_cases he:l=mj
 ·have hst:bA n l (.conf 3) x= .go (.src [] (n+1)) x:=by unfold bA;simp only[HS.out,he];rfl
  have HST:=H_ hst;have heq:(l.toList==[112,114,111,103,114,97,109])=true:=by rw[he,Ey];rfl
  clear hst he;go_enter Tryz.func20,Tryz.ntmps20;go_wp2_with fail;go_ret2;exact LineP.go HST.out (((Lk.refl _ _ _).set 5 _).set 8 _) ⟨.pointer none,.slice none 0 0,(HB.out.set 5 _).set 8 _,.inl rfl,Fi _ _ _ _,λ_=>rfl,HX.out⟩
 ·have hst:bA n l (.conf 3) x= .err n 3:=by unfold bA;simp only[HS.out,DS he];rfl
  have HST:=H_ hst;have heq:(l.toList==[112,114,111,103,114,97,109])=false:=DM.2 λe=>he (eK (e.trans (Ey mj).symm));clear hst he;go_enter Tryz.func20,Tryz.ntmps20;go_wp2_with fail;go_ret2;exact LineP.err HST.out (by decide) (((Lk.refl _ _ _).set 5 _).set 8 _)
theorem uH{n k:Nat}(hk:k<3){b:Nat}(hr:RdP w B b x (.conf k))(hg:Gl w)(hbB:b<B)(hBw:B<=w.heap.size)(hl:l.size<=100000)(hs:eZ l=false):
 Calls Tryz.prog 20 #[.pointer (some ⟨b,0,none⟩),.int .i64 (n:Int),.string l] w (LineP n l (.conf k) x B b w):=by
 obtain⟨h1,hc35,hne⟩:=rJ hs;have hz0:(0:Int)<(l.size:Int):=by omega
 have HP:=H_ (y9 k hk l w B b x hg hr hbB hBw hl);have q5:=hr.1.cell 5;have hk4:((k:Int)==4)=false:=DM.2 (by omega);have hk3:((k:Int)==3)=false:=DM.2 (by omega);have hkl:(k:Int)<3:=by omega
 have hwr:IntKind.i64.wrap ((k:Int)+1)=((k+1:Nat):Int):=by rw[Fj _ (by omega)];rfl
 have hst:bA n l (.conf k) x=match gA k l with
  |none=> .err n 3
  |some v=> .go (.conf (k+1)) (x.set k v):=by unfold bA;simp only[hs];rw[DS (by simp),DS (by omega)];cases gA k l<;>rfl
 have HST:=H_ hst;clear hr hg hs hst;go_enter Tryz.func20,Tryz.ntmps20;go_wp2_with fail;refine HP.out.mono ?_;rintro e w1 ⟨l1,⟨hn,rfl,x',hr1⟩|⟨v,hv,rfl,hr1⟩⟩
 ·have p5:=hr1.1.cell 5;have f5:=hr1.1.frozen 5;have HL:=H_ l1;have HST2:=H_ (HST.out.trans (by rw[hn]));clear l1 hn hr1 q5;go_wp2_with fail;go_ret2;exact LineP.err HST2.out (by decide) (HL.out.set 5 _)
 ·have p5:=hr1.1.cell 5;have f5:=hr1.1.frozen 5;have HL:=H_ l1;have HR:=H_ hr1;have HST2:=H_ (show bA n l (.conf k) x= .go (.conf (k+1)) (x.set k v)from HST.out.trans (by rw[hv]));clear l1 hv hr1 q5;go_wp2_with fail;go_ret2;exact LineP.go HST2.out (HL.out.set 5 _) ⟨HR.out.1.set 5 _,HR.out.2.1,HR.out.2.2.1,by omega⟩
def PhB(N:Nat)(x:Sc)(p:Ph):Prop:=x.ac.length<=N/\∀a f,p= .src a f->a.length<=N*40001/\f<=50000
theorem Bw{n:Nat}{p:Ph}{b:Nat}(hr:RdP w B b x p)(hgB:GlB w b)(hbB:b<B)(hBw:B<=w.heap.size)(hl:l.size<=100000)(hn:n<=1000000)(hN:N<=50000)(hp:PhB N x p):
 Calls Tryz.prog 20 #[.pointer (some ⟨b,0,none⟩),.int .i64 (n:Int),.string l] w (LineP n l p x B b w):=by
 cases p with
 |src a f=>
  have h:=hp.2 a f rfl;exact xA hr hgB hbB hBw hl (by omega) (by omega)
 |conf k=>
  cases hs:eZ l with
  |true=>exact nR hr (by have:=hr.2.2.2;show(k:Int)≠4;omega) hs (by unfold bA;simp only[hs];rfl)
  |false=>
   by_cases hk:k<3
   ·exact uH hk hr hgB.gl hbB hBw hl hs
   ·obtain rfl:k=3:=by have:=hr.2.2.2;omega
    exact uG hr hbB hBw hs hn
 |acts=>
  cases hs:eZ l with
  |true=>exact nR hr (by decide) hs (by unfold bA;simp only[hs];rfl)
  |false=>exact xB hr hgB.gl hbB hBw hl hs (by have:=hp.1;omega)
theorem PhB.step{n:Nat}{p:Ph}(h:PhB N x p)(hst:bA n l p x= .go p' x')(hl:l.size<=40000)(hn:n<=49999):PhB (N+1) x' p':=by
 have hsz:l.data.toList.length=l.size:=rfl;have h0:=h.1;unfold bA at hst;cases p with
 |src a f=>
  have h1:=h.2 a f rfl;simp only at hst;split at hst
  ·unfold om at hst;split at hst
   ·cases hst
   ·cases hst;exact⟨FM h0,λa f e=>by cases e⟩
  ·cases hst;refine⟨FM h0,λa' f' e=>?_⟩;cases e;simp only[DJ,Fx,hsz];omega
 |conf k=>
  simp only at hst;split at hst
  ·cases hst;exact⟨FM h0,λa f e=>by cases e⟩
  ·split at hst
   ·split at hst
    ·cases hst;refine⟨FM h0,λa' f' e=>?_⟩;cases e;exact⟨Ea _,by omega⟩
    ·cases hst
   ·split at hst
    ·cases hst
    ·rename_i v hv;cases hst
     have hset:(x.set k v).ac=x.ac:=by
      unfold Sc.set;split<;>rfl
     exact⟨by rw[hset];exact FM h0,λa f e=>by cases e⟩
 |acts=>
  simp only at hst;split at hst
  ·cases hst;exact⟨FM h0,λa f e=>by cases e⟩
  ·split at hst
   ·cases hst
   ·cases hst;refine⟨?_,λa f e=>by cases e⟩;simp;omega
end
section
open Go.RowKit Go.Shelf
abbrev NLn:={x:Nat×ByteArray//x.1<=40000/\x.2.size<=40000}
def qD(ls:List ByteArray)(k:Nat):NLn:=if h:k+1<=40000/\(ls.getD k ByteArray.empty).size<=40000 then⟨(k+1,ls.getD k ByteArray.empty),h⟩else⟨(0,ByteArray.empty),by decide⟩
def upN(ls:List ByteArray)(k:Nat):List NLn:=(List.range k).map (qD ls)
theorem jq(ls:List ByteArray)(k:Nat):upN ls (k+1)=upN ls k++[qD ls k]:=by unfold upN;rw[List.range_succ,FQ];rfl
theorem od(ls:List ByteArray)(k:Nat):(upN ls k).length=k:=by unfold upN;simp
theorem jU{ls:List ByteArray}{k:Nat}{l:ByteArray}(h:ls[k]?=some l)(hk:k+1<=40000)(hl:l.size<=40000):(qD ls k).1=(k+1,l):=by
 have hg:ls.getD k ByteArray.empty=l:=by rw[Es,h];rfl
 unfold qD;rw[dif_pos (by rw[hg];exact⟨hk,hl⟩)];show(k+1,ls.getD k ByteArray.empty)=(k+1,l);rw[hg]
def uQ(x:NLn):Array Value:= #[.int .i64 (x.1.1:Nat),.string x.1.2]
noncomputable def stN(st:Nx)(x:NLn):Nx:=match st with
 | .err q e=> .err q e
 | .go p y=>bA x.1.1 x.1.2 p y
noncomputable def jP(xs:List NLn):Nx:=xs.foldl stN (.go (.conf 0) zSc)
theorem mO(xs:List NLn)(x:NLn):jP (xs++[x])=stN (jP xs) x:=by unfold jP;rw[List.foldl_append];rfl
theorem je(ls:List ByteArray)(hls:∀l∈ls,l.size<=40000)(hm:ls.length<40000):∀k,k<=ls.length->eO ls 0 (.conf 0) zSc=match jP (upN ls k)with
  | .err q e=> .err q e
  | .go p x=>eO (ls.drop k) k p x
 |0,_=>by simp[upN,jP]
 |k+1,hk=>by
  rw[je ls hls hm k (by omega),jq,mO];have hg:ls[k]?=some ls[k]:=DT (by omega);have he:=jU hg (by omega) (hls _ (List.getElem_mem _));cases hf:jP (upN ls k)with
  |err q e=>rfl
  |go p x=>
   unfold stN;simp only[he];rw[Fu (by omega)];cases hs:bA (k+1) ls[k] p x with
   |err q e=>simp only;rw[ul hs]
   |go p' x'=>simp only;rw[ej hs]
def KpS(W W':World):Prop:=W.heap.size<=W'.heap.size/\∀(k:Nat) (cs:Array Value),W.heap[k]?=some (Obj.cells cs 9 (0,0))->W'.heap[k]?=W.heap[k]?
theorem KpS.t{A B C:World}(h:KpS A B)(k:KpS B C):KpS A C:=⟨Ek h.1 k.1,λi cs hi=>by
 have h1:=h.2 i cs hi;exact(k.2 i cs (h1.trans hi)).trans h1⟩
theorem KpS.b{n₀:Nat}(W:World)(l:Nat)(o o':Obj)(_:n₀<=l)(h:W.heap[l]?=some o)(hc:o.isCells=false)(_:o.isWalk=false):KpS W (W.putObj l o'):=
 ⟨by simp,λk cs hk=>World.putObj_heap_other (λe=>by subst e;rw[h]at hk;cases hk;cases hc)⟩
theorem y7(b:UInt8)(s:ByteArray):1<=(gM b s).length:=by
 have:=Lib.splitB_all ⟨#[b]⟩ (DK 1) 0 (Lib.countB s ⟨#[b]⟩) s rfl;unfold gM;omega
theorem y8(b:UInt8)(s:ByteArray):(gM b s).length=Lib.countB s ⟨#[b]⟩+1:=Lib.splitB_all ⟨#[b]⟩ (DK 1) 0 (Lib.countB s ⟨#[b]⟩) s rfl
theorem Af(l:List ByteArray)(h:1<=l.length):(∃z,l[l.length-1]?=some z/\((z=⟨#[]⟩/\mW l=l.take (l.length-1))\/(z≠⟨#[]⟩/\mW l=l))):=by
 have hl:l[l.length-1]?=some l[l.length-1]:=DT (by omega);refine⟨_,hl,?_⟩;have hg:l.getLast?=some l[l.length-1]:=by rw[List.getLast?_eq_getElem?,hl]
 unfold mW;rw[hg];by_cases hz:l[l.length-1]=⟨#[]⟩
 ·exact .inl ⟨hz,by rw[Ed (by rw[hz]),List.dropLast_eq_take]⟩
 ·exact .inr ⟨hz,DS (λe=>hz (Option.some.inj e))⟩
attribute [local go_sem] Oper.semAt_some
theorem qj(n:Nat)(hn:1<=n)(s:ByteArray)(Bs:Nat)(w:World)(hg:Gl w)(hs:s.size<=39000)(hB:w.cell? ⟨Bs,0,none⟩=some (.string s))(hls:∀l∈ak s,l.size<=40000)(hm:(ak s).length<40000):
 SeqStopsK Fence.wide n Tryz.prog 47 #[.pointer (some ⟨Bs,0,none⟩)] uQ KpS (λxs=>xs=upN (ak s) (ak s).length) (λpre=>∃k,k<=(ak s).length/\pre=upN (ak s) k) (ak s).length w:=λl J Jx W hW hJ hJx hY h0=>by
 have hcl:=y8 10 s;have hcp:=y7 10 s;obtain⟨z,hz,hch⟩:=Af (gM 10 s) hcp;obtain⟨m,hmx⟩:=(hg.below hW).mx
 have hBW:W.cell? ⟨Bs,0,none⟩=some (.string s):=by
  obtain⟨o,ho,_⟩:=cells_of_cell hB;exact(ab hW (Ef.1 ho).1 0).trans hB
 have HSP:=H_ (Tryz.strings_Split s ⟨#[10]⟩ m W (by omega) hmx (DK 1));have HJ:=H_ hJ;have HY:=H_ hY;refine callsIn_of_wp Tryz.func47 rfl trivial ?_ rfl;simp only[Tryz.ntmps47,List.size_toArray,DL,DO,Nat.reduceAdd,Nat.reduceSub,Array.replicate_succ,Array.replicate_zero,List.push_toArray,List.append_toArray,EG,EK];clear hJ hY hg hW
 have hrow:∀(k:Nat) (l':ByteArray),(ak s)[k]?=some l'->(gM 10 s)[k]?=some l':=λk l' hk=>by
  unfold ak at hk;rcases hch with⟨_,hc⟩|⟨_,hc⟩
  ·rw[hc,List.getElem?_take]at hk;split at hk
   ·exact hk
   ·cases hk
  ·rwa[hc]at hk
 have hlen:(ak s).length=(gM 10 s).length-1\/(ak s).length=(gM 10 s).length:=by
  unfold ak;rcases hch with⟨_,hc⟩|⟨_,hc⟩
  ·rw[hc,Fd];omega
  ·rw[hc];exact .inr rfl
 obtain⟨N,hN⟩:=nm_ (Lib.countB s ⟨#[10]⟩);have hcs:(Lib.splitB ⟨#[10]⟩ 0 (Lib.countB s ⟨#[10]⟩) s)=gM 10 s:=rfl;rw[hcs,hN]at HSP;rw[hN]at hcl;rw[hcl]at hz hlen;obtain⟨W1,hW1⟩:=nm_ (W.alloc (.cells ((gM 10 s).map Value.string).toArray 9));obtain⟨G,hG⟩:=nm_ (W.heap.size);rw[hW1,hG]at HSP;have HR:=hng hW1 hG;have HJ1:=H_ (HJ.out [] W W1 none h0 (hW1▸World.grownBy_alloc W _ none) (λr e=>by cases e));have HROW:=H_ hrow
 have hcell:∀(W':World) (k:Nat) (l':ByteArray),Blk W' G 9 ((gM 10 s).map Value.string).toArray->(gM 10 s)[k]?=some l'->W'.cell? ⟨G,k,none⟩=some (.string l'):=λW' k l' hb hk=>by
  rw[hb.cell];simp[hk]
 have HCELL:=H_ hcell;have d0:=hcell W1 N z HR.out (by simpa using hz);have hwr:IntKind.i64.wrap (((N+1:Nat):Int)-1)=(N:Int):=by rw[Fj _ (by omega)];omega
 have hNl:N<N+1:=by omega
 have HLS:=H_ hls;have HL:=H_ hlen;have HCH:=H_ hch;clear hrow hcell hz hW1 hls hch
 gi_wp2
 refine⟨trivial,(callsIn_wide.2 HSP.out).mono ?_⟩;rintro e W1' ⟨rfl,rfl⟩;rcases HCH.out with⟨hz0,hc⟩|⟨hz0,hc⟩
 ·have hM:(ak s).length=N:=by unfold ak;rw[hc,Fd];omega
  subst hz0
  gi_wp2
  gi_loopw [22] (λi wr=>∃k:Nat,k<=(ak s).length/\i= .int .i64 k/\Hid (Blk wr G 9 ((gM 10 s).map Value.string).toArray)/\Hid (J (upN (ak s) k) wr)) (λi _=>(ak s).length-(intOf i).toNat)
  case atStart=>exact⟨0,Ea _,rfl,HR,HJ1⟩
  case round=>
   obtain⟨k,hk,rfl,HRk,HJk⟩:=hrel;by_cases hkm:k<(ak s).length
   ·have hkz:(k:Int)<(N:Int):=by omega
    have hkn:k<N:=by omega
    obtain⟨l',hl'⟩:∃l',(ak s)[k]?=some l':=⟨_,DT hkm⟩;have dk:=HCELL.out wr k l' HRk.out (HROW.out k l' hl');have hwk:IntKind.i64.wrap ((k:Int)+1)=((k+1:Nat):Int):=by rw[Fj _ (by omega)];rfl
    have hen:=jU hl' (by omega) (HLS.out l' (DW hl'));obtain⟨fn,tmps,assign,body,hy,hR⟩:=HY.out (upN (ak s) k) (qD (ak s) k) wr HJk.out (by rw[od];exact hkm);rw[show uQ (qD (ak s) k)= #[.int .i64 ((k:Int)+1),.string l'] by unfold uQ;rw[hen];rfl]at hy;rw[<-jq]at hR
    gi_wp2
    refine hR.mono ?_;rintro e W2 (⟨rfl,hJ2,hk2⟩|⟨rfl,hJx2⟩)
    ·have HK2:=H_ ((hk2.2 G _ HRk.out).trans HRk.out);have HJ2:=H_ hJ2;clear hk2 hJ2 dk hy hR
     gi_wp2
     go_roundw
     case rel=>exact⟨k+1,by omega,by go_num,HK2,HJ2⟩
     case measure=>simp[intOf];omega
    ·gi_wp2
     refine Ej (results_none rfl _ _ _) rfl ?_;exact⟨⟨_,rfl⟩,.inr ⟨_,⟨k+1,by omega,rfl⟩,hJx2⟩⟩
   ·have hke:k=(ak s).length:=by omega
    have hkl:¬((k:Int)<(N:Int)):=by omega
    gi_wp2
    go_end0;exact⟨⟨_,rfl⟩,.inl (by have h:=HJk.out;rw[show k=N by omega]at h;exact h)⟩
 ·have hM:(ak s).length=N+1:=by unfold ak;rw[hc];omega
  have hne:(z.toList==[])=false:=DM.2 λe=>hz0 (Eh (by rw[Ey]at e;rw[e]))
  gi_wp2
  gi_loopw [22] (λi wr=>∃k:Nat,k<=(ak s).length/\i= .int .i64 k/\Hid (Blk wr G 9 ((gM 10 s).map Value.string).toArray)/\Hid (J (upN (ak s) k) wr)) (λi _=>(ak s).length-(intOf i).toNat)
  case atStart=>exact⟨0,Ea _,rfl,HR,HJ1⟩
  case round=>
   obtain⟨k,hk,rfl,HRk,HJk⟩:=hrel;by_cases hkm:k<(ak s).length
   ·have hkz:(k:Int)<((N+1:Nat):Int):=by omega
    have hkn:k<N+1:=by omega
    obtain⟨l',hl'⟩:∃l',(ak s)[k]?=some l':=⟨_,DT hkm⟩;have dk:=HCELL.out wr k l' HRk.out (HROW.out k l' hl');have hwk:IntKind.i64.wrap ((k:Int)+1)=((k+1:Nat):Int):=by rw[Fj _ (by omega)];rfl
    have hen:=jU hl' (by omega) (HLS.out l' (DW hl'));obtain⟨fn,tmps,assign,body,hy,hR⟩:=HY.out (upN (ak s) k) (qD (ak s) k) wr HJk.out (by rw[od];exact hkm);rw[show uQ (qD (ak s) k)= #[.int .i64 ((k:Int)+1),.string l'] by unfold uQ;rw[hen];rfl]at hy;rw[<-jq]at hR
    gi_wp2
    refine hR.mono ?_;rintro e W2 (⟨rfl,hJ2,hk2⟩|⟨rfl,hJx2⟩)
    ·have HK2:=H_ ((hk2.2 G _ HRk.out).trans HRk.out);have HJ2:=H_ hJ2;clear hk2 hJ2 dk hy hR
     gi_wp2
     go_roundw
     case rel=>exact⟨k+1,by omega,by go_num,HK2,HJ2⟩
     case measure=>simp[intOf];omega
    ·gi_wp2
     refine Ej (results_none rfl _ _ _) rfl ?_;exact⟨⟨_,rfl⟩,.inr ⟨_,⟨k+1,by omega,rfl⟩,hJx2⟩⟩
   ·have hke:k=(ak s).length:=by omega
    have hkl:¬((k:Int)<((N+1:Nat):Int)):=by omega
    gi_wp2
    go_end0;exact⟨⟨_,rfl⟩,.inl (by have h:=HJk.out;rw[show k=N+1 by omega]at h;exact h)⟩
end
end Go.Proofs.YtjpbckbpeblibaaGreatDoor
