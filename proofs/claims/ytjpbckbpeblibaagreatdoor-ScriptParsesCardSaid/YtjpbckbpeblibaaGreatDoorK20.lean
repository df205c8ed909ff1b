/- part of a proof -/
import Derived.Test.YtjpbckbpeblibaaGreatDoorK19
import Derived.StillTailTactics
namespace Go.Proofs.YtjpbckbpeblibaaGreatDoor
set_option linter.unusedVariables false
set_option linter.unusedSimpArgs false
set_option maxRecDepth 100000
set_option maxHeartbeats 64000000
section
open Go.RowKit
variable{T:List Tk}{b1:Bool}{i j:Nat}{y:Ex}
set_option pp.deepTerms true
set_option pp.maxSteps 10000000
theorem vi{w:World}{b o:Nat}{s:ByteArray}(h:w.cell? ⟨b,o,none⟩=some (.string s)):(Instr.loadAt 9 (.pointer (some ⟨b,o,none⟩))).run Tryz.prog w= .ok (.string s) w:=by
 simp[Instr.loadAt,Instr.sureAddr,asAddr,Result.andThen,h,go_sem]
section
variable{T:List Tk}{ex rec:Nat->Nat->R Ex}{i:Nat}{b:Bool}
def mU(T:List Tk)(y:Ex)(j:Nat)(b1:Bool):Bool:=decide (y.kd=3)&&decide ((tk T (j-1)).1=2)&&(!b1&&isT T cj j)
theorem y9(hex:ex 8=ai T rec)(hq:tG T)(h:Is (lif (ex 8) i b) y j b1)(hr:mU T y j b1=true):
 b=false/\b1=false/\j=i+1/\(tk T i).1=2/\y.nm=(tk T i).2.1/\isT T cj (i+1)=true/\((tk T i).1=2/\(tk T (i+1)).1=5/\(tk T (i+1)).2.1=cj):=by
 unfold mU at hr;simp only[Ba,Bk,Bool.not_eq_true']at hr;obtain⟨⟨h1,h2⟩,h3,h4⟩:=hr;subst h3;obtain⟨hb,ho⟩:=Is.aQ h;rw[hex]at ho;obtain⟨k1,rfl,k3⟩:=m7 ho h1 h2;refine⟨hb,rfl,rfl,k1,k3,h4,k1,?_,je h4⟩;rcases lB h4 with h5|h5
 ·exact absurd (je h4) (hq _ h5)
 ·exact h5
theorem zI(hex:ex 8=ai T rec)(h:Is (lif (ex 8) i false) y j b1)(hr:mU T y j b1=false):¬((tk T i).1=2/\(tk T (i+1)).1=5/\(tk T (i+1)).2.1=cj):=by
 rintro⟨h1,h2,h3⟩;have h4:ai T rec i=if b1=true then .bad j else .ok y j:=by rw[<-hex];exact h
 rw[jH h1]at h4;cases b1 with
 |true=>rw[AP rfl]at h4;cases h4
 |false=>
  rw[AL (by decide)]at h4;cases h4;unfold mU at hr;rw[show i+1-1=i from rfl,h1]at hr;have h5:isT T cj (i+1)=true:=by unfold isT;rw[h2,h3];simp
  rw[h5]at hr;simp[ib,Ex.kd]at hr
theorem jX(HX:∀j,i<j->EAt T (ex 0) 0 j)(HO:RAt rvE 283 T (ex 8) i)(hex:ex 8=ai T rec)(hq:tG T)(hi:1<=i)(N1:b=true\/isT T eu i=false)(N2:b=true\/isT T cW i=false)(N3:b=true\/isT T cD i=false)(N4:b=true\/isT T et i=false)(N5:b=true\/isT T dN i=false)(N6:b=true\/isT T dO i=false)(p c:Nat)(A:Option Addr)(w:World)(h:RS w p A c T i b):
 Calls Tryz.prog 259 #[.pointer (some ⟨p,0,none⟩)] w (ROut rvS p A c T w i (lif (ak T ex) i b)):=by
 have HX':=H_ HX;have HO':=H_ HO;have HQ:=H_ hq;have HEX:=H_ hex;clear HX HO hq hex;have hp:=h.aG.lt;obtain⟨w0,hw0,q0,b0,P0⟩:=ki h;have hs0:=b0.size;have Q0:=H_ q0;have B0:=H_ b0;have HP0:=H_ P0;have hg0:=q0.lt;clear h q0 b0 P0;go_enter Tryz.func259,Tryz.ntmps259;go_upto_region 2 with(fail);obtain⟨f,hfz⟩:=nm_ (w0.heap.size);obtain⟨w1,hw1⟩:=nm_ (w0.alloc (.cells #[.int .i64 0,.string ⟨#[]⟩,.slice none 0 0,.slice none 0 0,.slice none 0 0] 168));have b1:Bx w0.heap.size p w0 w1:=bxn hw1;have F1:=hng hw1 hfz;have Q1:=hbx Q0 b1 hg0;have B1:=hth B0 b1;have HP1:=H_ (HP0.out.al hw1);have hs1:=b1.size;rw[hw1,hfz];clear hw0 hw1 b1 Q0 B0 HP0;obtain⟨g,hgz⟩:=nm_ (w.heap.size);rw[hgz]at Q1 hg0 hs0;try rw[hgz]
 have qlt1:=Q1.out.lt;have flt1:=F1.out.lt;go_wp2_with fail;refine am HP1.out _ (λhb ht _ _ _=>by rcases N1 with h|h;(rw[hb]at h;cases h);exact absurd (show isT T eu i=true from ht) (by rw[h];decide)) (λ_ w2 P2 b2=>?_);obtain⟨hs2,B2,Q2,qlt2⟩:=fr1 B1 Q1 b2;have HP2:=H_ P2;clear Q1 B1 HP1 P2 b2;go_wp2_with fail;refine am HP2.out _ (λhb ht _ _ _=>by rcases N2 with h|h;(rw[hb]at h;cases h);exact absurd (show isT T cW i=true from ht) (by rw[h];decide)) (λ_ w3 P3 b3=>?_);obtain⟨hs3,B3,Q3,qlt3⟩:=fr1 B2 Q2 b3;have HP3:=H_ P3;clear Q2 B2 HP2 P3 b3;go_wp2_with fail;refine am HP3.out _ (λhb ht _ _ _=>by rcases N3 with h|h;(rw[hb]at h;cases h);exact absurd (show isT T cD i=true from ht) (by rw[h];decide)) (λ_ w4 P4 b4=>?_);obtain⟨hs4,B4,Q4,qlt4⟩:=fr1 B3 Q3 b4;have HP4:=H_ P4;clear Q3 B3 HP3 P4 b4;go_wp2_with fail;refine am HP4.out _ (λhb ht _ _ _=>by rcases N4 with h|h;(rw[hb]at h;cases h);exact absurd (show isT T et i=true from ht) (by rw[h];decide)) (λ_ w5 P5 b5=>?_);obtain⟨hs5,B5,Q5,qlt5⟩:=fr1 B4 Q4 b5;have HP5:=H_ P5;clear Q4 B4 HP4 P5 b5;go_wp2_with fail;refine am HP5.out _ (λhb ht _ _ _=>by rcases N5 with h|h;(rw[hb]at h;cases h);exact absurd (show isT T dN i=true from ht) (by rw[h];decide)) (λ_ w6 P6 b6=>?_);obtain⟨hs6,B6,Q6,qlt6⟩:=fr1 B5 Q5 b6;have HP6:=H_ P6;clear Q5 B5 HP5 P6 b6;go_wp2_with fail;refine am HP6.out _ (λhb ht _ _ _=>by rcases N6 with h|h;(rw[hb]at h;cases h);exact absurd (show isT T dO i=true from ht) (by rw[h];decide)) (λ_ w7 P7 b7=>?_);obtain⟨hs7,B7,Q7,qlt7⟩:=fr1 B6 Q6 b7;have HP7:=H_ P7;clear Q6 B6 HP6 P7 b7;go_wp2_with fail;refine ROut.use (HO'.out p c A b w7 HP7.out) (λv y j e8 w8 hv P8 hr hij8 b8=>?_);obtain⟨hb8,B8,Q8,-⟩:=fr1 B7 Q7 b8;have HP8:=H_ P8;have HR8:=H_ hr;obtain⟨k8,op8,z8,nm8,at8,args8⟩:=y;obtain⟨cs8,rfl,hv2⟩:=hv;obtain⟨A8,n8,c8,rfl,_⟩:=ExC.inv hv2;have HV8:=H_ (show ExC w8 (Fr w7 w8) (.mk k8 op8 z8 nm8 at8 args8) [.int .i64 k8,.int .i64 op8,.int .i64 z8,.string nm8,.bool at8,.slice A8 n8 c8]from hv2);clear hv2 hr P8 b8 Q7 B7 HP7;obtain⟨y,hy⟩:=nm_ (Ex.mk k8 op8 z8 nm8 at8 args8);have hkd:y.kd=k8:=by rw[<-hy];rfl
 have hnm:y.nm=nm8:=by rw[<-hy];rfl
 rw[hy]at HR8 HV8;clear hy;go_upto_region 35 with fail;obtain⟨e,hez⟩:=nm_ (w8.heap.size);rw[hez];obtain⟨w9,hw9⟩:=nm_ (w8.alloc (.cells #[.int .i64 k8,.int .i64 op8,.int .i64 z8,.string nm8,.bool at8,.slice A8 n8 c8] 172));have b9:Bx w8.heap.size p w8 w9:=bxn hw9;have E9:=hng hw9 hez;have elt9:=E9.out.lt;have HV9:=H_ (ExC.aA (G':=NG g (two g e) w9) (λb hb=>⟨⟨by have:=hb.1;omega,by have:=hb.2;omega,λh=>by have:=hb.1;have:=hb.2;unfold two at h;omega⟩,b9.block b hb.2 (by have:=hb.1;omega)⟩) HV8.out);have P9:=HP8.out.alloc (.cells #[.int .i64 k8,.int .i64 op8,.int .i64 z8,.string nm8,.bool at8,.slice A8 n8 c8] 172);rw[hw9]at P9⊢;obtain⟨hs9,B9,Q9,-⟩:=fr1 B8 Q8 b9;have HP9:=H_ P9;clear hw9 HV8 P9 b9 Q8 B8 HP8;have hjT:=HP9.out.lt;have hfew:=HP9.out.wf.few;have qlt9:=Q9.out.lt;have hpw9:p<w9.heap.size:=by omega
 obtain⟨rr,hrr⟩:=nm_ (mU T y j e8);go_cut [122] (λv wx=>v= .bool rr/\Hid (RS wx p A c T (if rr=true then j+1 else j) e8)/\Hid (Bx w9.heap.size p w9 wx))
 case first=>
  unfold mU at hrr;rw[hkd]at hrr;by_cases hk3:k8=3
  ·subst hk3;obtain⟨m,hm⟩:=nm_ (j-1);obtain⟨bt,off,hA,hb,hat⟩:=HP9.out.tok.cell (show m<T.length by omega);rw[hm]at hrr;obtain⟨⟨k2,t2,z2,q2⟩,htk⟩:∃x,tk T m=x:=⟨_,rfl⟩;rw[htk]at hat hrr;subst hA;obtain⟨a0,a1⟩:=HP9.out.aG.c2;have d0:w9.cell? ⟨bt,off+m*4,none⟩=some (.int .i64 k2):=by have:=hat 0 _ rfl;rwa[AQ]at this
   have e0:=E9.out.k0;have hj1:((j:Int)-1)=(m:Int):=by omega
   have hmT:m<T.length:=by omega
   have hd:decide (m<T.length)=true:=by simpa using hmT
   have hwr:IntKind.i64.wrap (m:Int)=(m:Int):=AY _ ⟨by omega,by omega⟩;have HH:=H_ hrr;clear hrr hat hm;by_cases hk2:k2=2
   ·subst hk2;go_still_tail 20,(by kernel_rfl);change wpList _ _ _ _ _ w9.drew;have P10:=H_ (HP9.out.drew);have b10:=H_ (show Bx w9.heap.size p w9 w9.drew from(Bx.refl _ _ _).drew);generalize w9.drew=w10 at P10 b10⊢;have hs10:=b10.out.size;clear a0 a1 d0 e0 hwr;go_wp2_with fail;refine am P10.out _ (λhb ht w11 P11 b11=>?_) (λht w11 P11 b11=>?_)
    ·subst hb
     have hr:rr=true:=by
      rw[<-HH.out,show isT T cj j=true from ht];rfl
     subst hr;have P11':=H_ P11;have b11':=hth b10 b11;clear P11 b11 ht;go_wp2_with fail;go_meet;exact⟨rfl,by simpa using P11',b11'⟩
    ·have hr:rr=false:=by
      rw[<-HH.out];rcases ht with h|h
      ·rw[h];simp
      ·rw[show isT T cj j=false from h];simp
     subst hr;have P11':=H_ P11;have b11':=hth b10 b11;clear P11 b11 ht;go_wp2_with fail;go_meet;exact⟨rfl,by simpa using P11',b11'⟩
   ·have hk2':=AD.2 hk2;have hr:rr=false:=by rw[<-HH.out];simp[hk2]
    subst hr;clear HH hk2;go_still_tail 20,(by kernel_rfl);change wpList _ _ _ _ _ w9.drew;have P10:=H_ (HP9.out.drew);have b10:=H_ (show Bx w9.heap.size p w9 w9.drew from(Bx.refl _ _ _).drew);generalize w9.drew=w10 at P10 b10⊢;clear a0 a1 d0 e0 hwr;go_wp2_with fail;go_meet;exact⟨rfl,by simpa using P10,b10⟩
  ·have hk3':=AD.2 hk3;have hr:rr=false:=by rw[<-hrr];simp[hk3]
   subst hr;clear hrr hk3;obtain⟨TT,fq,hne,hf,hcov⟩:=aX w9.heap.size w9;have e0:=λx=>(E9.out.below (hf x) elt9).k0;have HF:=H_ hf;have HCOV:=H_ hcov;clear hf hcov;refine ah fq (by kernel_rfl) (by kernel_rfl) (HCOV.out _ (AC _ _).drew) ?_;repeat (go_big_quiet_step (fail))
   refine BL ?_;rintro _ ⟨xq,rfl⟩;go_wp2_with fail;go_meet;exact⟨rfl,H_ (HP9.out.below (HF.out xq)),H_ (Bx.of (HF.out xq))⟩
 case rest=>
  obtain⟨rfl,HP0',HB10⟩:=hcut;obtain⟨w10,rfl⟩:∃w10,w10=wc:=⟨_,rfl⟩;have b10:=HB10.out;obtain⟨hs10,Q10,-,E10,-⟩:=fn2 Q9 E9 b10;have HV10:=H_ (HV9.out.aA (G':=NG g (two g e) w10) (λb hb=>⟨hb.mono b10.size,b10.block b hb.2.1 (by have:=hb.1;omega)⟩));have B10:=hth B9 b10;have elt10:=E10.out.lt;have qlt10:=Q10.out.lt;clear Q9 E9 HV9 B9 HP9 HB10 b10;cases rr with
  |true=>
   obtain⟨hb,he8,hj,k1,k2,k3,k4⟩:=y9 HEX.out HQ.out HR8.out hrr;subst hb he8 hj;rw[hnm]at k2;have HK:=H_ (And.intro k1 (And.intro k2 (And.intro k3 k4)));have HP10:=H_ (show RS w10 p A c T (i+1+1) false from by simpa using HP0'.out);clear HP0' k1 k2 k3 k4 hrr HR8;go_upto_region 36 with fail;obtain⟨j11,e11,hsj⟩:=Is.known (lif (ex 0) (i+1+1) false)
   refine aW 3 6 (λxs=>{tmps:= #[.pointer (some ⟨p,0,none⟩),undef,.pointer (some ⟨g,0,none⟩),.pointer (some ⟨f,0,none⟩),undef,undef,undef,.pointer (some ⟨e,0,none⟩),undef,u9,.bool false,u11,u12,u13,u14,u15,u16,u17,u18,u19,u20,u21,u22,u23,.bool false,u25,u26,u27,u28,u29,u30,u31,u32,u33,u34,u35,u36,u37,u38,u39,u40,u41,u42,u43,u44,u45,u46,u47,u48,u49,u50,u51,u52,u53,.bool false,u55,u56,u57,u58,u59,u60,.bool false,u62,u63,u64,u65,u66,u67,u68,u69,u70,u71,u72,.bool false,u74,u75,u76,u77,u78,u79,u80,u81,u82,u83,u84,u85,u86,u87,u88,u89,u90,u91,u92,u93,u94,.bool false,u96,u97,u98,u99,u100,u101,u102,u103,u104,u105,u106,u107,u108,u109,u110,u111,u112,u113,u114,u115,u116,u117,u118,u119,u120,u121,.bool true,(xs 0).getD u123,(xs 1).getD u124,(xs 2).getD u125,(xs 3).getD u126,(xs 4).getD u127,(xs 5).getD u128,u129,u130,u131,u132,u133,u134,u135,u136,u137,u138,u139,u140,u141],defers:=[]})
    (RQ w10 p A c T (i+1+1) false j11 e11) g
    (λkx=>match kx with
      |0=>fEq (.pointer (some ⟨e,3,none⟩))
      |1=>fEq (.string nm8)
      |2=>fEq (.pointer (some ⟨p,0,none⟩))
      |3=>fEx (NG g (two g e)) (lif (ex 0) (i+1+1) false) j11 e11 (λy=>y)
      |4=>λv W=>∃AA y2,v= .slice AA 1 1/\Sl kEx W (NG g (two g e) W) [y2] AA 1/\Is (lif (ex 0) (i+1+1) false) y2 j11 e11
      |_=>λv W=>∃AA y2,v= .agg #[.int .i64 1,.string nm8,.slice AA 1 1,.slice none 0 0,.slice none 0 0]/\Sl kEx W (NG g (two g e) W) [y2] AA 1/\Is (lif (ex 0) (i+1+1) false) y2 j11 e11)
    (by
      intro k
      match k with
      |0=>exact fEq.st _ _
      |1=>exact fEq.st _ _
      |2=>exact fEq.st _ _
      |3=>exact fEx.st
      |4=>exact λ_ _ _ hn ⟨AA,y,h1,h2,h3⟩=>⟨AA,y,h1,h2.aA λb hb=>⟨hb.mono hn.size,hn.block b hb.1 hb.2.1⟩,h3⟩
      |_+5=>exact λ_ _ _ hn ⟨AA,y,h1,h2,h3⟩=>⟨AA,y,h1,h2.aA λb hb=>⟨hb.mono hn.size,hn.block b hb.1 hb.2.1⟩,h3⟩)
    (by kernel_rfl) (by kernel_rfl) rfl (by kernel_rfl) (by decide) rfl ⟨(Bx.refl _ _ _).drew,HP10.out.drew⟩ ?_ ?_ ?_
   ·intro i' hi hic b xs W hJ hd;obtain rfl|rfl|rfl|rfl|rfl:i'=0\/i'=1\/i'=2\/i'=4\/i'=5:=by omega
    ·exact rdO hJ
    ·obtain⟨_,h0,rfl⟩:=hd 0;exact ldO rfl rfl (gd h0 _) (vi ((E10.out.bx hJ.1 (by omega) (by omega)).cell 3)) hJ
    ·exact mvO hJ
    ·have hdum:=True.intro;obtain⟨_,h3,y2,hy,hyi⟩:=hd 3;obtain⟨ky,opy,zy,nmy,aty,Ay,ny,cy,rfl,hy'⟩:=ExV.inv hy;have hb:=(AC W.heap.size W).alloc (AB _) (.cells #[.int .i64 ky,.int .i64 opy,.int .i64 zy,.string nmy,.bool aty,.slice Ay ny cy] 172);have hsW:=hJ.1.size;refine stp rfl (by kernel_rfl) λK hK=>?_;refine ip (x:= .tmp 126) rfl (gd h3 _) (nF W _ _ _ _ _ _) ?_;refine hK _ _ ⟨.slice (some ⟨W.heap.size,0,none⟩) 1 1,rfl,hJ.below hb,⟨_,y2,rfl,?_,hyi⟩,Nw.below hb⟩
     exact dW (K:=kEx) (Blk.new W 172 _) ⟨by omega,by simp,λh=>by unfold two at h;omega⟩
      (ExC.aA (λb hb'=>⟨⟨hb'.1,by have:=hb'.2.1;simp;omega,hb'.2.2⟩,hb.block b hb'.2.1⟩) hy')
    ·obtain⟨_,h1,rfl⟩:=hd 1;obtain⟨_,h4,AA,y2,rfl,hy,hyi⟩:=hd 4;refine stp rfl (by kernel_rfl) λK hK=>?_;refine qC (x:= .const (.int .i64 1)) (y:= .tmp 124) (s:= .tmp 127) rfl rfl (gd h1 _) (gd h4 _) (ld W _ _ _ _ _) ?_;exact hK _ _ ⟨_,rfl,hJ,⟨AA,y2,rfl,hy,hyi⟩,Nw.refl _ _⟩
   ·intro xs W hJ hd;obtain⟨_,h2,rfl⟩:=hd 2;have hsW:=hJ.1.size;refine stp rfl (by kernel_rfl) λK hK=>?_;refine cV (n:=258) (x:= .tmp 125) (y:= .const (.int .i64 0)) rfl (gd h2 _) rfl (by kernel_rfl) ?_;refine ROut.use (HX'.out (i+1+1) (by omega) p c A false W hJ.2) (λv y2 jj bb ww hv PP hr hqj bx=>?_);obtain⟨rfl,rfl⟩:=hsj _ _ _ hr;exact hK _ _ ⟨v,rfl,⟨hJ.1.aB bx,PP,hqj⟩,⟨y2,rvC.aA (λb hb=>⟨⟨by have:=hb.1;omega,hb.2,λh=>by have:=hb.1;unfold two at h;omega⟩,rfl⟩) hv,hr⟩,Nw.of bx (by omega)⟩
   ·intro xs W hJ hd;obtain⟨_,h5,AA,y2,rfl,hy,hyi⟩:=hd 5;have hW:=hJ.1.size;have HGW:=H_ (Q10.out.bx hJ.1 (by omega) (by omega))
    have HR:=H_ (show Is (lif (ak T ex) i false) (stE 1 nm8 [y2]) j11 e11 by
     have N1':isT T eu i=false:=by rcases N1 with h|h;cases h;exact h
     have N2':isT T cW i=false:=by rcases N2 with h|h;cases h;exact h
     have N3':isT T cD i=false:=by rcases N3 with h|h;cases h;exact h
     have N4':isT T et i=false:=by rcases N4 with h|h;cases h;exact h
     have N5':isT T dN i=false:=by rcases N5 with h|h;cases h;exact h
     have N6':isT T dO i=false:=by rcases N6 with h|h;cases h;exact h
     obtain⟨k1,k2,k3,k4⟩:=HK.out;rw[aU];unfold ak;rw[az N1',az N2',az N3',az N4',az N5',az N6',AP k4];exact nf (b:=false) (show Is (lif (aj T 2) i false) nm8 (i+1) false by rw[aU];unfold aj;rw[AP k1,<-k2];rfl) (show Is (lif (ap T cj) (i+1) false) () (i+1+1) false by rw[aU];unfold ap;rw[AP k3];rfl) hyi)
    have HPW:=H_ hJ.2.1;have hjj:=hJ.2.2;have BW:=H_ (B10.out.aB hJ.1);have VE:=H_ (StC.of 1 nm8 1 0 0 hy (Sl.nil _ _ none) (Sl.nil _ _ none));clear hJ hd hy hyi;obtain⟨⟨d0,d1,d2,d3,d4⟩,f0,f1,f2,f3,f4⟩:=HGW.out.aE;refine AE rfl λK hK=>?_;go_simp;refine hK _ _ ?_;go_wp2_with fail;exact lI rfl (by simp) HGW.out VE.out (λb hb=>⟨by have:=hb.1;have:=hb.2.2;unfold two at this;omega,hb.2.1⟩) HPW.out HR.out (by omega) (hgz▸BW.out) hgz (by omega)
  |false=>
   have HRR:=H_ hrr;have HP10:=H_ (show RS w10 p A c T j e8 from by simpa using HP0'.out);clear HP0' hrr;go_wp2_with fail;refine bA HP10.out DOT (λj11 e11 w11 P11 hr hij11 b11=>?_);have HR11:=H_ hr;clear hr;have HV11:=H_ (HV10.out.aA (G':=NG g (two g e) w11) (λb hb=>⟨hb.mono b11.size,b11.block b hb.2.1 (by have:=hb.1;omega)⟩));clear HV10;obtain⟨hs11,B11,Q11,qlt11,E11,elt11⟩:=fr2 B10 Q10 E10 b11;have HP11:=H_ P11;clear Q10 E10 B10 HP10 P11 b11;go_wp2_with fail;have hfl:=cX;refine du HP11.out 2 (by decide) (λkk12 s12 zz12 qq12 j12 e12 w12 P12 hr hij12 b12=>?_);have HR12:=H_ hr;clear hr;have HV12:=H_ (HV11.out.aA (G':=NG g (two g e) w12) (λb hb=>⟨hb.mono b12.size,b12.block b hb.2.1 (by have:=hb.1;omega)⟩));clear HV11;obtain⟨hs12,B12,Q12,qlt12,E12,elt12⟩:=fr2 B11 Q11 E11 b12;have HP12:=H_ P12;clear Q11 E11 B11 HP11 P12 b12;go_wp2_with fail;refine bA HP12.out cj (λj13 e13 w13 P13 hr hij13 b13=>?_);have HR13:=H_ hr;clear hr;have HV13:=H_ (HV12.out.aA (G':=NG g (two g e) w13) (λb hb=>⟨hb.mono b13.size,b13.block b hb.2.1 (by have:=hb.1;omega)⟩));clear HV12;obtain⟨hs13,B13,Q13,qlt13,E13,elt13⟩:=fr2 B12 Q12 E12 b13;have HP13:=H_ P13;clear Q12 E12 B12 HP12 P13 b13;clear hfl;go_upto_region 40 with fail;have HI13:=H_ (show e13=false->i<j13 from λh=>by subst h;have:=(Is.exp_ok HR13.out).2.2;omega);obtain⟨j14,e14,hsj⟩:=Is.known (lif (ex 0) j13 e13)
   refine aW 3 6 (λxs=>{tmps:= #[.pointer (some ⟨p,0,none⟩),undef,.pointer (some ⟨g,0,none⟩),.pointer (some ⟨f,0,none⟩),undef,undef,undef,.pointer (some ⟨e,0,none⟩),.string s12,u9,.bool false,u11,u12,u13,u14,u15,u16,u17,u18,u19,u20,u21,u22,u23,.bool false,u25,u26,u27,u28,u29,u30,u31,u32,u33,u34,u35,u36,u37,u38,u39,u40,u41,u42,u43,u44,u45,u46,u47,u48,u49,u50,u51,u52,u53,.bool false,u55,u56,u57,u58,u59,u60,.bool false,u62,u63,u64,u65,u66,u67,u68,u69,u70,u71,u72,.bool false,u74,u75,u76,u77,u78,u79,u80,u81,u82,u83,u84,u85,u86,u87,u88,u89,u90,u91,u92,u93,u94,.bool false,u96,u97,u98,u99,u100,u101,u102,u103,u104,u105,u106,u107,u108,u109,u110,u111,u112,u113,u114,u115,u116,u117,u118,u119,u120,u121,.bool false,u123,u124,u125,u126,u127,u128,.pointer (some ⟨p,0,none⟩),.tuple #[],.pointer (some ⟨p,0,none⟩),.agg #[.int .i64 kk12,.string s12,.int .i64 zz12,.int .i64 qq12],.string s12,.pointer (some ⟨p,0,none⟩),.tuple #[],(xs 0).getD u136,(xs 1).getD u137,(xs 2).getD u138,(xs 3).getD u139,(xs 4).getD u140,(xs 5).getD u141],defers:=[]})
    (RQ w13 p A c T j13 e13 j14 e14) g
    (λkx=>match kx with
      |0=>fEq (.string s12)
      |1=>fEq (.agg #[.int .i64 k8,.int .i64 op8,.int .i64 z8,.string nm8,.bool at8,.slice A8 n8 c8])
      |2=>fEq (.pointer (some ⟨p,0,none⟩))
      |3=>fEx (NG g (two g e)) (lif (ex 0) j13 e13) j14 e14 (λy=>y)
      |4=>λv W=>∃AA y2,v= .slice AA 2 2/\Sl kEx W (NG g (two g e) W) [y,y2] AA 2/\Is (lif (ex 0) j13 e13) y2 j14 e14
      |_=>λv W=>∃AA y2,v= .agg #[.int .i64 2,.string s12,.slice AA 2 2,.slice none 0 0,.slice none 0 0]/\Sl kEx W (NG g (two g e) W) [y,y2] AA 2/\Is (lif (ex 0) j13 e13) y2 j14 e14)
    (by
      intro k
      match k with
      |0=>exact fEq.st _ _
      |1=>exact fEq.st _ _
      |2=>exact fEq.st _ _
      |3=>exact fEx.st
      |4=>exact λ_ _ _ hn ⟨AA,y,h1,h2,h3⟩=>⟨AA,y,h1,h2.aA λb hb=>⟨hb.mono hn.size,hn.block b hb.1 hb.2.1⟩,h3⟩
      |_+5=>exact λ_ _ _ hn ⟨AA,y,h1,h2,h3⟩=>⟨AA,y,h1,h2.aA λb hb=>⟨hb.mono hn.size,hn.block b hb.1 hb.2.1⟩,h3⟩)
    (by kernel_rfl) (by kernel_rfl) rfl (by kernel_rfl) (by decide) rfl ⟨(Bx.refl _ _ _).drew,HP13.out.drew⟩ ?_ ?_ ?_
   ·intro i' hi hic b xs W hJ hd;obtain rfl|rfl|rfl|rfl|rfl:i'=0\/i'=1\/i'=2\/i'=4\/i'=5:=by omega
    ·exact mvO hJ
    ·refine stp rfl (by kernel_rfl) λK hK=>?_;refine iT (x:= .tmp 7) rfl rfl (ja (E13.out.bx hJ.1 (by omega) (by omega))) ?_;exact hK _ _ ⟨_,rfl,hJ,rfl,Nw.refl _ _⟩
    ·exact mvO hJ
    ·obtain⟨_,h1,rfl⟩:=hd 1;obtain⟨_,h3,y2,hy,hyi⟩:=hd 3;obtain⟨ky,opy,zy,nmy,aty,Ay,ny,cy,rfl,hy'⟩:=ExV.inv hy;have hb:=(AC W.heap.size W).alloc (AB _) (.cells #[.int .i64 k8,.int .i64 op8,.int .i64 z8,.string nm8,.bool at8,.slice A8 n8 c8,.int .i64 ky,.int .i64 opy,.int .i64 zy,.string nmy,.bool aty,.slice Ay ny cy] 172);have hsW:=hJ.1.size;refine stp rfl (by kernel_rfl) λK hK=>?_;refine qB (x:= .tmp 137) (y:= .tmp 139) rfl (gd h1 _) (gd h3 _) (iL W _ _ _ _ _ _ _ _ _ _ _ _) ?_;refine hK _ _ ⟨.slice (some ⟨W.heap.size,0,none⟩) 2 2,rfl,hJ.below hb,⟨_,y2,rfl,?_,hyi⟩,Nw.below hb⟩
     exact kH (Blk.new W 172 _) ⟨by omega,by simp,λh=>by unfold two at h;omega⟩
      (ExC.aA (λb hb'=>⟨⟨hb'.1,by have:=hb'.2.1;simp;omega,hb'.2.2⟩,(hb.block b (by have:=hb'.2.1;omega)).trans (hJ.1.block b hb'.2.1 (by have:=hb'.1;omega))⟩) HV13.out)
      (ExC.aA (λb hb'=>⟨⟨hb'.1,by have:=hb'.2.1;simp;omega,hb'.2.2⟩,hb.block b hb'.2.1⟩) hy')
    ·obtain⟨_,h0,rfl⟩:=hd 0;obtain⟨_,h4,AA,y2,rfl,hy,hyi⟩:=hd 4;refine stp rfl (by kernel_rfl) λK hK=>?_;refine qC (x:= .const (.int .i64 2)) (y:= .tmp 136) (s:= .tmp 140) rfl rfl (gd h0 _) (gd h4 _) (ld W _ _ _ _ _) ?_;exact hK _ _ ⟨_,rfl,hJ,⟨AA,y2,rfl,hy,hyi⟩,Nw.refl _ _⟩
   ·intro xs W hJ hd;obtain⟨_,h2,rfl⟩:=hd 2;have hsW:=hJ.1.size;refine stp rfl (by kernel_rfl) λK hK=>?_;refine cV (n:=258) (x:= .tmp 138) (y:= .const (.int .i64 0)) rfl (gd h2 _) rfl (by kernel_rfl) ?_;refine ROut.use (vL (λh=>HX'.out j13 (HI13.out h)) p c A W hJ.2) (λv y2 jj bb ww hv PP hr hqj bx=>?_);obtain⟨rfl,rfl⟩:=hsj _ _ _ hr;exact hK _ _ ⟨v,rfl,⟨hJ.1.aB bx,PP,hqj⟩,⟨y2,rvC.aA (λb hb=>⟨⟨by have:=hb.1;omega,hb.2,λh=>by have:=hb.1;unfold two at h;omega⟩,rfl⟩) hv,hr⟩,Nw.of bx (by omega)⟩
   ·intro xs W hJ hd;obtain⟨_,h5,AA,y2,rfl,hy,hyi⟩:=hd 5;have hW:=hJ.1.size;have HGW:=H_ (Q13.out.bx hJ.1 (by omega) (by omega))
    have HR:=H_ (show Is (lif (ak T ex) i b) (stE 2 s12 [y,y2]) j14 e14 by
     have h1:lif (ak T ex) i b=lif (dV T ex) i b:=by
      cases b with
      |true=>rfl
      |false=>
       have N1':isT T eu i=false:=by rcases N1 with h|h;cases h;exact h
       have N2':isT T cW i=false:=by rcases N2 with h|h;cases h;exact h
       have N3':isT T cD i=false:=by rcases N3 with h|h;cases h;exact h
       have N4':isT T et i=false:=by rcases N4 with h|h;cases h;exact h
       have N5':isT T dN i=false:=by rcases N5 with h|h;cases h;exact h
       have N6':isT T dO i=false:=by rcases N6 with h|h;cases h;exact h
       rw[aU,aU];unfold ak;rw[az N1',az N2',az N3',az N4',az N5',az N6',AL (zI HEX.out HR8.out HRR.out)]
     rw[h1];exact tZ HR8.out HR11.out HR12.out HR13.out hyi)
    have HPW:=H_ hJ.2.1;have hjj:=hJ.2.2;have BW:=H_ (B13.out.aB hJ.1);have VE:=H_ (StC.of 2 s12 2 0 0 hy (Sl.nil _ _ none) (Sl.nil _ _ none));clear hJ hd hy hyi;obtain⟨⟨d0,d1,d2,d3,d4⟩,f0,f1,f2,f3,f4⟩:=HGW.out.aE;refine AE rfl λK hK=>?_;go_simp;refine hK _ _ ?_;go_wp2_with fail;exact lI rfl (by simp) HGW.out VE.out (λb hb=>⟨by have:=hb.1;have:=hb.2.2;unfold two at this;omega,hb.2.1⟩) HPW.out HR.out (by omega) (hgz▸BW.out) hgz (by omega)
end
theorem sx{ex rec:Nat->Nat->R Ex}(HX:∀j,i<j->EAt T (ex 0) 0 j)(HO:∀j,i<=j->RAt rvE 283 T (ex 8) j)(hex:ex 8=ai T rec)(hq:tG T)(hi:1<=i):RAt rvS 259 T (ak T ex) i:=by
 intro p c A b w h;cases b with
 |true=>exact jX HX (HO i (AB _)) hex hq hi (.inl rfl) (.inl rfl) (.inl rfl) (.inl rfl) (.inl rfl) (.inl rfl) p c A w h
 |false=>
  rw[aU];cases h1:isT T eu i with
  |true=>exact pX HX h1 p c A w h
  |false=>
   cases h2:isT T cW i with
   |true=>exact oD HX (λj hj=>HO j (by omega)) h1 h2 p c A w h
   |false=>
    cases h3:isT T cD i with
    |true=>exact nu HX h1 h2 h3 p c A w h
    |false=>
     cases h4:isT T et i with
     |true=>exact oE HX h1 h2 h3 h4 p c A w h
     |false=>
      cases h5:isT T dN i with
      |true=>exact nt HX h1 h2 h3 h4 h5 p c A w h
      |false=>
       cases h6:isT T dO i with
       |true=>exact lY HX h1 h2 h3 h4 h5 h6 p c A w h
       |false=>exact jX HX (HO i (AB _)) hex hq hi (.inr h1) (.inr h2) (.inr h3) (.inr h4) (.inr h5) (.inr h6) p c A w h
theorem EAt.of_lt{f:Nat->R Ex}{l:Int}(h:i<T.length->EAt T f l i):EAt T f l i:=λp c A b w hP=>h hP.lt p c A b w hP
theorem RAt.of_lt{α:Type}{rv:Rv α}{n:Nat}{f:Nat->R α}(h:i<T.length->RAt rv n T f i):RAt rv n T f i:=λp c A b w hP=>h hP.lt p c A b w hP
theorem qg{T:List Tk}:∀(n i:Nat),T.length-i<n->(∀l:Nat,l<8->EAt T (E T n l) l i)/\RAt rvE 283 T (E T n 8) i
 |0,i,hi=>absurd hi (Dd _)
 |n+1,i0,hi0=>by
  have HR:∀(l i:Nat),l<8->T.length-i<n+1->i<T.length->∀j,i<j->EAt T (E T n l) l j:=λl i hl hi hiT j hj=>(qg n j (by omega)).1 l hl;have h8:∀i,T.length-i<n+1->RAt rvE 283 T (ai T (E T n)) i:=λi hi=> .of_lt λhiT=>qA (HR 0 i (by omega) hi hiT) (HR 6 i (by omega) hi hiT);have h7:∀i,T.length-i<n+1->EAt T (bD T (E T n)) 7 i:=λi hi=>vm (h8 i hi);have h6:∀i,T.length-i<n+1->EAt T (bS T (E T n)) 6 i:=λi hi=> .of_lt λhiT=>zh (HR 6 i (by omega) hi hiT (i+1) (by omega)) (h7 i hi);have h5:∀i,T.length-i<n+1->EAt T (ej T (E T n)) 5 i:=λi hi=>xu (λj hj=>h6 j (by omega));have h4:∀i,T.length-i<n+1->EAt T (fp T (E T n)) 4 i:=λi hi=>xr (λj hj=>h5 j (by omega));have h3:∀i,T.length-i<n+1->EAt T (bN T (E T n)) 3 i:=λi hi=>xv (λj hj=>h4 j (by omega));have h2:∀i,T.length-i<n+1->EAt T (gk T (E T n)) 2 i:=λi hi=> .of_lt λhiT=>xt (HR 2 i (by omega) hi hiT (i+1) (by omega)) (h3 i hi);have h1:∀i,T.length-i<n+1->EAt T (pJ T (E T n)) 1 i:=λi hi=>xw (λj hj=>h2 j (by omega));have h0:∀i,T.length-i<n+1->EAt T (pB T (E T n)) 0 i:=λi hi=>zi (λj hj=>h1 j (by omega));refine⟨λl hl=>?_,h8 i0 hi0⟩
  match l,hl with
  |0,_=>exact h0 i0 hi0
  |1,_=>exact h1 i0 hi0
  |2,_=>exact h2 i0 hi0
  |3,_=>exact h3 i0 hi0
  |4,_=>exact h4 i0 hi0
  |5,_=>exact h5 i0 hi0
  |6,_=>exact h6 i0 hi0
  |7,_=>exact h7 i0 hi0
theorem ur{T:List Tk}(hq:tG T):∀(n i:Nat),T.length-i<n->1<=i->RAt rvS 224 T (S T n) i
 |0,i,hi,_=>absurd hi (Dd _)
 |n+1,i,hi,h1=> .of_lt λhiT=>by
  have hX:∀j,i<=j->EAt T (E T (n+1) 0) 0 j:=λj hj=>(qg (n+1) j (by omega)).1 0 (by omega);have hO:∀j,i<=j->RAt rvE 283 T (E T (n+1) 8) j:=λj hj=>(qg (n+1) j (by omega)).2;have hSt:∀j,i<j->RAt rvS 224 T (S T n) j:=λj hj=>ur hq n j (by omega) (by omega);have hM:=sx (rec:=E T n) (λj hj=>hX j (by omega)) hO rfl hq h1;exact wK (λj hj=>hX j (by omega)) hSt (wA n) hM
end
end Go.Proofs.YtjpbckbpeblibaaGreatDoor
