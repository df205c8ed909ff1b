/- part of a proof -/
import Derived.Test.YtjpbckbpeblibaaGreatDoorK15
namespace Go.Proofs.YtjpbckbpeblibaaGreatDoor
set_option linter.unusedVariables false
set_option linter.unusedSimpArgs false
set_option maxRecDepth 100000
set_option maxHeartbeats 64000000
section
open Go.RowKit
variable{Q:Ending->World->Prop}{W w w':World}{g k n p r:Nat}{l:ByteArray}{ops:List Nat}
theorem yI(l:ByteArray)(w:World):Calls Tryz.prog 23 #[.string l] w λe w'=>e= .returned (.bool (dI l))/\w'=w:=by
 cases hs:dI l with
 |false=>
  obtain⟨h1,hc35,hne⟩:=nO hs;have hz0:(0:Int)<(l.size:Int):=by omega
  clear hs;go_enter Tryz.func23,Tryz.ntmps23;go_wp2_with fail;go_ret;exact⟨rfl,rfl⟩
 |true=>
  by_cases h0:l.size=0
  ·obtain rfl:l=⟨#[]⟩:=AN (Bc h0);clear h0 hs;go_enter Tryz.func23,Tryz.ntmps23;go_wp2_with fail;go_ret;exact⟨rfl,rfl⟩
  ·have h1:0<l.size:=by omega
   have hz0:(0:Int)<(l.size:Int):=by omega
   have hc:(l[0]'h1)=35:=by
    unfold dI at hs;cases hl:l.data.toList with
    |nil=>have h2:l.data.toList.length=l.size:=rfl;rw[hl]at h2;simp at h2;omega
    |cons c r=>
     rw[hl]at hs;have h2:l.data.toList[0]?=some c:=by rw[hl];rfl
     have h3:=(AH.1 h2).2;have h4:c=35:=by simpa using hs
     rw[<-h4];exact h3
   have hc35:(((l[0]'h1).toNat:Int)==35)=true:=by rw[hc];rfl
   have hne:(l.toList==[])=false:=AD.2 λe=>h0 (by rw[Bf]at e;exact CU List.length e);clear hc h0 hs;go_enter Tryz.func23,Tryz.ntmps23;go_wp2_with fail;go_ret;exact⟨rfl,rfl⟩
theorem xj(s:ByteArray)(w:World)(hs:s.size<=2000)(hm:(ag s).length<3000):Calls Tryz.prog 22 #[.string s] w λe w'=>∃A c,e= .returned (.slice A (ag s).length c)/\Strs w' w'.heap.size A (ag s).length (ag s)/\Below w.heap.size w w':=by
 have HC:=H_ (ns 10 s w (by omega));have hcp:=pG 10 s;obtain⟨z,hz,hch⟩:=rY (cS 10 s) hcp
 have hlen:(ag s).length=(cS 10 s).length-1\/(ag s).length=(cS 10 s).length:=by
  unfold ag;rcases hch with⟨_,hc⟩|⟨_,hc⟩
  ·rw[hc,Ck];omega
  ·rw[hc];exact .inr rfl
 obtain⟨N,hN⟩:∃N,(cS 10 s).length=N+1:=⟨(cS 10 s).length-1,by omega⟩;rw[hN]at HC hz hlen;have HCH:=H_ hch;have hwr:IntKind.i64.wrap (((N+1:Nat):Int)-1)=(N:Int):=by rw[AY _ (by omega)];omega
 clear hch hcp;go_enter Tryz.func22,Tryz.ntmps22;go_wp2_with fail;refine HC.out.mono ?_;rintro e w1 ⟨A,c,rfl,hc1,hst,b1⟩;obtain⟨g,off,h1,h2,h3⟩:=hst.2 (by omega);subst h1;have d0:=h3 N _ (by rw[Bp];simp only[Nat.add_sub_cancel]at hz;rw[hz];rfl);have HS:=H_ hst;have HB:=H_ b1;have hNl:N<N+1:=by omega
 clear hst b1 h3 hz HC;rcases HCH.out with⟨hz0,hc⟩|⟨hz0,hc⟩
 ·have hM:(ag s).length=N:=by unfold ag;rw[hc,Ck,hN];omega
  subst hz0;go_wp2_with fail;go_ret;rw[hM];refine⟨_,_,rfl,⟨by rw[Cf,hM],λh0=>⟨g,off,rfl,h2,λj v hv=>?_⟩⟩,HB.out⟩;obtain⟨g',off',e1,_,h4⟩:=HS.out.2 (by omega);cases e1;refine h4 j v ?_;unfold ag at hv;rw[hc,List.map_take,D8]at hv;split at hv
  ·exact hv
  ·cases hv
 ·have hM:(ag s).length=N+1:=by unfold ag;rw[hc,hN]
  have hne:(z.toList==[])=false:=AD.2 λe=>hz0 (AN (by rw[Bf]at e;rw[e]));go_wp2_with fail;go_ret;rw[hM];refine⟨_,_,rfl,?_,HB.out⟩;have h:=HS.out;rw[show ag s=cS 10 s from hc];exact h
theorem vQ(n:Nat):∀c∈Lib.decDigits n,c≠32:=λc hc e=>by
 have:=ec n c hc;rw[e]at this;exact absurd this.1 (by decide)
theorem na(h:IsConf k l n):cS 32 l=[fJ k,cr n]:=by
 refine iA (b:=32) l [fJ k] (cr n) (λx hx=>?_) ?_
 ·simp only[be,BN,CC,BG,Ct,AV,AX,BU]at hx;rcases hx with rfl|rfl
  ·exact λc hc e=>fI k (e▸hc)
  ·exact vQ n
 ·rw[h.2.1];simp[dv,be,cr]
theorem vS{a b:ByteArray}(h:cS 32 l=[a,b]):l.data.toList=a.data.toList++32::b.data.toList:=by
 have h1:=fN l (w0:=a) (wr:=[b]) h;rw[<-h1];simp[aq,be]
def HeadP(k:Nat)(l:ByteArray)(x:Sc)(w:World)(e:Ending)(w':World):Prop:=Below w.heap.size w w'/\
 ((bU k l=none/\∃a b c,e= .returned (.tuple #[.agg #[.int .i64 a,.int .u64 b,.int .i64 c],.bool false]))\/
   ∃n,bU k l=some n/\e= .returned (.tuple #[.agg #[.int .i64 (x.set k n).m,.int .u64 (x.set k n).sd,.int .i64 (x.set k n).y],.bool true]))
theorem results24(tmps:Array Value)(W:World)(r:Nat)(v0 v1 v2 u:Value)(hr:Blk W r 25 #[v0,v1,v2])(h6:tmps.getD 6 undef= .pointer (some ⟨r,0,none⟩))(h7:tmps.getD 7 undef=u):
 (results Tryz.f24 tmps).run Tryz.prog W= .ok (.tuple #[.agg #[v0,v1,v2],u]) W:=by
 have g0:=hr.cell 0;have g1:=hr.cell 1;have g2:=hr.cell 2;have e6:tmps[6]?.getD undef= .pointer (some ⟨r,0,none⟩):=by simpa using h6
 have e7:tmps[7]?.getD undef=u:=by simpa using h7
 simp[results,Tryz.results24,go_sem,e6,e7,asAddr,g0,g1,g2]
theorem vV{ra:Nat}(hk:k<3)(h:Blk W ra 9 #[.string ⟨#[109,97,99,104,105,110,101,115]⟩,.string ⟨#[115,101,101,100]⟩,.string ⟨#[121,111,117,110,103]⟩]):W.cell? ⟨ra,k,none⟩=some (.string (fJ k)):=by
 rw[h.cell];obtain rfl|rfl|rfl:k=0\/k=1\/k=2:=by omega
 all_goals rfl
theorem dJ{u0 u1 u2:Value}(h:Blk W r 25 #[u0,u1,u2])(a b c:Value):Blk (((W.setCell ⟨r,0,none⟩ a).setCell ⟨r,1,none⟩ b).setCell ⟨r,2,none⟩ c) r 25 #[a,b,c]:=by
 have g:=((h.set 0 a).set 1 b).set 2 c;simp only[Bw,Cc,Cb]at g;exact g
theorem eX{S:Nat}(h:Below S w W)(hr:S<=r)(a b c:Value):Below S w (((W.setCell ⟨r,0,none⟩ a).setCell ⟨r,1,none⟩ b).setCell ⟨r,2,none⟩ c):=
 ((h.setCell (p:=⟨r,0,none⟩) hr a).setCell (p:=⟨r,1,none⟩) hr b).setCell (p:=⟨r,2,none⟩) hr c
theorem zv(k:Nat)(hk:k<3)(l:ByteArray)(x:Sc)(w:World)(hl:l.size<=100000):Calls Tryz.prog 24 #[.agg #[.int .i64 x.m,.int .u64 x.sd,.int .i64 x.y],.int .i64 (k:Int),.string l] w (HeadP k l x w):=by
 obtain⟨w0,hw0⟩:=nm_ (w.alloc (.cells #[.int .i64 x.m,.int .u64 x.sd,.int .i64 x.y] 25));obtain⟨w1,hw1⟩:=nm_ (w0.alloc (.cells #[.int .i64 0,.int .u64 0,.int .i64 0] 25));obtain⟨p,hp⟩:=nm_ (w.heap.size);have hs0:w0.heap.size=p+1:=by rw[<-hw0,<-hp];simp
 have hs1:w1.heap.size=p+2:=by rw[<-hw1];simp[hs0]
 have b0:Below p w w0:=hw0▸(AC _ _).alloc (by omega) _;have b1:Below p w w1:=hw1▸b0.alloc (by omega) _;have P0:=Blk.ng hw0 hp;have P1:=P0.al hw1;have R1:=Blk.ng hw1 hs0;have HC:=H_ (ns 32 l w1 hl);have HQ:=H_ (And.intro P1 (And.intro R1 b1));have HW:=H_ (And.intro hw0 hw1);clear P0 P1 R1 b0 b1 hw0 hw1;go_enter Tryz.func24,Tryz.ntmps24;go_upto_region 1 with fail;rw[HW.out.1,HW.out.2];go_wp2_with fail;refine HC.out.mono ?_;rintro e w2 ⟨A,c,rfl,hcl,hst,b2⟩;have hs2:=b2.size;have HQ2:=H_ (And.intro (HQ.out.1.below b2 (by omega)) (And.intro (HQ.out.2.1.below b2 (by omega)) (HQ.out.2.2.trans (b2.mono (by omega)))));have HST:=H_ hst;clear hst b2 HC HQ HW;by_cases hlen:(cS 32 l).length=2
 rotate_left
 ·have HN:=H_ (show bU k l=none from cv λn h=>hlen (by rw[na h];rfl));have hne:(((cS 32 l).length:Int) !=2)=true:=bne_iff_ne.2 (by omega);obtain⟨TT,f,_,hf,hcov⟩:=aX w2.heap.size w2;have HF:=H_ hf;have HCOV:=H_ hcov;clear hf hcov hlen;generalize(cS 32 l).length=N at hne hcl;go_upto_region 2 with fail;refine ah f (by kernel_rfl) (by kernel_rfl) (HCOV.out _ (AC _ _).drew) ?_;repeat (go_big_quiet_step (fail))
  refine BL ?_;rintro _ ⟨z,rfl⟩;have hsz:=(HF.out z).size;have hP:=HQ2.out.1.below (HF.out z) (by omega);have hR:=HQ2.out.2.1.below (HF.out z) (by omega);have HB:=H_ (HQ2.out.2.2.trans ((HF.out z).mono (by omega)));have HR:=H_ hR;have p0:=hP.cell 0;have p1:=hP.cell 1;have p2:=hP.cell 2;have r0:=hR.cell 0;have r1:=hR.cell 1;have r2:=hR.cell 2;obtain⟨f0,f1,f2⟩:=hR.f3;clear hP hR HST;go_wp2_with fail;exact AO (results24 _ _ (p+1) _ _ _ _ (dJ HR.out _ _ _) rfl rfl) rfl ⟨hp▸eX HB.out (by omega) _ _ _,.inl ⟨HN.out,_,_,_,rfl⟩⟩
 ·obtain⟨a,b,hab⟩:∃a b,cS 32 l=[a,b]:=by
   match hc:cS 32 l,hlen with
   |[a,b],_=>exact⟨a,b,rfl⟩
  rw[hab]at HST hcl⊢;have HAB:=H_ hab;clear hlen hab;obtain⟨g,off,h1,h2,h3⟩:=HST.out.2 (by simp);subst h1;have da:w2.cell? ⟨g,off,none⟩=some (.string a):=h3 0 _ rfl;have db:=h3 1 _ rfl;have HD:=H_ (And.intro h2 (And.intro da db));clear h2 h3 da db HST;go_upto_region 2 with fail;have hk3:(k:Int)<3:=by omega
  obtain⟨z,hz⟩:=nm_ ((a.toList==(fJ k).toList));have hzn:(a.toList !=(fJ k).toList)= !z:=by rw[<-hz];rfl
  refine ay 7 12 (λxs=>{tmps:= #[.agg #[.int .i64 x.m,.int .u64 x.sd,.int .i64 x.y],.int .i64 (k:Int),.string l,.pointer (some ⟨p,0,none⟩),undef,undef,.pointer (some ⟨p+1,0,none⟩),.bool false,.slice (some ⟨g,off,none⟩) 2 c,undef,undef,.string l,.slice (some ⟨g,off,none⟩) 2 c,(xs 0).getD undef,(xs 1).getD undef,(xs 2).getD undef,(xs 3).getD undef,(xs 4).getD undef,(xs 5).getD undef,(xs 6).getD undef,(xs 7).getD undef,(xs 8).getD undef,(xs 9).getD undef,(xs 10).getD undef,(xs 11).getD undef,undef,undef,undef,undef,undef,undef,undef,undef,undef,undef,undef,undef,undef,undef,undef,undef,undef,undef,undef,undef,undef,undef,undef,undef,undef,undef,undef,undef,undef,undef,undef,undef,undef,undef,undef,undef],defers:=[]}) (λ_ W=>Below w2.heap.size w2 W) w2.heap.size
   (λi=>match i with
     |0=>fEq (.slice (some ⟨g,off,none⟩) 2 c)
     |1=>fEq (.int .i64 2)
     |2=>fEq (.bool false)
     |3=>fEq (.bool false)
     |4=>fEq (.slice (some ⟨g,off,none⟩) 2 c)
     |5=>fEq (.pointer (some ⟨g,off,none⟩))
     |6=>fEq (.string a)
     |7=>λv W=>∃ra,v= .slice (some ⟨ra,0,none⟩) 3 3/\RowA w2.heap.size W ra #[.string ⟨#[109,97,99,104,105,110,101,115]⟩,.string ⟨#[115,101,101,100]⟩,.string ⟨#[121,111,117,110,103]⟩] 9
     |8=>fEq (.int .i64 (k:Int))
     |9=>λv W=>∃ra,v= .pointer (some ⟨ra,k,none⟩)/\RowA w2.heap.size W ra #[.string ⟨#[109,97,99,104,105,110,101,115]⟩,.string ⟨#[115,101,101,100]⟩,.string ⟨#[121,111,117,110,103]⟩] 9
     |10=>fEq (.string (fJ k))
     |11=>fEq (.bool (!z))
     |_=>λ_ _=>True)
   (by
     intro i
     match i with
     |0|1|2|3|4|5|6|8|10|11=>exact fEq.st _ _
     |7=>exact λ_ _ _ hn ⟨ra,h1,h2⟩=>⟨ra,h1,h2.nw hn⟩
     |9=>exact λ_ _ _ hn ⟨ra,h1,h2⟩=>⟨ra,h1,h2.nw hn⟩
     |_+12=>exact λ_ _ _ _ _=>trivial)
   (by kernel_rfl) (by kernel_rfl) (by decide) (by kernel_rfl) (by decide) rfl (AC _ _).drew ?_ ?_ ?_
  ·intro i' hi hic bb xs W hJ hd;have HJ:=H_ hJ;clear hJ;obtain rfl|rfl|rfl|rfl|rfl|rfl|rfl|rfl|rfl|rfl|rfl:i'=0\/i'=1\/i'=2\/i'=3\/i'=4\/i'=5\/i'=6\/i'=8\/i'=9\/i'=10\/i'=11:=by omega
   ·refine AE rfl λK hK=>?_;go_simp;exact hK _ _ ⟨_,rfl,HJ.out,rfl,Nw.refl _ _⟩
   ·obtain⟨_,h0,rfl⟩:=hd 0;refine AE rfl λK hK=>?_;go_simp;exact hK _ _ ⟨_,by simp only[au,h0];rfl,HJ.out,rfl,Nw.refl _ _⟩
   ·obtain⟨_,h1,rfl⟩:=hd 1;refine AE rfl λK hK=>?_;go_simp;exact hK _ _ ⟨_,by simp only[au,h1];rfl,HJ.out,rfl,Nw.refl _ _⟩
   ·obtain⟨_,h2,rfl⟩:=hd 2;refine AE rfl λK hK=>?_;go_simp;exact hK _ _ ⟨_,by simp only[au,h2];rfl,HJ.out,rfl,Nw.refl _ _⟩
   ·obtain⟨_,h3,rfl⟩:=hd 3;refine AE rfl λK hK=>?_;rw[AP (by rw[h3];kernel_rfl)];go_simp;exact hK _ _ ⟨_,by simp only[au,h3];rfl,HJ.out,rfl,Nw.refl _ _⟩
   ·obtain⟨_,h4,rfl⟩:=hd 4;obtain⟨_,h3,rfl⟩:=hd 3;refine AE rfl λK hK=>?_;rw[AP (by rw[h3];kernel_rfl)];go_simp;exact hK _ _ ⟨_,by simp only[au,h4,h3];rfl,HJ.out,rfl,Nw.refl _ _⟩
   ·obtain⟨_,h5,rfl⟩:=hd 5;obtain⟨_,h3,rfl⟩:=hd 3;have da:=(a8 HJ.out HD.out.1 _).trans HD.out.2.1;refine AE rfl λK hK=>?_;rw[AP (by rw[h3];kernel_rfl)];go_simp;exact hK _ _ ⟨_,by simp only[au,h5,h3];rfl,HJ.out,rfl,Nw.refl _ _⟩
   ·obtain⟨_,h3,rfl⟩:=hd 3;refine AE rfl λK hK=>?_;rw[AP (by rw[h3];kernel_rfl)];go_simp;exact hK _ _ ⟨_,by simp only[au,h3];rfl,HJ.out,rfl,Nw.refl _ _⟩
   ·obtain⟨_,h7,ra,rfl,hra⟩:=hd 7;obtain⟨_,h8,rfl⟩:=hd 8;obtain⟨_,h3,rfl⟩:=hd 3;have HRA:=H_ hra;clear hra;refine AE rfl λK hK=>?_;rw[AP (by rw[h3];kernel_rfl)];go_simp;exact hK _ _ ⟨_,by simp only[au,h7,h8,h3];rfl,HJ.out,⟨ra,by simp,HRA.out⟩,Nw.refl _ _⟩
   ·obtain⟨_,h9,ra,rfl,hra⟩:=hd 9;obtain⟨_,h3,rfl⟩:=hd 3;have dn:=vV hk hra.2;clear hra;refine AE rfl λK hK=>?_;rw[AP (by rw[h3];kernel_rfl)];go_simp;exact hK _ _ ⟨_,by simp only[au,h9,h3];rfl,HJ.out,rfl,Nw.refl _ _⟩
   ·obtain⟨_,h6,rfl⟩:=hd 6;obtain⟨_,h10,rfl⟩:=hd 10;obtain⟨_,h3,rfl⟩:=hd 3;refine AE rfl λK hK=>?_;rw[AP (by rw[h3];kernel_rfl)];go_simp;exact hK _ _ ⟨_,by simp only[au,h6,h10,h3];rfl,HJ.out,rfl,Nw.refl _ _⟩
  ·intro xs W hJ hd;obtain⟨_,h3,rfl⟩:=hd 3;have hb:=(AC W.heap.size W).alloc (AB _) (.cells #[.string ⟨#[109,97,99,104,105,110,101,115]⟩,.string ⟨#[115,101,101,100]⟩,.string ⟨#[121,111,117,110,103]⟩] 9);have HJ:=H_ hJ;have HB:=H_ hb;clear hJ hb;refine AE rfl λK hK=>?_;rw[AP (by rw[h3];kernel_rfl)];go_simp;exact hK _ _ ⟨_,by simp only[au,h3];rfl,HJ.out.trans (HB.out.mono HJ.out.size),⟨W.heap.size,rfl,HJ.out.size,Blk.new W 9 _⟩,Nw.below HB.out⟩
  ·intro xs W hJ hF;obtain⟨_,h0,rfl⟩:=hF 0 (by omega);obtain⟨_,h1,rfl⟩:=hF 1 (by omega);obtain⟨_,h2,rfl⟩:=hF 2 (by omega);obtain⟨_,h3,rfl⟩:=hF 3 (by omega);obtain⟨_,h4,rfl⟩:=hF 4 (by omega);obtain⟨_,h5,rfl⟩:=hF 5 (by omega);obtain⟨_,h6,rfl⟩:=hF 6 (by omega);obtain⟨_,h7,ra,rfl,_⟩:=hF 7 (by omega);obtain⟨_,h8,rfl⟩:=hF 8 (by omega);obtain⟨_,h9,ra',rfl,_⟩:=hF 9 (by omega);obtain⟨_,h10,rfl⟩:=hF 10 (by omega);obtain⟨_,h11,rfl⟩:=hF 11 (by omega);have hsW:=hJ.size;have P2:=H_ (HQ2.out.1.below hJ (by omega));have R2:=H_ (HQ2.out.2.1.below hJ (by omega));have B2:=H_ (HQ2.out.2.2.trans (hJ.mono (by omega)));have db:=(a8 hJ HD.out.1 _).trans HD.out.2.2;have HL:=H_ (vS HAB.out)
   have hbs:b.size<=100000:=by
    have h1:l.size=l.data.toList.length:=rfl;have h2:b.size=b.data.toList.length:=rfl;rw[HL.out,AT,AZ]at h1;omega
   clear hJ hF HQ2 HD;rw[show List.range' 12 _=[12]from rfl,Bl];refine AE rfl λK hK=>?_;generalize(!z)=nz at h11 hzn;simp only[h0,h1,h2,h3,h4,h5,h6,h7,h8,h9,h10,h11,Bz];go_simp;refine hK _ _ ?_;unfold wpOps;clear h0 h1 h2 h3 h4 h5 h6 h7 h8 h9 h10 h11;cases nz with
   |true=>
    have HN:=H_ (show bU k l=none from cv λn h=>by
     have h1:=na h;rw[HAB.out]at h1;have h2:=(List.cons.inj h1).1;rw[h2]at hzn;simp at hzn)
    have P3:=P2;have R3:=R2;have p0:=P3.out.cell 0;have p1:=P3.out.cell 1;have p2:=P3.out.cell 2;have r0:=R3.out.cell 0;have r1:=R3.out.cell 1;have r2:=R3.out.cell 2;obtain⟨pf0,pf1,pf2⟩:=P3.out.f3;obtain⟨f0,f1,f2⟩:=R3.out.f3;clear hzn hz hK K;go_wp2_with fail;exact AO (results24 _ _ (p+1) _ _ _ _ (dJ R3.out _ _ _) rfl rfl) rfl ⟨hp▸eX B2.out (by omega) _ _ _,.inl ⟨HN.out,_,_,_,rfl⟩⟩
   |false=>
    have hac:a=fJ k:=by
     have h1:a.toList=(fJ k).toList:=by simpa using hzn
     exact cQ h1
    have HL2:=H_ (show l.data.toList=(fJ k).data.toList++32::b.data.toList by rw[<-hac];exact HL.out);have HDG:=H_ (lK b W (by omega));clear hzn hz hac hK K;go_wp2_with fail;refine HDG.out.mono ?_;rintro e W3 ⟨n,ok,rfl,hu,hn,hok,b3⟩;have hs3:=b3.size;have P3:=H_ (P2.out.below b3 (by omega));have R3:=H_ (R2.out.below b3 (by omega));have B3:=htm B2 b3;have HU:=H_ (And.intro hu (And.intro hn hok));clear b3 hn hok HDG db P2 R2 B2;have p0:=P3.out.cell 0;have p1:=P3.out.cell 1;have p2:=P3.out.cell 2;have r0:=R3.out.cell 0;have r1:=R3.out.cell 1;have r2:=R3.out.cell 2;obtain⟨pf0,pf1,pf2⟩:=P3.out.f3;obtain⟨f0,f1,f2⟩:=R3.out.f3;cases ok with
    |false=>
     have HN:=H_ (show bU k l=none from cv λm h=>by
      have h1:=(jA (fI k) (fI k) (HL2.out.symm.trans h.2.1)).2;have h2:=HU.out.2.1 m h.1 (AN h1);exact absurd h2.1 (by decide))
     clear hu;go_wp2_with fail;exact AO (results24 _ _ (p+1) _ _ _ _ (dJ R3.out _ _ _) rfl rfl) rfl ⟨hp▸eX B3.out (by omega) _ _ _,.inl ⟨HN.out,_,_,_,rfl⟩⟩
    |true=>
     have HY:=H_ (gX (k:=k) hu HL2.out (HU.out.2.2 rfl).symm);unfold U64 at hu;obtain rfl|rfl|rfl:k=0\/k=1\/k=2:=by omega
     ·by_cases hv:1<=n/\n<=8
      ·have hwr:IntKind.i64.wrap (n:Int)=n:=AY _ (by omega);have hok:fV 0 n:=⟨λ_=>hv,λh=>absurd h (by decide)⟩;have HF:=H_ (HY.out.1 hok);have hn1:(1:Int)<=(n:Int):=by omega
       have hn2:(n:Int)<=8:=by omega
       clear HY HU;go_wp2_with fail;exact AO (results24 _ _ (p+1) _ _ _ _ (dJ (R3.out.other ⟨p,0,none⟩ (.int .i64 (n:Int)) (by simp)) _ _ _) rfl rfl) rfl ⟨hp▸eX (B3.out.setCell (p:=⟨p,0,none⟩) (AB _) _) (by omega) _ _ _,.inr ⟨n,HF.out,rfl⟩⟩
      ·obtain⟨m,hwr⟩:=nm_ (IntKind.i64.wrap (n:Int));have HN:=H_ (HY.out.2 λh=>hv (h.1 rfl));by_cases hn1:1<=n
       ·have hz1:(1:Int)<=(n:Int):=by omega
        have hz2:decide ((n:Int)<=8)=false:=Bg (by omega);clear HY HU hv;go_wp2_with fail;exact AO (results24 _ _ (p+1) _ _ _ _ (dJ (R3.out.other ⟨p,0,none⟩ (.int .i64 m) (by simp)) _ _ _) rfl rfl) rfl ⟨hp▸eX (B3.out.setCell (p:=⟨p,0,none⟩) (AB _) _) (by omega) _ _ _,.inl ⟨HN.out,_,_,_,rfl⟩⟩
       ·have hz1:¬((1:Int)<=(n:Int)):=by omega
        clear HY HU hv;go_wp2_with fail;exact AO (results24 _ _ (p+1) _ _ _ _ (dJ (R3.out.other ⟨p,0,none⟩ (.int .i64 m) (by simp)) _ _ _) rfl rfl) rfl ⟨hp▸eX (B3.out.setCell (p:=⟨p,0,none⟩) (AB _) _) (by omega) _ _ _,.inl ⟨HN.out,_,_,_,rfl⟩⟩
     ·have hok:fV 1 n:=⟨λh=>absurd h (by decide),λh=>absurd h (by decide)⟩;have HF:=H_ (HY.out.1 hok);clear HY HU;go_wp2_with fail;exact AO (results24 _ _ (p+1) _ _ _ _ (dJ (R3.out.other ⟨p,1,none⟩ (.int .u64 (n:Int)) (by simp)) _ _ _) rfl rfl) rfl ⟨hp▸eX (B3.out.setCell (p:=⟨p,1,none⟩) (AB _) _) (by omega) _ _ _,.inr ⟨n,HF.out,rfl⟩⟩
     ·by_cases hv:n<=1099511627776
      ·have hwr:IntKind.i64.wrap (n:Int)=n:=AY _ (by omega);have hok:fV 2 n:=⟨λh=>absurd h (by decide),λ_=>hv⟩;have HF:=H_ (HY.out.1 hok);have hn2:(n:Int)<=1099511627776:=by omega
       clear HY HU;go_wp2_with fail;exact AO (results24 _ _ (p+1) _ _ _ _ (dJ (R3.out.other ⟨p,2,none⟩ (.int .i64 (n:Int)) (by simp)) _ _ _) rfl rfl) rfl ⟨hp▸eX (B3.out.setCell (p:=⟨p,2,none⟩) (AB _) _) (by omega) _ _ _,.inr ⟨n,HF.out,rfl⟩⟩
      ·obtain⟨m,hwr⟩:=nm_ (IntKind.i64.wrap (n:Int));have HN:=H_ (HY.out.2 λh=>hv (h.2 rfl));have hz1:decide ((n:Int)<=1099511627776)=false:=Bg (by omega);clear HY HU hv;go_wp2_with fail;exact AO (results24 _ _ (p+1) _ _ _ _ (dJ (R3.out.other ⟨p,2,none⟩ (.int .i64 m) (by simp)) _ _ _) rfl rfl) rfl ⟨hp▸eX (B3.out.setCell (p:=⟨p,2,none⟩) (AB _) _) (by omega) _ _ _,.inl ⟨HN.out,_,_,_,rfl⟩⟩
theorem vo(x:UInt8):dF x=((decide (97<=(x.toNat:Int))&&decide ((x.toNat:Int)<=122))||(decide (65<=(x.toNat:Int))&&decide ((x.toNat:Int)<=90))):=by
 unfold dF
 congr 1<;>congr 1<;>exact Cu.2 (by omega)
theorem pF(x:UInt8):cu x=(decide (48<=(x.toNat:Int))&&decide ((x.toNat:Int)<=57)):=by
 unfold cu
 congr 1<;>exact Cu.2 (by omega)
theorem gY(x:UInt8)(n:Nat)(h:n<256):(x==UInt8.ofNat n)=decide (x.toNat=n):=by
 have h1:(UInt8.ofNat n).toNat=n:=by simp;omega
 by_cases hx:x=UInt8.ofNat n
 ·subst hx;rw[h1];simp
 ·rw[AD.2 hx];exact(Bg (λh2=>hx (CD.1 (by rw[h1];exact h2)))).symm
theorem l5(x:UInt8):ii x=true↔((x.toNat:Int)=32\/(x.toNat:Int)=9\/(x.toNat:Int)=10\/(x.toNat:Int)=13):=by
 unfold ii;have h1:=gY x 32 (by decide);have h2:=gY x 9 (by decide);have h3:=gY x 10 (by decide);have h4:=gY x 13 (by decide);rw[show(32:UInt8)=UInt8.ofNat 32 from rfl,show(9:UInt8)=UInt8.ofNat 9 from rfl,show(10:UInt8)=UInt8.ofNat 10 from rfl,show(13:UInt8)=UInt8.ofNat 13 from rfl,h1,h2,h3,h4];simp only[CJ,Bk];omega
theorem od(x:UInt8)(h:n<256)(hx:(x.toNat:Int)≠n):x≠UInt8.ofNat n:=λe=>hx (by
 have h1:(UInt8.ofNat n).toNat=n:=by simp;omega
 rw[e,h1])
theorem oe(x:UInt8)(h:n<256)(hx:(x.toNat:Int)=n):x=UInt8.ofNat n:=by
 have h1:(UInt8.ofNat n).toNat=n:=by simp;omega
 exact CD.1 (by rw[h1];omega)
theorem cN(x:UInt8)(w:World):Calls Tryz.prog 219 #[.int .u8 (x.toNat:Int)] w λe w'=>e= .returned (.bool (dF x))/\w=w':=by
 by_cases h1:(97:Int)<=(x.toNat:Int)<;>by_cases h2:(x.toNat:Int)<=122<;>by_cases h3:(65:Int)<=(x.toNat:Int)<;>by_cases h4:(x.toNat:Int)<=90
 all_goals first
  |(exfalso;omega)
  |(go_enter Tryz.func219,Tryz.ntmps219
    go_wp2_with fail;go_ret;exact⟨ae (by rw[vo];simp[h1,h2,h3,h4]),rfl⟩)
theorem dQ(x:UInt8)(w:World):Calls Tryz.prog 220 #[.int .u8 (x.toNat:Int)] w λe w'=>e= .returned (.bool (cu x))/\w=w':=by
 by_cases h1:(48:Int)<=(x.toNat:Int)<;>by_cases h2:(x.toNat:Int)<=57
 all_goals first
  |(exfalso;omega)
  |(go_enter Tryz.func220,Tryz.ntmps220
    go_wp2_with fail;go_ret;exact⟨ae (by rw[pF];simp[h1,h2]),rfl⟩)
theorem kZ(w:World):Calls Tryz.prog 222 #[] w λe w'=>e= .returned (.slice (some ⟨w.heap.size,0,none⟩) 19 19)/\Below w.heap.size w w'/\Strs w' w'.heap.size (some ⟨w.heap.size,0,none⟩) 19 bi:=by
 go_enter Tryz.func222,Tryz.ntmps222;go_wp2;go_ret;exact⟨rfl,(AC _ _).alloc (AB _) _,Strs.aM (ss:=bi) (Blk.new w 9 _) (by rw[AR];exact Nat.lt_succ_self _)⟩
theorem ct(s:ByteArray)(h:k<s.size):s.data.toList.drop k=s[k]::s.data.toList.drop (k+1):=by
 have h1:k<s.data.toList.length:=by simpa using h
 rw[Cj h1];rfl
theorem jR(s:ByteArray):s.data.toList.drop s.size=[]:=Cw (by simp)
theorem rq(s:ByteArray)(a:Nat)(ha:a<=s.size)(hs:s.size<=100000)(w:World):Calls Tryz.prog 140 #[.string s,.int .i64 a] w λe w'=>e= .returned (.int .i64 ((s.size-(an false (s.data.toList.drop a)).length:Nat):Int))/\w=w':=by
 go_enter Tryz.func140,Tryz.ntmps140;go_wp2_with fail;go_loop [1] (λu=>∃k:Nat,k<=s.size/\u= .int .i64 k/\Hid (an false (s.data.toList.drop a)=an false (s.data.toList.drop k))) (λu=>s.size-(intOf u).toNat)
 case atStart=>exact⟨a,ha,rfl,H_ rfl⟩
 case round=>
  obtain⟨k,hk,rfl,HA⟩:=hrel;by_cases hlt:k<s.size
  ·have hk0:0<=(k:Int):=by omega
   have hk1:(k:Int)<s.size:=by omega
   have HX:=H_ (ct s hlt);by_cases hsp:ii s[k]=true
   ·have HN:=H_ (show an false (s.data.toList.drop a)=an false (s.data.toList.drop (k+1)) by
     rw[HA.out,HX.out]
     conv=>lhs;unfold an
     rw[AP hsp])
    have HSP:=(l5 _).1 hsp;clear hsp;go_wp2_with fail
    all_goals first
     |exact⟨⟨k+1,by omega,by go_num,HN⟩,by simp[intOf];omega⟩
     |(exfalso;simp only[AD,ne_eq]at*;omega)
   ·have hsn:¬((s[k].toNat:Int)=32\/(s[k].toNat:Int)=9\/(s[k].toNat:Int)=10\/(s[k].toNat:Int)=13):=λh=>hsp ((l5 _).2 h);have n1:((s[k].toNat:Int)==32)=false:=AD.2 (by omega);have n2:((s[k].toNat:Int)==9)=false:=AD.2 (by omega);have n3:((s[k].toNat:Int)==10)=false:=AD.2 (by omega);have n4:((s[k].toNat:Int)==13)=false:=AD.2 (by omega);by_cases h35:(s[k].toNat:Int)=35
    ·have h35':((s[k].toNat:Int)==35)=true:=by simpa using h35
     have HS:=H_ (show an false (s.data.toList.drop a)=an true (s.data.toList.drop k) by
      rw[HA.out,HX.out];have h10:¬s[k]=10:=od _ (by decide) (by rw[h35];decide)
      conv=>lhs;unfold an
      conv=>rhs;unfold an
      rw[AL hsp,AP (show s[k]=35 from oe _ (by decide) h35),AL h10])
     have HH:=H_ h35;clear hsp hsn h35;go_wp2_with fail;go_loop [1] (λu=>∃q:Nat,k<=q/\q<=s.size/\u= .int .i64 q/\Hid (an false (s.data.toList.drop a)=an true (s.data.toList.drop q))) (λu=>s.size-(intOf u).toNat)
     case atStart=>exact⟨k,AB _,hk,rfl,HS⟩
     case round=>
      obtain⟨q,hkq,hq,rfl,HB⟩:=hrel;by_cases hql:q<s.size
      ·have hq0:0<=(q:Int):=by omega
       have hq1:(q:Int)<s.size:=by omega
       have HY:=H_ (ct s hql);by_cases h10:(s[q].toNat:Int)=10
       ·have h10':((s[q].toNat:Int) !=10)=false:=by simpa using h10
        have HN:=H_ (show an false (s.data.toList.drop a)=an false (s.data.toList.drop q) by
         have e10:s[q]=10:=oe _ (by decide) h10;rw[HB.out,HY.out,e10]
         conv=>lhs;unfold an
         conv=>rhs;unfold an
         rfl)
        have hkq':k<q:=by
         rcases BI k q with h|h
         ·exact h
         ·obtain rfl:q=k:=by omega
          rw[HH.out]at h10;cases h10
        clear h10;go_wp2_with fail;exact⟨⟨q,by omega,rfl,HN⟩,by simp[intOf];omega⟩
       ·have h10':((s[q].toNat:Int) !=10)=true:=by simpa using h10
        have HN:=H_ (show an false (s.data.toList.drop a)=an true (s.data.toList.drop (q+1)) by
         rw[HB.out,HY.out]
         conv=>lhs;unfold an
         rw[AL (show ¬s[q]=10 from od _ (by decide) h10)])
        clear h10;go_wp2_with fail;exact⟨⟨q+1,by omega,by omega,by go_num,HN⟩,by simp[intOf];omega⟩
      ·obtain rfl:q=s.size:=by omega
       have HN:=H_ (show an false (s.data.toList.drop a)=an false (s.data.toList.drop s.size) by
        rw[HB.out,jR];rfl)
       go_wp2_with fail;exact⟨⟨s.size,by omega,rfl,HN⟩,by simp[intOf];omega⟩
    ·have h35':=AD.2 h35
     have HR:=H_ (show(an false (s.data.toList.drop a)).length=s.size-k by
      rw[HA.out,HX.out];unfold an;rw[AL hsp,AL (show ¬s[k]=35 from od _ (by decide) h35),<-HX.out];simp)
     clear hsp hsn h35;go_wp2_with fail;go_ret;exact⟨CU (λn:Nat=>Ending.returned (.int .i64 (n:Int))) (show k=s.size-_ by rw[HR.out];omega),rfl⟩
  ·obtain rfl:k=s.size:=by omega
   go_wp2_with fail;go_ret;have h1:=HA.out;rw[jR]at h1;rw[h1];exact⟨by simp[an],rfl⟩
theorem mr(l:List UInt8)(c:UInt8):cO (l++[c])=cO l*10+(c.toNat-48):=by simp[cO]
theorem mq{s:ByteArray}(h:k<s.size):cO (s.data.toList.take (k+1))=cO (s.data.toList.take k)*10+(s[k].toNat-48):=by
 have h1:k<s.data.toList.length:=by simpa using h
 rw[BT,AI h1];exact mr _ _
theorem sk(a b:List UInt8):cO a<=cO (a++b):=by
 induction b generalizing a with
 |nil=>simp
 |cons c b ih=>
  have h:=ih (a++[c]);rw[mr,Cp]at h;show cO a<=cO (a++([c]++b));omega
theorem rm(l:List UInt8)(k:Nat):cO (l.take k)<=cO l:=by
 have:=sk (l.take k) (l.drop k);rwa[Bu]at this
def jr(l:List UInt8)(n er:Int):Prop:=
 if 2<=l.length/\l.head?=some 48 then er=3 else if 2305843009213693951<cO l then er=2 else er=0/\n=(cO l:Int)
theorem mK(s:ByteArray)(hd:∀x∈s.data.toList,cu x=true)(h1:1<=s.size)(hs:s.size<=100000)(w:World):
 Calls Tryz.prog 221 #[.string s] w λe w'=>w=w'/\∃n er:Int,e= .returned (.tuple #[.int .i64 n,.int .i64 er])/\jr s.data.toList n er:=by
 have hlen:s.data.toList.length=s.size:=by simp
 have hhead:s.data.toList.head?=some s[0]:=by
  have:=ct s (k:=0) (by omega);rw[List.drop_zero]at this;rw[this];rfl
 have HD:=H_ (show∀(k:Nat) (h:k<s.size),48<=s[k].toNat/\s[k].toNat<=57 from λk h=>by
  have:=hd s[k] (by
   have h1:k<s.data.toList.length:=by simpa using h
   exact List.getElem_mem h1)
  rw[pF]at this;simp at this;omega)
 have hz0:(0:Int)<s.size:=by omega
 by_cases hbad:1<s.size/\(s[0].toNat:Int)=48
 ·have g1:(1:Int)<s.size:=by omega
  have g2:((s[0].toNat:Int)==48)=true:=by simpa using hbad.2
  have HP:=H_ (show jr s.data.toList 0 3 by
   unfold jr;rw[AP ⟨by omega,by rw[hhead,oe _ (n:=48) (by decide) hbad.2];rfl⟩])
  clear hbad hhead hlen hd;go_enter Tryz.func221,Tryz.ntmps221;go_wp2_with fail;go_ret2;exact⟨rfl,0,3,rfl,HP.out⟩
 ·have HNB:=H_ (show ¬(2<=s.data.toList.length/\s.data.toList.head?=some 48)from λ⟨h2,h3⟩=>hbad ⟨by omega,by
   rw[hhead]at h3;have:=Option.some.inj h3;rw[this];rfl⟩)
  have HL:=H_ hlen
  have main:Calls Tryz.prog 221 #[.string s] w λe w'=>w=w'/\∃n er:Int,e= .returned (.tuple #[.int .i64 n,.int .i64 er])/\jr s.data.toList n er:=by
   rcases BI 1 s.size with g1|g1
   ·have g1':(1:Int)<s.size:=by omega
    have g2:=AD.2 (λh=>hbad ⟨g1,h⟩);clear hbad hhead hlen hd;go_enter Tryz.func221,Tryz.ntmps221;go_wp2_with fail;go_loop [4,5] (λu i=>∃k:Nat,k<=s.size/\i= .int .i64 k/\u= .int .i64 ((cO (s.data.toList.take k):Nat):Int)/\cO (s.data.toList.take k)<=2305843009213693951) (λ_ i=>s.size-(intOf i).toNat)
    case atStart=>exact⟨0,AM _,rfl,rfl,by simp[cO]⟩
    case round=>
     obtain⟨k,hk,rfl,rfl,hle⟩:=hrel;by_cases hlt:k<s.size
     ·have hk0:0<=(k:Int):=by omega
      have hk1:(k:Int)<s.size:=by omega
      obtain⟨hd1,hd2⟩:=HD.out k hlt;have HV:=H_ (mq hlt);have HM:=H_ (rm s.data.toList (k+1));obtain⟨D,hD⟩:=nm_ (s[k].toNat-48);obtain⟨V,hV⟩:=nm_ (cO (s.data.toList.take k));rw[hD,hV]at HV;rw[hV]at hle⊢;have hw1:IntKind.u8.wrap ((s[k].toNat:Int)-48)=(D:Int):=by rw[IntKind.wrap_u8];omega
      have hw2:IntKind.i64.wrap (D:Int)=(D:Int):=AY _ ⟨by omega,by omega⟩;have hw3:IntKind.i64.wrap (2305843009213693951-(D:Int))=2305843009213693951-(D:Int):=AY _ ⟨by omega,by omega⟩;obtain⟨C,hC⟩:=nm_ ((2305843009213693951-D)/10)
      have hw4:(2305843009213693951-(D:Int)).tdiv 10=(C:Int):=by
       rw[show(2305843009213693951-(D:Int))=((2305843009213693951-D:Nat):Int) by omega,<-hC];rfl
      have hw5:IntKind.i64.wrap (C:Int)=(C:Int):=AY _ ⟨by omega,by omega⟩;by_cases hov:2305843009213693951<V*10+D
      ·have hc:(C:Int)<(V:Int):=by omega
       have HP:=H_ (show jr s.data.toList 0 2 by
        unfold jr;rw[AL HNB.out,AP (by have:=HM.out;have:=HV.out;omega)])
       clear hov hle hd1 hd2 hD hV hC;go_wp2_with fail;go_ret2;exact⟨rfl,0,2,rfl,HP.out⟩
      ·have hc:¬(C:Int)<(V:Int):=by omega
       have hw6:IntKind.i64.wrap (10*(V:Int))=10*(V:Int):=AY _ ⟨by omega,by omega⟩;have hw7:IntKind.i64.wrap (10*(V:Int)+(D:Int))=10*(V:Int)+(D:Int):=AY _ ⟨by omega,by omega⟩;have HLE:=H_ (show V*10+D<=2305843009213693951 by omega);clear hov hle hd1 hd2 hD hV hC;go_wp2_with fail;go_round
       case rel=>exact⟨k+1,by omega,by go_num,by rw[HV.out];congr 1;omega,by rw[HV.out];exact HLE.out⟩
       case measure=>simp[intOf];omega
     ·obtain rfl:k=s.size:=by omega
      have ht:s.data.toList.take s.size=s.data.toList:=AK (by simp);rw[ht]at hle⊢
      have HP:=H_ (show jr s.data.toList (cO s.data.toList:Nat) 0 by
       unfold jr;rw[AL HNB.out,AL (by omega)];exact⟨rfl,rfl⟩)
      clear hle;go_wp2_with fail;go_ret2;exact⟨rfl,_,0,rfl,HP.out⟩
   ·have g1':¬(1:Int)<s.size:=by omega
    clear hbad hhead hlen hd;go_enter Tryz.func221,Tryz.ntmps221;go_wp2_with fail;go_loop [4,5] (λu i=>∃k:Nat,k<=s.size/\i= .int .i64 k/\u= .int .i64 ((cO (s.data.toList.take k):Nat):Int)/\cO (s.data.toList.take k)<=2305843009213693951) (λ_ i=>s.size-(intOf i).toNat)
    case atStart=>exact⟨0,AM _,rfl,rfl,by simp[cO]⟩
    case round=>
     obtain⟨k,hk,rfl,rfl,hle⟩:=hrel;by_cases hlt:k<s.size
     ·have hk0:0<=(k:Int):=by omega
      have hk1:(k:Int)<s.size:=by omega
      obtain⟨hd1,hd2⟩:=HD.out k hlt;have HV:=H_ (mq hlt);have HM:=H_ (rm s.data.toList (k+1));obtain⟨D,hD⟩:=nm_ (s[k].toNat-48);obtain⟨V,hV⟩:=nm_ (cO (s.data.toList.take k));rw[hD,hV]at HV;rw[hV]at hle⊢;have hw1:IntKind.u8.wrap ((s[k].toNat:Int)-48)=(D:Int):=by rw[IntKind.wrap_u8];omega
      have hw2:IntKind.i64.wrap (D:Int)=(D:Int):=AY _ ⟨by omega,by omega⟩;have hw3:IntKind.i64.wrap (2305843009213693951-(D:Int))=2305843009213693951-(D:Int):=AY _ ⟨by omega,by omega⟩;obtain⟨C,hC⟩:=nm_ ((2305843009213693951-D)/10)
      have hw4:(2305843009213693951-(D:Int)).tdiv 10=(C:Int):=by
       rw[show(2305843009213693951-(D:Int))=((2305843009213693951-D:Nat):Int) by omega,<-hC];rfl
      have hw5:IntKind.i64.wrap (C:Int)=(C:Int):=AY _ ⟨by omega,by omega⟩;by_cases hov:2305843009213693951<V*10+D
      ·have hc:(C:Int)<(V:Int):=by omega
       have HP:=H_ (show jr s.data.toList 0 2 by
        unfold jr;rw[AL HNB.out,AP (by have:=HM.out;have:=HV.out;omega)])
       clear hov hle hd1 hd2 hD hV hC;go_wp2_with fail;go_ret2;exact⟨rfl,0,2,rfl,HP.out⟩
      ·have hc:¬(C:Int)<(V:Int):=by omega
       have hw6:IntKind.i64.wrap (10*(V:Int))=10*(V:Int):=AY _ ⟨by omega,by omega⟩;have hw7:IntKind.i64.wrap (10*(V:Int)+(D:Int))=10*(V:Int)+(D:Int):=AY _ ⟨by omega,by omega⟩;have HLE:=H_ (show V*10+D<=2305843009213693951 by omega);clear hov hle hd1 hd2 hD hV hC;go_wp2_with fail;go_round
       case rel=>exact⟨k+1,by omega,by go_num,by rw[HV.out];congr 1;omega,by rw[HV.out];exact HLE.out⟩
       case measure=>simp[intOf];omega
     ·obtain rfl:k=s.size:=by omega
      have ht:s.data.toList.take s.size=s.data.toList:=AK (by simp);rw[ht]at hle⊢
      have HP:=H_ (show jr s.data.toList (cO s.data.toList:Nat) 0 by
       unfold jr;rw[AL HNB.out,AL (by omega)];exact⟨rfl,rfl⟩)
      clear hle;go_wp2_with fail;go_ret2;exact⟨rfl,_,0,rfl,HP.out⟩
  exact main
structure RS(w:World)(p:Nat)(A:Option Addr)(c:Nat)(T:List Tk)(i:Nat)(b:Bool):Prop where
 aG:Blk w p 160 #[.slice A T.length c,.int .i64 i,.bool b]
 tok:TokAt w p A T
 wf:Wf T
 lt:i<T.length
section
variable{w w':World}{p c i:Nat}{A:Option Addr}{T:List Tk}{b:Bool}
theorem RS.below(h:RS w p A c T i b)(hb:Below w.heap.size w w'):RS w' p A c T i b:=
 ⟨h.aG.below hb h.aG.lt,h.tok.bx (Bx.of hb) (by have:=h.aG.lt;omega),h.wf,h.lt⟩
theorem RS.aA(h:RS w p A c T i b)(hb:Bx w.heap.size g w w')(hg:p<g):RS w' p A c T i b:=by
 have hp:=h.aG.lt;refine⟨(hb.block p hp (by omega)).trans h.aG,?_,h.wf,h.lt⟩;obtain⟨b',off,h1,h2,h3⟩:=h.tok;exact⟨b',off,h1,h2,h3.aA (hb.block b' (by omega) (by omega))⟩
theorem RS.move{j:Nat}(h:RS w p A c T i b)(hj:j<T.length):RS (w.setCell ⟨p,1,none⟩ (.int .i64 j)) p A c T j b:=by
 refine⟨h.aG.set 1 _,?_,h.wf,hj⟩;obtain⟨b,off,h1,h2,h3⟩:=h.tok;exact⟨b,off,h1,h2,h3.aA (AG _ _ _ _ (by show b≠p;omega))⟩
theorem RS.fail(h:RS w p A c T i b):RS (w.setCell ⟨p,2,none⟩ (.bool true)) p A c T i true:=by
 refine⟨h.aG.set 2 _,?_,h.wf,h.lt⟩;obtain⟨b,off,h1,h2,h3⟩:=h.tok;exact⟨b,off,h1,h2,h3.aA (AG _ _ _ _ (by show b≠p;omega))⟩
end
theorem vv(p i c:Nat)(A:Option Addr)(T:List Tk)(b:Bool)(s:ByteArray)(w:World)(h:RS w p A c T i b):
 Calls Tryz.prog 223 #[.pointer (some ⟨p,0,none⟩),.string s] w λe w'=>e= .returned (.bool (!b&&isT T s i))/\Below w.heap.size w w':=by
 obtain⟨b',off,hA,hb,hat⟩:=h.tok.cell h.lt;subst hA;have hp:=h.aG.lt;have hn:=h.wf.few;have hlt:=h.lt;have hbl:b'<w.heap.size:=by omega
 unfold isT;generalize tk T i=x at hat⊢;obtain⟨k,t,v,q⟩:=x;obtain⟨c0,c1,c2⟩:=h.aG.c3;have d0:w.cell? ⟨b',off+i*4,none⟩=some (.int .i64 k):=(by have:=hat 0 _ rfl;rwa[AQ]at this);have d1:w.cell? ⟨b',off+i*4+1,none⟩=some (.string t):=(by have:=hat 1 _ rfl;rwa[AQ]at this);have d2:w.cell? ⟨b',off+i*4+2,none⟩=some (.int .i64 v):=(by have:=hat 2 _ rfl;rwa[AQ]at this);have d3:w.cell? ⟨b',off+i*4+3,none⟩=some (.int .i64 q):=(by have:=hat 3 _ rfl;rwa[AQ]at this);have hd:decide (i<T.length)=true:=by simpa using hlt
 clear h hat
 go_enter Tryz.func223,Tryz.ntmps223;go_upto_region 1 with(fail);go_region;obtain⟨W,hW⟩:=nm_ ((w.alloc (.cells #[.int .i64 k,.string t,.int .i64 v,.int .i64 q] 162)).drew);have B1:Below w.heap.size w W:=hW▸((AC _ _).alloc (AB _) _).drew;have q1:Blk W w.heap.size 162 #[.int .i64 k,.string t,.int .i64 v,.int .i64 q]:=hW▸Blk.new w 162 _;have e2:=(a8 B1 hp _).trans c2;obtain⟨g0,g1⟩:=q1.c2;rw[hW];clear hW q1 c0 c1 c2 d0 d1 d2 d3;cases b with
 |true=>
  go_wp2_with fail;go_ret;exact⟨rfl,B1⟩
 |false=>
  by_cases hts:t=s
  ·subst hts;by_cases h4:k=4
   ·subst h4;go_wp2_with fail;go_ret;exact⟨ae (by simp),B1⟩
   ·have h4':=AD.2 h4;by_cases h5:k=5
    ·subst h5;go_wp2_with fail;go_ret;exact⟨ae (by simp),B1⟩
    ·have h5':=AD.2 h5;go_wp2_with fail;go_ret;exact⟨ae (by simp[h4,h5]),B1⟩
  ·have hne:=rj hts;have HT:=H_ hts;clear hts;go_wp2_with fail;go_ret;exact⟨ae (by simp[HT.out]),B1⟩
theorem zW{t:TypeId}{a b c d:Value}(q:Blk w g t #[a,b,c,d])(a' b' c' d':Value):
 Blk ((((w.setCell ⟨g,0,none⟩ a').setCell ⟨g,1,none⟩ b').setCell ⟨g,2,none⟩ c').setCell ⟨g,3,none⟩ d') g t #[a',b',c',d']/\
 Bx w.heap.size g w ((((w.setCell ⟨g,0,none⟩ a').setCell ⟨g,1,none⟩ b').setCell ⟨g,2,none⟩ c').setCell ⟨g,3,none⟩ d'):=
 ⟨q.set4',((((Bx.refl _ _ _).setCell (q:=⟨g,0,none⟩) (.inr rfl) a').setCell (q:=⟨g,1,none⟩) (.inr rfl) b').setCell (q:=⟨g,2,none⟩) (.inr rfl) c').setCell (q:=⟨g,3,none⟩) (.inr rfl) d'⟩
theorem rQ:(Tryz.prog.info? 162).map (·.size)=some 4:=by kernel_rfl
theorem qe{fn:Func}{s:Tmp}{tmps:Array Value}{R:Ending->World->Prop}{v0 v1 v2 v3:Value}(hf:fn.results= #[.cell s 162])(hs:tmps.getD s undef= .pointer (some ⟨g,0,none⟩))(q:Blk W g 162 #[v0,v1,v2,v3])
 (hR:R (.returned (.agg #[v0,v1,v2,v3])) W):bodyPost Tryz.prog fn R .ret {tmps:=tmps,defers:=[]} W:=
 lZ g 162 _ _ hf hs q Tryz.underlying162 rfl rQ hR
def lif{α:Type}(f:Nat->R α)(i:Nat)(b:Bool):R α:=if b=true then .bad i else f i
def Is{α:Type}(r:R α)(y:α)(j:Nat)(b:Bool):Prop:=r=if b=true then .bad j else .ok y j
def ROut{α:Type}(rv:Rv α)(p:Nat)(A:Option Addr)(c:Nat)(T:List Tk)(w:World)(i:Nat)(r:R α)(e:Ending)(w':World):Prop:=
 ∃v y j b,e= .returned v/\rv w' (Fr w w') y v/\RS w' p A c T j b/\Is r y j b/\i<=j/\Bx w.heap.size p w w'
def Aw(p:Nat)(A:Option Addr)(c:Nat)(T:List Tk)(w:World)(i:Nat)(r:R ByteArray)(e:Ending)(w':World):Prop:=
 ∃(k':Int) (t:ByteArray) (v q:Int) (j:Nat) (b':Bool),e= .returned (.agg #[.int .i64 k',.string t,.int .i64 v,.int .i64 q])/\RS w' p A c T j b'/\Is r t j b'/\i<=j/\Bx w.heap.size p w w'
section
variable{p c i:Nat}{A:Option Addr}{T:List Tk}{b:Bool}{w:World}
theorem am(h:RS w p A c T i b)(s:ByteArray)
 (hy:b=false->isT T s i=true->∀w',RS w' p A c T (i+1) false->Bx w.heap.size p w w'->Q (.returned (.bool true)) w')
 (hn:(b=true\/isT T s i=false)->∀w',RS w' p A c T i b->Bx w.heap.size p w w'->Q (.returned (.bool false)) w'):
 Calls Tryz.prog 142 #[.pointer (some ⟨p,0,none⟩),.string s] w Q:=by
 have HN:=H_ (vv p i c A T b s w h);cases ht:(!b&&isT T s i)with
 |true=>
  rw[ht]at HN;simp only[Ba,Bool.not_eq_true']at ht;obtain⟨rfl,ht⟩:=ht;have hi:=h.lt;have hn:=h.wf.few;have HI:=H_ (gE h.wf h.lt ht);have HP:=H_ h;have HY:=H_ (hy rfl ht);clear h ht hy hn;go_enter Tryz.func142,Tryz.ntmps142;go_wp2_with fail;refine HN.out.mono ?_;rintro e w1 ⟨rfl,b1⟩;have P1:=H_ (HP.out.below b1);have B1:=H_ b1;have c1:=P1.out.aG.k1;have f1:=P1.out.aG.frozen 1;have hn:=HP.out.wf.few;clear b1;go_wp2_with fail;have h2:=P1.out.move HI.out;simp only[Ce,Ca]at h2;exact HY.out _ h2 ((Bx.of (p:=p) B1.out).setCell (q:=⟨p,1,none⟩) (.inr rfl) _)
 |false=>
  rw[ht]at HN
  have HY:=H_ (hn (by
   cases b
   ·exact .inr (by simpa using ht)
   ·exact .inl rfl))
  have HP:=H_ h;clear h ht hy hn;go_enter Tryz.func142,Tryz.ntmps142;go_wp2_with fail;refine HN.out.mono ?_;rintro e w1 ⟨rfl,b1⟩;go_wp2_with fail;exact HY.out _ (HP.out.below b1) (Bx.of b1)
theorem zB(h:RS w p A c T i b)(s:ByteArray):
 Calls Tryz.prog 143 #[.pointer (some ⟨p,0,none⟩),.string s] w (λe w'=>e= .returned (.tuple #[])/\∃j b',RS w' p A c T j b'/\Is (lif (ap T s) i b) () j b'/\i<=j/\Bx w.heap.size p w w'):=by
 have HP:=H_ h;clear h;go_enter Tryz.func143,Tryz.ntmps143;go_wp2_with fail;refine am HP.out s (λhb ht w1 P1 b1=>?_) (λhn w1 P1 b1=>?_)
 ·subst hb;have HT:=H_ ht;have HP1:=H_ P1;have B1:=H_ b1;clear ht P1 b1;go_wp2_with fail;go_end0;exact⟨rfl,i+1,false,HP1.out,by unfold Is lif ap;simp[HT.out],by omega,B1.out⟩
 ·have HT:=H_ hn;have HP1:=H_ P1;have B1:=H_ b1;have c2:=P1.aG.k2;have f2:=P1.aG.frozen 2;clear hn P1 b1;go_wp2_with fail;go_end0;refine⟨rfl,i,true,HP1.out.fail,?_,AB _,B1.out.setCell (q:=⟨p,2,none⟩) (.inr rfl) _⟩;unfold Is lif ap;rcases HT.out with h|h
  ·rw[h];rfl
  ·cases b<;>simp[h]
theorem yE(h:RS w p A c T i b)(k:Int)(h0:k≠0):
 Calls Tryz.prog 144 #[.pointer (some ⟨p,0,none⟩),.int .i64 k] w (Aw p A c T w i (lif (aj T k) i b)):=by
 obtain⟨b',off,hA,hb,hat⟩:=h.tok.cell h.lt;have hp:=h.aG.lt;have hn:=h.wf.few;have hlt:=h.lt;have hbl:b'<w.heap.size:=by omega
 have HI:=H_ (h.wf.next h.lt);have HP:=H_ h;have HW:=H_ (show aj T k i=if(tk T i).1=k then .ok (tk T i).2.1 (i+1)else .bad i from rfl);subst hA;generalize tk T i=x at hat HI HW;obtain⟨k',t,v,q⟩:=x;simp only at HI HW;obtain⟨w0,hw0⟩:=nm_ (w.alloc (.cells #[.int .i64 0,.string ⟨#[]⟩,.int .i64 0,.int .i64 0] 162));have Q0:=hnw hw0;have B0:=hba hw0;have d0:w0.cell? ⟨b',off+i*4,none⟩=some (.int .i64 k'):=(a8 B0.out hbl _).trans (by have:=hat 0 _ rfl;rwa[AQ]at this);have d1:w0.cell? ⟨b',off+i*4+1,none⟩=some (.string t):=(a8 B0.out hbl _).trans (by have:=hat 1 _ rfl;rwa[AQ]at this);have d2:w0.cell? ⟨b',off+i*4+2,none⟩=some (.int .i64 v):=(a8 B0.out hbl _).trans (by have:=hat 2 _ rfl;rwa[AQ]at this);have d3:w0.cell? ⟨b',off+i*4+3,none⟩=some (.int .i64 q):=(a8 B0.out hbl _).trans (by have:=hat 3 _ rfl;rwa[AQ]at this);have P0:=HP.out.below B0.out;obtain⟨c0,c1⟩:=P0.aG.c2;have hd:decide (i<T.length)=true:=by simpa using hlt
 have hg0:=Q0.out.lt;have hp0:p<w0.heap.size:=by omega
 have hb0:b'<w0.heap.size:=by omega
 have HP0:=H_ P0;clear h hat P0;go_enter Tryz.func144,Tryz.ntmps144;go_upto_region 1 with(fail);obtain⟨g,hg⟩:=nm_ (w.heap.size);rw[hg]at Q0 hg0⊢;clear hw0;go_region;obtain⟨W,hW⟩:=nm_ ((w0.alloc (.cells #[.int .i64 k',.string t,.int .i64 v,.int .i64 q] 162)).drew);have B1:Below w0.heap.size w0 W:=hW▸((AC _ _).alloc (AB _) _).drew;have q1:Blk W w0.heap.size 162 #[.int .i64 k',.string t,.int .i64 v,.int .i64 q]:=hW▸Blk.new w0 162 _;have P1:=HP0.out.below B1;have Q1:=H_ (Q0.out.below B1 (by omega));have e2:=P1.aG.k2;have e1:=P1.aG.k1;have pf1:=P1.aG.frozen 1;have pf2:=P1.aG.frozen 2;have hpW:=P1.aG.lt;obtain⟨g0,g1,g2,g3⟩:=q1.c4;obtain⟨r0,r1,r2,r3⟩:=Q1.out.c4;obtain⟨s0,s1,s2,s3⟩:=Q1.out.f4;have HB1:=H_ B1;have HP1:=H_ P1;have HQ1:=H_ q1;rw[hW];clear hW q1 c0 c1 d0 d1 d2 d3 Q0 B1 P1;have hgp:p≠g:=by omega
 have hgq:p≠w0.heap.size:=by omega
 have hgr:g≠w0.heap.size:=by omega
 have HB:=H_ (show Bx w.heap.size p w W from Bx.of (B0.out.trans (HB1.out.mono (by omega))));by_cases hbk:b=false/\k'=k
 ·obtain⟨rfl,rfl⟩:=hbk;have hne:(k' !=k')=false:=by simp
  have hi1:=HI.out h0;go_wp2_with fail;have h2:=HP1.out.move hi1;simp only[Ce,Ca]at h2;have hB2:=HB.out.setCell (q:=⟨p,1,none⟩) (.inr rfl) (.int .i64 ((i:Int)+1));have q2:Blk (W.setCell ⟨p,1,none⟩ (.int .i64 ((i:Int)+1))) g 162 _:=(AG _ _ _ _ hgp.symm).trans Q1.out;obtain⟨N1,N2⟩:=zW q2 (.int .i64 k') (.string t) (.int .i64 v) (.int .i64 q);refine qe rfl (by simp) N1 ⟨k',t,v,q,i+1,false,rfl,h2.aA N2 (by omega),?_,by omega,hB2.put N2 (by omega) (AB _)⟩;unfold Is lif;rw[HW.out];simp
 ·have hP2:=HP1.out.fail;have hB2:=HB.out.setCell (q:=⟨p,2,none⟩) (.inr rfl) (.bool true);have q2:Blk (W.setCell ⟨p,2,none⟩ (.bool true)) g 162 _:=(AG _ _ _ _ hgp.symm).trans Q1.out;obtain⟨N1,N2⟩:=zW q2 (.int .i64 0) (.string ⟨#[]⟩) (.int .i64 0) (.int .i64 0)
  have hR:=H_ (show Is (lif (aj T k) i b) (⟨#[]⟩:ByteArray) i true by
   unfold Is lif;rw[HW.out];cases b
   ·have hk:¬k'=k:=λh=>hbk ⟨rfl,h⟩;simp[hk]
   ·rfl)
  have hP3:=hP2.aA N2 (by omega);have hB3:=hB2.put N2 (by omega) (AB _);cases b with
  |true=>
   go_wp2_with fail;exact qe rfl (by simp) N1 ⟨0,⟨#[]⟩,0,0,i,true,rfl,hP3,hR.out,AB _,hB3⟩
  |false=>
   have hne:(k' !=k)=true:=by simpa using λh=>hbk ⟨rfl,h⟩
   go_wp2_with fail;exact qe rfl (by simp) N1 ⟨0,⟨#[]⟩,0,0,i,true,rfl,hP3,hR.out,AB _,hB3⟩
end
def kL:Array Value:= #[.string ⟨#[43]⟩,.string ⟨#[45]⟩,.string ⟨#[42]⟩,.string ⟨#[47]⟩,.string ⟨#[37]⟩,.string ⟨#[61,61]⟩,.string ⟨#[33,61]⟩,.string ⟨#[60]⟩,.string ⟨#[60,61]⟩,.string ⟨#[62]⟩,.string ⟨#[62,61]⟩,.string ⟨#[97,110,100]⟩,.string ⟨#[111,114]⟩]
theorem qE(o:Nat)(ho:o<13):kL[o]?=some (.string (bP o)):=by
 match o,ho with
 |0,_=>rfl
 |1,_=>rfl
 |2,_=>rfl
 |3,_=>rfl
 |4,_=>rfl
 |5,_=>rfl
 |6,_=>rfl
 |7,_=>rfl
 |8,_=>rfl
 |9,_=>rfl
 |10,_=>rfl
 |11,_=>rfl
 |12,_=>rfl
theorem mw(o:Nat)(ho:o<13)(w:World):Calls Tryz.prog 240 #[.int .i64 o] w λe w'=>e= .returned (.string (bP o))/\Below w.heap.size w w':=by
 have hc:=qE o ho;have hz:(o:Int)<13:=by omega
 generalize bP o=s at hc⊢;go_enter Tryz.func240,Tryz.ntmps240;go_upto_region 2 with(fail);obtain⟨w2,hw2⟩:=nm_ (w.alloc (.cells kL 9));have b2:=bal hw2;have q2:w2.cell? ⟨w.heap.size,o,none⟩=some (.string s):=hw2▸((Blk.new w 9 kL).cell o).trans hc;unfold kL at hw2;rw[hw2];clear hw2 hc;go_wp2_with fail;go_ret;exact⟨rfl,b2⟩
def IntsAt(w:World)(g:Nat)(ops:List Nat):Prop:=g<w.heap.size/\ops.length<=13/\∀(j o:Nat),ops[j]?=some o->o<13/\w.cell? ⟨g,j,none⟩=some (.int .i64 o)
theorem IntsAt.bx(h:IntsAt w g ops)(hb:Bx w.heap.size p w w')(hp:g≠p):IntsAt w' g ops:=
 ⟨AF h.1 hb.size,h.2.1,λj o hj=>⟨(h.2.2 j o hj).1,(C8 (w:=w) (a:=⟨g,j,none⟩) (hb.block g h.1 hp)).trans (h.2.2 j o hj).2⟩⟩
theorem IntsAt.below(h:IntsAt w g ops)(hb:Below w.heap.size w w'):IntsAt w' g ops:=
 ⟨AF h.1 hb.size,h.2.1,λj o hj=>⟨(h.2.2 j o hj).1,(a8 hb h.1 _).trans (h.2.2 j o hj).2⟩⟩
theorem oS(p i c g c2:Nat)(A:Option Addr)(T:List Tk)(b:Bool)(ops:List Nat)(w:World)(h:RS w p A c T i b)(ho:IntsAt w g ops)(hr:b=true\/opT T ops i=none):
 Calls Tryz.prog 281 #[.pointer (some ⟨p,0,none⟩),.slice (some ⟨g,0,none⟩) ops.length c2] w λe w'=>e= .returned (.int .i64 (-1))/\Below w.heap.size w w':=by
 have HP:=H_ h;have HO:=H_ ho;have HR:=H_ hr;have hl:=ho.2.1;clear h ho hr;go_enter Tryz.func281,Tryz.ntmps281;go_wp2_with fail;go_loopw [5] (λu wr=>∃k:Nat,k<=ops.length/\u= .int .i64 k/\Hid (Below w.heap.size w wr)) (λu _=>ops.length-(intOf u).toNat)
 case atStart=>exact⟨0,AM _,rfl,H_ (AC _ _)⟩
 case round=>
  obtain⟨k,hk,rfl,HB⟩:=hrel;by_cases hlt:k<ops.length
  ·have hk0:0<=(k:Int):=by omega
   have hk1:(k:Int)<ops.length:=by omega
   have hgo:=AI hlt;have h13:=(HO.out.2.2 k _ hgo).1;have hc:=((HO.out.below HB.out).2.2 k _ hgo).2;have HS:=H_ (λW=>mw ops[k] h13 W);have HI:=H_ (λW hP=>vv p i c A T b (bP ops[k]) W hP)
   have hz:(!b&&isT T (bP ops[k]) i)=false:=by
    rcases HR.out with h|h
    ·rw[h];rfl
    ·rw[jh h hgo];cases b<;>rfl
   rw[hz]at HI;generalize bP ops[k]=s at HS HI;generalize ops[k]=o at hc HS;clear hgo hz h13;go_wp2_with fail;refine(HS.out wr).mono ?_;rintro e w1 ⟨rfl,b1⟩;have B1:=htr HB b1;clear b1 hc HS HB;go_wp2_with fail;refine(HI.out w1 (HP.out.below B1.out)).mono ?_;rintro e w2 ⟨rfl,b2⟩;have B2:=htr B1 b2;clear b2;go_wp2_with fail;go_roundw
   case rel=>exact⟨k+1,by omega,by go_num,B2⟩
   case measure=>simp[intOf];omega
  ·obtain rfl:k=ops.length:=by omega
   go_wp2_with fail;go_ret;exact⟨rfl,HB.out⟩
theorem sV(p i c g c2 o:Nat)(A:Option Addr)(T:List Tk)(ops:List Nat)(w:World)(h:RS w p A c T i false)(ho:IntsAt w g ops)(hr:opT T ops i=some o):
 Calls Tryz.prog 281 #[.pointer (some ⟨p,0,none⟩),.slice (some ⟨g,0,none⟩) ops.length c2] w λe w'=>e= .returned (.int .i64 o)/\Below w.heap.size w w':=by
 obtain⟨m,hm1,hm2,hm3⟩:=fT hr;have HP:=H_ h;have HO:=H_ ho;have HM:=H_ hm3;have hl:=ho.2.1;have hml:=(AH.1 hm1).1;have HM1:=H_ hm1;have HM2:=H_ hm2;clear h ho hr hm1 hm2 hm3;go_enter Tryz.func281,Tryz.ntmps281;go_wp2_with fail;go_loopw [5] (λu wr=>∃k:Nat,k<=m/\u= .int .i64 k/\Hid (Below w.heap.size w wr)) (λu _=>ops.length-(intOf u).toNat)
 case atStart=>exact⟨0,AM _,rfl,H_ (AC _ _)⟩
 case round=>
  obtain⟨k,hk,rfl,HB⟩:=hrel;have hk0:0<=(k:Int):=by omega
  have hk1:(k:Int)<ops.length:=by omega
  have hlt:k<ops.length:=by omega
  have hgo:=AI hlt;have h13:=(HO.out.2.2 k _ hgo).1;have hc:=((HO.out.below HB.out).2.2 k _ hgo).2;have HS:=H_ (λW=>mw ops[k] h13 W);have HI:=H_ (λW hP=>vv p i c A T false (bP ops[k]) W hP);by_cases hkm:k<m
  ·have hz:(!false&&isT T (bP ops[k]) i)=false:=by rw[HM.out k _ hkm hgo];rfl
   rw[hz]at HI;generalize bP ops[k]=s at HS HI;generalize ops[k]=o at hc HS;clear hgo hz h13;go_wp2_with fail;refine(HS.out wr).mono ?_;rintro e w1 ⟨rfl,b1⟩;have B1:=htr HB b1;clear b1 hc HS HB;go_wp2_with fail;refine(HI.out w1 (HP.out.below B1.out)).mono ?_;rintro e w2 ⟨rfl,b2⟩;have B2:=htr B1 b2;clear b2;go_wp2_with fail;go_roundw
   case rel=>exact⟨k+1,by omega,by go_num,B2⟩
   case measure=>simp[intOf];omega
  ·obtain rfl:k=m:=by omega
   have hoo:ops[k]=o:=by have:=HM1.out;rw[hgo]at this;exact Option.some.inj this
   rw[hoo]at HS HI hc;have hz:(!false&&isT T (bP o) i)=true:=by rw[HM2.out];rfl
   rw[hz]at HI;generalize bP o=s at HS HI;clear hgo hz h13 hoo;go_wp2_with fail;refine(HS.out wr).mono ?_;rintro e w1 ⟨rfl,b1⟩;have B1:=htr HB b1;have hgl:=(HO.out.below HB.out).1;have hc1:=(a8 b1 hgl _).trans hc;have hgl1:=AF hgl b1.size;clear b1 hc HS HB;go_wp2_with fail;refine(HI.out w1 (HP.out.below B1.out)).mono ?_;rintro e w2 ⟨rfl,b2⟩;have B2:=htr B1 b2;have hc2:=(a8 b2 hgl1 _).trans hc1;clear b2 hc1;go_wp2_with fail;go_ret;exact⟨rfl,B2.out⟩
theorem sW{i c c2:Nat}{A:Option Addr}{T:List Tk}{b:Bool}(h:RS w p A c T i b)(ho:IntsAt w g ops)
 (hn:(b=true\/opT T ops i=none)->∀w',RS w' p A c T i b->Bx w.heap.size p w w'->Q (.returned (.int .i64 (-1))) w')
 (hy:b=false->∀o,opT T ops i=some o->∀w',RS w' p A c T i false->Bx w.heap.size p w w'->Q (.returned (.int .i64 o)) w'):
 Calls Tryz.prog 281 #[.pointer (some ⟨p,0,none⟩),.slice (some ⟨g,0,none⟩) ops.length c2] w Q:=by
 cases b with
 |true=>exact(oS p i c g c2 A T true ops w h ho (.inl rfl)).mono λe w' ⟨h1,h2⟩=>h1▸hn (.inl rfl) w' (h.below h2) (Bx.of h2)
 |false=>
  cases hr:opT T ops i with
  |none=>exact(oS p i c g c2 A T false ops w h ho (.inr hr)).mono λe w' ⟨h1,h2⟩=>h1▸hn (.inr hr) w' (h.below h2) (Bx.of h2)
  |some o=>exact(sV p i c g c2 o A T ops w h ho hr).mono λe w' ⟨h1,h2⟩=>h1▸hy rfl o hr w' (h.below h2) (Bx.of h2)
theorem iH(kk:Int)(x:Ex)(v1:Value)(w:World)(G:Nat->Prop)(hx:ExV w G x v1)(hG:∀b,G b->b<w.heap.size):
 Calls Tryz.prog 280 #[.int .i64 kk,v1] w λe w'=>(∃v,e= .returned v/\ExV w' (λb=>G b\/Fr w w' b) (eUn kk x) v)/\Below w.heap.size w w':=by
 obtain⟨k1,o1,z1,n1,a1,A1,m1,c1,rfl,hx'⟩:=hx.inv;have HX:=H_ hx';clear hx hx';go_enter Tryz.func280,Tryz.ntmps280;go_upto_region 1 with(fail);obtain⟨w2,hw2⟩:=nm_ ((w.alloc (.cells #[.int .i64 k1,.int .i64 o1,.int .i64 z1,.string n1,.bool a1,.slice A1 m1 c1] 172)).alloc (.cells #[.int .i64 0,.int .i64 0,.int .i64 0,.string ⟨#[]⟩,.bool false,.slice none 0 0] 172));have b2:=H_ (show Below w.heap.size w w2 from hw2▸((AC _ _).alloc (AB _) _).alloc (by simp) _);have q0:=H_ (show Blk w2 w.heap.size 172 _ from hw2▸(Blk.new w 172 #[.int .i64 k1,.int .i64 o1,.int .i64 z1,.string n1,.bool a1,.slice A1 m1 c1]).alloc _);have q1:=H_ (show Blk w2 (w.heap.size+1) 172 #[.int .i64 0,.int .i64 0,.int .i64 0,.string ⟨#[]⟩,.bool false,.slice none 0 0]from hw2▸(by have:=Blk.new (w.alloc (.cells #[.int .i64 k1,.int .i64 o1,.int .i64 z1,.string n1,.bool a1,.slice A1 m1 c1] 172)) 172 #[.int .i64 0,.int .i64 0,.int .i64 0,.string ⟨#[]⟩,.bool false,.slice none 0 0];simp only[AR]at this;exact this));rw[hw2];obtain⟨g0,hg0⟩:∃g,w.heap.size=g:=⟨_,rfl⟩;rw[hg0]at q0 q1 b2⊢;have hz2:=q1.out.lt;obtain⟨⟨e0,e1,e2,e3,e4,e5⟩,_⟩:=q0.out.aC;obtain⟨⟨d0,d1,d2,d3,d4,d5⟩,f0,f1,f2,f3,f4,f5⟩:=q1.out.aC;clear hw2;go_wp2_with fail;obtain⟨N1,N2⟩:=eB q1.out (.int .i64 kk) (.int .i64 0) (.int .i64 0) (.string ⟨#[]⟩) (.bool false) (.slice (some ⟨w2.heap.size,0,none⟩) 1 1);have hs:((((((w2.setCell ⟨g0+1,0,none⟩ (.int .i64 kk)).setCell ⟨g0+1,1,none⟩ (.int .i64 0)).setCell ⟨g0+1,2,none⟩ (.int .i64 0)).setCell ⟨g0+1,3,none⟩ (.string ⟨#[]⟩)).setCell ⟨g0+1,4,none⟩ (.bool false)).setCell ⟨g0+1,5,none⟩ (.slice (some ⟨w2.heap.size,0,none⟩) 1 1)).heap.size=w2.heap.size:=by simp
 have bz:=iy b2.out (g:=g0+1) (by omega) (.int .i64 kk) (.int .i64 0) (.int .i64 0) (.string ⟨#[]⟩) (.bool false) (.slice (some ⟨w2.heap.size,0,none⟩) 1 1);generalize((((((w2.setCell ⟨g0+1,0,none⟩ (.int .i64 kk)).setCell ⟨g0+1,1,none⟩ (.int .i64 0)).setCell ⟨g0+1,2,none⟩ (.int .i64 0)).setCell ⟨g0+1,3,none⟩ (.string ⟨#[]⟩)).setCell ⟨g0+1,4,none⟩ (.bool false)).setCell ⟨g0+1,5,none⟩ (.slice (some ⟨w2.heap.size,0,none⟩) 1 1))=W at N1 N2 hs bz⊢;have hbz:=bz.alloc (by omega) (.cells #[.int .i64 k1,.int .i64 o1,.int .i64 z1,.string n1,.bool a1,.slice A1 m1 c1] 172);have hnew:=Blk.new W 172 #[.int .i64 k1,.int .i64 o1,.int .i64 z1,.string n1,.bool a1,.slice A1 m1 c1];refine eG rfl (by simp) (N1.alloc _) ⟨⟨_,rfl,_,rfl,?_⟩,hg0▸hbz⟩;refine ExC.of kk 0 0 ⟨#[]⟩ false 1 ?_;rw[<-hs];exact dW (K:=kEx) hnew (.inr ⟨by omega,by simp⟩) (ExC.aA (λb hb=>⟨.inl hb,hbz.block b (by have:=hG b hb;omega)⟩) HX.out)
theorem nd(o:Nat)(x y:Ex)(v1 v2:Value)(w:World)(G:Nat->Prop)(hx:ExV w G x v1)(hy:ExV w G y v2)(hG:∀b,G b->b<w.heap.size):
 Calls Tryz.prog 282 #[.int .i64 o,v1,v2] w λe w'=>(∃v,e= .returned v/\ExV w' (λb=>G b\/Fr w w' b) (gK o x y) v)/\Below w.heap.size w w':=by
 obtain⟨k1,o1,z1,n1,a1,A1,m1,c1,rfl,hx'⟩:=hx.inv;obtain⟨k2,o2,z2,n2,a2,A2,m2,c2,rfl,hy'⟩:=hy.inv;have HX:=H_ hx';have HY:=H_ hy';clear hx hy hx' hy';go_enter Tryz.func282,Tryz.ntmps282;go_upto_region 1 with(fail);obtain⟨w2,hw2⟩:=nm_ (((w.alloc (.cells #[.int .i64 k1,.int .i64 o1,.int .i64 z1,.string n1,.bool a1,.slice A1 m1 c1] 172)).alloc (.cells #[.int .i64 k2,.int .i64 o2,.int .i64 z2,.string n2,.bool a2,.slice A2 m2 c2] 172)).alloc (.cells #[.int .i64 0,.int .i64 0,.int .i64 0,.string ⟨#[]⟩,.bool false,.slice none 0 0] 172));have b2:=H_ (show Below w.heap.size w w2 from hw2▸(((AC _ _).alloc (AB _) _).alloc (by simp) _).alloc (by simp;omega) _);have q0:=H_ (show Blk w2 w.heap.size 172 _ from hw2▸((Blk.new w 172 #[.int .i64 k1,.int .i64 o1,.int .i64 z1,.string n1,.bool a1,.slice A1 m1 c1]).alloc _).alloc _);have q1:=H_ (show Blk w2 (w.heap.size+1) 172 #[.int .i64 k2,.int .i64 o2,.int .i64 z2,.string n2,.bool a2,.slice A2 m2 c2]from hw2▸(by have:=Blk.new (w.alloc (.cells #[.int .i64 k1,.int .i64 o1,.int .i64 z1,.string n1,.bool a1,.slice A1 m1 c1] 172)) 172 #[.int .i64 k2,.int .i64 o2,.int .i64 z2,.string n2,.bool a2,.slice A2 m2 c2];simp only[AR]at this;exact this.alloc _));have q2:=H_ (show Blk w2 (w.heap.size+1+1) 172 #[.int .i64 0,.int .i64 0,.int .i64 0,.string ⟨#[]⟩,.bool false,.slice none 0 0]from hw2▸(by have:=Blk.new ((w.alloc (.cells #[.int .i64 k1,.int .i64 o1,.int .i64 z1,.string n1,.bool a1,.slice A1 m1 c1] 172)).alloc (.cells #[.int .i64 k2,.int .i64 o2,.int .i64 z2,.string n2,.bool a2,.slice A2 m2 c2] 172)) 172 #[.int .i64 0,.int .i64 0,.int .i64 0,.string ⟨#[]⟩,.bool false,.slice none 0 0];simp only[AR]at this;exact this));rw[hw2];have hz2:=q2.out.lt;obtain⟨g0,hg0⟩:∃g,w.heap.size=g:=⟨_,rfl⟩;rw[hg0]at q0 q1 q2 hz2 b2⊢;obtain⟨q0c0,q0c1,q0c2,q0c3,q0c4,q0c5⟩:=q0.out.c6;obtain⟨q1c0,q1c1,q1c2,q1c3,q1c4,q1c5⟩:=q1.out.c6;have q2c0:=q2.out.k0;have q2f0:=q2.out.frozen 0;have q2c1:=q2.out.k1;have q2f1:=q2.out.frozen 1;have q2c2:=q2.out.k2;have q2f2:=q2.out.frozen 2;have q2c3:=q2.out.k3;have q2f3:=q2.out.frozen 3;have q2c4:=q2.out.k4;have q2f4:=q2.out.frozen 4;have q2c5:=q2.out.k5;have q2f5:=q2.out.frozen 5;clear hw2;go_wp2_with fail;subst hg0;have qz:=q2.out.set6 (a':= .int .i64 10) (b':= .int .i64 o) (c':= .int .i64 0) (d':= .string ⟨#[]⟩) (e':= .bool false) (f':= .slice (some ⟨w2.heap.size,0,none⟩) 2 2);have bz:=iy b2.out (g:=w.heap.size+1+1) (by omega) (.int .i64 10) (.int .i64 o) (.int .i64 0) (.string ⟨#[]⟩) (.bool false) (.slice (some ⟨w2.heap.size,0,none⟩) 2 2);have hs:((((((w2.setCell ⟨w.heap.size+1+1,0,none⟩ (.int .i64 10)).setCell ⟨w.heap.size+1+1,1,none⟩ (.int .i64 o)).setCell ⟨w.heap.size+1+1,2,none⟩ (.int .i64 0)).setCell ⟨w.heap.size+1+1,3,none⟩ (.string ⟨#[]⟩)).setCell ⟨w.heap.size+1+1,4,none⟩ (.bool false)).setCell ⟨w.heap.size+1+1,5,none⟩ (.slice (some ⟨w2.heap.size,0,none⟩) 2 2)).heap.size=w2.heap.size:=by simp
 generalize((((((w2.setCell ⟨w.heap.size+1+1,0,none⟩ (.int .i64 10)).setCell ⟨w.heap.size+1+1,1,none⟩ (.int .i64 o)).setCell ⟨w.heap.size+1+1,2,none⟩ (.int .i64 0)).setCell ⟨w.heap.size+1+1,3,none⟩ (.string ⟨#[]⟩)).setCell ⟨w.heap.size+1+1,4,none⟩ (.bool false)).setCell ⟨w.heap.size+1+1,5,none⟩ (.slice (some ⟨w2.heap.size,0,none⟩) 2 2))=W at qz bz hs⊢;have hbz:=bz.alloc (by omega) (.cells ([.int .i64 k1,.int .i64 o1,.int .i64 z1,.string n1,.bool a1,.slice A1 m1 c1]++[.int .i64 k2,.int .i64 o2,.int .i64 z2,.string n2,.bool a2,.slice A2 m2 c2]:List Value).toArray 172);have hnew:=Blk.new W 172 ([.int .i64 k1,.int .i64 o1,.int .i64 z1,.string n1,.bool a1,.slice A1 m1 c1]++[.int .i64 k2,.int .i64 o2,.int .i64 z2,.string n2,.bool a2,.slice A2 m2 c2]:List Value).toArray;refine lZ (w.heap.size+1+1) 172 _ _ rfl (by simp) (qz.alloc _) Tryz.underlying172 rfl (by kernel_rfl) ⟨⟨_,rfl,_,rfl,?_⟩,hbz⟩;refine ExC.of 10 o 0 ⟨#[]⟩ false 2 ?_;rw[<-hs];exact l6 (K:=kEx) hnew (.inr ⟨by omega,by simp⟩) (ExC.aA (λb hb=>⟨.inl hb,hbz.block b (hG b hb)⟩) HX.out) (ExC.aA (λb hb=>⟨.inl hb,hbz.block b (hG b hb)⟩) HY.out)
end
end Go.Proofs.YtjpbckbpeblibaaGreatDoor
