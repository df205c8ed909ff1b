/- part of a proof -/
import Derived.Test.YtjpbckbpeblibaaGreatDoorK20
import Derived.Test.YtjpbckbpeblibaaGreatDoorK22
import Derived.ProofKit
import Derived.OpenShut
import Derived.ChangeOld
import Derived.ChangeSame
import Derived.Lay
import Derived.MakeChecks
import Derived.HandedShaped
import Derived.Shelf.Vars
import Derived.Lib.LaidU8
namespace Go.Proofs.YtjpbckbpeblibaaGreatDoor
set_option linter.unusedVariables false
set_option linter.unusedSimpArgs false
set_option maxRecDepth 100000
set_option maxHeartbeats 64000000
section
open Go.RowKit
variable{A A2:Option Addr}{W w w':World}{n2:Nat}{u0 u1 u2 u3 u4:Value}{x:Sc}
theorem Eg(x:Sc)(A:Option Addr)(n c:Nat)(A2:Option Addr)(n2 c2:Nat)(w:World)(G:Nat->Prop)(hs:Sl eM w G x.cs A n)(hs2:Sl kAd w G x.ac A2 n2)(hG:∀b,G b->b<w.heap.size)(hbig:n2<=9007199254740992):
 Calls Tryz.prog 12 #[.agg #[.int .i64 x.m,.int .u64 x.sd,.int .i64 x.y,.slice A n c,.slice A2 n2 c2]] w (FewP (fO x=true->lsz csz x.cs<=200/\x.ac.length<=200) w):=by
 obtain⟨g,hz⟩:=nm_ (w.heap.size);obtain⟨W0,hW0⟩:=nm_ (w.alloc (.cells #[.int .i64 x.m,.int .u64 x.sd,.int .i64 x.y,.slice A n c,.slice A2 n2 c2] 35));have HQ:=hng hW0 hz;have HB0:=hba hW0;have hs0:W0.heap.size=g+1:=by rw[<-hW0,Fc,hz]
 have HBZ:Hid (Below g w W0):=H_ (hz▸HB0.out);have HS:=H_ (hs.aA (G':=G) (w':=W0) (λb hb=>⟨hb,HB0.out.block b (hG b hb)⟩));have HS2:=H_ (hs2.aA (G':=G) (w':=W0) (λb hb=>⟨hb,HB0.out.block b (hG b hb)⟩));have HG:=H_ (show∀b,G b->b<W0.heap.size from λb hb=>by have:=hG b hb;omega);have hln:x.ac.length=n2:=hs2.1;have HW:=H_ hW0;have hvs:fO x=true->x.ac.all aS=true:=λh=>(Fw.1 h).1;have HVS:=H_ hvs;generalize fO x=vs at*
 obtain⟨m,hm⟩:=nm_ (x.m);obtain⟨sd,hsd⟩:∃m,x.sd=m:=⟨_,rfl⟩;obtain⟨y,hy⟩:∃m,x.y=m:=⟨_,rfl⟩;rw[hm,hsd,hy]at HQ HW⊢;obtain⟨q0,q1,q2,q3,q4⟩:=HQ.out.c5;clear hs hs2 hG hW0 HB0 hvs hm hsd hy;go_enter Tryz.func12,Tryz.ntmps12;go_upto_region 1 with fail;rw[HW.out];go_wp2_with fail;go_loopw [3,9] (λs i wr=>∃(k:Nat) (z:Int),k<=n2/\i= .int .i64 k/\s= .int .i64 z/\((x.ac.take k).all aS=true->(k:Int)<=z/\z<=60*(k:Int))/\Hid (Below W0.heap.size W0 wr)) (λ_ i _=>n2-(intOf i).toNat)
 case atStart=>exact⟨0,0,Fl _,rfl,rfl,λ_=>by omega,H_ (Fb _ _)⟩
 case round=>
  obtain⟨k,z,hk,rfl,rfl,hzz,HB⟩:=hrel;have hsr:=HB.out.size;obtain⟨q0,q1,q2,q3,q4⟩:=(HQ.out.below HB.out (by omega)).c5;by_cases hkm:k<n2
  ·have hkz:(k:Int)<(n2:Int):=by omega
   have hS2:=HS2.out.aA (G':=G) (w':=wr) (λb hb'=>⟨hb',HB.out.block b (HG.out b hb')⟩);obtain⟨b,off,d,cs,rfl,hgb,hx,hrd,hat⟩:=hS2.at_ hkm;obtain⟨v,rfl,hrv,hvn,hvn2,hvl,hvl2⟩:=kx hrd (λq hq=>by have:=HG.out q hq;omega);obtain⟨d0,d1,d2,d3,d4,d5,d6⟩:=At.e7 hat
   have htk:=bH (p:=aS) hx;have hnm:v.nm=d.nm:=hrv.nm;have hmt:v.mt=d.mt:=hrv.mt;obtain⟨p,hp⟩:=nm_ (wr.heap.size);obtain⟨w3,hw3⟩:=nm_ (wr.alloc (.cells v.cells 48));have HA:=hng hw3 hp;have hs3:w3.heap.size=p+1:=by rw[<-hw3,Fc,hp]
   have HB3:=H_ (HB.out.trans ((bal hw3).mono (by omega)));obtain⟨x0,x1,x2,x3,x4,x5,x6⟩:=HA.out.v7;have HW3:=H_ hw3;by_cases hall:(x.ac.take (k+1)).all aS=true
   ·have hall':=hall;rw[htk,Fw]at hall';obtain⟨hz1,hz2⟩:=hzz hall'.1;obtain⟨_,w1,w2',w3',w4'⟩:=gJ hall'.2;have e1:v.nm.size<=31:=by rw[hnm];exact w1
    have e2:v.mt.size<=31:=by rw[hmt];exact w2'
    have e3:v.n<=30:=by omega
    have e4:v.n2<=20:=by omega
    clear hx hat hS2 hrd hrv hgb hw3 HB htk hnm hmt hall hall' hzz w1 w2' w3' w4' hvl hvl2 hvn hvn2;unfold Av.cells at*
    go_upto_region 5 with fail;rw[HW3.out];go_wp2_with fail;go_roundw
    case rel=>exact⟨k+1,_,by omega,by go_num,rfl,λ_=>by omega,HB3⟩
    case measure=>simp[intOf];omega
   ·clear hx hat hS2 hrd hrv hgb hw3 HB htk hnm hmt hzz hvl hvl2;unfold Av.cells at*
    go_upto_region 5 with fail;rw[HW3.out];go_wp2_with fail;go_roundw
    case rel=>exact⟨k+1,_,by omega,by go_num,rfl,λh=>absurd h hall,HB3⟩
    case measure=>simp[intOf];omega
  ·obtain rfl:k=n2:=by omega
   rw[Fd (by omega)]at hzz;have HZZ:=H_ hzz;have HC:=H_ (Ef x.cs A n c wr G 200 (HS.out.aA λb hb=>⟨hb,HB.out.block b (HG.out b hb)⟩) (λb hb=>by have:=HG.out b hb;omega) (by omega) (by omega));clear hzz;by_cases h200:z<=200
   ·go_wp2_with fail;refine HC.out.mono ?_;rintro r w4 ⟨b,rfl,hb,b4⟩;have HE:=H_ (HBZ.out.trans ((HB.out.trans (b4.mono (by omega))).mono (by omega)));have HFB:=H_ hb;clear b4 hb HC HB;go_wp2_with fail
    all_goals
     go_ret;refine FewP.mk b (by first|rfl|simp[*]) (λh1 h2=>?_) (hz▸HE.out);have h3:=HZZ.out (HVS.out h2);have h4:=HFB.out h1;omega
   ·have HE:=H_ (HBZ.out.trans (HB.out.mono (by omega)));go_wp2_with fail;go_ret;exact FewP.mk false rfl (λh=>absurd h (by simp)) (hz▸HE.out)
theorem Du{r:Nat}{t:TypeId}(h:Blk W r t #[u0,u1,u2,u3,u4])(a b c d e:Value):Blk (((((W.setCell ⟨r,0,none⟩ a).setCell ⟨r,1,none⟩ b).setCell ⟨r,2,none⟩ c).setCell ⟨r,3,none⟩ d).setCell ⟨r,4,none⟩ e) r t #[a,b,c,d,e]:=by
 have g:=((((h.set 0 a).set 1 b).set 2 c).set 3 d).set 4 e;simp only[Gg,GK,GJ]at g;exact g
theorem tP{S r:Nat}(h:Below S w W)(hr:S<=r)(a b c d e:Value):Below S w (((((W.setCell ⟨r,0,none⟩ a).setCell ⟨r,1,none⟩ b).setCell ⟨r,2,none⟩ c).setCell ⟨r,3,none⟩ d).setCell ⟨r,4,none⟩ e):=
 ((((h.setCell (p:=⟨r,0,none⟩) hr a).setCell (p:=⟨r,1,none⟩) hr b).setCell (p:=⟨r,2,none⟩) hr c).setCell (p:=⟨r,3,none⟩) hr d).setCell (p:=⟨r,4,none⟩) hr e
theorem Blk.zfac5{b:Nat}{t:TypeId}(h:Blk w b t #[u0,u1,u2,u3,u4]):(w.cell? ⟨b,0,none⟩=some u0/\w.cell? ⟨b,1,none⟩=some u1/\w.cell? ⟨b,2,none⟩=some u2/\w.cell? ⟨b,3,none⟩=some u3/\w.cell? ⟨b,4,none⟩=some u4)/\
 w.frozen? ⟨b,0,none⟩=false/\w.frozen? ⟨b,1,none⟩=false/\w.frozen? ⟨b,2,none⟩=false/\w.frozen? ⟨b,3,none⟩=false/\w.frozen? ⟨b,4,none⟩=false:=
 ⟨⟨h.cell 0,h.cell 1,h.cell 2,h.cell 3,h.cell 4⟩,h.frozen 0,h.frozen 1,h.frozen 2,h.frozen 3,h.frozen 4⟩
theorem results11(tmps:Array Value)(W:World)(r:Nat)(v0 v1 v2 v3 v4:Value)(hr:Blk W r 35 #[v0,v1,v2,v3,v4])(h2:tmps.getD 2 undef= .pointer (some ⟨r,0,none⟩)):
 (results Tryz.f11 tmps).run Tryz.prog W= .ok (.agg #[v0,v1,v2,v3,v4]) W:=by
 obtain⟨⟨g0,g1,g2,g3,g4⟩,_⟩:=hr.zfac5;have e2:tmps[2]?.getD undef= .pointer (some ⟨r,0,none⟩):=by simpa using h2
 simp[results,Tryz.results11,go_sem,e2,asAddr,g0,g1,g2,g3,g4]
theorem results14(tmps:Array Value)(W:World)(r:Nat)(v0 v1 v2 v3 v4:Value)(hr:Blk W r 31 #[v0,v1,v2,v3,v4])(h2:tmps.getD 2 undef= .pointer (some ⟨r,0,none⟩)):
 (results Tryz.f14 tmps).run Tryz.prog W= .ok (.agg #[v0,v1,v2,v3,v4]) W:=by
 obtain⟨⟨g0,g1,g2,g3,g4⟩,_⟩:=hr.zfac5;have e2:tmps[2]?.getD undef= .pointer (some ⟨r,0,none⟩):=by simpa using h2
 simp[results,Tryz.results14,go_sem,e2,asAddr,g0,g1,g2,g3,g4]
theorem AH(m sd y:Int)(A:Option Addr)(n c:Nat)(A2:Option Addr)(n2 c2:Nat)(w:World):
 Calls Tryz.prog 11 #[.agg #[.int .i64 m,.int .u64 sd,.int .i64 y,.slice A n c,.slice A2 n2 c2]] w λe w'=>e= .returned (.agg #[.int .i64 m,.int .u64 sd,.int .i64 y,.slice A n c,.slice A2 n2 c2])/\Below w.heap.size w w':=by
 obtain⟨p,hp⟩:=nm_ (w.heap.size);obtain⟨w0,hw0⟩:=nm_ (w.alloc (.cells #[.int .i64 m,.int .u64 sd,.int .i64 y,.slice A n c,.slice A2 n2 c2] 31));obtain⟨w1,hw1⟩:=nm_ (w0.alloc (.cells #[.int .i64 0,.int .u64 0,.int .i64 0,.slice none 0 0,.slice none 0 0] 35));have hz0:w0.heap.size=p+1:=by rw[<-hw0,<-hp];simp
 have b0:Below p w w0:=hw0▸(Fb _ _).alloc (by omega) _;have b1:=bal hw1;have p0:Blk w1 p 31 #[.int .i64 m,.int .u64 sd,.int .i64 y,.slice A n c,.slice A2 n2 c2]:=(b1.block _ (by omega)).trans (hw0▸hp▸Blk.new w 31 _);have p1:Blk w1 (p+1) 35 #[.int .i64 0,.int .u64 0,.int .i64 0,.slice none 0 0,.slice none 0 0]:=hw1▸hz0▸Blk.new w0 35 _;have HB:=H_ (b0.trans (b1.mono (by omega)));have HP:=H_ p1;have HW:=H_ (And.intro hw0 hw1);obtain⟨⟨q0,q1,q2,q3,q4⟩,_⟩:=p0.zfac5;obtain⟨⟨r0,r1,r2,r3,r4⟩,f0,f1,f2,f3,f4⟩:=p1.zfac5;clear b0 b1 p0 p1 hw0 hw1;go_enter Tryz.func11,Tryz.ntmps11;go_upto_region 1 with fail;rw[HW.out.1,HW.out.2];go_wp2_with fail;exact FB (results11 _ _ (p+1) _ _ _ _ _ (Du HP.out _ _ _ _ _) rfl) rfl ⟨rfl,hp▸tP HB.out (by omega) _ _ _ _ _⟩
theorem Cn(m sd y:Int)(A:Option Addr)(n c:Nat)(A2:Option Addr)(n2 c2:Nat)(w:World):
 Calls Tryz.prog 14 #[.agg #[.int .i64 m,.int .u64 sd,.int .i64 y,.slice A n c,.slice A2 n2 c2]] w λe w'=>e= .returned (.agg #[.int .i64 m,.int .u64 sd,.int .i64 y,.slice A n c,.slice A2 n2 c2])/\Below w.heap.size w w':=by
 obtain⟨p,hp⟩:=nm_ (w.heap.size);obtain⟨w0,hw0⟩:=nm_ (w.alloc (.cells #[.int .i64 m,.int .u64 sd,.int .i64 y,.slice A n c,.slice A2 n2 c2] 35));obtain⟨w1,hw1⟩:=nm_ (w0.alloc (.cells #[.int .i64 0,.int .u64 0,.int .i64 0,.slice none 0 0,.slice none 0 0] 31));have hz0:w0.heap.size=p+1:=by rw[<-hw0,<-hp];simp
 have b0:Below p w w0:=hw0▸(Fb _ _).alloc (by omega) _;have b1:=bal hw1;have p0:Blk w1 p 35 #[.int .i64 m,.int .u64 sd,.int .i64 y,.slice A n c,.slice A2 n2 c2]:=(b1.block _ (by omega)).trans (hw0▸hp▸Blk.new w 35 _);have p1:Blk w1 (p+1) 31 #[.int .i64 0,.int .u64 0,.int .i64 0,.slice none 0 0,.slice none 0 0]:=hw1▸hz0▸Blk.new w0 31 _;have HB:=H_ (b0.trans (b1.mono (by omega)));have HP:=H_ p1;have HW:=H_ (And.intro hw0 hw1);obtain⟨⟨q0,q1,q2,q3,q4⟩,_⟩:=p0.zfac5;obtain⟨⟨r0,r1,r2,r3,r4⟩,f0,f1,f2,f3,f4⟩:=p1.zfac5;clear b0 b1 p0 p1 hw0 hw1;go_enter Tryz.func14,Tryz.ntmps14;go_upto_region 1 with fail;rw[HW.out.1,HW.out.2];go_wp2_with fail;exact FB (results14 _ _ (p+1) _ _ _ _ _ (Du HP.out _ _ _ _ _) rfl) rfl ⟨rfl,hp▸tP HB.out (by omega) _ _ _ _ _⟩
theorem rM:bm ⟨#[116,117,114,110,32,48,32,49]⟩=[⟨#[116,117,114,110]⟩,⟨#[48]⟩,⟨#[49]⟩]:=by
 refine fL ?_;rw[fg];decide+kernel
theorem rN:bm ⟨#[116,105,99,107,32,32,49]⟩=[⟨#[116,105,99,107]⟩,⟨#[]⟩,⟨#[49]⟩]:=by
 refine fL ?_;rw[fg];decide+kernel
theorem sN:cN (bm ⟨#[116,117,114,110,32,48,32,49]⟩)=none:=by
 rw[rM];unfold cN;dsimp only;rw[show gG ⟨#[116,117,114,110]⟩=some ⟨0,⟨#[116,117,114,110]⟩,[.numA 1 8,.numB 0 1099511627776]⟩from fb (q:=0) (by decide) rfl];dsimp only;have h0:dD ⟨#[48]⟩=0:=by decide+kernel
 simp only[fF,dT,d9,h0]
 have hn:∀b,okD ⟨0,0,b,⟨#[]⟩,⟨#[]⟩,[],[]⟩=false:=λb=>by
  rw[eW];simp[aS,cK,bG]
 cases h1:ck ⟨#[48]⟩<;>cases h2:ck ⟨#[49]⟩<;>simp[h1,h2,hn]
theorem sO:cN (bm ⟨#[116,105,99,107,32,32,49]⟩)=none:=by
 rw[rN];unfold cN;dsimp only;rw[show gG ⟨#[116,105,99,107]⟩=some ⟨4,⟨#[116,105,99,107]⟩,[.numA 1 8]⟩from fb (q:=4) (by decide) rfl];rfl
def dEx:Ad:=⟨11,2,0,⟨#[97]⟩,⟨#[82,105,110,103]⟩,[3,-1],[]⟩
theorem Dy:WfA dEx:=by
 refine⟨?_,?_,λz hz=>?_,λz hz=>?_⟩
 ·unfold I64 dEx;decide
 ·unfold I64 dEx;decide
 ·simp only[dEx,Fp,Fm,FX]at hz;unfold I64;omega
 ·simp[dEx]at hz
theorem Dc:et dEx=[115,112,97,119,110,32,50,32,97,32,82,105,110,103,32,51,32,45,49]:=by
 have h1:Lib.itoa 2=[50]:=by unfold Lib.itoa;rw[Fg (by decide)];exact cq (by decide)
 have h2:Lib.itoa 3=[51]:=by unfold Lib.itoa;rw[Fg (by decide)];exact cq (by decide)
 have h3:Lib.itoa (-1)=[45,49]:=by unfold Lib.itoa;rw[Ft (by decide)];exact GD (45:: ·) (cq (by decide))
 have hv:aS dEx=true:=by
  unfold aS cK dEx dx iA ij aR inB;simp only[FR];decide+kernel
 unfold et;rw[Ft hv];unfold dEx ir jp ip;simp only[Ga,Hm,h1,h2,h3];rfl
theorem tK(w:World)(hg:Gl w):Calls Tryz.prog 7 #[] w λe w'=>e= .returned (.bool true)/\Below w.heap.size w w':=by
 have HG:=H_ hg;have h1:=lc ⟨#[116,117,114,110,32,48,32,49]⟩ w hg (by decide);unfold ParsePost at h1;simp only[sN]at h1;have H1:=H_ h1;clear h1 hg;go_enter Tryz.func7,Tryz.ntmps7;go_wp2_with fail;refine H1.out.mono ?_;rintro e w1 ⟨v1,a1,rfl,_,hr1,_,_,_,b1⟩;have B1:=H_ b1;clear hr1 b1;unfold Av.cells;go_upto_region 2 with fail;obtain⟨w2,hw2⟩:=nm_ (w1.alloc (.cells #[.int .i64 v1.k,.int .i64 v1.a,.int .i64 v1.b,.string v1.nm,.string v1.mt,.slice v1.A v1.n v1.c,.slice v1.A2 v1.n2 v1.c2] 48));have B2:=H_ (hw2▸B1.out.alloc B1.out.size _:Below w.heap.size w w2);rw[hw2];clear hw2;have h2:=lc ⟨#[116,105,99,107,32,32,49]⟩ w2 (HG.out.below B2.out) (by decide);unfold ParsePost at h2;simp only[sO]at h2;have H2:=H_ h2;clear h2;go_wp2_with fail;refine H2.out.mono ?_;rintro e w3 ⟨v2,a2,rfl,_,hr2,_,_,_,b3⟩;have B3:=htr B2 b3;clear hr2 b3;unfold Av.cells;go_upto_region 3 with fail;obtain⟨w4,hw4⟩:=nm_ (w3.alloc (.cells #[.int .i64 v2.k,.int .i64 v2.a,.int .i64 v2.b,.string v2.nm,.string v2.mt,.slice v2.A v2.n v2.c,.slice v2.A2 v2.n2 v2.c2] 48));have B4:=H_ (hw4▸B3.out.alloc B3.out.size _:Below w.heap.size w w4);rw[hw4];clear hw4;have b5:=B4.out.alloc B4.out.size (.cells #[.int .i64 3,.int .i64 (-1)] 2);have hq5:=Blk.new w4 2 #[.int .i64 3,.int .i64 (-1)]
 have hr:Reads (w4.alloc (.cells #[.int .i64 3,.int .i64 (-1)] 2)) (w4.alloc (.cells #[.int .i64 3,.int .i64 (-1)] 2)).heap.size ⟨11,2,0,⟨#[97]⟩,⟨#[82,105,110,103]⟩,some ⟨w4.heap.size,0,none⟩,2,2,none,0,0⟩ dEx:=
  ⟨rfl,rfl,rfl,rfl,rfl,⟨rfl,λ_=>⟨w4.heap.size,0,rfl,by simp,λj v hv=>by rw[Gq,hq5.cell];simpa[dEx]using hv⟩⟩,Ints.none _ _⟩
 have hf:=uE _ dEx _ hr (HG.out.below b5) (by show 2<=1000;decide) (by show 0<=1000;decide) (by show 1<=1000;decide) (by show 4<=1000;decide) Dy;rw[Dc]at hf;unfold Av.cells at hf;have HF:=H_ hf;have B5:=H_ b5;clear b5 hq5 hr hf;go_wp2_with fail;refine HF.out.mono ?_;rintro e w6 ⟨rfl,b6⟩;have B6:=htr B5 b6;clear b6;go_wp2_with fail;go_ret;exact⟨rfl,B6.out⟩
theorem lN(b:UInt8):∀(k:Nat) (s:List UInt8),∃x r,Lib.splitK [b] 0 k s=x::r/\x++bU b r=s
 |0,s=>⟨s,[],rfl,by simp[bU]⟩
 |k+1,s=>by
  rw[Lib.splitK];by_cases hi:Lib.index s [b]= -1
  ·rw[Ft (by simpa using hi)];exact⟨s,[],rfl,by simp[bU]⟩
  ·rw[Fg (by simpa using hi)];obtain⟨x,r,h1,h2⟩:=lN b k (s.drop ((Lib.index s [b]).toNat+[b].length));refine⟨_,_,rfl,?_⟩;rw[h1];rw[Lib.index_one]at hi h2⊢;have hge:=Lib.indexByte_ge s b;obtain⟨j,hj⟩:∃j:Nat,Lib.indexByte s b=(j:Int):=⟨(Lib.indexByte s b).toNat,by omega⟩;obtain⟨h3,_⟩:=Lib.indexByte_some hj;rw[hj]at h2⊢;simp only[Gu,EZ,F1,Gq,FM]at h2⊢;obtain⟨h4,h5⟩:=Ff.1 h3
   have hs:bU b (x::r)=b::s.drop (j+1):=by
    rw[<-h2];simp[bU]
   rw[hs,<-h5,<-GQ h4,Gn]
theorem lq(l:ByteArray)(ls:List ByteArray):(glu (l::ls)).length=l.size+1+(glu ls).length:=by
 have h:l.data.toList.length=l.size:=rfl;simp only[glu,FS,EY,GT];omega
theorem nz:∀(ls:List ByteArray) (x:List UInt8) (r:List (List UInt8)),bQ ls=x::r->(glu ls).length=(x++bU 10 r).length+1
 |[],x,r,h=>by cases h
 |[l],x,r,h=>by
  simp only[bQ,Ga,Hm,List.cons.injEq]at h;obtain⟨rfl,rfl⟩:=h;rw[lq];have h2:l.data.toList.length=l.size:=rfl;simp[glu,bU,h2]
 |l::m::ls,x,r,h=>by
  have h0:bQ (m::ls)=m.data.toList::bQ ls:=rfl;have ih:=nz (m::ls) _ _ h0;simp only[bQ,Ga,List.cons.injEq]at h;obtain⟨rfl,rfl⟩:=h;have h2:l.data.toList.length=l.size:=rfl;rw[lq,ih];simp only[bQ,bU,FS,EY,EZ];omega
theorem yO(s:ByteArray):(glu (ii 10 s)).length=s.size+1:=by
 obtain⟨x,r,h1,h2⟩:=lN 10 (Lib.countB s ⟨#[10]⟩) s.data.toList;rw[nz _ x r ((jN 10 s).trans h1),h2];rfl
theorem rn:∀ls:List ByteArray,(∀l∈ls,l.size<(glu ls).length)/\ls.length<=(glu ls).length
 |[]=>⟨λl h=>(by cases h),Fl _⟩
 |l::ls=>by
  obtain⟨h1,h2⟩:=rn ls;have h3:=lq l ls;refine⟨λx hx=>?_,by rw[EZ];omega⟩;rcases Fp.1 hx with rfl|hx
  ·omega
  ·have:=h1 x hx;omega
theorem vU(ls:List ByteArray):(glu (nR ls)).length<=(glu ls).length:=by
 unfold nR;split
 ·have h:glu ls=glu ls.dropLast++glu (ls.drop (ls.length-1)):=by
   unfold glu;rw[List.dropLast_eq_take,<-Gk,Gn]
  rw[h,EY];omega
 ·exact F0 _
theorem t8{s:ByteArray}(h:s.size<=39000):(glu (an s)).length<=100000/\(∀l∈an s,l.size<=40000)/\(an s).length<40000:=by
 have h1:=vU (ii 10 s);rw[yO]at h1;have h2:(glu (an s)).length<=s.size+1:=h1;obtain⟨h3,h4⟩:=rn (an s);exact⟨by omega,λl hl=>by have:=h3 l hl;omega,by omega⟩
structure Came(w:World)(x:Sc)(A:Option Addr)(n:Nat)(A2:Option Addr)(n2:Nat):Prop where
 cs:Sl eM w (λb=>b<w.heap.size) x.cs A n
 ac:Sl kAd w (λb=>b<w.heap.size) x.ac A2 n2
 cap:Cap w w.heap.size
 gf:GlF w
 s0:0<=x.sd
 s1:x.sd<=18446744073709551615
 few:n2<=9007199254740992
theorem rO(h:fO x=true):∀d∈x.ac,d.args.length<=1000000/\d.surv.length<=1000000:=λd hd=>by
 obtain⟨_,_,_,h3,h4⟩:=gJ (Fu.1 (Fw.1 h).1 d hd);omega
theorem SV.below{v:Value}(h:SV w (AllB w) x v)(hb:Below w.heap.size w w'):SV w' (AllB w') x v:=by
 obtain⟨A,n,c,A2,n2,c2,rfl,h1,h2⟩:=h;exact⟨A,n,c,A2,n2,c2,rfl,h1.aA (AllB.aA hb),h2.aA (AllB.aA hb)⟩
theorem Came.sv{n:Nat}(h:Came w x A n A2 n2)(c c2:Nat)(hb:Below w.heap.size w w'):SV w' (AllB w') x (.agg #[.int .i64 x.m,.int .u64 x.sd,.int .i64 x.y,.slice A n c,.slice A2 n2 c2]):=
 ⟨A,n,c,A2,n2,c2,rfl,(h.cs.aA λb hk=>⟨Fj hk hb.size,hb.block b hk⟩).cls,h.ac.aA λb hk=>⟨Fj hk hb.size,hb.block b hk⟩⟩
theorem rG{n:Nat}(h:Came w x A n A2 n2)(c c2:Nat)(hb:Below w.heap.size w w')(hg:Gl w)(hz:fO x=true->lsz csz x.cs<=900/\x.ac.length<=1000):
 Calls Tryz.prog 13 #[.agg #[.int .i64 x.m,.int .u64 x.sd,.int .i64 x.y,.slice A n c,.slice A2 n2 c2]] w' λe w''=>e= .returned (.string (ba (fmT x)))/\Below w'.heap.size w' w'':=
 yS x A n c A2 n2 c2 w' w.heap.size (h.cs.aA λb hk=>⟨hk,hb.block b hk⟩) (h.ac.aA λb hk=>⟨hk,hb.block b hk⟩) hb.size (hg.below hb) (h.gf.below hb hg.big) (h.cap.aA λb hk=>hb.block b hk) h.s0 h.s1 hz
theorem zw{n:Nat}(h:Came w x A n A2 n2)(c c2:Nat)(hb:Below w.heap.size w w')(hz:fO x=true->lsz csz x.cs<=900/\x.ac.length<=1000):
 Calls Tryz.prog 15 #[.agg #[.int .i64 x.m,.int .u64 x.sd,.int .i64 x.y,.slice A n c,.slice A2 n2 c2]] w' λe w''=>e= .returned (.string (ba (fmT x)))/\Below w'.heap.size w' w'':=
 yR x A n c A2 n2 c2 w' (λb=>b<w.heap.size) (h.cs.aA λb hk=>⟨hk,hb.block b hk⟩) (h.ac.aA λb hk=>⟨hk,hb.block b hk⟩) (λb hk=>Fj hk hb.size) (h.cap.aA λb hk=>hb.block b hk) h.s0 h.s1 hz
theorem tH{n:Nat}(h:Came w x A n A2 n2)(c c2:Nat)(hb:Below w.heap.size w w'):
 Calls Tryz.prog 16 #[.agg #[.int .i64 x.m,.int .u64 x.sd,.int .i64 x.y,.slice A n c,.slice A2 n2 c2]] w' λe w''=>e= .returned (.bool (fO x))/\Below w'.heap.size w' w'':=
 tW x A n c A2 n2 c2 w' (λb=>b<w.heap.size) (h.cs.aA λb hk=>⟨hk,hb.block b hk⟩) (h.ac.aA λb hk=>⟨hk,hb.block b hk⟩) (λb hk=>Fj hk hb.size)
theorem zx{n:Nat}(h:Came w x A n A2 n2)(c c2:Nat)(hb:Below w.heap.size w w'):
 Calls Tryz.prog 12 #[.agg #[.int .i64 x.m,.int .u64 x.sd,.int .i64 x.y,.slice A n c,.slice A2 n2 c2]] w' (FewP (fO x=true->lsz csz x.cs<=200/\x.ac.length<=200) w'):=
 Eg x A n c A2 n2 c2 w' (λb=>b<w.heap.size) (h.cs.aA λb hk=>⟨hk,hb.block b hk⟩) (h.ac.aA λb hk=>⟨hk,hb.block b hk⟩) (λb hk=>Fj hk hb.size) h.few
theorem yV(hv:fO x=true)(h0:0<=x.sd)(h1:x.sd<=18446744073709551615)(hl:(fmT x).length<=16384)(hz:lsz csz x.cs<=4000):eg (ba (fmT x))= .ok x:=by
 have h:=VSc.of hv h0 h1;have e:fmT x=ru x:=by unfold fmT;rw[Ft hv,x9 h]
 rw[e]at hl⊢;exact qE h hl hz
theorem Dz(x:Sc)(A:Option Addr)(n c:Nat)(A2:Option Addr)(n2 c2:Nat)(w:World)(hC:Came w x A n A2 n2)(hg:Gl w):
 Calls Tryz.prog 4 #[.agg #[.int .i64 x.m,.int .u64 x.sd,.int .i64 x.y,.slice A n c,.slice A2 n2 c2]] w λe w'=>e= .returned (.bool true)/\Below w.heap.size w w':=by
 have HC:=H_ hC;have HG:=H_ hg;obtain⟨g,hz⟩:=nm_ (w.heap.size);obtain⟨W0,hW0⟩:=nm_ (w.alloc (.cells #[.int .i64 x.m,.int .u64 x.sd,.int .i64 x.y,.slice A n c,.slice A2 n2 c2] 35));have HQ:=hng hW0 hz;have hs0:W0.heap.size=g+1:=by rw[<-hW0,Fc,hz]
 have HB0:=hba hW0;have CF:=H_ (zx hC c c2 HB0.out);have HW:=H_ hW0;have HSM:=H_ (show∃m sd y,x.m=m/\x.sd=sd/\x.y=y from⟨_,_,_,rfl,rfl,rfl⟩);obtain⟨m,hm⟩:=nm_ (x.m);obtain⟨sd,hsd⟩:∃m,x.sd=m:=⟨_,rfl⟩;obtain⟨y,hy⟩:∃m,x.y=m:=⟨_,rfl⟩;have HXE:=H_ (And.intro hm (And.intro hsd hy));rw[hm,hsd,hy]at HQ HW CF⊢;obtain⟨q0,q1,q2,q3,q4⟩:=HQ.out.c5;clear hC hg hW0 hm hsd hy HSM;go_enter Tryz.func4,Tryz.ntmps4;rw[hz];go_upto_region 1 with fail;rw[HW.out];go_wp2_with fail;refine CF.out.mono ?_;rintro r w1 ⟨bf,rfl,hbf,b1⟩;have hs1:=b1.size;have HB1:Hid (Below w.heap.size w w1):=H_ (HB0.out.trans (b1.mono (by omega)));have HQ1:=hbl HQ b1;have HBF:=H_ hbf;clear b1 CF hbf q0 q1 q2 q3 q4;cases bf with
 |false=>
  have C7:=H_ (tK w1 (HG.out.below HB1.out));go_wp2_with fail;refine C7.out.mono ?_;rintro e w2 ⟨rfl,b2⟩;have HE:=htr HB1 b2;clear b2;go_wp2_with fail;go_ret;exact⟨rfl,hz▸HE.out⟩
 |true=>
  have HZ:=H_ (show fO x=true->lsz csz x.cs<=900/\x.ac.length<=1000 from λh=>by have:=HBF.out rfl h;omega);obtain⟨q0,q1,q2,q3,q4⟩:=HQ1.out.c5;have C14:=H_ (Cn m sd y A n c A2 n2 c2 w1);go_wp2_with fail;refine C14.out.mono ?_;rintro r w2 ⟨rfl,b2⟩;have hs2:=b2.size;have HB2:=htr HB1 b2;have HQ2:=hbl HQ1 b2;have C13:=H_ (rG HC.out c c2 HB2.out HG.out HZ.out);obtain⟨h1,h2,h3⟩:=HXE.out;rw[h1,h2,h3]at C13;clear b2 C14 q0 q1 q2 q3 q4 h1 h2 h3;go_wp2_with fail;refine C13.out.mono ?_;rintro r w3 ⟨rfl,b3⟩;have hs3:=b3.size;have HB3:=htr HB2 b3;have HQ3:=hbl HQ2 b3;have C15:=H_ (zw HC.out c c2 HB3.out HZ.out);obtain⟨h1,h2,h3⟩:=HXE.out;rw[h1,h2,h3]at C15;obtain⟨q0,q1,q2,q3,q4⟩:=HQ3.out.c5;obtain⟨S,hS⟩:=nm_ (ba (fmT x));rw[hS]at C15⊢;have HS:=H_ hS;have hee:(S.toList==S.toList)=true:=GY _;have hnn:(S.toList !=S.toList)=false:=by simp
  clear b3 C13 h1 h2 h3 hS HB2 HQ2;go_wp2_with fail;refine C15.out.mono ?_;rintro r w4 ⟨rfl,b4⟩;have hs4:=b4.size;have HB4:=htr HB3 b4;have HQ4:=hbl HQ3 b4;have C16:=H_ (tH HC.out c c2 HB4.out);obtain⟨h1,h2,h3⟩:=HXE.out;rw[h1,h2,h3]at C16;obtain⟨q0,q1,q2,q3,q4⟩:=HQ4.out.c5;obtain⟨vb,hvb⟩:=nm_ (fO x);rw[hvb]at C16;have HVB:=H_ hvb;clear b4 C15 h1 h2 h3 HB3 HQ3 hvb;go_wp2_with fail;refine C16.out.mono ?_;rintro r w5 ⟨rfl,b5⟩;have hs5:=b5.size;have HB5:=htr HB4 b5;have HQ5:=hbl HQ4 b5;clear b5 C16 HB4 HQ4 q0 q1 q2 q3 q4;have C7:=H_ (tK w5 (HG.out.below HB5.out));by_cases hcut:vb=true/\S.size<=16384
  ·obtain⟨rfl,hsz⟩:=hcut;have hszz:¬(16384:Int)<(S.size:Int):=by omega
   obtain⟨l1,l2,l3⟩:=t8 (show S.size<=39000 by omega);have C8:=H_ (Cs S w5 (HG.out.below HB5.out) (by omega) l2 l3);obtain⟨hcz,hacl⟩:=HZ.out HVB.out
   have hrd:eg S= .ok x:=by
    rw[<-HS.out];refine yV HVB.out HC.out.s0 HC.out.s1 ?_ (by omega);have:S.size=(fmT x).length:=by rw[<-HS.out];simp[ba,ByteArray.size]
    omega
   have HRD:=H_ hrd;have HCZ:=H_ (And.intro hcz hacl);clear l1 l2 l3 C7 hrd hcz hacl;go_wp2_with fail;refine C8.out.mono ?_;rintro e w6 ⟨b6,hcase⟩;rw[HRD.out]at hcase;obtain⟨v,rfl,hv⟩:=hcase;obtain⟨A',n',c',A2',n2',c2',rfl,_⟩:=id hv;obtain⟨h1,h2,h3⟩:=HXE.out;rw[h1,h2,h3]at hv⊢;obtain⟨w7,hw7⟩:=nm_ (w6.alloc (.cells #[.int .i64 m,.int .u64 sd,.int .i64 y,.slice A' n' c',.slice A2' n2' c2'] 31));obtain⟨L,hL⟩:=nm_ (w6.heap.size);have b7:=bal hw7;have HL7:=hng hw7 hL;have hsL:w7.heap.size=L+1:=by rw[<-hw7,Fc,hL]
   have HV7:Hid (SV w7 (AllB w7) x (.agg #[.int .i64 m,.int .u64 sd,.int .i64 y,.slice A' n' c',.slice A2' n2' c2'])):=H_ (SV.below hv b7);have HB7:=H_ (HB5.out.trans ((b6.trans (b7.mono b6.size)).mono (by have:=HB5.out.size;omega)));have HQ7:=hbl (hbl HQ5 b6) b7
   have HU7:Hid (SV w7 (AllB w7) x (.agg #[.int .i64 m,.int .u64 sd,.int .i64 y,.slice A n c,.slice A2 n2 c2])):=H_ (by
    have:=HC.out.sv c c2 HB7.out;rwa[h1,h2,h3]at this)
   have HW7:=H_ hw7;clear hv b6 b7 hw7 C8 h1 h2 h3 HB5 HQ5 HQ1 HB1;go_upto_region 9 with fail;try rw[HW7.out]
   try rw[hL]
   obtain⟨TT,f,hne,hf,hcov⟩:=cg w7.heap.size w7
   have C11:=H_ (show∀z,Calls Tryz.prog 11 #[.agg #[.int .i64 m,.int .u64 sd,.int .i64 y,.slice A' n' c',.slice A2' n2' c2']] (f z) (λe w''=>e= .returned (.agg #[.int .i64 m,.int .u64 sd,.int .i64 y,.slice A' n' c',.slice A2' n2' c2'])/\∃z',w''=f z')from λz=>
    (AH m sd y A' n' c' A2' n2' c2' (f z)).mono λe w'' ⟨h1,h2⟩=>⟨h1,hcov _ ((hf z).trans (h2.mono (hf z).size))⟩)
   have C10:=H_ (show∀z,Calls Tryz.prog 10 #[.agg #[.int .i64 m,.int .u64 sd,.int .i64 y,.slice A' n' c',.slice A2' n2' c2'],.agg #[.int .i64 m,.int .u64 sd,.int .i64 y,.slice A n c,.slice A2 n2 c2]] (f z) (λe w''=>e= .returned (.bool true)/\∃z',w''=f z')from λz=>
    (Ck x _ _ (f z) (SV.below HV7.out (hf z)) (SV.below HU7.out (hf z)) (by have:=HCZ.out.1;omega) (rO HVB.out) (by have:=HCZ.out.2;omega)).mono λe w'' ⟨h1,h2⟩=>⟨h1,hcov _ ((hf z).trans (h2.mono (hf z).size))⟩)
   have C7:=H_ (show∀z,Calls Tryz.prog 7 #[] (f z) (λe w''=>e= .returned (.bool true)/\∃z',w''=f z')from λz=>
    (tK (f z) ((HG.out.below HB7.out).below (hf z))).mono λe w'' ⟨h1,h2⟩=>⟨h1,hcov _ ((hf z).trans (h2.mono (hf z).size))⟩)
   have R1:=H_ (show∀z,(f z).rangeAt L 0 [.int .i64 m,.int .u64 sd,.int .i64 y,.slice A' n' c',.slice A2' n2' c2']from λz j u hj=>by rw[Gq];exact((HL7.out.below (hf z) HL7.out.lt).cell j).trans (by simpa using hj));have R2:=H_ (show∀z,(f z).rangeAt g 0 [.int .i64 m,.int .u64 sd,.int .i64 y,.slice A n c,.slice A2 n2 c2]from λz j u hj=>by rw[Gq];exact((HQ7.out.below (hf z) HQ7.out.lt).cell j).trans (by simpa using hj));have HF:=H_ (λz=>HB7.out.trans ((hf z).mono HB7.out.size));have HCOV:=H_ hcov;clear hf hcov HB7 HV7 HU7 HL7 HQ7;refine ai f (by kernel_rfl) (by kernel_rfl) (HCOV.out _ (Fb _ _).drew) ?_;repeat (go_big_quiet_step (fail))
   go_big_quiet_want;refine dj 31 (.tmp 4) rfl L 0 rfl [_,_,_,_,_] _ (by rintro _ ⟨z,rfl⟩;exact R1.out z) Tryz.underlying31 rfl (by kernel_rfl) ?_;go_simp;go_big_quiet_on;repeat (go_big_quiet_step ((go_at_call 11;exact C11.out _)))
   go_big_quiet_want;refine dj 35 (.tmp 1) rfl g 0 rfl [_,_,_,_,_] _ (by rintro _ ⟨z,rfl⟩;exact R2.out z) Tryz.underlying35 rfl (by kernel_rfl) ?_;go_simp;go_big_quiet_on;repeat (go_big_quiet_step (first|(go_at_call 10;exact C10.out _)|(go_at_call 7;exact C7.out _)))
   refine FO ?_;rintro _ ⟨z,rfl⟩;go_wp2_with fail;go_ret;exact⟨rfl,hz▸HF.out z⟩
  ·cases vb with
   |false=>
    go_wp2_with fail;refine C7.out.mono ?_;rintro e w6 ⟨rfl,b6⟩;have HE:=htr HB5 b6;clear b6;go_wp2_with fail;go_ret;exact⟨rfl,hz▸HE.out⟩
   |true=>
    have hszz:(16384:Int)<(S.size:Int):=by
     have:¬S.size<=16384:=λh=>hcut ⟨rfl,h⟩;omega
    go_wp2_with fail;refine C7.out.mono ?_;rintro e w6 ⟨rfl,b6⟩;have HE:=htr HB5 b6;clear b6;go_wp2_with fail;go_ret;exact⟨rfl,hz▸HE.out⟩
end
section
open Go.RowKit Go.ChangeShapes Go.WideShapes Go.ChangeAt Go.Deep
variable{H:Type}{K fuel g i o:Nat}{P:Program}{W w:World}{cs:List Value}{e t':TypeId}{f:Field}{fs:Array Field}{held:Bool}{name:String}{spare:Nat->Bool}{v:Value}
theorem EA:ownKnob Tryz.prog.godebug=none:=by kernel_rfl
theorem yG:laidOutB Tryz.prog=true:=by kernel_rfl
theorem mC{k:IntKind}{zs:List Int}{t:TypeId}{n:Nat}
 (hg:P.globalNamed name=some g) (hty:(P.globals[g]?).map (·.type)=some t) (ht:P.underlying t=some (.array n e)) (he:P.underlying e=some (.int k)) (hce:P.cellsOf e=1) (hct:P.cellsOf t=n)
 (h:Lib.VarReads P W name (Lib.tabData k zs)):Lib.TabIs P W name k zs:=by
 obtain⟨g',t',cs,fuel,p,h1,h2,h3,h4⟩:=h;rw[hg]at h1;obtain rfl:=Option.some.inj h1;rw[hty]at h2;obtain rfl:=Option.some.inj h2;have:=Lib.cells_of_tab ht he hce hct h4;unfold Lib.TabIs;rw[h3,<-this]
theorem iO{nm:String}{d:DataW Unit}{t:TypeId}{ms:Array (String×TypeId)}(hg:P.globalNamed name=some g)(hty:(P.globals[g]?).map (·.type)=some t)(ht:P.underlying t=some (.interface ms))
 (h:Lib.VarReads P W name (.iface nm d)):∃tp p,W.var? P name=some #[.iface tp p]:=by
 obtain⟨g',t',cs,fuel,p,h1,h2,h3,h4⟩:=h;rw[hg]at h1;obtain rfl:=Option.some.inj h1;rw[hty]at h2;obtain rfl:=Option.some.inj h2;obtain⟨_,u,v,hcs,_⟩:=iface_of_trod ht h4;refine⟨u,v,?_⟩;rw[h3]
 congr 1
 exact Array.toList_inj.1 hcs
theorem jr{ss:List (List UInt8)}{n:Nat}{t:TypeId}(hg:Tryz.prog.globalNamed name=some g)(hty:(Tryz.prog.globals[g]?).map (·.type)=some t)(ht:Tryz.prog.underlying t=some (.slice 9))(hn:ss.length=n+1)
 (h:Lib.VarReads Tryz.prog W name (.slice (ss.map λs=> .lit (.string s)) [])):∃A c,W.cell? ⟨g,0,none⟩=some (.slice A (n+1) c)/\Strs W W.heap.size A (n+1) (ss.map λs=>⟨s.toArray⟩):=by
 obtain⟨g',t',cs,fuel,p,h1,h2,h3,h4⟩:=h;rw[hg]at h1;obtain rfl:=Option.some.inj h1;rw[hty]at h2;obtain rfl:=Option.some.inj h2;rcases DataW.trod_slice ht h4 with⟨hcs,hx⟩|⟨a,len,cap,elems,rest,m,rfl,hcs,hx,_,_,_,hel,hi,_⟩
 ·simp at hx
 ·simp only[Prod.mk.injEq,DataW.slice.injEq]at hx;obtain⟨⟨hx1,_⟩,_⟩:=hx
  have hlen:len=n+1:=by
   have:=GD List.length hx1;simp only[GC]at this;omega
  subst hlen
  have hcell:W.cell? ⟨g,0,none⟩=some (.slice (some a) (n+1) cap):=by
   have:=World.var?_cell hg h3 0;rw[show cs= #[.slice (some a) (n+1) cap]from Array.toList_inj.1 hcs]at this;simpa using this
  have hc9:Tryz.prog.cellsOf 9=1:=by kernel_rfl
  have hes:∀i s,ss[i]?=some s->W.cell? (a.add i)=some (.string ⟨s.toArray⟩):=λi s hs=>by
   have hil:i<n+1:=by rw[<-hn];exact(Ff.1 hs).1
   have h5:=hi i hil;have hel':i<elems.length:=by omega
   rw[Fh hel',hc9,Nat.mul_one]at h5;obtain⟨cs',h6,h7⟩:=Option.bind_eq_some_iff.1 h5;obtain⟨s',rfl,h8,_⟩:=DataW.trod_string Tryz.underlying9 h7
   have h9:(elems.map (·.1))[i]?=some (.lit (.string s'.data.toList)):=by
    rw[FN,Fh hel',h8];rfl
   rw[<-hx1,FN,hs]at h9;simp only[Option.map_some,Option.some.injEq,DataW.lit.injEq,Lit.string.injEq]at h9;obtain⟨_,_,h10⟩:=World.cells?_some h6;have:=h10 0 (by simp);rw[show((a.add i).add 0)=a.add i from by unfold Addr.add;simp]at this;rw[this];simp[h9]
  refine⟨some a,cap,hcell,by simp[hn],λh0=>?_⟩;have h00:0<ss.length:=by omega
  have hc0:=hes 0 ss[0] (Fh h00);obtain⟨b,off,spot⟩:=a;have hspot:spot=none:=by simpa[Addr.add]using World.cell?_spot hc0
  subst hspot;refine⟨b,off,rfl,by simpa[Addr.add]using World.block_lt_of_cell? W _ hc0,λj v hv=>?_⟩;rw[List.map_map,FN]at hv;obtain⟨s,hs,rfl⟩:=FQ.1 hv;have:=hes j s hs;rwa[show((⟨b,off,none⟩:Addr).add j)=⟨b,off+j,none⟩from by unfold Addr.add;split<;>simp_all]at this
def ae:List (String×DataW Unit):=Rows.scriptParsesRow.laid
def kwN:List (List UInt8):=kwL.map (·.data.toList)
def syN:List (List UInt8):=syL.map (·.data.toList)
theorem Dw:((begin Tryz.prog (λ_ _=>0) default).world.heap[0]?).bind Obj.row?=some (#[.int .i64 0],3):=by kernel_rfl
theorem Dv:∃x,((begin Tryz.prog (λ_ _=>0) default).world.heap[11]?).bind Obj.row?=some x:=by
 cases h:((begin Tryz.prog (λ_ _=>0) default).world.heap[11]?).bind Obj.row? with
 |some x=>exact⟨x,rfl⟩
 |none=>
  have:(((begin Tryz.prog (λ_ _=>0) default).world.heap[11]?).bind Obj.row?).isSome=true:=by kernel_rfl
  rw[h]at this;cases this
section
variable{H:Type}{enc:TypeId×Value->H}{w:World}{spare:Nat->Bool}{held:Bool}
def Wt(t:TypeId)(d:DataW H):Prop:=∀k∈d.weights Tryz.prog t,k<=reachBytes
theorem iz{e:TypeId}:∀{l:List (DataW H)} {d:DataW H},d∈l->∀k∈d.weights Tryz.prog e,k∈DataW.weightsAll Tryz.prog e l
 |[],_,h,_,_=>by cases h
 |a::l,d,h,k,hk=>by
  rw[DataW.weightsAll];rcases Fp.1 h with rfl|h
  ·exact List.mem_append_left _ hk
  ·exact List.mem_append_right _ (iz h k hk)
theorem ft:∀{ts:List TypeId} {l:List (DataW H)} {i:Nat} {t:TypeId} {d:DataW H},ts[i]?=some t->l[i]?=some d->∀k∈d.weights Tryz.prog t,k∈DataW.weightsEach Tryz.prog ts l
 |[],_,_,_,_,h,_,_,_=>by simp at h
 |_::_,[],_,_,_,_,h,_,_=>by simp at h
 |t'::ts,a::l,0,t,d,h1,h2,k,hk=>by
  simp only[FZ,Option.some.injEq]at h1 h2;subst h1 h2;rw[DataW.weightsEach];exact List.mem_append_left _ hk
 |t'::ts,a::l,i+1,t,d,h1,h2,k,hk=>by
  simp only[GZ]at h1 h2;rw[DataW.weightsEach];exact List.mem_append_right _ (ft h1 h2 k hk)
theorem Wt.part{t:TypeId}(ht:Tryz.prog.underlying t=some (.struct fs)){ps:List (DataW H)}(h:Wt t (.agg ps)){d:DataW H}(hf:fs[i]?=some f)(hd:ps[i]?=some d):Wt f.type d:=λk hk=>by
 refine h k ?_;rw[DataW.weights,ht];exact ft (i:=i) (t:=f.type) (by rw[FN,<-Array.getElem?_toList]at*;simp[hf]) hd k hk
theorem Wt.elem{t:TypeId}(ht:Tryz.prog.underlying t=some (.slice e)){el sp:List (DataW H)}(h:Wt t (.slice el sp)):el.length*Tryz.prog.bytesOf e<=reachBytes/\∀d∈el,Wt e d:=by
 have h0:∀k∈((el.length+sp.length)*Tryz.prog.bytesOf e::(DataW.weightsAll Tryz.prog e el++DataW.weightsAll Tryz.prog e sp)),k<=reachBytes:=λk hk=>h k (by rw[DataW.weights,ht];exact hk);refine⟨FA (Nat.mul_le_mul_right _ (Nat.le_add_right _ _)) (h0 _ List.mem_cons_self),λd hd k hk=>h0 k ?_⟩;exact FL _ (List.mem_append_left _ (iz hd k hk))
theorem fh{t:TypeId}(ht:Tryz.prog.underlying t=some (.struct fs)){x:DataW H×List MemPlace}(h:DataW.trod enc Tryz.prog w 0 spare held fuel t cs=some x)(hw:Wt t x.1):
 ∃n,fuel=n+1/\cs.length=Tryz.prog.cellsOf t/\∀(i:Nat) (f:Field),fs[i]?=some f->∃y,DataW.trod enc Tryz.prog w 0 spare held n f.type ((cs.drop f.offset).take (Tryz.prog.cellsOf f.type))=some y/\Wt f.type y.1:=by
 obtain⟨xs,n,hfu,rfl,hl,hlen,hf⟩:=DataW.trod_struct ht h;refine⟨n,hfu,hl,λi f hi=>?_⟩;have hil:i<xs.length:=by rw[hlen];exact(Fv.1 hi).1
 have h1:=hf i f hi;rw[Fh hil]at h1;exact⟨xs[i],h1,hw.part ht hi (by rw[FN,Fh hil];rfl)⟩
theorem rE(h:o<cs.length):(cs.drop o).take 1=[cs[o]]:=by
 rw[GQ h];rfl
theorem bg{n:Nat}(h:∃y,DataW.trod enc Tryz.prog w 0 spare held n t' ((cs.drop o).take (Tryz.prog.cellsOf t'))=some y/\Wt t' y.1)(ho:o<cs.length:=by simp)(hc:Tryz.prog.cellsOf t'=1:=by kernel_rfl):
 ∃y,DataW.trod enc Tryz.prog w 0 spare held n t' [cs[o]]=some y/\Wt t' y.1:=by
 rwa[hc,rE ho]at h
theorem it{α:Type}(K:Kd α){t:TypeId}(ht:Tryz.prog.underlying t=some (.slice e)){x:DataW H×List MemPlace}
 (h:DataW.trod enc Tryz.prog w 0 spare held fuel t [v]=some x) (hw:Wt t x.1)
 (hel:∀n cs y,n<fuel->DataW.trod enc Tryz.prog w 0 spare held n e cs=some y->Wt e y.1->∃a,K.rd w (λb=>b<w.heap.size) a cs) (hce:Tryz.prog.cellsOf e=K.sz:=by kernel_rfl) (hbe:1<=Tryz.prog.bytesOf e:=by exact FP (by kernel_rfl)):
 ∃A n c xs,v= .slice A n c/\Sl K w (λb=>b<w.heap.size) xs A n/\n<=c/\n<=140737488355328:=by
 rcases DataW.trod_slice ht h with⟨hcs,_⟩|⟨a,len,cap,elems,rest,n,rfl,hcs,rfl,_,hl,hm,hlen,hi,_⟩
 ·simp only[List.cons.injEq,FC]at hcs;subst hcs;exact⟨none,0,0,[],rfl,Sl.nil _ _ _,F0 _,Fl _⟩
 ·simp only[List.cons.injEq,FC]at hcs;subst hcs;obtain⟨hwl,hwe⟩:=hw.elem ht;rw[GC,hlen]at hwl
  have hbig:len<=140737488355328:=by
   have h1:len*1<=len*Tryz.prog.bytesOf e:=Nat.mul_le_mul_left _ hbe;unfold reachBytes at hwl;omega
  have hex:∀i,i<len->∃cs a',w.cells? 0 (a.add (i*K.sz)) K.sz=some cs/\K.rd w (λb=>b<w.heap.size) a' cs:=λi hin=>by
   have h1:=hi i hin
   have hil:i<elems.length:=by omega
   rw[Fh hil,hce]at h1;obtain⟨cs,h2,h3⟩:=Option.bind_eq_some_iff.1 h1;obtain⟨a',h4⟩:=hel n cs elems[i] (Nat.lt_succ_self _) h3 (hwe _ (List.mem_map_of_mem (List.getElem_mem hil)));exact⟨cs,a',h2,h4⟩
  by_cases h0:0<len
  ·obtain⟨cs0,_,hc0,hr0⟩:=hex 0 h0
   have hspot:∃b off,a=⟨b,off,none⟩/\b<w.heap.size:=by
    obtain⟨_,hl0,hcell⟩:=World.cells?_some hc0;have h1:=hcell 0 K.pos;rw[Fh (by rw[hl0];exact K.pos)]at h1;have h2:=World.cell?_spot h1;have h3:=World.block_lt_of_cell? w _ h1;obtain⟨b,off,spot⟩:=a;have:spot=none:=by simpa[Addr.add]using h2
    subst this;exact⟨b,off,rfl,by simpa[Addr.add]using h3⟩
   obtain⟨b,off,rfl,hb⟩:=hspot;refine⟨some ⟨b,off,none⟩,len,cap,(List.range len).map (λi=>if h:i<len then Classical.choose (Gz (hex i h))else Classical.choose (Gz (hex 0 h0))),rfl,⟨by simp,by unfold BD;omega,λ_=>⟨b,off,rfl,hb,λj y hy=>?_⟩⟩,hl,hbig⟩;have hj:j<len:=by have:=(Ff.1 hy).1;simpa using this
   rw[FN,List.getElem?_range hj]at hy;simp only[Option.map_some,Option.some.injEq,dif_pos hj]at hy;obtain⟨h1,h2⟩:=Gz (Gz (hex j hj));refine⟨Classical.choose (hex j hj),by rw[<-hy];exact h2,λi v hv=>?_⟩;obtain⟨_,hl0,hcell⟩:=World.cells?_some h1;have hil:i<K.sz:=by rw[<-hl0];exact(Ff.1 hv).1
   have h3:=(hcell i hil).trans hv;rwa[show((⟨b,off,none⟩:Addr).add (j*K.sz)).add i=⟨b,off+K.sz*j+i,none⟩from by unfold Addr.add;rw[FG K.sz j];by_cases h1:j*K.sz=0<;>by_cases h2:i=0<;>simp[h1,h2]]at h3
  ·obtain rfl:len=0:=by omega
   exact⟨some a,0,cap,[],rfl,Sl.nil _ _ _,Fl _,Fl _⟩
theorem Eh:∀(fuel:Nat) (cs:List Value) (x:DataW H×List MemPlace),DataW.trod enc Tryz.prog w 0 spare held fuel 172 cs=some x->Wt 172 x.1->∃e,ExK w (λb=>b<w.heap.size) e cs:=by
 intro fuel;induction fuel using Nat.strongRecOn with
 |_ fuel ih=>
  intro cs x h hw;obtain⟨n,rfl,hl,hf⟩:=fh Tryz.underlying172 h hw;have hl6:cs.length=6:=hl.trans (by kernel_rfl)
  match cs,hl6 with
  |[v0,v1,v2,v3,v4,v5],_=>
   obtain⟨y0,t0,_⟩:=bg (o:=0) (hf 0 _ rfl);obtain⟨y1,t1,_⟩:=bg (o:=1) (hf 1 _ rfl);obtain⟨y2,t2,_⟩:=bg (o:=2) (hf 2 _ rfl);obtain⟨y3,t3,_⟩:=bg (o:=3) (hf 3 _ rfl);obtain⟨y4,t4,_⟩:=bg (o:=4) (hf 4 _ rfl);obtain⟨y5,t5,w5⟩:=bg (o:=5) (hf 5 _ rfl);obtain⟨k,hk,_,_⟩:=DataW.trod_int Tryz.underlying3 t0;obtain⟨op,hop,_,_⟩:=DataW.trod_int Tryz.underlying3 t1;obtain⟨z,hz,_,_⟩:=DataW.trod_int Tryz.underlying2 t2;obtain⟨nm,hnm,_,_⟩:=DataW.trod_string Tryz.underlying9 t3;obtain⟨at_,hat,_⟩:=DataW.trod_bool Tryz.underlying4 t4;obtain⟨A,m,c,xs,h5,hs,hc,_⟩:=it gT Tryz.underlying166 t5 w5 (λa b z d e f=>ih a (by omega) b z e f);simp only[List.getElem_cons_succ,List.getElem_cons_zero,List.cons.injEq,FC]at hk hop hz hnm hat h5;subst hk hop hz hnm hat h5;exact⟨_,ExK.of k op z nm at_ hc hs⟩
theorem DF:∀(fuel:Nat) (cs:List Value) (x:DataW H×List MemPlace),DataW.trod enc Tryz.prog w 0 spare held fuel 168 cs=some x->Wt 168 x.1->∃e,StK w (λb=>b<w.heap.size) e cs:=by
 intro fuel;induction fuel using Nat.strongRecOn with
 |_ fuel ih=>
  intro cs x h hw;obtain⟨n,rfl,hl,hf⟩:=fh Tryz.underlying168 h hw;have hl5:cs.length=5:=hl.trans (by kernel_rfl)
  match cs,hl5 with
  |[v0,v1,v2,v3,v4],_=>
   obtain⟨y0,t0,_⟩:=bg (o:=0) (hf 0 _ rfl);obtain⟨y1,t1,_⟩:=bg (o:=1) (hf 1 _ rfl);obtain⟨y2,t2,w2⟩:=bg (o:=2) (hf 2 _ rfl);obtain⟨y3,t3,w3⟩:=bg (o:=3) (hf 3 _ rfl);obtain⟨y4,t4,w4⟩:=bg (o:=4) (hf 4 _ rfl);obtain⟨k,hk,_,_⟩:=DataW.trod_int Tryz.underlying3 t0;obtain⟨nm,hnm,_,_⟩:=DataW.trod_string Tryz.underlying9 t1;obtain⟨A,m,c,xs,h2,hs,hc,_⟩:=it gT Tryz.underlying166 t2 w2 (λa b z _ e f=>Eh a b z e f);obtain⟨A2,m2,c2,xs2,h3,hs2,hc2,_⟩:=it gj Tryz.underlying119 t3 w3 (λa b z d e f=>ih a (by omega) b z e f);obtain⟨A3,m3,c3,xs3,h4,hs3,hc3,_⟩:=it gj Tryz.underlying119 t4 w4 (λa b z d e f=>ih a (by omega) b z e f);simp only[List.getElem_cons_succ,List.getElem_cons_zero,List.cons.injEq,FC]at hk hnm h2 h3 h4;subst hk hnm h2 h3 h4;exact⟨_,StK.of k nm ⟨hc,hc2,hc3⟩ hs hs2 hs3⟩
theorem xh{x:DataW H×List MemPlace}(h:DataW.trod enc Tryz.prog w 0 spare held fuel 9 cs=some x):∃s,dF.rd w (λb=>b<w.heap.size) s cs:=by
 obtain⟨s,hs,_⟩:=DataW.trod_string Tryz.underlying9 h;exact⟨s,hs⟩
theorem yK{t:TypeId}(ht:Tryz.prog.underlying t=some (.int .i64)){x:DataW H×List MemPlace}(h:DataW.trod enc Tryz.prog w 0 spare held fuel t cs=some x):∃z,lX.rd w (λb=>b<w.heap.size) z cs:=by
 obtain⟨z,hz,_⟩:=DataW.trod_int ht h;exact⟨z,hz⟩
theorem DU{x:DataW H×List MemPlace}(h:DataW.trod enc Tryz.prog w 0 spare held fuel 121 cs=some x)(hw:Wt 121 x.1):∃m,MeK w (λb=>b<w.heap.size) m cs:=by
 obtain⟨n,rfl,hl,hf⟩:=fh Tryz.underlying121 h hw;have hl3:cs.length=3:=hl.trans (by kernel_rfl)
 match cs,hl3 with
 |[v0,v1,v2],_=>
  obtain⟨y0,t0,_⟩:=bg (o:=0) (hf 0 _ rfl);obtain⟨y1,t1,w1⟩:=bg (o:=1) (hf 1 _ rfl);obtain⟨y2,t2,w2⟩:=bg (o:=2) (hf 2 _ rfl);obtain⟨nm,hnm,_,_⟩:=DataW.trod_string Tryz.underlying9 t0;obtain⟨A,m,c,xs,h1,hs,hc,_⟩:=it dF Tryz.underlying67 t1 w1 (λa b z _ e _=>xh e);obtain⟨A2,m2,c2,xs2,h2,hs2,hc2,_⟩:=it gj Tryz.underlying119 t2 w2 (λa b z _ e f=>DF a b z e f);simp only[List.getElem_cons_succ,List.getElem_cons_zero,List.cons.injEq,FC]at hnm h1 h2;subst hnm h1 h2;exact⟨⟨nm,xs,xs2⟩,A,m,c,A2,m2,c2,rfl,hs,hs2,hc,hc2⟩
theorem Ej{x:DataW H×List MemPlace}(h:DataW.trod enc Tryz.prog w 0 spare held fuel 117 cs=some x)(hw:Wt 117 x.1):∃m,ClK w (λb=>b<w.heap.size) m cs:=by
 obtain⟨n,rfl,hl,hf⟩:=fh Tryz.underlying117 h hw;have hl4:cs.length=4:=hl.trans (by kernel_rfl)
 match cs,hl4 with
 |[v0,v1,v2,v3],_=>
  obtain⟨y0,t0,_⟩:=bg (o:=0) (hf 0 _ rfl);obtain⟨y1,t1,_⟩:=bg (o:=1) (hf 1 _ rfl);obtain⟨y2,t2,w2⟩:=bg (o:=2) (hf 2 _ rfl);obtain⟨y3,t3,w3⟩:=bg (o:=3) (hf 3 _ rfl);obtain⟨nm,hnm,_,_⟩:=DataW.trod_string Tryz.underlying9 t0;obtain⟨ac,hac,_⟩:=DataW.trod_bool Tryz.underlying4 t1;obtain⟨A,m,c,xs,h2,hs,hc,_⟩:=it dF Tryz.underlying67 t2 w2 (λa b z _ e _=>xh e);obtain⟨A2,m2,c2,xs2,h3,hs2,hc2,_⟩:=it oc Tryz.underlying115 t3 w3 (λa b z _ e f=>DU e f);simp only[List.getElem_cons_succ,List.getElem_cons_zero,List.cons.injEq,FC]at hnm hac h2 h3;subst hnm hac h2 h3;exact⟨⟨nm,ac,xs,xs2⟩,A,m,c,A2,m2,c2,rfl,hs,hs2,hc,hc2⟩
theorem Et{x:DataW H×List MemPlace}(h:DataW.trod enc Tryz.prog w 0 spare held fuel 48 cs=some x)(hw:Wt 48 x.1):∃d,kAd.rd w (λb=>b<w.heap.size) d cs:=by
 obtain⟨n,rfl,hl,hf⟩:=fh Tryz.underlying48 h hw;have hl7:cs.length=7:=hl.trans (by kernel_rfl)
 match cs,hl7 with
 |[v0,v1,v2,v3,v4,v5,v6],_=>
  obtain⟨y0,t0,_⟩:=bg (o:=0) (hf 0 _ rfl);obtain⟨y1,t1,_⟩:=bg (o:=1) (hf 1 _ rfl);obtain⟨y2,t2,_⟩:=bg (o:=2) (hf 2 _ rfl);obtain⟨y3,t3,_⟩:=bg (o:=3) (hf 3 _ rfl);obtain⟨y4,t4,_⟩:=bg (o:=4) (hf 4 _ rfl);obtain⟨y5,t5,w5⟩:=bg (o:=5) (hf 5 _ rfl);obtain⟨y6,t6,w6⟩:=bg (o:=6) (hf 6 _ rfl);obtain⟨k,hk,_,_⟩:=DataW.trod_int Tryz.underlying3 t0;obtain⟨a,ha,_,_⟩:=DataW.trod_int Tryz.underlying3 t1;obtain⟨b,hb,_,_⟩:=DataW.trod_int Tryz.underlying3 t2;obtain⟨nm,hnm,_,_⟩:=DataW.trod_string Tryz.underlying9 t3;obtain⟨mt,hmt,_,_⟩:=DataW.trod_string Tryz.underlying9 t4;obtain⟨A,m,c,xs,h5,hs,hc,_⟩:=it lX Tryz.underlying45 t5 w5 (λa b z _ e _=>yK Tryz.underlying2 e);obtain⟨A2,m2,c2,xs2,h6,hs2,hc2,_⟩:=it lX Tryz.underlying46 t6 w6 (λa b z _ e _=>yK Tryz.underlying3 e);simp only[List.getElem_cons_succ,List.getElem_cons_zero,List.cons.injEq,FC]at hk ha hb hnm hmt h5 h6;subst hk ha hb hnm hmt h5 h6;exact⟨⟨k,a,b,nm,mt,xs,xs2⟩,A,m,c,A2,m2,c2,rfl,hs,hs2⟩
end
theorem pM{enc:TypeId×Value->H}{a:Assume}{C:Checked}{os:Os}{f:FuncId}{fn:Func}{s:ChangeSpec}{conds:List PathCond}{apart fresh handsOn again:Bool}{X:World->Array Value->Prop}
 (hX:∀(w w':World) (args:Array Value),w.heap=w'.heap->X w args->X w' args)
 (own:ownKnob C.prog.godebug=none) (started:os.Started) (noInit:C.prog.inits.idxOf? f=none) (hfn:C.prog.funcs[f]?=some fn)
 (witness:∃(w:World) (tape:Tape) (i:Input),w.os=os/\(w.forCall tape i).Shaped C.prog/\i.vars=[]/\Input.okWide C.prog (w.forCall tape i) .any w.heap.size f i/\
   ((s.pre enc C.prog fn conds apart (w.forCall tape i).memory i.args/\X (w.forCall tape i).memory i.args)/\sizedMet enc C.prog fn (OpenSpec.ofChange s) apart (w.forCall tape i).memory i.args)/\a.holds C.prog (lone (Frame.enter C.prog f i.args .normal) [] (w.forCall tape i)))
 (contract:∀(W:World) (base:Nat) (args:Array Value) (ds gs:List (DataW H)) (before:List MemPlace),
   (∀(j:Nat) t v,fn.params[j]?=some t->args[j]?=some v->Value.okWide C.prog W .any base t v)->
   DataW.Whole enc C.prog fn.params.toList s.vars apart W args.toList ds gs before->X W args->W.ShapedOpen C.prog->(DataW.weightsEach C.prog (fn.params.toList++(OpenSpec.ofChange s).bare.plain.varTypes C.prog) (ds++gs)).all (·<=reachBytes)=true->
   Calls C.prog f args W λe W'=>∃v,e= .returned v/\s.post enc C.prog fn apart fresh handsOn again W args v W'):
 ReturnsInHanded a C os f .any (λw args=>(s.pre enc C.prog fn conds apart w args/\X w args)/\sizedMet enc C.prog fn (OpenSpec.ofChange s) apart w args) (s.post enc C.prog fn apart fresh handsOn again):=by
 refine returnsInHanded_of_calls own started noInit witness ?_;intro w tape i _ hsh _ hok hpre _;obtain⟨_,_,_,fn',hfn',_,_,_,_,hval⟩:=hok;obtain rfl:fn'=fn:=Option.some.inj (hfn'.symm.trans hfn);obtain⟨⟨⟨ds,gs,before,hw,_⟩,hx⟩,hsz⟩:=hpre;refine(contract (w.forCall tape i) w.heap.size i.args ds gs before hval (DataW.Whole.of_heap (w':=w.forCall tape i) (by rfl) hw) (hX _ _ _ (by rfl) hx) hsh (hsz.weights hw)).mono λe W' ⟨v,he,hp⟩=>?_;subst he;exact ChangeSpec.post_blind hp
def cp:List (String×DataW Unit):=Rows.scriptFormatsRow.laid
theorem Db(hL:laidMetH Tryz.prog cp W)(hsh:W.ShapedOpen Tryz.prog):Gl W:=by
 rw[MakeChecks.laidMetH_plain _ _ _ (by kernel_rfl)]at hL;have r3:=Lib.laidMet.reads hL (show("internal/strconv.uint64pow10",Rows.laid_internal_strconv_uint64pow10)∈cp from by unfold cp Rows.scriptFormatsRow;simp);have r4:=Lib.laidMet.reads hL (show("strconv.ErrSyntax",Rows.laid_strconv_ErrSyntax)∈cp from by unfold cp Rows.scriptFormatsRow;simp);have r5:=Lib.laidMet.reads hL (show("strconv.ErrRange",Rows.laid_strconv_ErrRange)∈cp from by unfold cp Rows.scriptFormatsRow;simp);have r6:=Lib.laidMet.reads hL (show("refmesh/lexer.symbols",Rows.laid_refmesh_lexer_symbols)∈cp from by unfold cp Rows.scriptFormatsRow;simp);have r7:=Lib.laidMet.reads hL (show("refmesh/lexer.keywords",Rows.laid_refmesh_lexer_keywords)∈cp from by unfold cp Rows.scriptFormatsRow;simp)
 have h9:11<W.heap.size:=by
  obtain⟨⟨z,t⟩,h⟩:=Dv;obtain⟨cs,hh,_⟩:=hsh.1 11 z t (by rw[lr];decide) h;exact(Fv.1 hh).1
 have k7:=jr (ss:=kwN) (n:=23) (g:=11) (t:=67) (by kernel_rfl) (by kernel_rfl) (by kernel_rfl) (by kernel_rfl) (show Lib.VarReads Tryz.prog W "refmesh/lexer.keywords" (.slice (kwN.map λs=> .lit (.string s)) [])from r7);have k6:=jr (ss:=syN) (n:=18) (g:=9) (t:=67) (by kernel_rfl) (by kernel_rfl) (by kernel_rfl) (by kernel_rfl) (show Lib.VarReads Tryz.prog W "refmesh/lexer.symbols" (.slice (syN.map λs=> .lit (.string s)) [])from r6)
 exact⟨cell_of_shapedOpen_int hsh (by rw[lr];decide) Dw rfl (by kernel_rfl) (by kernel_rfl) Tryz.underlying3,
  mC (g:=2) (t:=221) (e:=23) (n:=20) (by kernel_rfl) (by kernel_rfl) (by kernel_rfl) (by kernel_rfl) (by kernel_rfl) (by kernel_rfl) (show Lib.VarReads Tryz.prog W "internal/strconv.uint64pow10" (Lib.tabData .u64 Lib.pow10Tab)from r3),
  iO (g:=3) (t:=78) (by kernel_rfl) (by kernel_rfl) Tryz.underlying78 r4,iO (g:=4) (t:=78) (by kernel_rfl) (by kernel_rfl) Tryz.underlying78 r5,k7,k6,by omega,F0 _⟩
def xL{H:Type}:DataW H->List (DataW H)
 | .agg ps=>ps
 |_=>[]
theorem fZ{enc:TypeId×Value->H}{t e N:Nat}(ht:Tryz.prog.underlying t=some (.array N e))(he:Tryz.prog.underlying e=some (.struct fs))(hce:Tryz.prog.cellsOf e=K)
 {ds:List (DataW H)} {p:List MemPlace} (h:DataW.trod enc Tryz.prog w 0 spare held fuel t cs=some (.agg ds,p)) {j:Nat} {parts:List (DataW H)} {d:DataW H} (hi:ds[i]?=some (.agg parts)) (hj:parts[j]?=some d)
 (hf:fs[j]?=some f) (hcf:Tryz.prog.cellsOf f.type=1) (ho:f.offset<K):∃n v p',cs[i*K+f.offset]?=some v/\DataW.trod enc Tryz.prog w 0 spare held n f.type [v]=some (d,p'):=by
 obtain⟨xs,m,_,hx,hl,hxl,hel⟩:=DataW.trod_array ht h;simp only[Prod.mk.injEq,DataW.agg.injEq]at hx;obtain⟨rfl,_⟩:=hx;rw[FN]at hi;obtain⟨y,hy,hyp⟩:=FQ.1 hi;have hiN:i<N:=by rw[<-hxl];exact(Ff.1 hy).1
 have h1:=hel i hiN;rw[hy]at h1;obtain⟨ys,m2,_,hx2,hl2,_,hf2⟩:=DataW.trod_struct he h1;rw[hx2]at hyp;simp only[DataW.agg.injEq]at hyp;subst hyp;rw[FN]at hj;obtain⟨z,hz,hzd⟩:=FQ.1 hj;have h3:=hf2 j f hf;rw[hz,hcf]at h3;rw[hce]at h3 hl2;have hlt:f.offset<((cs.drop (i*K)).take K).length:=by rw[hl2];exact ho
 rw[rE hlt]at h3;refine⟨m2,_,z.2,?_,by rw[h3,<-hzd]⟩;rw[<-Fh hlt,List.getElem?_take_of_lt ho,List.getElem?_drop]
theorem zv{enc:TypeId×Value->H}{n:Nat}{bs:List UInt8}{p:List MemPlace}(h:DataW.trod enc Tryz.prog w 0 spare held n 9 [v]=some (.lit (.string bs),p)):v= .string ⟨bs.toArray⟩:=by
 obtain⟨s,hs,hx,_⟩:=DataW.trod_string Tryz.underlying9 h;simp only[Prod.mk.injEq,DataW.lit.injEq,Lit.string.injEq]at hx;simp only[List.cons.injEq,FC]at hs;rw[hs,hx.1]
theorem nT{enc:TypeId×Value->H}{n:Nat}{z:Int}{p:List MemPlace}(h:DataW.trod enc Tryz.prog w 0 spare held n 3 [v]=some (.lit (.int .i64 z),p)):v= .int .i64 z:=by
 obtain⟨s,hs,hx,_⟩:=DataW.trod_int Tryz.underlying3 h;simp only[Prod.mk.injEq,DataW.lit.injEq,Lit.int.injEq]at hx;simp only[List.cons.injEq,FC]at hs;rw[hs,hx.1.2]
theorem lA{enc:TypeId×Value->H}{n:Nat}{z:Bool}{p:List MemPlace}(h:DataW.trod enc Tryz.prog w 0 spare held n 4 [v]=some (.lit (.bool z),p)):v= .bool z:=by
 obtain⟨s,hs,hx⟩:=DataW.trod_bool Tryz.underlying4 h;simp only[Prod.mk.injEq,DataW.lit.injEq,Lit.bool.injEq]at hx;simp only[List.cons.injEq,FC]at hs;rw[hs,hx.1]
theorem Ct(h:Lib.VarReads Tryz.prog W "refmesh/syntax.operators" Rows.laid_refmesh_syntax_operators)(o:Nat)(ho:o<=12):W.cell? ⟨10,o*2,none⟩=some (.string (bc o))/\W.cell? ⟨10,o*2+1,none⟩=some (.int .i64 (av (o:Int):Nat)):=by
 obtain⟨g,t,cs,fuel,p,h1,h2,h3,h4⟩:=h;obtain rfl:g=10:=(Option.some.inj ((show Tryz.prog.globalNamed "refmesh/syntax.operators"=some 10 by kernel_rfl).symm.trans h1)).symm;obtain rfl:t=310:=(Option.some.inj ((show(Tryz.prog.globals[10]?).map (·.type)=some 310 by kernel_rfl).symm.trans h2)).symm;have hcell:∀i v,cs.toList[i]?=some v->W.cell? ⟨10,i,none⟩=some v:=λi v hv=>(World.var?_cell (show Tryz.prog.globalNamed "refmesh/syntax.operators"=some 10 by kernel_rfl) h3 i).trans (by simpa using hv);obtain⟨ds,hds⟩:∃ds,ds=xL (Rows.laid_refmesh_syntax_operators:DataW Unit):=⟨_,rfl⟩
 have hd:ds[o]?=some (.agg [.lit (.string (bc o).data.toList),.lit (.int .i64 (av (o:Int):Nat))]):=by
  subst hds;have ho':o=0\/o=1\/o=2\/o=3\/o=4\/o=5\/o=6\/o=7\/o=8\/o=9\/o=10\/o=11\/o=12:=by omega
  rcases ho' with rfl|rfl|rfl|rfl|rfl|rfl|rfl|rfl|rfl|rfl|rfl|rfl|rfl<;>rfl
 have h5:DataW.trod (λ_=>()) Tryz.prog W 0 (λ_=>true) false fuel 310 cs.toList=some (.agg ds,p):=by rw[hds];exact h4
 obtain⟨n0,v0,p0,c0,t0⟩:=fZ (K:=2) Tryz.underlying310 Tryz.underlying309 (by kernel_rfl) h5 (i:=o) (j:=0) hd rfl rfl (by kernel_rfl) (by decide);obtain⟨n1,v1,p1,c1,t1⟩:=fZ (K:=2) Tryz.underlying310 Tryz.underlying309 (by kernel_rfl) h5 (i:=o) (j:=1) hd rfl rfl (by kernel_rfl) (by decide);exact⟨(hcell _ _ c0).trans (by rw[zv t0]),(hcell _ _ c1).trans (by rw[nT t1])⟩
theorem tq(h:Lib.VarReads Tryz.prog W "refmesh/syntax.forms" Rows.laid_refmesh_syntax_forms)(k:Nat)(hk:k<=9):∃(a b:Int) (x y z:Bool),[(1,1,true,false,false),(1,1,true,false,false),(2,2,true,false,false),(1,1,false,true,true),(1,1,false,true,false),(1,4611686018427387904,true,false,false),(1,1,false,false,false),(2,2,false,false,false),(2,2,true,false,false),((0:Int),(0:Int),false,false,false)][k]?=some (a,b,x,y,z)/\
 W.cell? ⟨1,k*5,none⟩=some (.int .i64 a)/\W.cell? ⟨1,k*5+1,none⟩=some (.int .i64 b)/\W.cell? ⟨1,k*5+2,none⟩=some (.bool x)/\W.cell? ⟨1,k*5+3,none⟩=some (.bool y)/\W.cell? ⟨1,k*5+4,none⟩=some (.bool z):=by
 obtain⟨g,t,cs,fuel,p,h1,h2,h3,h4⟩:=h;obtain rfl:g=1:=(Option.some.inj ((show Tryz.prog.globalNamed "refmesh/syntax.forms"=some 1 by kernel_rfl).symm.trans h1)).symm;obtain rfl:t=216:=(Option.some.inj ((show(Tryz.prog.globals[1]?).map (·.type)=some 216 by kernel_rfl).symm.trans h2)).symm;have hcell:∀i v,cs.toList[i]?=some v->W.cell? ⟨1,i,none⟩=some v:=λi v hv=>(World.var?_cell (show Tryz.prog.globalNamed "refmesh/syntax.forms"=some 1 by kernel_rfl) h3 i).trans (by simpa using hv);obtain⟨ds,hds⟩:∃ds,ds=xL (Rows.laid_refmesh_syntax_forms:DataW Unit):=⟨_,rfl⟩
 have hd:∃(a b:Int) (x y z:Bool),[(1,1,true,false,false),(1,1,true,false,false),(2,2,true,false,false),(1,1,false,true,true),(1,1,false,true,false),(1,4611686018427387904,true,false,false),(1,1,false,false,false),(2,2,false,false,false),(2,2,true,false,false),((0:Int),(0:Int),false,false,false)][k]?=some (a,b,x,y,z)/\
  ds[k]?=some (.agg [.lit (.int .i64 a),.lit (.int .i64 b),.lit (.bool x),.lit (.bool y),.lit (.bool z)]):=by
  subst hds;have hk':k=0\/k=1\/k=2\/k=3\/k=4\/k=5\/k=6\/k=7\/k=8\/k=9:=by omega
  rcases hk' with rfl|rfl|rfl|rfl|rfl|rfl|rfl|rfl|rfl|rfl<;>exact⟨_,_,_,_,_,rfl,rfl⟩
 obtain⟨a,b,x,y,z,he,hd⟩:=hd;have h5:DataW.trod (λ_=>()) Tryz.prog W 0 (λ_=>true) false fuel 216 cs.toList=some (.agg ds,p):=by rw[hds];exact h4
 obtain⟨n0,v0,p0,c0,t0⟩:=fZ (K:=5) Tryz.underlying216 Tryz.underlying215 (by kernel_rfl) h5 (i:=k) (j:=0) hd rfl rfl (by kernel_rfl) (by decide);obtain⟨n1,v1,p1,c1,t1⟩:=fZ (K:=5) Tryz.underlying216 Tryz.underlying215 (by kernel_rfl) h5 (i:=k) (j:=1) hd rfl rfl (by kernel_rfl) (by decide);obtain⟨n2,v2,p2,c2,t2⟩:=fZ (K:=5) Tryz.underlying216 Tryz.underlying215 (by kernel_rfl) h5 (i:=k) (j:=2) hd rfl rfl (by kernel_rfl) (by decide);obtain⟨n3,v3,p3,c3,t3⟩:=fZ (K:=5) Tryz.underlying216 Tryz.underlying215 (by kernel_rfl) h5 (i:=k) (j:=3) hd rfl rfl (by kernel_rfl) (by decide);obtain⟨n4,v4,p4,c4,t4⟩:=fZ (K:=5) Tryz.underlying216 Tryz.underlying215 (by kernel_rfl) h5 (i:=k) (j:=4) hd rfl rfl (by kernel_rfl) (by decide);exact⟨a,b,x,y,z,he,(hcell _ _ c0).trans (by rw[nT t0]),(hcell _ _ c1).trans (by rw[nT t1]),(hcell _ _ c2).trans (by rw[lA t2]),(hcell _ _ c3).trans (by rw[lA t3]),(hcell _ _ c4).trans (by rw[lA t4])⟩
theorem Da(hL:laidMetH Tryz.prog cp W):GlF W:=by
 rw[MakeChecks.laidMetH_plain _ _ _ (by kernel_rfl)]at hL;have r1:=Lib.laidMet.reads hL (show("refmesh/syntax.operators",Rows.laid_refmesh_syntax_operators)∈cp from by unfold cp Rows.scriptFormatsRow;simp);have r2:=Lib.laidMet.reads hL (show("refmesh/syntax.forms",Rows.laid_refmesh_syntax_forms)∈cp from by unfold cp Rows.scriptFormatsRow;simp);exact⟨Ct r1,tq r2⟩
theorem xt{enc:TypeId×Value->H}{n:Nat}(hc:Tryz.prog.cellsOf t'=K)(h:∃y,DataW.trod enc Tryz.prog w 0 spare held n t' ((cs.drop o).take (Tryz.prog.cellsOf t'))=some y/\Wt t' y.1):
 ∃y,DataW.trod enc Tryz.prog w 0 spare held n t' ((cs.drop o).take K)=some y/\Wt t' y.1:=by
 rwa[hc]at h
theorem DI{enc:TypeId×Value->H}{v0:Value}(hs:∃cs,v0= .agg cs){x:DataW H×List MemPlace}(h:DataW.trod enc Tryz.prog w 0 spare held fuel 35 v0.cells.toList=some x)(hw:Wt 35 x.1):
 ∃(s:Sc) (A:Option Addr) (n c:Nat) (A2:Option Addr) (n2 c2:Nat),v0= .agg #[.int .i64 s.m,.int .u64 s.sd,.int .i64 s.y,.slice A n c,.slice A2 n2 c2]/\Sl eM w (λb=>b<w.heap.size) s.cs A n/\Sl kAd w (λb=>b<w.heap.size) s.ac A2 n2/\
  0<=s.sd/\s.sd<=18446744073709551615/\n2<=140737488355328:=by
 obtain⟨cs,rfl⟩:=hs;obtain⟨L,hcs⟩:=nm_ (cs.toList);change DataW.trod enc Tryz.prog w 0 spare held fuel 35 cs.toList=some x at h;rw[hcs]at h;obtain⟨f1,rfl,hl,hf⟩:=fh Tryz.underlying35 h hw;have hl5:L.length=5:=hl.trans (by kernel_rfl)
 match L,hl5 with
 |[v0,v1,v2,v3,v4],_=>
  obtain⟨y0,t0,w0⟩:=xt (t':=25) (o:=0) (K:=3) (by kernel_rfl) (hf 0 _ rfl);obtain⟨y1,t1,w1⟩:=xt (t':=28) (o:=3) (K:=1) (by kernel_rfl) (hf 1 _ rfl);change DataW.trod enc Tryz.prog w 0 spare held f1 25 [v0,v1,v2]=some y0 at t0;change DataW.trod enc Tryz.prog w 0 spare held f1 28 [v3]=some y1 at t1;obtain⟨f2,rfl,hl2,hf2⟩:=fh Tryz.underlying25 t0 w0;obtain⟨f3,hf3',hl3,hf3⟩:=fh Tryz.underlying28 t1 w1;obtain⟨y2,t2,w2⟩:=bg (o:=4) (hf 2 _ rfl);obtain⟨z0,s0,_⟩:=bg (o:=0) (hf2 0 _ rfl);obtain⟨z1,s1,_⟩:=bg (o:=1) (hf2 1 _ rfl);obtain⟨z2,s2,_⟩:=bg (o:=2) (hf2 2 _ rfl);obtain⟨z3,s3,w3⟩:=bg (o:=0) (hf3 0 _ rfl);obtain⟨m,hm,_,_⟩:=DataW.trod_int Tryz.underlying3 s0;obtain⟨sd,hsd,_,hwf⟩:=DataW.trod_int Tryz.underlying23 s1;obtain⟨y,hy,_,_⟩:=DataW.trod_int Tryz.underlying3 s2;obtain⟨A,n,c,xs,h3,hs3,_,_⟩:=it eM Tryz.underlying26 s3 w3 (λa b z _ e f=>Ej e f);obtain⟨A2,n2,c2,ds,h4,hs4,_,hb⟩:=it kAd Tryz.underlying29 t2 w2 (λa b z _ e f=>Et e f);simp only[List.getElem_cons_succ,List.getElem_cons_zero,List.cons.injEq,FC]at hm hsd hy h3 h4;subst hm hsd hy h3 h4;have hb2:0<=sd/\sd<=18446744073709551615:=by simpa[Lit.wf,IntKind.min,IntKind.max,IntKind.signed,IntKind.bits]using hwf
  refine⟨⟨m,sd,y,xs,ds⟩,A,n,c,A2,n2,c2,?_,hs3,hs4,hb2.1,hb2.2,hb⟩
  congr 1
  exact Array.toList_inj.1 hcs
end
end Go.Proofs.YtjpbckbpeblibaaGreatDoor
