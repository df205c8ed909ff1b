/- part of a proof -/
import Derived.Test.YtjpbckbpeblibaaGreatDoorJJ18
import Derived.Deep.MidRow
namespace Go.Proofs.YtjpbckbpeblibaaGreatDoor
set_option linter.unusedVariables false
set_option linter.unusedSimpArgs false
set_option maxRecDepth 100000
set_option maxHeartbeats 64000000
section
open Go.RowKit
variable{W W' w w':World}{j:Nat}{v:Option Value}{xs:Nat->Option Value}
def fmT(x:Sc):List UInt8:=if gO x=true then en x++tAc x.ac else[]
theorem zN(n:Int)(w:World)(hn:I64 n)(hg:Gl w):Hid (Calls Tryz.prog 32 #[.int .i64 n] w λe w'=>e= .returned (.string (ba (Lib.itoa n)))/\Below w.heap.size w w'):=H_ (om n w hn hg)
theorem Cf(u:Nat)(w:World)(hn:U64 u)(hg:Gl w):Hid (Calls Tryz.prog 33 #[.int .u64 u,.int .i64 10] w λe w'=>e= .returned (.string (ba (Lib.decDigits u)))/\Below w.heap.size w w'):=H_ (q9 u hn w hg)
theorem uX(x:Sc)(l:List UInt8):en x++l≠[]:=by unfold en i6;simp
theorem xd(x:Sc)(A:Option Addr)(n c:Nat)(A2:Option Addr)(n2 c2:Nat)(w:World)(N:Nat)(hs:Sl eZ w (λb=>b<N) x.cs A n)(hs2:Sl kAd w (λb=>b<N) x.ac A2 n2)(hN:N<=w.heap.size)(hg:Gl w)(hf:GlF w)(hcap:Cap w N)
 (h0:0<=x.sd) (h1:x.sd<=18446744073709551615) (hz:gO x=true->lsz csz x.cs<=900/\x.ac.length<=1000):
 Calls Tryz.prog 13 #[.agg #[.int .i64 x.m,.int .u64 x.sd,.int .i64 x.y,.slice A n c,.slice A2 n2 c2]] w λe w'=>e= .returned (.string (ba (fmT x)))/\Below w.heap.size w w':=by
 have hbig:=hg.big;obtain⟨g,hgz⟩:=nm_ (w.heap.size);obtain⟨W1,hW1⟩:=nm_ (w.alloc (.cells #[.int .i64 x.m,.int .u64 x.sd,.int .i64 x.y,.slice A n c,.slice A2 n2 c2] 31));have HT:=hng hW1 hgz;have HB1:=hba hW1;have hs1:W1.heap.size=g+1:=by rw[<-hW1,Dk,hgz]
 have HGl:=H_ (hg.below HB1.out);have HF:=H_ (hf.below HB1.out hbig);have HS1:Hid (Sl eZ W1 (λb=>b<N) x.cs A n):=H_ (hs.aA λb hb=>⟨hb,HB1.out.block b (by omega)⟩);have HS2:Hid (Sl kAd W1 (λb=>b<N) x.ac A2 n2):=H_ (hs2.aA λb hb=>⟨hb,HB1.out.block b (by omega)⟩);have HCP:Hid (Cap W1 N):=H_ (hcap.aA λb hb=>HB1.out.block b (by omega));have HV:=H_ (yd x A n c A2 n2 c2 W1 _ HS1.out HS2.out (λb hb=>by omega) HGl.out HF.out);have hln:x.ac.length=n2:=hs2.1;have hnb:n2<=1152921504606846976:=hs2.2.1;have HW:=H_ hW1;obtain⟨vb,hvb⟩:=nm_ (gO x);have hft:fmT x=if vb=true then en x++tAc x.ac else[]:=by rw[<-hvb];rfl
 have HFT:=H_ hft;have HVB:=H_ hvb;have HZ:=H_ hz;rw[hvb]at HV;have HSD:=H_ (And.intro h0 h1);obtain⟨u,hu⟩:=Dw h0;have HU:=H_ hu;obtain⟨m,hm⟩:=nm_ (x.m);obtain⟨y,hy⟩:∃m,x.y=m:=⟨_,rfl⟩;have HM:=H_ (And.intro hm hy);rw[hm,hy,hu]at HT HW HV⊢;obtain⟨q0,q1,q2,q3,q4⟩:=HT.out.c5;clear hs hs2 hg hf hcap h0 h1 hz hvb hft hW1 hm hy hu;go_enter Tryz.func13,Tryz.ntmps13;rw[hgz];go_upto_region 1 with fail;rw[HW.out];go_wp2_with fail;refine HV.out.mono ?_;rintro r w2 ⟨rfl,b2⟩;have hs2:=b2.size;have HB2:=H_ (HB1.out.trans (b2.mono (by omega)));have HT2:=hbl HT b2;have HS1':Hid (Sl eZ w2 (λb=>b<N) x.cs A n):=H_ (HS1.out.aA λb hb=>⟨hb,b2.block b (by omega)⟩);have HS2':Hid (Sl kAd w2 (λb=>b<N) x.ac A2 n2):=H_ (HS2.out.aA λb hb=>⟨hb,b2.block b (by omega)⟩);have HCP2:Hid (Cap w2 N):=H_ (HCP.out.aA λb hb=>b2.block b (by omega));have HGl2:=H_ (HGl.out.below b2);have HF2:=H_ (HF.out.below b2 (by omega));clear b2 HV q0 q1 q2 q3 q4 HB1 HS1 HS2 HCP HGl HF;cases vb with
 |false=>
  rw[Dg (by decide)]at HFT;go_wp2_with fail;go_ret;exact⟨by rw[HFT.out];rfl,hgz▸HB2.out⟩
 |true=>
  rw[Dq rfl]at HFT;have hv:=VSc.of HVB.out HSD.out.1 HSD.out.2;obtain⟨hcz,hacl⟩:=HZ.out HVB.out;have hth:=tA hv hcz;have hta:=sn x.ac hv.ac;have htp:=si hv.cs hcz
  have hle1:(i6++Lib.itoa m++[10]).length<=60:=by
   have:=dI (n:=m) (by have:=hv.m1;have:=hv.m8;have:=HM.out.1;unfold I64;omega);simp[i6];omega
  have hle2:(iN++Lib.decDigits u++[10]).length<=60:=by
   have:=qi (u:=u) (by have:=HSD.out.2;have:=HU.out;omega);simp[iN];omega
  have hle3:(fN++Lib.itoa y++kM).length<=60:=by
   have:=dI (n:=y) (by have:=hv.y0;have:=hv.y1;have:=HM.out.2;unfold I64;omega);simp[fN,kM];omega
  have hI1:I64 m:=by have:=hv.m1;have:=hv.m8;have:=HM.out.1;unfold I64;omega
  have hI2:I64 y:=by have:=hv.y0;have:=hv.y1;have:=HM.out.2;unfold I64;omega
  have hU:U64 u:=by have:=HSD.out.2;have:=HU.out;unfold U64;omega
  have hTH:en x=i6++Lib.itoa m++[10]++(iN++Lib.decDigits u++[10])++(fN++Lib.itoa y++kM)++(tPr x.cs++nZ):=by unfold en;rw[HM.out.1,HM.out.2,HU.out];rfl
  have HTH:=H_ hTH;have HVS:=H_ hv;obtain⟨p,hp⟩:=nm_ (w2.heap.size);obtain⟨W3,hW3⟩:=nm_ (w2.alloc (.cells #[.pointer none,.slice none 0 0] 58));have HP3:=hng hW3 hp;have HB3:=hba hW3;have hs3:W3.heap.size=p+1:=by rw[<-hW3,Dk,hp]
  have HPW:Hid (BW W3 (p+1) p []):=H_ ⟨⟨_,_,HP3.out,.inl rfl,Eu _ _ _ _⟩,by omega,by omega⟩;have HT3:=H_ (HT2.out.al hW3);have HS3:Hid (Sl eZ W3 (GB (p+1) p N) x.cs A n):=H_ (HS1'.out.aA λb hb=>⟨⟨by omega,by omega,hb⟩,HB3.out.block b (by omega)⟩);have HA3:Hid (Sl kAd W3 (GB (p+1) p N) x.ac A2 n2):=H_ (HS2'.out.aA λb hb=>⟨⟨by omega,by omega,hb⟩,HB3.out.block b (by omega)⟩);have HG3:Hid (GP W3 p N):=H_ ⟨GlB.below (hp▸HGl2.out) (hp▸HB3.out),HF2.out.below HB3.out (by omega),by omega,HCP2.out.aA λb hb=>HB3.out.block b (by omega)⟩;have HW3:=H_ hW3;have hgp:g≠p:=by omega
  obtain⟨q0,q1,q2,q3,q4⟩:=HT3.out.c5;have C1:=zN m W3 hI1 HG3.out.g.gl;have a1:=iJ ⟨#[109,97,99,104,105,110,101,115,32]⟩ (ba (Lib.itoa m)) i6 (Lib.itoa m) rfl rfl (by simp only[D7]at hle1;omega);have a2:=iJ (ba (i6++Lib.itoa m)) ⟨#[10]⟩ (i6++Lib.itoa m) [10] rfl rfl (by rw[<-D7];omega);clear hW3 hTH hv HP3;go_upto_region 4 with fail;rw[HW3.out];go_wp2_with fail;refine C1.out.mono ?_;rintro r w4 ⟨rfl,b4⟩;have HL4:Hid (Lk (p+1) p W3 w4):=H_ (Lk.al b4);have CW:=(HPW.out.below b4).wr (i6++Lib.itoa m++[10]) (by simp only[Dc];omega);clear b4 C1;go_wp2_with fail;refine CW.out.mono ?_;rintro r w5 ⟨rfl,l5,p5⟩;have HL5:=H_ (HL4.out.trans l5);have HP5:=H_ p5;have hs5:=HL5.out.size;obtain⟨q0,q1,q2,q3,q4⟩:=(HT3.out.lk HL5.out hgp).c5;have C2:=Cf u w5 hU (HG3.out.lk HL5.out (by omega)).g.gl;have a1:=iJ ⟨#[115,101,101,100,32]⟩ (ba (Lib.decDigits u)) iN (Lib.decDigits u) rfl rfl (by simp only[D7]at hle2;omega);have a2:=iJ (ba (iN++Lib.decDigits u)) ⟨#[10]⟩ (iN++Lib.decDigits u) [10] rfl rfl (by rw[<-D7];omega);clear l5 p5 CW HL4;go_wp2_with fail;refine C2.out.mono ?_;rintro r w6 ⟨rfl,b6⟩;have HL6:=H_ (HL5.out.trans (Lk.al b6));have CW:=(HP5.out.below b6).wr (iN++Lib.decDigits u++[10]) (by rw[DY];omega);clear b6 C2;go_wp2_with fail;refine CW.out.mono ?_;rintro r w7 ⟨rfl,l7,p7⟩;have HL7:=H_ (HL6.out.trans l7);have HP7:=H_ p7;have hs7:=HL7.out.size;obtain⟨q0,q1,q2,q3,q4⟩:=(HT3.out.lk HL7.out hgp).c5;have C3:=zN y w7 hI2 (HG3.out.lk HL7.out (by omega)).g.gl;have a1:=iJ ⟨#[121,111,117,110,103,32]⟩ (ba (Lib.itoa y)) fN (Lib.itoa y) rfl rfl (by simp only[D7]at hle3;omega);have a2:=iJ (ba (fN++Lib.itoa y)) ⟨#[10,112,114,111,103,114,97,109,10]⟩ (fN++Lib.itoa y) kM rfl rfl (by rw[<-D7];omega);clear l7 p7 CW HL6 HL5 HP5;go_wp2_with fail;refine C3.out.mono ?_;rintro r w8 ⟨rfl,b8⟩;have HL8:=H_ (HL7.out.trans (Lk.al b8));have CW:=(HP7.out.below b8).wr (fN++Lib.itoa y++kM) (by rw[DY,D7];omega);clear b8 C3;go_wp2_with fail;refine CW.out.mono ?_;rintro r w9 ⟨rfl,l9,p9⟩;have HL9:=H_ (HL8.out.trans l9);have HP9:=H_ p9;have hs9:=HL9.out.size;obtain⟨q0,q1,q2,q3,q4⟩:=(HT3.out.lk HL9.out hgp).c5;have hG9:=HG3.out.lk HL9.out (by omega)
  have C4:Hid (Calls Tryz.prog 34 #[.agg #[.slice A n c]] w9 λe w'=>e= .returned (.string (ba (tPr x.cs)))/\Below w9.heap.size w9 w'):=by
   have h1:=Aq x.cs A n c w9 N ((HS3.out.lk HL9.out (by omega)).aA λb hb=>⟨hb.2.2,rfl⟩) (by omega) hG9.g.gl hG9.f hG9.cap (λcl hc=>by
    obtain⟨k,hk⟩:=Eb hc;have:=cO csz hk;omega) (λ_=>by rw[xQ];omega)
   unfold pgT at h1;rw[Dq HVS.out.cs]at h1;exact H_ h1
  have a1:=iJ (ba (tPr x.cs)) ⟨#[101,110,100,10]⟩ (tPr x.cs) nZ rfl rfl (by simp[nZ];omega);obtain⟨P,hP⟩:=nm_ (tPr x.cs);rw[hP]at C4 a1 htp HTH;clear l9 p9 CW HL8 HL7 HP7 a2 hG9 hP;go_wp2_with fail;refine C4.out.mono ?_;rintro r w10 ⟨rfl,b10⟩;have HL10:=H_ (HL9.out.trans (Lk.al b10))
  have CW:=(HP9.out.below b10).wr (P++nZ) (by
   have he:(P++nZ).length=P.length+4:=by simp[nZ]
   rw[DY,D7,D7];omega)
  rw[DY]at CW;have HTHs:=HTH;rw[<-HTH.out]at CW;clear b10 C4;go_wp2_with fail;refine CW.out.mono ?_;rintro r w11 ⟨rfl,l11,p11⟩;have HL11:=H_ (HL10.out.trans l11);have HP11:=H_ p11;have hs11:=HL11.out.size;obtain⟨q0,q1,q2,q3,q4⟩:=(HT3.out.lk HL11.out hgp).c5;clear l11 p11 CW HL10 HL9 HP9 a1 HTHs HTH;go_wp2_with fail;clear q0 q1 q2 q3 q4;go_loopw [38] (λi wr=>∃k:Nat,k<=n2/\i= .int .i64 k/\Hid (Lk (p+1) p W3 wr)/\Hid (BW wr (p+1) p (en x++tAc (x.ac.take k)))) (λi _=>n2-(intOf i).toNat)
  case atStart=>exact⟨0,Do _,rfl,HL11,H_ (by simpa[tAc]using HP11.out)⟩
  case round=>
   clear HL11 HP11;obtain⟨k,hk,rfl,HL,HP⟩:=hrel;have hsr:=HL.out.size;by_cases hkm:k<n2
   ·have hkz:(k:Int)<(n2:Int):=by omega
    obtain⟨b,off,d,cs,rfl,hgb,ha,hrd,hat⟩:=(HA3.out.lk HL.out (by omega)).at_ hkm;obtain⟨v,rfl,hrv,-,-,hvn,hvn2⟩:=lw hrd (λq hq=>by have:=hq.1;omega);have hvd:=HVS.out.ac d (Dj ha);obtain⟨hwf,w1,w2',w3',w4'⟩:=jk hvd;have hfl:=qc hvd;have htk:=vk ha;have hmono:(tAc (x.ac.take k)).length<=(tAc x.ac).length:=gA _ _ _;have HTK:=H_ htk;obtain⟨d0,d1,d2,d3,d4,d5,d6⟩:=At.e7 hat
    obtain⟨r,hr⟩:=nm_ (wr.heap.size);obtain⟨w3,hw3⟩:=nm_ (wr.alloc (.cells v.cells 48));have HA:=hng hw3 hr;have hs3':w3.heap.size=r+1:=by rw[<-hw3,Dk,hr]
    have HL3:=H_ (HL.out.trans (Lk.al (bal hw3)));have HP3:=H_ (HP.out.below (bal hw3));have hnm:v.nm=d.nm:=hrv.nm;have hmt:v.mt=d.mt:=hrv.mt
    have HC:Hid (Calls Tryz.prog 17 #[.agg v.cells] w3 λe w'=>e= .returned (.string (ba (ej d)))/\Below w3.heap.size w3 w'):=
     H_ (sY v d w3 ((hrv.below (bal hw3)).more (by omega)) (HG3.out.lk HL3.out (by omega)).g.gl (by omega) (by omega) (by rw[hnm];omega) (by rw[hmt];omega) hwf)
    obtain⟨x0,x1,x2,x3,x4,x5,x6⟩:=HA.out.v7;obtain⟨E,hE⟩:=nm_ (ej d);obtain⟨Q,hQ⟩:=nm_ (tAc (x.ac.take k));rw[hE]at HC hfl HTK;rw[hQ]at HP3 HTK hmono;have a1:=iJ (ba E) ⟨#[10]⟩ E [10] rfl rfl (by simp;omega);have HW3:=H_ hw3;clear ha hat hrd hrv hgb hw3 htk HP HL hvd hwf hnm hmt hE hQ hvn hvn2;unfold Av.cells at*
    go_upto_region 11 with fail;rw[HW3.out];go_wp2_with fail;refine HC.out.mono ?_;rintro e w4 ⟨rfl,b4⟩;have HL4:=H_ (HL3.out.trans (Lk.al b4));have CW:=(HP3.out.below b4).wr (E++[10]) (by simp only[D7,Da,Dc];omega);clear b4 HC HL3 HP3;go_wp2_with fail;refine CW.out.mono ?_;rintro e w5 ⟨rfl,l5,p5⟩;have HL5:=H_ (HL4.out.trans l5);have HP5:=H_ p5;clear l5 p5 CW HL4;go_wp2_with fail;go_roundw
    case rel=>exact⟨k+1,by omega,by go_num,HL5,H_ (by rw[HTK.out,<-Dp];exact HP5.out)⟩
    case measure=>simp[intOf];omega
   ·obtain rfl:k=n2:=by omega
    rw[Dd (by omega)]at HP;have HC:=H_ (HP.out.str (uX x _) (by rw[D7];omega));have HLB:=H_ HL.out;clear HP HL;go_wp2_with fail;refine HC.out.mono ?_;rintro e w4 ⟨rfl,l4⟩;have HE:Hid (Below g w w4):=H_ (hgz▸(HB2.out.trans ((HB3.out.mono (by omega)).trans ((HLB.out.trans l4).below (by omega) (by omega) (by omega)))));clear l4 HC;go_wp2_with fail;go_ret;exact⟨by rw[HFT.out];rfl,HE.out⟩
theorem xy(m sd y:Int)(w:World):Calls Tryz.prog 41 #[.agg #[.int .i64 m,.int .u64 sd,.int .i64 y]] w λe w'=>e= .returned (.bool (decide (1<=m/\m<=8/\0<=y/\y<=1099511627776)))/\Below w.heap.size w w':=by
 obtain⟨g,hz⟩:=nm_ (w.heap.size);obtain⟨W0,hW0⟩:=nm_ (w.alloc (.cells #[.int .i64 m,.int .u64 sd,.int .i64 y] 25));have HQ:=hng hW0 hz;have HB0:Hid (Below g w W0):=H_ (hz▸(hba hW0).out)
 have HA:Hid (decide (1<=m/\m<=8/\0<=y/\y<=1099511627776)=(bn m&&countB y)):=H_ (by
  unfold bn countB;rw[Bool.eq_iff_iff];simp[and_assoc])
 have HC1:Hid (∀W,Calls Tryz.prog 71 #[.int .i64 m] W λe w'=>e= .returned (.bool (bn m))/\W=w'):=H_ (km m);have HC2:Hid (∀W,Calls Tryz.prog 72 #[.int .i64 y] W λe w'=>e= .returned (.bool (countB y))/\W=w'):=H_ (lz y);generalize bn m=vm at*
 generalize countB y=vy at*
 obtain⟨q0,q1,q2⟩:=HQ.out.c3;have HW:=H_ hW0;clear hW0;go_enter Tryz.func41,Tryz.ntmps41;rw[hz];go_upto_region 1 with fail;rw[HW.out]
 go_wp2_with (first
  |(go_at_call 71;refine(HC1.out _).mono ?_;rintro r w3 ⟨rfl,rfl⟩)
  |(go_at_call 72;refine(HC2.out _).mono ?_;rintro r w3 ⟨rfl,rfl⟩))
 all_goals
  go_ret;refine⟨aa ?_,HB0.out⟩;rw[HA.out];simp[*]
theorem ye(x:Sc)(A:Option Addr)(n c:Nat)(A2:Option Addr)(n2 c2:Nat)(w:World)(G:Nat->Prop)(hs:Sl eZ w G x.cs A n)(hs2:Sl kAd w G x.ac A2 n2)(hG:∀b,G b->b<w.heap.size):
 Calls Tryz.prog 16 #[.agg #[.int .i64 x.m,.int .u64 x.sd,.int .i64 x.y,.slice A n c,.slice A2 n2 c2]] w λr w'=>r= .returned (.bool (gO x))/\Below w.heap.size w w':=by
 obtain⟨g,hz⟩:=nm_ (w.heap.size);obtain⟨W0,hW0⟩:=nm_ (w.alloc (.cells #[.int .i64 x.m,.int .u64 x.sd,.int .i64 x.y,.slice A n c,.slice A2 n2 c2] 35));have HQ:=hng hW0 hz;have HB0:=hba hW0;have hs0:W0.heap.size=g+1:=by rw[<-hW0,Dk,hz]
 have HBZ:Hid (Below g w W0):=H_ (hz▸HB0.out);have HS:=H_ (hs.aA (G':=G) (w':=W0) (λb hb=>⟨hb,HB0.out.block b (hG b hb)⟩));have HS2:=H_ (hs2.aA (G':=G) (w':=W0) (λb hb=>⟨hb,HB0.out.block b (hG b hb)⟩));have HG:=H_ (show∀b,G b->b<W0.heap.size from λb hb=>by have:=hG b hb;omega);have hnb:n2<=1152921504606846976:=hs2.2.1;have hln:x.ac.length=n2:=hs2.1;have HW:=H_ hW0;have hvs:gO x=(x.ac.all aN&&(mJ x&&vPr x.cs)):=rfl;have HVS:=H_ hvs;obtain⟨m,hm⟩:=nm_ (x.m);obtain⟨sd,hsd⟩:∃m,x.sd=m:=⟨_,rfl⟩;obtain⟨y,hy⟩:∃m,x.y=m:=⟨_,rfl⟩;have hcf:mJ x=decide (1<=m/\m<=8/\0<=y/\y<=1099511627776):=by unfold mJ;rw[hm,hy]
 rw[hm,hsd,hy]at HQ HW⊢;have HC1:Hid (∀W,Calls Tryz.prog 41 #[.agg #[.int .i64 m,.int .u64 sd,.int .i64 y]] W λe w'=>e= .returned (.bool (mJ x))/\Below W.heap.size W w'):=H_ λW=>by rw[hcf];exact xy m sd y W
 have HC2:Hid (∀W,Below W0.heap.size W0 W->Calls Tryz.prog 42 #[.agg #[.slice A n c]] W λr w'=>r= .returned (.bool (vPr x.cs))/\Below W.heap.size W w'):=H_ λW hW=>
  yc x.cs A n c W G (HS.out.aA λb hb=>⟨hb,hW.block b (HG.out b hb)⟩) (λb hb=>by have:=HG.out b hb;have:=hW.size;omega)
 generalize mJ x=vc at*
 generalize vPr x.cs=vp at*
 generalize gO x=vb at*
 clear hs hs2 hG hW0 HB0 hcf hvs hm hsd hy;go_enter Tryz.func16,Tryz.ntmps16;rw[hz];go_upto_region 1 with fail;rw[HW.out];go_wp2_with fail;go_loopw [3] (λi wr=>∃k:Nat,k<=n2/\i= .int .i64 k/\Hid (Below W0.heap.size W0 wr)/\Hid ((x.ac.take k).all aN=true)) (λi _=>n2-(intOf i).toNat)
 case atStart=>exact⟨0,Do _,rfl,H_ (Db _ _),H_ rfl⟩
 case round=>
  obtain⟨k,hk,rfl,HB,HV⟩:=hrel;have hsr:=HB.out.size;obtain⟨q0,q1,q2,q3,q4⟩:=(HQ.out.below HB.out (by omega)).c5;by_cases hkm:k<n2
  ·have hkz:(k:Int)<(n2:Int):=by omega
   have hS2:=HS2.out.aA (G':=G) (w':=wr) (λb hb'=>⟨hb',HB.out.block b (HG.out b hb')⟩);obtain⟨b,off,d,cs,rfl,hgb,hx,hrd,hat⟩:=hS2.at_ hkm;obtain⟨v,rfl,hrv,hvn,hvn2,-,-⟩:=lw hrd (λq hq=>by have:=HG.out q hq;omega);have HX:=H_ hx;obtain⟨d0,d1,d2,d3,d4,d5,d6⟩:=At.e7 hat
   have HC:=H_ (zX v d wr hrv hvn hvn2);obtain⟨bd,hbd⟩:=nm_ (aN d);rw[hbd]at HC;have HVD:=H_ hbd;clear hx hat hS2 hrd hrv hgb hbd;unfold Av.cells at*
   go_wp2_with fail;refine HC.out.mono ?_;rintro r w4 ⟨rfl,b4⟩;have HB4:=htr HB b4;clear b4 HC HB;cases bd with
   |false=>
    have HE:=H_ (HBZ.out.trans (HB4.out.mono (by omega)));go_wp2_with fail;go_ret;exact⟨aa (by rw[HVS.out,bc HX.out HVD.out,Bool.false_and]),HE.out⟩
   |true=>
    go_wp2_with fail;go_roundw
    case rel=>exact⟨k+1,by omega,by go_num,HB4,H_ (by rw[bq HX.out,HV.out,HVD.out];rfl)⟩
    case measure=>simp[intOf];omega
  ·obtain rfl:k=n2:=by omega
   rw[Dd (by omega)]at HV;have HA:Hid (vb=(vc&&vp)):=H_ (by rw[HVS.out,HV.out,ED]);clear HV HVS
   go_wp2_with (first
    |(go_at_call 41;refine(HC1.out _).mono ?_;rintro r w3 ⟨rfl,b3⟩;have HB:=htr HB b3;clear b3;have hsz:=HB.out.size;obtain⟨q0,q1,q2,q3,q4⟩:=(HQ.out.below HB.out (by omega)).c5)
    |(go_at_call 42;refine(HC2.out _ HB.out).mono ?_;rintro r w3 ⟨rfl,b3⟩;have HB:=htr HB b3;clear b3;have hsz:=HB.out.size;obtain⟨q0,q1,q2,q3,q4⟩:=(HQ.out.below HB.out (by omega)).c5))
   all_goals
    go_ret;refine⟨aa ?_,HBZ.out.trans (HB.out.mono (by omega))⟩;rw[HA.out];simp[*]
def gp(N:Int)(s:Nat)(w:World)(r:Ending)(w':World):Prop:=∃z:Int,r= .returned (.int .i64 z)/\ -2305843009213693952<=z/\z<=N/\(0<=z->(s:Int)+z<=N)/\Below w.heap.size w w'
theorem AN:∀(m:Nat) (e:Ex) (cs:List Value) (w:World) (G:Nat->Prop) (N:Int),esz e<=m->ExK w G e cs->(∀b,G b->b<w.heap.size)->0<=N->N<=1000->
 Calls Tryz.prog 96 #[.agg cs.toArray,.int .i64 N] w (gp N (esz e) w):=by
 intro m;induction m with
 |zero=>intro e cs w G N hm;have:=bS e;omega
 |succ m ih=>
  intro e cs w G N hm hr hG hN0 hN1;obtain⟨xk,xo,xz,xn,xa,args⟩:=e;obtain⟨A,n,c,rfl,hs⟩:=ExK.inv hr;rw[dP]at hm⊢;have hln:=hs.1;have hnb:n<=1152921504606846976:=hs.2.1;obtain⟨g,hz⟩:=nm_ (w.heap.size);obtain⟨W0,hW0⟩:=nm_ (w.alloc (.cells #[.int .i64 xk,.int .i64 xo,.int .i64 xz,.string xn,.bool xa,.slice A n c] 172));have HQ:=hng hW0 hz;have HB0:=hba hW0;have hs0:W0.heap.size=g+1:=by rw[<-hW0,Dk,hz]
  have HS:=H_ (hs.aA (G':=G) (w':=W0) (λb hb=>⟨hb,HB0.out.block b (hG b hb)⟩));have HG:=H_ (show∀b,G b->b<W0.heap.size from λb hb=>by have:=hG b hb;omega);have HBZ:Hid (Below g w W0):=H_ (hz▸HB0.out);have HIH:=H_ ih;have HW:=H_ hW0;obtain⟨q0,q1,q2,q3,q4,q5⟩:=HQ.out.c6;clear ih hs hG hr hW0 HB0;unfold gp;go_enter Tryz.func96,Tryz.ntmps96;rw[hz];go_upto_region 1 with fail;rw[HW.out];by_cases h40:(40:Int)<(xn.size:Int)
  ·go_wp2_with fail;go_ret;exact⟨-1,rfl,by omega,by omega,λh=>by omega,HBZ.out⟩
  ·go_wp2_with fail;go_loopw [1,5] (λu i wr=>∃(k:Nat) (z:Int),k<=n/\i= .int .i64 k/\u= .int .i64 z/\ -2305843009213693952<=z/\z<=N-1/\(0<=z->((1+lsz esz (args.take k):Nat):Int)+z<=N)/\Hid (Below W0.heap.size W0 wr)) (λ_ i _=>n-(intOf i).toNat)
   case atStart=>exact⟨0,N-1,Do _,rfl,rfl,by omega,by omega,λh=>by simp[lsz];omega,H_ (Db _ _)⟩
   case round=>
    obtain⟨k,z,hk,rfl,rfl,hz0,hz1,hz2,HB⟩:=hrel;have hsr:=HB.out.size;obtain⟨q0,q1,q2,q3,q4,q5⟩:=(HQ.out.below HB.out (by omega)).c6;by_cases hkm:k<n/\0<=z
    ·obtain⟨hkm,hzz⟩:=hkm;have hkz:(k:Int)<(n:Int):=by omega
     have hS2:=HS.out.aA (G':=G) (w':=wr) (λb hb'=>⟨hb',HB.out.block b (HG.out b hb')⟩);obtain⟨b,off,x,cs,rfl,hgb,hx,hrd,hat⟩:=hS2.at_ hkm;have hsz:=cO esz hx;have htk:=dF esz args hx;have HC:=H_ (HIH.out x _ wr G z (by omega) hrd (λq hq=>by have:=HG.out q hq;omega) hzz (by omega));unfold gp at HC;obtain⟨yk,yo,yz,yn,ya,args2⟩:=x;obtain⟨A2,n2,c2,rfl,hsa⟩:=ExK.inv hrd;obtain⟨d0,d1,d2,d3,d4,d5⟩:=At.e6 hat
     generalize esz (.mk yk yo yz yn ya args2)=sx at*
     clear hat hrd hsa hS2 hx hgb q0 q1 q2 q3 q4;go_wp2_with fail;refine HC.out.mono ?_;rintro r w1 ⟨z',rfl,hz3,hz4,hz5,b1⟩;have B1:=htr HB b1;have HTK:=H_ htk;clear b1 HB HC htk;go_wp2_with fail;go_roundw
     case rel=>exact⟨k+1,z',by omega,by go_num,rfl,hz3,by omega,λh=>by have:=hz5 h;have:=hz2 hzz;have:=HTK.out;omega,B1⟩
     case measure=>simp[intOf];omega
    ·have HE:Hid (Below g w wr):=H_ (HBZ.out.trans (HB.out.mono (by omega)))
     have hfin:0<=z->((1+lsz esz args:Nat):Int)+z<=N:=λh=>by
      have h1:k=n:=by omega
      have h2:=hz2 h;rwa[Dd (by omega)]at h2
     have HFIN:=H_ hfin
     clear hfin hz2;by_cases hkm2:k<n
     ·have hkz:(k:Int)<(n:Int):=by omega
      have hzz:¬(0:Int)<=z:=by omega
      go_wp2_with fail;go_ret;exact⟨z,rfl,hz0,by omega,HFIN.out,HE.out⟩
     ·have hkz:¬(k:Int)<(n:Int):=by omega
      go_wp2_with fail;go_ret;exact⟨z,rfl,hz0,by omega,HFIN.out,HE.out⟩
theorem AO:∀(m:Nat) (xs:List St) (A:Option Addr) (n c:Nat) (w:World) (G:Nat->Prop) (N:Int),lsz ssz xs<m->Sl gx w G xs A n->(∀b,G b->b<w.heap.size)->0<=N->N<=1000->
 Calls Tryz.prog 60 #[.slice A n c,.int .i64 N] w (gp N (lsz ssz xs) w):=by
 intro m;induction m with
 |zero=>intro xs A n c w G N hm;omega
 |succ m ih=>
  intro xs A n c w G N hm hs hG hN0 hN1;have hln:=hs.1;have hnb:n<=1152921504606846976:=hs.2.1;have HS:=H_ hs;have HG:=H_ hG;have HIH:=H_ ih;clear ih hs hG;unfold gp;go_enter Tryz.func60,Tryz.ntmps60;go_wp2_with fail;go_loopw [1,5] (λu i wr=>∃(k:Nat) (z:Int),k<=n/\i= .int .i64 k/\u= .int .i64 z/\ -2305843009213693952<=z/\z<=N/\(0<=z->((lsz ssz (xs.take k):Nat):Int)+z<=N)/\Hid (Below w.heap.size w wr)) (λ_ i _=>n-(intOf i).toNat)
  case atStart=>exact⟨0,N,Do _,rfl,rfl,by omega,by omega,λh=>by simp[lsz],H_ (Db _ _)⟩
  case round=>
   obtain⟨k,z,hk,rfl,rfl,hz0,hz1,hz2,HB⟩:=hrel;have hsr:=HB.out.size;by_cases hkm:k<n/\0<=z
   ·obtain⟨hkm,hzz⟩:=hkm;have hkz:(k:Int)<(n:Int):=by omega
    have hS2:=HS.out.aA (G':=G) (w':=wr) (λb hb'=>⟨hb',HB.out.block b (HG.out b hb')⟩);obtain⟨b,off,x,cs,rfl,hgb,hx,hrd,hat⟩:=hS2.at_ hkm;have hsz:=cO ssz hx;have htk:=dF ssz xs hx;have hz2':=hz2 hzz;obtain⟨yk,yn,ex,bo,el⟩:=x;obtain⟨A1,n1,c1,A2,n2,c2,A3,n3,c3,rfl,hs1,hs2,hs3⟩:=StK.inv hrd;have hnb1:n1<=1152921504606846976:=hs1.2.1;have hln1:ex.length=n1:=hs1.1;obtain⟨d0,d1,d2,d3,d4⟩:=At.e5 hat
    rw[dn]at hsz htk;have hbl:b<wr.heap.size:=by have:=HG.out b hgb;omega
    have HGr:=H_ (show∀q,G q->q<wr.heap.size from λq hq=>by have:=HG.out q hq;omega);have HS1:=H_ hs1;have HS2:=H_ hs2;have HS3:=H_ hs3;have HD:=H_ (And.intro d2 (And.intro d3 d4));have HTK:=H_ htk;obtain⟨P,hP⟩:=nm_ (lsz ssz (xs.take k));rw[hP]at HTK hz2';clear hat hrd hs1 hs2 hs3 hS2 hx hgb d0 hz2 htk hP;by_cases h40:(40:Int)<(yn.size:Int)
    ·clear d2 d3 d4;go_wp2_with fail;go_ret;exact⟨-1,rfl,by omega,by omega,λh=>by omega,HB.out⟩
    ·obtain⟨wa,rfl⟩:∃wa,wa=wr:=⟨_,rfl⟩;go_wp2_with fail;clear d1 d2 d3 d4;go_loopw [1,6] (λu i wy=>∃(r:Nat) (v:Int),r<=n1/\i= .int .i64 r/\u= .int .i64 v/\ -2305843009213693952<=v/\v<=z-1/\(0<=v->((lsz esz (ex.take r):Nat):Int)+v<=z-1)/\Hid (Below wa.heap.size wa wy)) (λ_ i _=>n1-(intOf i).toNat)
     case atStart=>exact⟨0,z-1,Do _,rfl,rfl,by omega,by omega,λh=>by simp[lsz],H_ (Db _ _)⟩
     case round=>
      obtain⟨r,v,hr,rfl,rfl,hv0,hv1,hv2,HBi⟩:=hrel;have hsi:=HBi.out.size;have d2:=(aj HBi.out hbl _).trans HD.out.1;by_cases hrm:r<n1/\0<=v
      ·obtain⟨hrm,hvv⟩:=hrm;have hrz:(r:Int)<(n1:Int):=by omega
       have hv2':=hv2 hvv;have hS3:=HS1.out.aA (G':=G) (w':=wr) (λb hb'=>⟨hb',HBi.out.block b (HGr.out b hb')⟩);obtain⟨b',off',x',cs',rfl,hgb',hx',hrd',hat'⟩:=hS3.at_ hrm;have htk2:=dF esz ex hx';have HC:=H_ (AN _ x' _ wr G v (D8 _) hrd' (λq hq=>by have:=HGr.out q hq;omega) hvv (by omega));unfold gp at HC;obtain⟨zk,zo,zz,zn,za,args2⟩:=x';obtain⟨A5,n5,c5,rfl,hsa⟩:=ExK.inv hrd';obtain⟨e0,e1,e2,e3,e4,e5⟩:=At.e6 hat';generalize esz (.mk zk zo zz zn za args2)=sx at*
       have HTK2:=H_ htk2;clear hat' hrd' hsa hS3 hx' hgb' hv2 htk2;go_wp2_with fail;refine HC.out.mono ?_;rintro e w1 ⟨v',rfl,hv3,hv4,hv5,b1⟩;have B1:=htr HBi b1;clear b1 HBi HC;go_wp2_with fail;go_roundw
       case rel=>exact⟨r+1,v',by omega,by go_num,rfl,hv3,by omega,λh=>by have:=hv5 h;have:=HTK2.out;omega,B1⟩
       case measure=>simp[intOf];omega
      ·have hfin:0<=v->((lsz esz ex:Nat):Int)+v<=z-1:=λh=>by
        have h2:=hv2 h;rwa[Dd (by omega)]at h2
       have HFIN:=H_ hfin
       have HB3:Hid (Below w.heap.size w wr):=H_ (HB.out.trans (HBi.out.mono hsr));clear hfin hv2
       have hkc:∀P:Prop,((r:Int)<(n1:Int)->¬(0:Int)<=v->P)->(¬(r:Int)<(n1:Int)->P)->P:=λP h1 h2=>by
        by_cases h:(r:Int)<(n1:Int)
        ·exact h1 h (by omega)
        ·exact h2 h
       by_cases hvv:0<=v
       ·have hrz:¬(r:Int)<(n1:Int):=by omega
        have hf:=HFIN.out hvv;have d3:=(aj HBi.out hbl _).trans HD.out.2.1;have HC:=H_ (HIH.out bo A2 n2 c2 wr G v (by omega) (HS2.out.aA λq hq=>⟨hq,HBi.out.block q (HGr.out q hq)⟩) (λq hq=>by have:=HGr.out q hq;omega) hvv (by omega));unfold gp at HC;go_wp2_with fail;refine HC.out.mono ?_;rintro e w1 ⟨v',rfl,hv3,hv4,hv5,b1⟩;have HB4:=htr HB3 b1;have HB5:=htr HBi b1;have hs5:=HB5.out.size;clear b1 HC HB3 HBi d2 d3;by_cases hvw:0<=v'
        ·have hv5':=hv5 hvw;have d4:=(aj HB5.out hbl _).trans HD.out.2.2;have HC:=H_ (HIH.out el A3 n3 c3 w1 G v' (by omega) (HS3.out.aA λq hq=>⟨hq,HB5.out.block q (HGr.out q hq)⟩) (λq hq=>by have:=HGr.out q hq;omega) hvw (by omega));unfold gp at HC;go_wp2_with fail;refine HC.out.mono ?_;rintro e w2 ⟨v2,rfl,hv6,hv7,hv8,b2⟩;have HB6:=htr HB4 b2;clear b2 HC HB4 HB5 d4;go_wp2_with fail;go_roundw
         case rel=>exact⟨k+1,v2,by omega,by go_num,rfl,hv6,by omega,λh=>by have:=hv8 h;have:=HTK.out;omega,HB6⟩
         case measure=>simp[intOf];omega
        ·have hvn:¬(0:Int)<=v':=hvw;go_wp2_with fail;go_roundw
         case rel=>exact⟨k+1,v',by omega,by go_num,rfl,hv3,by omega,λh=>absurd h (by omega),HB4⟩
         case measure=>simp[intOf];omega
       ·have hvn:¬(0:Int)<=v:=hvv;refine hkc _ (λh1 h2=>?_) (λh1=>?_)
        all_goals
         go_wp2_with fail;go_roundw
         case rel=>exact⟨k+1,v,by omega,by go_num,rfl,hv0,by omega,λh=>absurd h (by omega),HB3⟩
         case measure=>simp[intOf];omega
   ·have hfin:0<=z->((lsz ssz xs:Nat):Int)+z<=N:=λh=>by
     have h2:=hz2 h;rwa[Dd (by omega)]at h2
    have HFIN:=H_ hfin
    clear hfin hz2;by_cases hkm2:k<n
    ·have hkz:(k:Int)<(n:Int):=by omega
     have hzz:¬(0:Int)<=z:=by omega
     go_wp2_with fail;go_ret;exact⟨z,rfl,hz0,by omega,HFIN.out,HB.out⟩
    ·have hkz:¬(k:Int)<(n:Int):=by omega
     go_wp2_with fail;go_ret;exact⟨z,rfl,hz0,by omega,HFIN.out,HB.out⟩
theorem sr(xs:List ByteArray)(A:Option Addr)(n c:Nat)(w:World)(G:Nat->Prop)(N:Int)(hs:Sl dH w G xs A n)(h0: -1<=N)(h1:N<=1000):
 Calls Tryz.prog 59 #[.slice A n c,.int .i64 N] w (gp N xs.length w):=by
 have hln:=hs.1;have hnb:n<=1152921504606846976:=hs.2.1;have HS:=H_ hs;clear hs;unfold gp;go_enter Tryz.func59,Tryz.ntmps59;go_wp2_with fail;go_loopw [5] (λi wr=>∃k:Nat,k<=n/\i= .int .i64 k/\wr=w) (λi _=>n-(intOf i).toNat)
 case atStart=>exact⟨0,Do _,rfl,rfl⟩
 case round=>
  obtain⟨k,hk,rfl,rfl⟩:=hrel;by_cases hkm:k<n
  ·have hkz:(k:Int)<(n:Int):=by omega
   obtain⟨b,off,x,cs,rfl,hgb,hx,hrd,hat⟩:=HS.out.at_ hkm;obtain rfl:cs=[.string x]:=hrd;have d0:=At.e1 hat
   clear hat hx hgb;by_cases h40:(40:Int)<(x.size:Int)
   ·go_wp2_with fail;go_ret;exact⟨-1,rfl,by omega,by omega,λh=>by omega,Db _ _⟩
   ·go_wp2_with fail;go_roundw
    case rel=>exact⟨k+1,by omega,by go_num,trivial⟩
    case measure=>simp[intOf];omega
  ·obtain rfl:k=n:=by omega
   go_wp2_with fail;go_ret;exact⟨N-k,rfl,by omega,by omega,λh=>by omega,Db _ _⟩
def FewP(P:Prop)(w:World)(r:Ending)(w':World):Prop:=∃b:Bool,r= .returned (.bool b)/\(b=true->P)/\Below w.heap.size w w'
theorem FewP.mk{P:Prop}{r:Ending}(b:Bool)(h1:r= .returned (.bool b))(h2:b=true->P)(h3:Below w.heap.size w w'):FewP P w r w':=⟨b,h1,h2,h3⟩
theorem Ch(cl:List Cl)(A:Option Addr)(n c:Nat)(w:World)(G:Nat->Prop)(N:Int)(hs:Sl eZ w G cl A n)(hG:∀b,G b->b<w.heap.size)(h0:0<=N)(h1:N<=1000):
 Calls Tryz.prog 29 #[.agg #[.slice A n c],.int .i64 N] w (FewP ((lsz csz cl:Int)<=N) w):=by
 have hln:=hs.1;have hnb:n<=1152921504606846976:=hs.2.1;obtain⟨g,hz⟩:=nm_ (w.heap.size);obtain⟨W0,hW0⟩:=nm_ (w.alloc (.cells #[.slice A n c] 28));have HQ:=hng hW0 hz;have HB0:=hba hW0;have hs0:W0.heap.size=g+1:=by rw[<-hW0,Dk,hz]
 have HBZ:Hid (Below g w W0):=H_ (hz▸HB0.out);have HS:=H_ (hs.aA (G':=G) (w':=W0) (λb hb=>⟨hb,HB0.out.block b (hG b hb)⟩));have HG:=H_ (show∀b,G b->b<W0.heap.size from λb hb=>by have:=hG b hb;omega);have HW:=H_ hW0;clear hs hG hW0 HB0;go_enter Tryz.func29,Tryz.ntmps29;go_upto_region 1 with fail;rw[HW.out];go_wp2_with fail;go_loopw [1,5] (λu i wr=>∃(k:Nat) (z:Int),k<=n/\i= .int .i64 k/\u= .int .i64 z/\ -2305843009213693952<=z/\z<=N/\(0<=z->((lsz csz (cl.take k):Nat):Int)+z<=N)/\Hid (Below W0.heap.size W0 wr)) (λ_ i _=>n-(intOf i).toNat)
 case atStart=>exact⟨0,N,Do _,rfl,rfl,by omega,by omega,λh=>by simp[lsz],H_ (Db _ _)⟩
 case round=>
  obtain⟨k,z,hk,rfl,rfl,hz0,hz1,hz2,HB⟩:=hrel;have hsr:=HB.out.size;have q0:=(HQ.out.below HB.out (by omega)).k0;by_cases hkm:k<n/\0<=z
  ·obtain⟨hkm,hzz⟩:=hkm;have hkz:(k:Int)<(n:Int):=by omega
   have hS2:=HS.out.aA (G':=G) (w':=wr) (λb hb'=>⟨hb',HB.out.block b (HG.out b hb')⟩);obtain⟨b,off,x,cs,rfl,hgb,hx,hrd,hat⟩:=hS2.at_ hkm;have htk:=dF csz cl hx;have hz2':=hz2 hzz;obtain⟨nm,ac,fs,ms⟩:=x;obtain⟨A1,n1,c1,A2,n2,c2,rfl,hs1,hs2⟩:=ClK.inv hrd;have hnb2:n2<=1152921504606846976:=hs2.2.1;have hln1:fs.length=n1:=hs1.1;have hln2:ms.length=n2:=hs2.1;obtain⟨d0,d1,d2,d3⟩:=At.e4 hat
   rw[show csz ⟨nm,ac,fs,ms⟩=1+fs.length+lsz msz ms from rfl]at htk;have HTK:=H_ htk;obtain⟨P,hP⟩:=nm_ (lsz csz (cl.take k));rw[hP]at HTK hz2';obtain⟨p,hp⟩:=nm_ (wr.heap.size);obtain⟨w3,hw3⟩:=nm_ (wr.alloc (.cells #[.string nm,.bool ac,.slice A1 n1 c1,.slice A2 n2 c2] 117));have HC:=hng hw3 hp;have hs3:w3.heap.size=p+1:=by rw[<-hw3,Dk,hp]
   have HB3:=H_ (HB.out.trans ((bal hw3).mono hsr));have HS1:=H_ (hs1.aA (G':=G) (w':=w3) (λq hq=>⟨hq,(bal hw3).block q (by have:=HG.out q hq;omega)⟩));have HS2:=H_ (hs2.aA (G':=G) (w':=w3) (λq hq=>⟨hq,(bal hw3).block q (by have:=HG.out q hq;omega)⟩));have HG3:=H_ (show∀b,G b->b<w3.heap.size from λb hb=>by have:=HG.out b hb;omega);obtain⟨x0,x1,x2,x3⟩:=HC.out.c4;have HW3:=H_ hw3;clear hx hat hgb hs1 hs2 hS2 hw3 hz2 htk hP HB;go_upto_region 5 with fail;rw[HW3.out];clear q0 d0 d1 d2 d3;by_cases h40:(40:Int)<(nm.size:Int)
   ·have HE:Hid (Below g w w3):=H_ (HBZ.out.trans (HB3.out.mono (by omega)));go_wp2_with fail;go_ret;exact FewP.mk false rfl (λh=>absurd h (by simp)) (hz▸HE.out)
   ·have HC59:=H_ (sr fs A1 n1 c1 w3 G (z-1) HS1.out (by omega) (by omega));unfold gp at HC59;rw[hln1]at HC59;go_wp2_with fail;refine HC59.out.mono ?_;rintro r w4 ⟨z1,rfl,hy0,hy1,hy2,b4⟩;have HB4:=H_ b4;have hs4:=b4.size;obtain⟨x0,x1,x2,x3⟩:=(HC.out.below HB4.out HC.out.lt).c4;clear b4 HC59;go_wp2_with fail;go_loopw [1,7] (λu i wy=>∃(r:Nat) (v:Int),r<=n2/\i= .int .i64 r/\u= .int .i64 v/\ -2305843009213693952<=v/\v<=z1/\(0<=v->((lsz msz (ms.take r):Nat):Int)+v<=z1)/\Hid (Below w3.heap.size w3 wy)) (λ_ i _=>n2-(intOf i).toNat)
    case atStart=>exact⟨0,z1,Do _,rfl,rfl,by omega,by omega,λh=>by simp[lsz],HB4⟩
    case round=>
     clear HB4;obtain⟨r,v,hr,rfl,rfl,hv0,hv1,hv2,HBi⟩:=hrel;have hsi:=HBi.out.size;have x3:=(HC.out.below HBi.out HC.out.lt).k3;by_cases hrm:r<n2/\0<=v
     ·obtain⟨hrm,hvv⟩:=hrm;have hrz:(r:Int)<(n2:Int):=by omega
      have hv2':=hv2 hvv;have hS3:=HS2.out.aA (G':=G) (w':=wr) (λb hb'=>⟨hb',HBi.out.block b (HG3.out b hb')⟩);obtain⟨b',off',y,cs',rfl,hgb',hy,hrd',hat'⟩:=hS3.at_ hrm;have htk2:=dF msz ms hy;obtain⟨mn,ps,bd⟩:=y;obtain⟨A3,n3,c3,A4,n4,c4,rfl,ht1,ht2⟩:=MeK.inv hrd';have hln3:ps.length=n3:=ht1.1;rw[show msz ⟨mn,ps,bd⟩=1+ps.length+lsz ssz bd from rfl]at htk2;obtain⟨e0,e1,e2⟩:=At.e3 hat';have hbl:b'<wr.heap.size:=by have:=HG3.out b' hgb';omega
      have HTK2:=H_ htk2;have HT2:=H_ ht2;have HC59:=H_ (sr ps A3 n3 c3 wr G (v-1) ht1 (by omega) (by omega));unfold gp at HC59;rw[hln3]at HC59;clear hy hat' hgb' ht1 ht2 hS3 hv2 htk2;by_cases h40:(40:Int)<(mn.size:Int)
      ·have HE:Hid (Below g w wr):=H_ (HBZ.out.trans ((HB3.out.trans (HBi.out.mono (by omega))).mono (by omega)));go_wp2_with fail;go_ret;exact FewP.mk false rfl (λh=>absurd h (by simp)) (hz▸HE.out)
      ·go_wp2_with fail;refine HC59.out.mono ?_;rintro e w5 ⟨v',rfl,hv3,hv4,hv5,b5⟩;have HB5:=htr HBi b5;have hs5:=HB5.out.size;have x3:=(HC.out.below HB5.out HC.out.lt).k3;have e2:=(aj b5 hbl _).trans e2;have HT3:=H_ (HT2.out.aA (G':=G) (w':=w5) (λq hq=>⟨hq,b5.block q (by have:=HG3.out q hq;omega)⟩));clear b5 HC59 HBi HT2;by_cases hvw:0<=v'
       ·have hv5':=hv5 hvw;have HC60:=H_ (AO _ bd A4 n4 c4 w5 G v' (Nat.lt_succ_self _) HT3.out (λq hq=>by have:=HG3.out q hq;omega) hvw (by omega));unfold gp at HC60;go_wp2_with fail;refine HC60.out.mono ?_;rintro e w6 ⟨v2,rfl,hv6,hv7,hv8,b6⟩;have HB6:=htr HB5 b6;clear b6 HC60 HB5 e2;go_wp2_with fail;go_roundw
        case rel=>exact⟨r+1,v2,by omega,by go_num,rfl,hv6,by omega,λh=>by have:=hv8 h;have:=HTK2.out;omega,HB6⟩
        case measure=>simp[intOf];omega
       ·have hvn:¬(0:Int)<=v':=hvw;go_wp2_with fail;go_roundw
        case rel=>exact⟨r+1,v',by omega,by go_num,rfl,hv3,by omega,λh=>absurd h (by omega),HB5⟩
        case measure=>simp[intOf];omega
     ·have hfin:0<=v->((lsz msz ms:Nat):Int)+v<=z1:=λh=>by
       have h2:=hv2 h;rwa[Dd (by omega)]at h2
      have HFIN:=H_ hfin
      have HE:=H_ (HB3.out.trans (HBi.out.mono (by omega)))
      have hkc:∀P:Prop,((r:Int)<(n2:Int)->¬(0:Int)<=v->P)->(¬(r:Int)<(n2:Int)->P)->P:=λP h1 h2=>by
       by_cases h:(r:Int)<(n2:Int)
       ·exact h1 h (by omega)
       ·exact h2 h
      clear hfin hv2;refine hkc _ (λh1 h2=>?_) (λh1=>?_)
      all_goals
       go_wp2_with fail;go_roundw
       case rel=>exact⟨k+1,v,by omega,by go_num,rfl,hv0,by omega,λh=>by have:=HFIN.out h;have:=HTK.out;omega,HE⟩
       case measure=>simp[intOf];omega
  ·have hfin:0<=z->((lsz csz cl:Nat):Int)+z<=N:=λh=>by
    have h2:=hz2 h;rwa[Dd (by omega)]at h2
   have HFIN:=H_ hfin
   have HE:Hid (Below g w wr):=H_ (HBZ.out.trans (HB.out.mono (by omega)))
   have hkc:∀P:Prop,((k:Int)<(n:Int)->¬(0:Int)<=z->P)->(¬(k:Int)<(n:Int)->P)->P:=λP h1 h2=>by
    by_cases h:(k:Int)<(n:Int)
    ·exact h1 h (by omega)
    ·exact h2 h
   clear hfin hz2;refine hkc _ (λh1 h2=>?_) (λh1=>?_)
   all_goals
    go_wp2_with fail;go_ret;exact FewP.mk (decide (0<=z)) (by first|rfl|simp[*]) (λh=>by have h2:=DI h;have:=HFIN.out h2;omega) (hz▸HE.out)
def AllB(w:World)(b:Nat):Prop:=b<w.heap.size
theorem AllB.aA(h:Below w.heap.size w w'):∀b,AllB w b->AllB w' b/\w'.heap[b]?=w.heap[b]?:=λb hb=>⟨Dh hb h.size,h.block b hb⟩
abbrev pt(N:Nat):Value:= .pointer (some ⟨N,0,none⟩)
def F27s(p q b off b' off' n c1 c2 k S:Nat)(d e:Value×Value×Value×Value)(i:Nat)(xs:Nat->Option Value)(W:World):Prop:=match i with
 |0=>xs 0=some (pt p)
 |1=>xs 1=some (.slice (some ⟨b,off,none⟩) n c1)
 |2=>xs 2=some (.int .i64 (k:Int))
 |3=>xs 3=some (.pointer (some ⟨b,off+k*4,none⟩))
 |4=>xs 4=some (.agg #[d.1,d.2.1,d.2.2.1,d.2.2.2])
 |5=>xs 5=some (pt q)
 |6=>xs 6=some (.slice (some ⟨b',off',none⟩) n c2)
 |7=>xs 7=some (.int .i64 (k:Int))
 |8=>xs 8=some (.pointer (some ⟨b',off'+k*4,none⟩))
 |9=>xs 9=some (.agg #[e.1,e.2.1,e.2.2.1,e.2.2.2])
 |10=>∃N u0 u1 u2 u3,xs 10=some (pt N)/\S<=N/\Blk W N 117 #[u0,u1,u2,u3]
 |11=>∃N u0 u1 u2 u3,xs 11=some (pt N)/\S<=N/\Blk W N 117 #[u0,u1,u2,u3]
 |12=>∃N,xs 10=some (pt N)/\S<=N/\Blk W N 117 #[d.1,d.2.1,d.2.2.1,d.2.2.2]
 |13=>∃N,xs 11=some (pt N)/\S<=N/\Blk W N 117 #[e.1,e.2.1,e.2.2.1,e.2.2.2]
 |_=>True
def Be(k j:Nat):Bool:=(k==12&&j==10)||(k==13&&j==11)
theorem F27s.aA{p q b off b' off' n c1 c2 k S i:Nat}{d e:Value×Value×Value×Value}(hne:i≠j)(hd:Be i j=false)(h:F27s p q b off b' off' n c1 c2 k S d e i xs W)
 (hA:∀N u0 u1 u2 u3,xs 10=some (pt N)->S<=N->Blk W N 117 #[u0,u1,u2,u3]->(∃v0 v1 v2 v3,Blk W' N 117 #[v0,v1,v2,v3])/\(j≠12->Blk W' N 117 #[u0,u1,u2,u3]))
 (hB:∀N u0 u1 u2 u3,xs 11=some (pt N)->S<=N->Blk W N 117 #[u0,u1,u2,u3]->(∃v0 v1 v2 v3,Blk W' N 117 #[v0,v1,v2,v3])/\(j≠13->Blk W' N 117 #[u0,u1,u2,u3])):
 F27s p q b off b' off' n c1 c2 k S d e i (cB xs j v) W':=by
 by_cases hi:i<14
 rotate_left
 ·obtain⟨m,rfl⟩:∃m,i=m+14:=⟨i-14,by omega⟩;trivial
 obtain rfl|rfl|rfl|rfl|rfl|rfl|rfl|rfl|rfl|rfl|rfl|rfl|rfl|rfl:i=0\/i=1\/i=2\/i=3\/i=4\/i=5\/i=6\/i=7\/i=8\/i=9\/i=10\/i=11\/i=12\/i=13:=by omega
 rotate_right 4
 ·obtain⟨N,u0,u1,u2,u3,h1,h2,h3⟩:=h;obtain⟨v0,v1,v2,v3,h4⟩:=(hA N u0 u1 u2 u3 h1 h2 h3).1;exact⟨N,v0,v1,v2,v3,(dJ xs v hne).trans h1,h2,h4⟩
 ·obtain⟨N,u0,u1,u2,u3,h1,h2,h3⟩:=h;obtain⟨v0,v1,v2,v3,h4⟩:=(hB N u0 u1 u2 u3 h1 h2 h3).1;exact⟨N,v0,v1,v2,v3,(dJ xs v hne).trans h1,h2,h4⟩
 ·obtain⟨N,h1,h2,h3⟩:=h;have hj:10≠j:=λe=>by subst e;exact absurd hd (by decide)
  exact⟨N,(dJ xs v hj).trans h1,h2,(hA N _ _ _ _ h1 h2 h3).2 (λe=>hne e.symm)⟩
 ·obtain⟨N,h1,h2,h3⟩:=h;have hj:11≠j:=λe=>by subst e;exact absurd hd (by decide)
  exact⟨N,(dJ xs v hj).trans h1,h2,(hB N _ _ _ _ h1 h2 h3).2 (λe=>hne e.symm)⟩
 all_goals exact(dJ xs v hne).trans h
def J27s(wr:World)(xs:Nat->Option Value)(W:World):Prop:=Below wr.heap.size wr W/\(∀N M,xs 10=some (pt N)->xs 11=some (pt M)->N≠M)/\(∀N,xs 10=some (pt N)->N<W.heap.size)/\∀N,xs 11=some (pt N)->N<W.heap.size
theorem J27s.same{wr:World}(h:J27s wr xs W)(hj:j≠10/\j≠11)(hb:Below wr.heap.size W W'):J27s wr (cB xs j v) W':=by
 have e0:=dJ xs v hj.1.symm;have e1:=dJ xs v hj.2.symm;refine⟨h.1.trans hb,?_,?_,?_⟩
 ·rw[e0,e1];exact h.2.1
 ·rw[e0];exact λN hN=>Dh (h.2.2.1 N hN) hb.size
 ·rw[e1];exact λN hN=>Dh (h.2.2.2 N hN) hb.size
end
section
open Go.RowKit Go.Shelf
theorem wY:(Tryz.prog.info? 58).map (·.size)=some 2:=by kernel_rfl
theorem AI:liesAt Tryz.prog Tryz.prog.depth 60 (9/Tryz.prog.cellsOf 60) 6 58 1=true:=by kernel_rfl
theorem AR:(Tryz.prog.info? 5).map (λi=>(i.zero,i.size,i.bytes))=some (some (.int .u8 0),1,1):=by kernel_rfl
theorem oD(b:Nat)(w:World)(h0:w.cell? ⟨b,6,none⟩=some (.pointer (some ⟨b,6,none⟩))):
 Calls Tryz.prog 63 #[.pointer (some ⟨b,6,none⟩)] w λe w'=>e= .returned (.tuple #[])/\w'=w:=by
 obtain⟨j,hj,_⟩:=DO.1 wY;go_enter Tryz.func63,Tryz.ntmps63;go_wp2;rw[Lib.run_neq_ptr_same w _ Tryz.underlying56 hj];go_wp2;go_end0;exact⟨rfl,rfl⟩
theorem mZ(b:Nat)(w:World)(h0:w.cell? ⟨b,6,none⟩=some (.pointer none))(hsh:w.shape? b=some (60,9))(hfz:w.frozen? ⟨b,6,none⟩=false):
 Calls Tryz.prog 63 #[.pointer (some ⟨b,6,none⟩)] w λe w'=>e= .returned (.tuple #[])/\w'=w.setCell ⟨b,6,none⟩ (.pointer (some ⟨b,6,none⟩)):=by
 obtain⟨j,hj,hjs⟩:=DO.1 wY;go_enter Tryz.func63,Tryz.ntmps63;go_wp2;rw[Lib.run_to_unsafe w ⟨b,6,none⟩ Tryz.underlying56 Tryz.underlying180 hj (by rw[hjs];decide) hsh (by show 6<9;decide)];simp only[Result.andThen];rw[F0];go_wp2;rw[run_callFunc_extern Tryz.func106 (by kernel_rfl) (by kernel_rfl) (by kernel_rfl) (e:=Extern.AbiNoEscape.same) (by kernel_rfl)];rw[Lib.run_noEscape];simp only[Result.andThen];rw[F0];go_wp2;rw[Lib.run_from_unsafe w ⟨b,6,none⟩ Tryz.underlying180 Tryz.underlying56 hj hsh AI];simp only[Result.andThen];rw[F0];go_wp2;go_end0;exact⟨rfl,rfl⟩
section
variable{b B n:Nat}{sa sv c0 c1 c2 c3 c4 c5 c8:Value}
theorem zC(w:World)(hb:Blk w b 60 #[c0,c1,c2,c3,c4,c5,sa,sv,c8])(hsa:sa= .pointer none\/sa= .pointer (some ⟨b,6,none⟩)):
 Calls Tryz.prog 63 #[.pointer (some ⟨b,6,none⟩)] w λe w'=>e= .returned (.tuple #[])/\Blk w' b 60 #[c0,c1,c2,c3,c4,c5,.pointer (some ⟨b,6,none⟩),sv,c8]/\(∀k,k≠b->w'.heap[k]?=w.heap[k]?)/\Lk B b w w'/\w'.heap.size=w.heap.size:=by
 rcases hsa with rfl|rfl
 ·refine(mZ b w (hb.cell 6) (by unfold Blk at hb;simp[World.shape?,hb]) (hb.frozen 6)).mono ?_;rintro e w' ⟨rfl,rfl⟩;exact⟨rfl,hb.set 6 _,λk hk=>Dn _ _ _ _ hk,(Lk.refl _ _ _).set 6 _,by simp[World.setCell]⟩
 ·refine(oD b w (hb.cell 6)).mono ?_;rintro e w' ⟨rfl,rfl⟩;exact⟨rfl,hb,λ_ _=>rfl,Lk.refl _ _ _,rfl⟩
theorem y7(bs:List Value)(s:ByteArray)(w:World)(hb:Blk w b 60 #[c0,c1,c2,c3,c4,c5,sa,sv,c8])(hsa:sa= .pointer none\/sa= .pointer (some ⟨b,6,none⟩))(hown:w.ownsRow B 5 1 sv n bs)(hbB:b<B)(hBw:B<=w.heap.size)(hlen:n+s.size<=4000000000):
 Calls Tryz.prog 31 #[.pointer (some ⟨b,6,none⟩),.string s] w λe w'=>e= .returned (.tuple #[.int .i64 s.size,.nilIface])/\Lk B b w w'/\
  ∃sv',Blk w' b 60 #[c0,c1,c2,c3,c4,c5,.pointer (some ⟨b,6,none⟩),sv',c8]/\w'.ownsRow B 5 1 sv' (n+s.size) (bs++Lib.strCells s):=by
 obtain⟨i0,hi,hz0,hz1,hz2⟩:=Fd AR;have HC:=H_ (zC (B:=B) w hb hsa);have HO:=H_ hown;clear hb hsa hown;go_enter Tryz.func31,Tryz.ntmps31;go_wp2_with fail;refine HC.out.mono ?_;rintro e w1 ⟨rfl,q1,hk1,l1,hs1⟩;have hown1:=ed HO.out (w':=w1) (λk hk _ _=>hk1 k (by omega));have d1:=q1.k7;have HQ:=H_ q1;have HL:=H_ l1;have HO1:=H_ hown1;clear q1 hk1 l1 hown1 HC HO;go_wp2_with (at_builtin;refine Lib.wpList_append_own_string _ rfl _ _ 51 9 rfl B 5 i0 Tryz.underlying51 Tryz.underlying9 hi hz0 hz1 hz2 _ _ _ rfl HO1.out s rfl (by unfold maxLen;omega) (by omega) (by omega) ?_);intro v' w2 hown' hgrow _;have hlt:=HQ.out.lt;have hnb:some b≠sv.ownBlock:=λe=>by have:=(HO1.out.lt b e.symm).1;omega
 have q2:Blk w2 b 60 #[c0,c1,c2,c3,c4,c5,.pointer (some ⟨b,6,none⟩),sv,c8]:=(hgrow.block b hlt hnb).trans HQ.out;have d2:=q2.k7;have f2:=q2.frozen 7
 have HL2:=H_ (show Lk B b w w2 from HL.out.grown hgrow λk hk=>⟨(HO1.out.lt k hk).1,by
  rcases HO1.out.2 with⟨hv,_⟩|⟨g,cap,cur,hv,_,hg,_⟩
  ·rw[hv]at hk;cases hk
  ·rw[hv]at hk;cases hk;exact⟨cur,(0,0),.inr hg⟩⟩)
 have HQ2:=H_ q2;have HO2:=H_ hown'
 obtain⟨ao,n',cap,rfl⟩:∃ao n' cap,v'= .slice ao n' cap:=by
  rcases hown'.2 with⟨hv,_⟩|⟨g,cap,cur,hv,_⟩
  ·exact⟨_,_,_,hv⟩
  ·exact⟨_,_,_,hv⟩
 clear q2 hgrow hown' HQ HL HO1 d1;go_wp2_with fail;go_ret2;exact⟨rfl,HL2.out.set 7 _,_,HQ2.out.set 7 _,ed HO2.out λk hk _ _=>Dn _ _ _ _ (show k≠b by omega)⟩
theorem vq(l:List UInt8)(w:World)(hb:Blk w b 60 #[c0,c1,c2,c3,c4,c5,sa,sv,c8])(hown:w.ownsRow B 5 1 sv l.length (Lib.byteCells l))(h0:l=[]->sv= .slice none 0 0)(hbB:b<B)(hl:l.length<=4000000000):
 Calls Tryz.prog 35 #[.pointer (some ⟨b,6,none⟩)] w λe w'=>e= .returned (.string ⟨l.toArray⟩)/\Lk B b w w'/\Blk w' b 60 #[c0,c1,c2,c3,c4,c5,sa,sv,c8]:=by
 have mixed:Tryz.prog.follows .mixedOrders=true:=by kernel_rfl
 by_cases hl0:l=[]
 ·subst hl0;obtain rfl:=h0 rfl;have hUS:∀W,(Builtin.unsafeString_ #[130,3] 9 #[.pointer none,.int .i64 0]).run Tryz.prog W= .ok (.string .empty) W:=λW=>Lib.run_unsafeString_none W _ _ _ none;have d1:=hb.drew.k7;have hSD:(Builtin.unsafeSliceData_ #[51] 130 #[.slice none 0 0]).run Tryz.prog w.drew= .ok (.pointer none) w.drew:=rfl;have HB:=H_ hb;clear hb hown h0;go_enter Tryz.func35,Tryz.ntmps35;go_wp2;go_region_o;all_goals(go_wp2;go_ret;exact⟨rfl,Lk.of (Below.drew (Db w.heap.size w)) (D8 _),HB.out.drew⟩)
 ·obtain⟨g,cap,cur,rfl,hbg,hg,hnc,hcm,hcs,htake⟩:∃g cap cur,sv= .slice (some ⟨g,0,none⟩) l.length cap/\B<=g/\w.heap[g]?=some (.cells cur 5 (0,0))/\l.length<=cap/\cap<=maxLen/\cur.size=cap*1/\cur.toList.take (l.length*1)=Lib.byteCells l:=by
   rcases hown.2 with⟨_,hz⟩|⟨g,cap,cur,hv,r⟩
   ·exact absurd (Dy hz) hl0
   ·exact⟨g,cap,cur,hv,r⟩
  have hlz:l.length≠0:=λe=>hl0 (Dy e);have d1:=hb.drew.k7
  have hSD:(Builtin.unsafeSliceData_ #[51] 130 #[.slice (some ⟨g,0,none⟩) l.length cap]).run Tryz.prog w.drew= .ok (.pointer (some ⟨g,0,none⟩)) w.drew:=
   Lib.run_unsafeSliceData_row _ _ _ _ _ _ (by omega)
  have hUS:(Builtin.unsafeString_ #[130,3] 9 #[.pointer (some ⟨g,0,none⟩),.int .i64 l.length]).run Tryz.prog w.drew= .ok (.string ⟨l.toArray⟩) (w.drew.freeze ⟨g,0,none⟩ l.length):=by
   refine Lib.run_unsafeString_row w.drew 130 3 9 5 Tryz.underlying130 (by kernel_rfl) g cur.size (by have hg':w.drew.heap[g]?=some (.cells cur 5 (0,0)):=hg;simp[World.shape?,hg']) l hl0 (by omega) (by omega) ?_;intro j x hx;have:=hown.cells (g:=g) rfl j (.int .u8 x.toNat) (by simp[Lib.byteCells,hx]);exact this
  have hfr:∀k,k≠g->(w.drew.freeze ⟨g,0,none⟩ l.length).heap[k]?=w.heap[k]?:=λk hk=>by
   unfold World.freeze;split
   ·rfl
   ·simp only[Array.getElem?_modify];rw[Dg (Ne.symm hk)];rfl
  have hfin:Lk B b w (w.drew.freeze ⟨g,0,none⟩ l.length)/\Blk (w.drew.freeze ⟨g,0,none⟩ l.length) b 60 #[c0,c1,c2,c3,c4,c5,sa,.slice (some ⟨g,0,none⟩) l.length cap,c8]:=by
   have hq:=Lib.below_freeze (Below.drew (Db B w)) (p:=⟨g,0,none⟩) hbg l.length;refine⟨⟨hq.os,hq.tape,hq.output,hq.size,λk hk hkb ht=>hfr k λe=>?_⟩,(hfr b (by omega)).trans hb⟩;subst e;exact(ht hbg cur (0,0)).2 hg
  have HF:=H_ hfin
  clear hfin hfr hb hown h0 hg htake;go_enter Tryz.func35,Tryz.ntmps35;go_wp2;go_region_o;all_goals(go_wp2;go_ret;exact⟨rfl,HF.out.1,HF.out.2⟩)
end
end
section
open Go.RowKit
theorem zq(s:ByteArray)(w:World):Calls Tryz.prog 50 #[.string s,.string ⟨#[10]⟩] w λe w'=>e= .returned (.int .i64 (s.data.toList.count 10:Nat))/\w'=w:=Any.strings_Count_one Tryz.lays138 s 10 w
def CX(B b f:Nat)(sa sv:Value)(m sd y pt:Int)(a:List UInt8)(w:World)(e:Ending)(w':World):Prop:=Lk B b w w'/\match eg a with
 | .err q er=>e= .returned (.tuple #[.int .i64 ((f+(a.take q.toNat).count 10:Nat):Int),.int .i64 er])/\er≠0
 | .ok cs=>e= .returned (.tuple #[.int .i64 0,.int .i64 0])/\∃A n c,Blk w' b 60 #[.int .i64 m,.int .u64 sd,.int .i64 y,.slice A n c,.slice none 0 0,.int .i64 pt,sa,sv,.int .i64 (f:Int)]/\Sl kCl w' (λg=>B<=g/\g<w'.heap.size) cs A n
theorem nu{b B f:Nat}{sa sv:Value}{m sd y pt:Int}(a:List UInt8)(w:World)(hb:Blk w b 60 #[.int .i64 m,.int .u64 sd,.int .i64 y,.slice none 0 0,.slice none 0 0,.int .i64 pt,sa,sv,.int .i64 (f:Int)])
 (hown:w.ownsRow B 5 1 sv a.length (Lib.byteCells a)) (h0:a=[]->sv= .slice none 0 0) (hgB:GlB w b) (hbB:b<B) (hBw:B<=w.heap.size) (hl:a.length<=3000000000) (hf:f<=1000000):
 Calls Tryz.prog 21 #[.pointer (some ⟨b,0,none⟩)] w (CX B b f sa sv m sd y pt a w):=by
 have HS:=H_ (vq a w hb hown h0 hbB (by omega));have HG:=H_ hgB;have hlt:=hb.lt;clear hb hown h0 hgB;go_enter Tryz.func21,Tryz.ntmps21;go_wp2_with fail;refine HS.out.mono ?_;rintro e w1 ⟨rfl,l1,q1⟩;have HL1:=H_ l1;have HQ1:=H_ q1;have hs1:=l1.size;have hg1:=(GlB.below HG.out (l1.below (by omega) (D8 _) (by omega))).gl;have HP:=H_ (tR ⟨a.toArray⟩ w1 hg1);clear l1 q1 hg1 HS;go_wp2_with fail;refine HP.out.mono ?_;rintro e w2 ⟨b2,v,p,er,rfl,hcase⟩;have hs2:=b2.size;have HL2:=H_ (HL1.out.trans (Lk.of b2 (D8 _)));have HQ2:=H_ (HQ1.out.below b2 (by omega));have HB2:=H_ b2;have HC:=H_ (show(match eg a with| .err q e=>p=q/\er=e/\v= .agg #[.slice none 0 0]/\er≠0| .ok cs=>p=0/\er=0/\rvP w2 (Fr w1 w2) cs v)from hcase);clear hcase b2 HL1 HQ1 HP;cases hp:eg a with
 |err q e'=>
  have hc:=HC.out;rw[hp]at hc;obtain⟨rfl,rfl,rfl,hne⟩:=hc;obtain⟨hq0,hq1⟩:=rg hp;obtain⟨j,rfl⟩:=Dw hq0;have hjl:j<=a.length:=by omega
  clear hq0 hq1 HC;have hne2:(er==0)=false:=by simpa using hne
  obtain⟨w3,hw3⟩:=nm_ (w2.alloc (.cells #[.slice none 0 0] 28));have b3:=bal hw3;have HL3:=H_ (HL2.out.trans (Lk.of b3 (D8 _)));have Q3:=HQ2.out.below b3 HQ2.out.lt;have hs3:=b3.size;obtain⟨TT,F,_,hF,hcov⟩:=fF w3.heap.size w3;have d8:=λz=>(Q3.below (hF z) Q3.lt).k8;have hsz:(⟨a.toArray⟩:ByteArray).size=a.length:=by simp[ByteArray.size]
  have hcnt:((⟨a.toArray⟩:ByteArray).extract 0 j).data.toList.count 10=(a.take j).count 10:=by rw[oy];rfl
  have hcl:(a.take j).count 10<=3000000000:=Dz List.count_le_length (by rw[EI];omega)
  have C50:=H_ (show∀z,Calls Tryz.prog 50 #[.string ((⟨a.toArray⟩:ByteArray).extract 0 j),.string ⟨#[10]⟩] (F z) (λe w''=>e= .returned (.int .i64 ((a.take j).count 10:Nat))/\∃z',w''=F z')from λz=>
   (zq _ (F z)).mono λe w'' ⟨h1,h2⟩=>⟨by rw[h1,hcnt],z,h2⟩)
  have hj0:(0:Int)<=(j:Int):=by omega
  have hj1:(j:Int)<=((⟨a.toArray⟩:ByteArray).size:Int):=by rw[hsz];omega
  have hwr:IntKind.i64.wrap ((f:Int)+((a.take j).count 10:Nat))=(((f+(a.take j).count 10:Nat)):Int):=by rw[EL _ (by omega)];omega
  have HCOV:=H_ hcov;have HFB:=H_ hF;obtain⟨N,hN⟩:=nm_ ((a.take j).count 10);rw[hN]at C50 hwr hcl;have HNN:=H_ hN;have HW3:=H_ hw3;clear hcov hF b3 Q3 hcnt hN hs3 hw3;go_upto_region 4 with fail;rw[HW3.out];refine bZ F (by kernel_rfl) (by kernel_rfl) (HCOV.out _ (Db _ _).drew) ?_;repeat (go_big_quiet_step (fail))
  go_big_quiet_step ((go_at_call 50;exact C50.out _));repeat (go_big_quiet_step (fail))
  refine F1 ?_;rintro _ ⟨z,rfl⟩;go_wp2_with fail;go_ret2;refine⟨HL3.out.trans (Lk.of (HFB.out z) (D8 _)),?_⟩;rw[hp];exact⟨by rw[Eq,HNN.out,Int.natCast_add];rfl,hne⟩
 |ok cs=>
  have hc:=HC.out;rw[hp]at hc;obtain⟨rfl,rfl,A,n,c,rfl,hsl⟩:=hc;clear HC;obtain⟨w3,hw3⟩:=nm_ (w2.alloc (.cells #[.slice A n c] 28));obtain⟨g,hgz⟩:=nm_ (w2.heap.size);have b3:=bal hw3;have HL3:=H_ (HL2.out.trans (Lk.of b3 (D8 _)));have HQ3:=hbl HQ2 b3;have hg3:=Blk.ng hw3 hgz;have d0:=hg3.cell 0;have d3:=HQ3.out.cell 3;have f3:=HQ3.out.frozen 3;have hs3:=b3.size;have hlt3:=HQ3.out.lt;have HSL:=H_ (hsl.aA (G':=λg=>B<=g/\g<w3.heap.size/\g≠b) (w':=w3) (λk hk=>⟨⟨by have:=hk.1;omega,by have:=hk.2;omega,by have:=hk.1;omega⟩,b3.block k hk.2⟩));have HW3:=H_ hw3;clear b3 hsl hg3 hw3;go_upto_region 5 with fail;rw[HW3.out];go_wp2_with fail;go_ret2;refine⟨HL3.out.set 3 _,?_⟩;rw[hp];refine⟨rfl,A,n,c,HQ3.out.set 3 _,HSL.out.aA (λk hk=>⟨⟨hk.1,by simp[World.setCell];exact hk.2.1⟩,Dn _ _ _ _ hk.2.2⟩)⟩
end
end Go.Proofs.YtjpbckbpeblibaaGreatDoor
