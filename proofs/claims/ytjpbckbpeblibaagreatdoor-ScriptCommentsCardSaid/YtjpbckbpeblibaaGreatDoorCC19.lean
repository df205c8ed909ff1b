/- part of a proof -/
import Derived.Test.YtjpbckbpeblibaaGreatDoorCC18
import Derived.Deep.MidRow
namespace Go.Proofs.YtjpbckbpeblibaaGreatDoor
set_option linter.unusedVariables false
set_option linter.unusedSimpArgs false
set_option maxRecDepth 100000
set_option maxHeartbeats 64000000
section
open Go.RowKit
variable{w w':World}
def fmT(x:Sc):List UInt8:=if fT x=true then dz x++tAc x.ac else[]
theorem Au(n:Int)(w:World)(hn:I64 n)(hg:Gl w):Hid (Calls Tryz.prog 32 #[.int .i64 n] w λe w'=>e= .returned (.string (ba (Lib.itoa n)))/\Below w.heap.size w w'):=H_ (oH n w hn hg)
theorem CU(u:Nat)(w:World)(hn:U64 u)(hg:Gl w):Hid (Calls Tryz.prog 33 #[.int .u64 u,.int .i64 10] w λe w'=>e= .returned (.string (ba (Lib.decDigits u)))/\Below w.heap.size w w'):=H_ (qx u hn w hg)
theorem vK(x:Sc)(l:List UInt8):dz x++l≠[]:=by unfold dz ij;simp
theorem xP(x:Sc)(A:Option Addr)(n c:Nat)(A2:Option Addr)(n2 c2:Nat)(w:World)(N:Nat)(hs:Sl fh w (λb=>b<N) x.cs A n)(hs2:Sl kAd w (λb=>b<N) x.ac A2 n2)(hN:N<=w.heap.size)(hg:Gl w)(hf:GlF w)(hcap:Cap w N)
 (h0:0<=x.sd) (h1:x.sd<=18446744073709551615) (hz:fT x=true->lsz csz x.cs<=900/\x.ac.length<=1000):
 Calls Tryz.prog 13 #[.agg #[.int .i64 x.m,.int .u64 x.sd,.int .i64 x.y,.slice A n c,.slice A2 n2 c2]] w λe w'=>e= .returned (.string (ba (fmT x)))/\Below w.heap.size w w':=by
 have hbig:=hg.big;obtain⟨g,hgz⟩:=nm_ (w.heap.size);obtain⟨W1,hW1⟩:=nm_ (w.alloc (.cells #[.int .i64 x.m,.int .u64 x.sd,.int .i64 x.y,.slice A n c,.slice A2 n2 c2] 31));have HT:=hng hW1 hgz;have HB1:=hba hW1;have hs1:W1.heap.size=g+1:=by rw[<-hW1,DV,hgz]
 have HGl:=H_ (hg.below HB1.out);have HF:=H_ (hf.below HB1.out hbig);have HS1:Hid (Sl fh W1 (λb=>b<N) x.cs A n):=H_ (hs.aA λb hb=>⟨hb,HB1.out.block b (by omega)⟩);have HS2:Hid (Sl kAd W1 (λb=>b<N) x.ac A2 n2):=H_ (hs2.aA λb hb=>⟨hb,HB1.out.block b (by omega)⟩);have HCP:Hid (Cap W1 N):=H_ (hcap.aA λb hb=>HB1.out.block b (by omega));have HV:=H_ (yN x A n c A2 n2 c2 W1 _ HS1.out HS2.out (λb hb=>by omega) HGl.out HF.out);have hln:x.ac.length=n2:=hs2.1;have hnb:n2<=1152921504606846976:=hs2.2.1;have HW:=H_ hW1;obtain⟨vb,hvb⟩:=nm_ (fT x);have hft:fmT x=if vb=true then dz x++tAc x.ac else[]:=by rw[<-hvb];rfl
 have HFT:=H_ hft;have HVB:=H_ hvb;have HZ:=H_ hz;rw[hvb]at HV;have HSD:=H_ (And.intro h0 h1);obtain⟨u,hu⟩:=Ei h0;have HU:=H_ hu;obtain⟨m,hm⟩:=nm_ (x.m);obtain⟨y,hy⟩:∃m,x.y=m:=⟨_,rfl⟩;have HM:=H_ (And.intro hm hy);rw[hm,hy,hu]at HT HW HV⊢;obtain⟨q0,q1,q2,q3,q4⟩:=HT.out.c5;clear hs hs2 hg hf hcap h0 h1 hz hvb hft hW1 hm hy hu;go_enter Tryz.func13,Tryz.ntmps13;rw[hgz];go_upto_region 1 with fail;rw[HW.out];go_wp2_with fail;refine HV.out.mono ?_;rintro r w2 ⟨rfl,b2⟩;have hs2:=b2.size;have HB2:=H_ (HB1.out.trans (b2.mono (by omega)));have HT2:=hbl HT b2;have HS1':Hid (Sl fh w2 (λb=>b<N) x.cs A n):=H_ (HS1.out.aA λb hb=>⟨hb,b2.block b (by omega)⟩);have HS2':Hid (Sl kAd w2 (λb=>b<N) x.ac A2 n2):=H_ (HS2.out.aA λb hb=>⟨hb,b2.block b (by omega)⟩);have HCP2:Hid (Cap w2 N):=H_ (HCP.out.aA λb hb=>b2.block b (by omega));have HGl2:=H_ (HGl.out.below b2);have HF2:=H_ (HF.out.below b2 (by omega));clear b2 HV q0 q1 q2 q3 q4 HB1 HS1 HS2 HCP HGl HF;cases vb with
 |false=>
  rw[DS (by decide)]at HFT;go_wp2_with fail;go_ret;exact⟨by rw[HFT.out];rfl,hgz▸HB2.out⟩
 |true=>
  rw[Ed rfl]at HFT;have hv:=VSc.of HVB.out HSD.out.1 HSD.out.2;obtain⟨hcz,hacl⟩:=HZ.out HVB.out;have hth:=nC hv hcz;have hta:=lB x.ac hv.ac;have htp:=sQ hv.cs hcz
  have hle1:(ij++Lib.itoa m++[10]).length<=60:=by
   have:=dN (n:=m) (by have:=hv.m1;have:=hv.m8;have:=HM.out.1;unfold I64;omega);simp[ij];omega
  have hle2:(iS++Lib.decDigits u++[10]).length<=60:=by
   have:=qF (u:=u) (by have:=HSD.out.2;have:=HU.out;omega);simp[iS];omega
  have hle3:(fV++Lib.itoa y++kY).length<=60:=by
   have:=dN (n:=y) (by have:=hv.y0;have:=hv.y1;have:=HM.out.2;unfold I64;omega);simp[fV,kY];omega
  have hI1:I64 m:=by have:=hv.m1;have:=hv.m8;have:=HM.out.1;unfold I64;omega
  have hI2:I64 y:=by have:=hv.y0;have:=hv.y1;have:=HM.out.2;unfold I64;omega
  have hU:U64 u:=by have:=HSD.out.2;have:=HU.out;unfold U64;omega
  have hTH:dz x=ij++Lib.itoa m++[10]++(iS++Lib.decDigits u++[10])++(fV++Lib.itoa y++kY)++(tPr x.cs++ou):=by unfold dz;rw[HM.out.1,HM.out.2,HU.out];rfl
  have HTH:=H_ hTH;have HVS:=H_ hv;obtain⟨p,hp⟩:=nm_ (w2.heap.size);obtain⟨W3,hW3⟩:=nm_ (w2.alloc (.cells #[.pointer none,.slice none 0 0] 58));have HP3:=hng hW3 hp;have HB3:=hba hW3;have hs3:W3.heap.size=p+1:=by rw[<-hW3,DV,hp]
  have HPW:Hid (BW W3 (p+1) p []):=H_ ⟨⟨_,_,HP3.out,.inl rfl,Fi _ _ _ _⟩,by omega,by omega⟩;have HT3:=H_ (HT2.out.al hW3);have HS3:Hid (Sl fh W3 (GB (p+1) p N) x.cs A n):=H_ (HS1'.out.aA λb hb=>⟨⟨by omega,by omega,hb⟩,HB3.out.block b (by omega)⟩);have HA3:Hid (Sl kAd W3 (GB (p+1) p N) x.ac A2 n2):=H_ (HS2'.out.aA λb hb=>⟨⟨by omega,by omega,hb⟩,HB3.out.block b (by omega)⟩);have HG3:Hid (GP W3 p N):=H_ ⟨GlB.below (hp▸HGl2.out) (hp▸HB3.out),HF2.out.below HB3.out (by omega),by omega,HCP2.out.aA λb hb=>HB3.out.block b (by omega)⟩;have HW3:=H_ hW3;have hgp:g≠p:=by omega
  obtain⟨q0,q1,q2,q3,q4⟩:=HT3.out.c5;have C1:=Au m W3 hI1 HG3.out.g.gl;have a1:=kN ⟨#[109,97,99,104,105,110,101,115,32]⟩ (ba (Lib.itoa m)) ij (Lib.itoa m) rfl rfl (by simp only[DJ]at hle1;omega);have a2:=kN (ba (ij++Lib.itoa m)) ⟨#[10]⟩ (ij++Lib.itoa m) [10] rfl rfl (by rw[<-DJ];omega);clear hW3 hTH hv HP3;go_upto_region 4 with fail;rw[HW3.out];go_wp2_with fail;refine C1.out.mono ?_;rintro r w4 ⟨rfl,b4⟩;have HL4:Hid (Lk (p+1) p W3 w4):=H_ (Lk.al b4);have CW:=(HPW.out.below b4).wr (ij++Lib.itoa m++[10]) (by simp only[DO];omega);clear b4 C1;go_wp2_with fail;refine CW.out.mono ?_;rintro r w5 ⟨rfl,l5,p5⟩;have HL5:=H_ (HL4.out.trans l5);have HP5:=H_ p5;have hs5:=HL5.out.size;obtain⟨q0,q1,q2,q3,q4⟩:=(HT3.out.lk HL5.out hgp).c5;have C2:=CU u w5 hU (HG3.out.lk HL5.out (by omega)).g.gl;have a1:=kN ⟨#[115,101,101,100,32]⟩ (ba (Lib.decDigits u)) iS (Lib.decDigits u) rfl rfl (by simp only[DJ]at hle2;omega);have a2:=kN (ba (iS++Lib.decDigits u)) ⟨#[10]⟩ (iS++Lib.decDigits u) [10] rfl rfl (by rw[<-DJ];omega);clear l5 p5 CW HL4;go_wp2_with fail;refine C2.out.mono ?_;rintro r w6 ⟨rfl,b6⟩;have HL6:=H_ (HL5.out.trans (Lk.al b6));have CW:=(HP5.out.below b6).wr (iS++Lib.decDigits u++[10]) (by rw[EG];omega);clear b6 C2;go_wp2_with fail;refine CW.out.mono ?_;rintro r w7 ⟨rfl,l7,p7⟩;have HL7:=H_ (HL6.out.trans l7);have HP7:=H_ p7;have hs7:=HL7.out.size;obtain⟨q0,q1,q2,q3,q4⟩:=(HT3.out.lk HL7.out hgp).c5;have C3:=Au y w7 hI2 (HG3.out.lk HL7.out (by omega)).g.gl;have a1:=kN ⟨#[121,111,117,110,103,32]⟩ (ba (Lib.itoa y)) fV (Lib.itoa y) rfl rfl (by simp only[DJ]at hle3;omega);have a2:=kN (ba (fV++Lib.itoa y)) ⟨#[10,112,114,111,103,114,97,109,10]⟩ (fV++Lib.itoa y) kY rfl rfl (by rw[<-DJ];omega);clear l7 p7 CW HL6 HL5 HP5;go_wp2_with fail;refine C3.out.mono ?_;rintro r w8 ⟨rfl,b8⟩;have HL8:=H_ (HL7.out.trans (Lk.al b8));have CW:=(HP7.out.below b8).wr (fV++Lib.itoa y++kY) (by rw[EG,DJ];omega);clear b8 C3;go_wp2_with fail;refine CW.out.mono ?_;rintro r w9 ⟨rfl,l9,p9⟩;have HL9:=H_ (HL8.out.trans l9);have HP9:=H_ p9;have hs9:=HL9.out.size;obtain⟨q0,q1,q2,q3,q4⟩:=(HT3.out.lk HL9.out hgp).c5;have hG9:=HG3.out.lk HL9.out (by omega)
  have C4:Hid (Calls Tryz.prog 34 #[.agg #[.slice A n c]] w9 λe w'=>e= .returned (.string (ba (tPr x.cs)))/\Below w9.heap.size w9 w'):=by
   have h1:=Bh x.cs A n c w9 N ((HS3.out.lk HL9.out (by omega)).aA λb hb=>⟨hb.2.2,rfl⟩) (by omega) hG9.g.gl hG9.f hG9.cap (λcl hc=>by
    obtain⟨k,hk⟩:=EP hc;have:=cd csz hk;omega) (λ_=>by rw[yy];omega)
   unfold pgT at h1;rw[Ed HVS.out.cs]at h1;exact H_ h1
  have a1:=kN (ba (tPr x.cs)) ⟨#[101,110,100,10]⟩ (tPr x.cs) ou rfl rfl (by simp[ou];omega);obtain⟨P,hP⟩:=nm_ (tPr x.cs);rw[hP]at C4 a1 htp HTH;clear l9 p9 CW HL8 HL7 HP7 a2 hG9 hP;go_wp2_with fail;refine C4.out.mono ?_;rintro r w10 ⟨rfl,b10⟩;have HL10:=H_ (HL9.out.trans (Lk.al b10))
  have CW:=(HP9.out.below b10).wr (P++ou) (by
   have he:(P++ou).length=P.length+4:=by simp[ou]
   rw[EG,DJ,DJ];omega)
  rw[EG]at CW;have HTHs:=HTH;rw[<-HTH.out]at CW;clear b10 C4;go_wp2_with fail;refine CW.out.mono ?_;rintro r w11 ⟨rfl,l11,p11⟩;have HL11:=H_ (HL10.out.trans l11);have HP11:=H_ p11;have hs11:=HL11.out.size;obtain⟨q0,q1,q2,q3,q4⟩:=(HT3.out.lk HL11.out hgp).c5;clear l11 p11 CW HL10 HL9 HP9 a1 HTHs HTH;go_wp2_with fail;clear q0 q1 q2 q3 q4;go_loopw [38] (λi wr=>∃k:Nat,k<=n2/\i= .int .i64 k/\Hid (Lk (p+1) p W3 wr)/\Hid (BW wr (p+1) p (dz x++tAc (x.ac.take k)))) (λi _=>n2-(intOf i).toNat)
  case atStart=>exact⟨0,Ea _,rfl,HL11,H_ (by simpa[tAc]using HP11.out)⟩
  case round=>
   clear HL11 HP11;obtain⟨k,hk,rfl,HL,HP⟩:=hrel;have hsr:=HL.out.size;by_cases hkm:k<n2
   ·have hkz:(k:Int)<(n2:Int):=by omega
    obtain⟨b,off,d,cs,rfl,hgb,ha,hrd,hat⟩:=(HA3.out.lk HL.out (by omega)).at_ hkm;obtain⟨v,rfl,hrv,-,-,hvn,hvn2⟩:=jN hrd (λq hq=>by have:=hq.1;omega);have hvd:=HVS.out.ac d (DW ha);obtain⟨hwf,w1,w2',w3',w4'⟩:=gk hvd;have hfl:=mP hvd;have htk:=pJ ha;have hmono:(tAc (x.ac.take k)).length<=(tAc x.ac).length:=gL _ _ _;have HTK:=H_ htk;obtain⟨d0,d1,d2,d3,d4,d5,d6⟩:=At.e7 hat
    obtain⟨r,hr⟩:=nm_ (wr.heap.size);obtain⟨w3,hw3⟩:=nm_ (wr.alloc (.cells v.cells 48));have HA:=hng hw3 hr;have hs3':w3.heap.size=r+1:=by rw[<-hw3,DV,hr]
    have HL3:=H_ (HL.out.trans (Lk.al (bal hw3)));have HP3:=H_ (HP.out.below (bal hw3));have hnm:v.nm=d.nm:=hrv.nm;have hmt:v.mt=d.mt:=hrv.mt
    have HC:Hid (Calls Tryz.prog 17 #[.agg v.cells] w3 λe w'=>e= .returned (.string (ba (dO d)))/\Below w3.heap.size w3 w'):=
     H_ (oK v d w3 ((hrv.below (bal hw3)).more (by omega)) (HG3.out.lk HL3.out (by omega)).g.gl (by omega) (by omega) (by rw[hnm];omega) (by rw[hmt];omega) hwf)
    obtain⟨x0,x1,x2,x3,x4,x5,x6⟩:=HA.out.v7;obtain⟨E,hE⟩:=nm_ (dO d);obtain⟨Q,hQ⟩:=nm_ (tAc (x.ac.take k));rw[hE]at HC hfl HTK;rw[hQ]at HP3 HTK hmono;have a1:=kN (ba E) ⟨#[10]⟩ E [10] rfl rfl (by simp;omega);have HW3:=H_ hw3;clear ha hat hrd hrv hgb hw3 htk HP HL hvd hwf hnm hmt hE hQ hvn hvn2;unfold Av.cells at*
    go_upto_region 11 with fail;rw[HW3.out];go_wp2_with fail;refine HC.out.mono ?_;rintro e w4 ⟨rfl,b4⟩;have HL4:=H_ (HL3.out.trans (Lk.al b4));have CW:=(HP3.out.below b4).wr (E++[10]) (by simp only[DJ,DL,DO];omega);clear b4 HC HL3 HP3;go_wp2_with fail;refine CW.out.mono ?_;rintro e w5 ⟨rfl,l5,p5⟩;have HL5:=H_ (HL4.out.trans l5);have HP5:=H_ p5;clear l5 p5 CW HL4;go_wp2_with fail;go_roundw
    case rel=>exact⟨k+1,by omega,by go_num,HL5,H_ (by rw[HTK.out,<-Eb];exact HP5.out)⟩
    case measure=>simp[intOf];omega
   ·obtain rfl:k=n2:=by omega
    rw[DP (by omega)]at HP;have HC:=H_ (HP.out.str (vK x _) (by rw[DJ];omega));have HLB:=H_ HL.out;clear HP HL;go_wp2_with fail;refine HC.out.mono ?_;rintro e w4 ⟨rfl,l4⟩;have HE:Hid (Below g w w4):=H_ (hgz▸(HB2.out.trans ((HB3.out.mono (by omega)).trans ((HLB.out.trans l4).below (by omega) (by omega) (by omega)))));clear l4 HC;go_wp2_with fail;go_ret;exact⟨by rw[HFT.out];rfl,HE.out⟩
theorem yb(m sd y:Int)(w:World):Calls Tryz.prog 41 #[.agg #[.int .i64 m,.int .u64 sd,.int .i64 y]] w λe w'=>e= .returned (.bool (decide (1<=m/\m<=8/\0<=y/\y<=1099511627776)))/\Below w.heap.size w w':=by
 obtain⟨g,hz⟩:=nm_ (w.heap.size);obtain⟨W0,hW0⟩:=nm_ (w.alloc (.cells #[.int .i64 m,.int .u64 sd,.int .i64 y] 25));have HQ:=hng hW0 hz;have HB0:Hid (Below g w W0):=H_ (hz▸(hba hW0).out)
 have HA:Hid (decide (1<=m/\m<=8/\0<=y/\y<=1099511627776)=(bq m&&countB y)):=H_ (by
  unfold bq countB;rw[Bool.eq_iff_iff];simp[and_assoc])
 have HC1:Hid (∀W,Calls Tryz.prog 71 #[.int .i64 m] W λe w'=>e= .returned (.bool (bq m))/\W=w'):=H_ (kx m);have HC2:Hid (∀W,Calls Tryz.prog 72 #[.int .i64 y] W λe w'=>e= .returned (.bool (countB y))/\W=w'):=H_ (lM y);generalize bq m=vm at*
 generalize countB y=vy at*
 obtain⟨q0,q1,q2⟩:=HQ.out.c3;have HW:=H_ hW0;clear hW0;go_enter Tryz.func41,Tryz.ntmps41;rw[hz];go_upto_region 1 with fail;rw[HW.out]
 go_wp2_with (first
  |(go_at_call 71;refine(HC1.out _).mono ?_;rintro r w3 ⟨rfl,rfl⟩)
  |(go_at_call 72;refine(HC2.out _).mono ?_;rintro r w3 ⟨rfl,rfl⟩))
 all_goals
  go_ret;refine⟨aa ?_,HB0.out⟩;rw[HA.out];simp[*]
theorem yO(x:Sc)(A:Option Addr)(n c:Nat)(A2:Option Addr)(n2 c2:Nat)(w:World)(G:Nat->Prop)(hs:Sl fh w G x.cs A n)(hs2:Sl kAd w G x.ac A2 n2)(hG:∀b,G b->b<w.heap.size):
 Calls Tryz.prog 16 #[.agg #[.int .i64 x.m,.int .u64 x.sd,.int .i64 x.y,.slice A n c,.slice A2 n2 c2]] w λr w'=>r= .returned (.bool (fT x))/\Below w.heap.size w w':=by
 obtain⟨g,hz⟩:=nm_ (w.heap.size);obtain⟨W0,hW0⟩:=nm_ (w.alloc (.cells #[.int .i64 x.m,.int .u64 x.sd,.int .i64 x.y,.slice A n c,.slice A2 n2 c2] 35));have HQ:=hng hW0 hz;have HB0:=hba hW0;have hs0:W0.heap.size=g+1:=by rw[<-hW0,DV,hz]
 have HBZ:Hid (Below g w W0):=H_ (hz▸HB0.out);have HS:=H_ (hs.aA (G':=G) (w':=W0) (λb hb=>⟨hb,HB0.out.block b (hG b hb)⟩));have HS2:=H_ (hs2.aA (G':=G) (w':=W0) (λb hb=>⟨hb,HB0.out.block b (hG b hb)⟩));have HG:=H_ (show∀b,G b->b<W0.heap.size from λb hb=>by have:=hG b hb;omega);have hnb:n2<=1152921504606846976:=hs2.2.1;have hln:x.ac.length=n2:=hs2.1;have HW:=H_ hW0;have hvs:fT x=(x.ac.all ay&&(kJ x&&vPr x.cs)):=rfl;have HVS:=H_ hvs;obtain⟨m,hm⟩:=nm_ (x.m);obtain⟨sd,hsd⟩:∃m,x.sd=m:=⟨_,rfl⟩;obtain⟨y,hy⟩:∃m,x.y=m:=⟨_,rfl⟩;have hcf:kJ x=decide (1<=m/\m<=8/\0<=y/\y<=1099511627776):=by unfold kJ;rw[hm,hy]
 rw[hm,hsd,hy]at HQ HW⊢;have HC1:Hid (∀W,Calls Tryz.prog 41 #[.agg #[.int .i64 m,.int .u64 sd,.int .i64 y]] W λe w'=>e= .returned (.bool (kJ x))/\Below W.heap.size W w'):=H_ λW=>by rw[hcf];exact yb m sd y W
 have HC2:Hid (∀W,Below W0.heap.size W0 W->Calls Tryz.prog 42 #[.agg #[.slice A n c]] W λr w'=>r= .returned (.bool (vPr x.cs))/\Below W.heap.size W w'):=H_ λW hW=>
  yM x.cs A n c W G (HS.out.aA λb hb=>⟨hb,hW.block b (HG.out b hb)⟩) (λb hb=>by have:=HG.out b hb;have:=hW.size;omega)
 generalize kJ x=vc at*
 generalize vPr x.cs=vp at*
 generalize fT x=vb at*
 clear hs hs2 hG hW0 HB0 hcf hvs hm hsd hy;go_enter Tryz.func16,Tryz.ntmps16;rw[hz];go_upto_region 1 with fail;rw[HW.out];go_wp2_with fail;go_loopw [3] (λi wr=>∃k:Nat,k<=n2/\i= .int .i64 k/\Hid (Below W0.heap.size W0 wr)/\Hid ((x.ac.take k).all ay=true)) (λi _=>n2-(intOf i).toNat)
 case atStart=>exact⟨0,Ea _,rfl,H_ (DN _ _),H_ rfl⟩
 case round=>
  obtain⟨k,hk,rfl,HB,HV⟩:=hrel;have hsr:=HB.out.size;obtain⟨q0,q1,q2,q3,q4⟩:=(HQ.out.below HB.out (by omega)).c5;by_cases hkm:k<n2
  ·have hkz:(k:Int)<(n2:Int):=by omega
   have hS2:=HS2.out.aA (G':=G) (w':=wr) (λb hb'=>⟨hb',HB.out.block b (HG.out b hb')⟩);obtain⟨b,off,d,cs,rfl,hgb,hx,hrd,hat⟩:=hS2.at_ hkm;obtain⟨v,rfl,hrv,hvn,hvn2,-,-⟩:=jN hrd (λq hq=>by have:=HG.out q hq;omega);have HX:=H_ hx;obtain⟨d0,d1,d2,d3,d4,d5,d6⟩:=At.e7 hat
   have HC:=H_ (AH v d wr hrv hvn hvn2);obtain⟨bd,hbd⟩:=nm_ (ay d);rw[hbd]at HC;have HVD:=H_ hbd;clear hx hat hS2 hrd hrv hgb hbd;unfold Av.cells at*
   go_wp2_with fail;refine HC.out.mono ?_;rintro r w4 ⟨rfl,b4⟩;have HB4:=htr HB b4;clear b4 HC HB;cases bd with
   |false=>
    have HE:=H_ (HBZ.out.trans (HB4.out.mono (by omega)));go_wp2_with fail;go_ret;exact⟨aa (by rw[HVS.out,bh HX.out HVD.out,Bool.false_and]),HE.out⟩
   |true=>
    go_wp2_with fail;go_roundw
    case rel=>exact⟨k+1,by omega,by go_num,HB4,H_ (by rw[br HX.out,HV.out,HVD.out];rfl)⟩
    case measure=>simp[intOf];omega
  ·obtain rfl:k=n2:=by omega
   rw[DP (by omega)]at HV;have HA:Hid (vb=(vc&&vp)):=H_ (by rw[HVS.out,HV.out,Ft]);clear HV HVS
   go_wp2_with (first
    |(go_at_call 41;refine(HC1.out _).mono ?_;rintro r w3 ⟨rfl,b3⟩;have HB:=htr HB b3;clear b3;have hsz:=HB.out.size;obtain⟨q0,q1,q2,q3,q4⟩:=(HQ.out.below HB.out (by omega)).c5)
    |(go_at_call 42;refine(HC2.out _ HB.out).mono ?_;rintro r w3 ⟨rfl,b3⟩;have HB:=htr HB b3;clear b3;have hsz:=HB.out.size;obtain⟨q0,q1,q2,q3,q4⟩:=(HQ.out.below HB.out (by omega)).c5))
   all_goals
    go_ret;refine⟨aa ?_,HBZ.out.trans (HB.out.mono (by omega))⟩;rw[HA.out];simp[*]
def gC(N:Int)(s:Nat)(w:World)(r:Ending)(w':World):Prop:=∃z:Int,r= .returned (.int .i64 z)/\ -2305843009213693952<=z/\z<=N/\(0<=z->(s:Int)+z<=N)/\Below w.heap.size w w'
theorem BF:∀(m:Nat) (e:Ex) (cs:List Value) (w:World) (G:Nat->Prop) (N:Int),esz e<=m->ExK w G e cs->(∀b,G b->b<w.heap.size)->0<=N->N<=1000->
 Calls Tryz.prog 96 #[.agg cs.toArray,.int .i64 N] w (gC N (esz e) w):=by
 intro m;induction m with
 |zero=>intro e cs w G N hm;have:=bE e;omega
 |succ m ih=>
  intro e cs w G N hm hr hG hN0 hN1;obtain⟨xk,xo,xz,xn,xa,args⟩:=e;obtain⟨A,n,c,rfl,hs⟩:=ExK.inv hr;rw[dH]at hm⊢;have hln:=hs.1;have hnb:n<=1152921504606846976:=hs.2.1;obtain⟨g,hz⟩:=nm_ (w.heap.size);obtain⟨W0,hW0⟩:=nm_ (w.alloc (.cells #[.int .i64 xk,.int .i64 xo,.int .i64 xz,.string xn,.bool xa,.slice A n c] 172));have HQ:=hng hW0 hz;have HB0:=hba hW0;have hs0:W0.heap.size=g+1:=by rw[<-hW0,DV,hz]
  have HS:=H_ (hs.aA (G':=G) (w':=W0) (λb hb=>⟨hb,HB0.out.block b (hG b hb)⟩));have HG:=H_ (show∀b,G b->b<W0.heap.size from λb hb=>by have:=hG b hb;omega);have HBZ:Hid (Below g w W0):=H_ (hz▸HB0.out);have HIH:=H_ ih;have HW:=H_ hW0;obtain⟨q0,q1,q2,q3,q4,q5⟩:=HQ.out.c6;clear ih hs hG hr hW0 HB0;unfold gC;go_enter Tryz.func96,Tryz.ntmps96;rw[hz];go_upto_region 1 with fail;rw[HW.out];by_cases h40:(40:Int)<(xn.size:Int)
  ·go_wp2_with fail;go_ret;exact⟨-1,rfl,by omega,by omega,λh=>by omega,HBZ.out⟩
  ·go_wp2_with fail;go_loopw [1,5] (λu i wr=>∃(k:Nat) (z:Int),k<=n/\i= .int .i64 k/\u= .int .i64 z/\ -2305843009213693952<=z/\z<=N-1/\(0<=z->((1+lsz esz (args.take k):Nat):Int)+z<=N)/\Hid (Below W0.heap.size W0 wr)) (λ_ i _=>n-(intOf i).toNat)
   case atStart=>exact⟨0,N-1,Ea _,rfl,rfl,by omega,by omega,λh=>by simp[lsz];omega,H_ (DN _ _)⟩
   case round=>
    obtain⟨k,z,hk,rfl,rfl,hz0,hz1,hz2,HB⟩:=hrel;have hsr:=HB.out.size;obtain⟨q0,q1,q2,q3,q4,q5⟩:=(HQ.out.below HB.out (by omega)).c6;by_cases hkm:k<n/\0<=z
    ·obtain⟨hkm,hzz⟩:=hkm;have hkz:(k:Int)<(n:Int):=by omega
     have hS2:=HS.out.aA (G':=G) (w':=wr) (λb hb'=>⟨hb',HB.out.block b (HG.out b hb')⟩);obtain⟨b,off,x,cs,rfl,hgb,hx,hrd,hat⟩:=hS2.at_ hkm;have hsz:=cd esz hx;have htk:=dL esz args hx;have HC:=H_ (HIH.out x _ wr G z (by omega) hrd (λq hq=>by have:=HG.out q hq;omega) hzz (by omega));unfold gC at HC;obtain⟨yk,yo,yz,yn,ya,args2⟩:=x;obtain⟨A2,n2,c2,rfl,hsa⟩:=ExK.inv hrd;obtain⟨d0,d1,d2,d3,d4,d5⟩:=At.e6 hat
     generalize esz (.mk yk yo yz yn ya args2)=sx at*
     clear hat hrd hsa hS2 hx hgb q0 q1 q2 q3 q4;go_wp2_with fail;refine HC.out.mono ?_;rintro r w1 ⟨z',rfl,hz3,hz4,hz5,b1⟩;have B1:=htr HB b1;have HTK:=H_ htk;clear b1 HB HC htk;go_wp2_with fail;go_roundw
     case rel=>exact⟨k+1,z',by omega,by go_num,rfl,hz3,by omega,λh=>by have:=hz5 h;have:=hz2 hzz;have:=HTK.out;omega,B1⟩
     case measure=>simp[intOf];omega
    ·have HE:Hid (Below g w wr):=H_ (HBZ.out.trans (HB.out.mono (by omega)))
     have hfin:0<=z->((1+lsz esz args:Nat):Int)+z<=N:=λh=>by
      have h1:k=n:=by omega
      have h2:=hz2 h;rwa[DP (by omega)]at h2
     have HFIN:=H_ hfin
     clear hfin hz2;by_cases hkm2:k<n
     ·have hkz:(k:Int)<(n:Int):=by omega
      have hzz:¬(0:Int)<=z:=by omega
      go_wp2_with fail;go_ret;exact⟨z,rfl,hz0,by omega,HFIN.out,HE.out⟩
     ·have hkz:¬(k:Int)<(n:Int):=by omega
      go_wp2_with fail;go_ret;exact⟨z,rfl,hz0,by omega,HFIN.out,HE.out⟩
theorem BG:∀(m:Nat) (xs:List St) (A:Option Addr) (n c:Nat) (w:World) (G:Nat->Prop) (N:Int),lsz ssz xs<m->Sl gI w G xs A n->(∀b,G b->b<w.heap.size)->0<=N->N<=1000->
 Calls Tryz.prog 60 #[.slice A n c,.int .i64 N] w (gC N (lsz ssz xs) w):=by
 intro m;induction m with
 |zero=>intro xs A n c w G N hm;omega
 |succ m ih=>
  intro xs A n c w G N hm hs hG hN0 hN1;have hln:=hs.1;have hnb:n<=1152921504606846976:=hs.2.1;have HS:=H_ hs;have HG:=H_ hG;have HIH:=H_ ih;clear ih hs hG;unfold gC;go_enter Tryz.func60,Tryz.ntmps60;go_wp2_with fail;go_loopw [1,5] (λu i wr=>∃(k:Nat) (z:Int),k<=n/\i= .int .i64 k/\u= .int .i64 z/\ -2305843009213693952<=z/\z<=N/\(0<=z->((lsz ssz (xs.take k):Nat):Int)+z<=N)/\Hid (Below w.heap.size w wr)) (λ_ i _=>n-(intOf i).toNat)
  case atStart=>exact⟨0,N,Ea _,rfl,rfl,by omega,by omega,λh=>by simp[lsz],H_ (DN _ _)⟩
  case round=>
   obtain⟨k,z,hk,rfl,rfl,hz0,hz1,hz2,HB⟩:=hrel;have hsr:=HB.out.size;by_cases hkm:k<n/\0<=z
   ·obtain⟨hkm,hzz⟩:=hkm;have hkz:(k:Int)<(n:Int):=by omega
    have hS2:=HS.out.aA (G':=G) (w':=wr) (λb hb'=>⟨hb',HB.out.block b (HG.out b hb')⟩);obtain⟨b,off,x,cs,rfl,hgb,hx,hrd,hat⟩:=hS2.at_ hkm;have hsz:=cd ssz hx;have htk:=dL ssz xs hx;have hz2':=hz2 hzz;obtain⟨yk,yn,ex,bo,el⟩:=x;obtain⟨A1,n1,c1,A2,n2,c2,A3,n3,c3,rfl,hs1,hs2,hs3⟩:=StK.inv hrd;have hnb1:n1<=1152921504606846976:=hs1.2.1;have hln1:ex.length=n1:=hs1.1;obtain⟨d0,d1,d2,d3,d4⟩:=At.e5 hat
    rw[di]at hsz htk;have hbl:b<wr.heap.size:=by have:=HG.out b hgb;omega
    have HGr:=H_ (show∀q,G q->q<wr.heap.size from λq hq=>by have:=HG.out q hq;omega);have HS1:=H_ hs1;have HS2:=H_ hs2;have HS3:=H_ hs3;have HD:=H_ (And.intro d2 (And.intro d3 d4));have HTK:=H_ htk;obtain⟨P,hP⟩:=nm_ (lsz ssz (xs.take k));rw[hP]at HTK hz2';clear hat hrd hs1 hs2 hs3 hS2 hx hgb d0 hz2 htk hP;by_cases h40:(40:Int)<(yn.size:Int)
    ·clear d2 d3 d4;go_wp2_with fail;go_ret;exact⟨-1,rfl,by omega,by omega,λh=>by omega,HB.out⟩
    ·obtain⟨wa,rfl⟩:∃wa,wa=wr:=⟨_,rfl⟩;go_wp2_with fail;clear d1 d2 d3 d4;go_loopw [1,6] (λu i wy=>∃(r:Nat) (v:Int),r<=n1/\i= .int .i64 r/\u= .int .i64 v/\ -2305843009213693952<=v/\v<=z-1/\(0<=v->((lsz esz (ex.take r):Nat):Int)+v<=z-1)/\Hid (Below wa.heap.size wa wy)) (λ_ i _=>n1-(intOf i).toNat)
     case atStart=>exact⟨0,z-1,Ea _,rfl,rfl,by omega,by omega,λh=>by simp[lsz],H_ (DN _ _)⟩
     case round=>
      obtain⟨r,v,hr,rfl,rfl,hv0,hv1,hv2,HBi⟩:=hrel;have hsi:=HBi.out.size;have d2:=(ab HBi.out hbl _).trans HD.out.1;by_cases hrm:r<n1/\0<=v
      ·obtain⟨hrm,hvv⟩:=hrm;have hrz:(r:Int)<(n1:Int):=by omega
       have hv2':=hv2 hvv;have hS3:=HS1.out.aA (G':=G) (w':=wr) (λb hb'=>⟨hb',HBi.out.block b (HGr.out b hb')⟩);obtain⟨b',off',x',cs',rfl,hgb',hx',hrd',hat'⟩:=hS3.at_ hrm;have htk2:=dL esz ex hx';have HC:=H_ (BF _ x' _ wr G v (DK _) hrd' (λq hq=>by have:=HGr.out q hq;omega) hvv (by omega));unfold gC at HC;obtain⟨zk,zo,zz,zn,za,args2⟩:=x';obtain⟨A5,n5,c5,rfl,hsa⟩:=ExK.inv hrd';obtain⟨e0,e1,e2,e3,e4,e5⟩:=At.e6 hat';generalize esz (.mk zk zo zz zn za args2)=sx at*
       have HTK2:=H_ htk2;clear hat' hrd' hsa hS3 hx' hgb' hv2 htk2;go_wp2_with fail;refine HC.out.mono ?_;rintro e w1 ⟨v',rfl,hv3,hv4,hv5,b1⟩;have B1:=htr HBi b1;clear b1 HBi HC;go_wp2_with fail;go_roundw
       case rel=>exact⟨r+1,v',by omega,by go_num,rfl,hv3,by omega,λh=>by have:=hv5 h;have:=HTK2.out;omega,B1⟩
       case measure=>simp[intOf];omega
      ·have hfin:0<=v->((lsz esz ex:Nat):Int)+v<=z-1:=λh=>by
        have h2:=hv2 h;rwa[DP (by omega)]at h2
       have HFIN:=H_ hfin
       have HB3:Hid (Below w.heap.size w wr):=H_ (HB.out.trans (HBi.out.mono hsr));clear hfin hv2
       have hkc:∀P:Prop,((r:Int)<(n1:Int)->¬(0:Int)<=v->P)->(¬(r:Int)<(n1:Int)->P)->P:=λP h1 h2=>by
        by_cases h:(r:Int)<(n1:Int)
        ·exact h1 h (by omega)
        ·exact h2 h
       by_cases hvv:0<=v
       ·have hrz:¬(r:Int)<(n1:Int):=by omega
        have hf:=HFIN.out hvv;have d3:=(ab HBi.out hbl _).trans HD.out.2.1;have HC:=H_ (HIH.out bo A2 n2 c2 wr G v (by omega) (HS2.out.aA λq hq=>⟨hq,HBi.out.block q (HGr.out q hq)⟩) (λq hq=>by have:=HGr.out q hq;omega) hvv (by omega));unfold gC at HC;go_wp2_with fail;refine HC.out.mono ?_;rintro e w1 ⟨v',rfl,hv3,hv4,hv5,b1⟩;have HB4:=htr HB3 b1;have HB5:=htr HBi b1;have hs5:=HB5.out.size;clear b1 HC HB3 HBi d2 d3;by_cases hvw:0<=v'
        ·have hv5':=hv5 hvw;have d4:=(ab HB5.out hbl _).trans HD.out.2.2;have HC:=H_ (HIH.out el A3 n3 c3 w1 G v' (by omega) (HS3.out.aA λq hq=>⟨hq,HB5.out.block q (HGr.out q hq)⟩) (λq hq=>by have:=HGr.out q hq;omega) hvw (by omega));unfold gC at HC;go_wp2_with fail;refine HC.out.mono ?_;rintro e w2 ⟨v2,rfl,hv6,hv7,hv8,b2⟩;have HB6:=htr HB4 b2;clear b2 HC HB4 HB5 d4;go_wp2_with fail;go_roundw
         case rel=>exact⟨k+1,v2,by omega,by go_num,rfl,hv6,by omega,λh=>by have:=hv8 h;have:=HTK.out;omega,HB6⟩
         case measure=>simp[intOf];omega
        ·have hvn:¬(0:Int)<=v':=hvw;go_wp2_with fail;go_roundw
         case rel=>exact⟨k+1,v',by omega,by go_num,rfl,hv3,by omega,λh=>absurd h (by omega),HB4⟩
         case measure=>simp[intOf];omega
       ·have hvn:¬(0:Int)<=v:=hvv;refine hkc _ (λh1 h2=>?_) (λh1=>?_)
        all_goals
         go_wp2_with fail;go_roundw
         case rel=>exact⟨k+1,v,by omega,by go_num,rfl,hv0,by omega,λh=>absurd h (by omega),HB3⟩
         case measure=>simp[intOf];omega
   ·have hfin:0<=z->((lsz ssz xs:Nat):Int)+z<=N:=λh=>by
     have h2:=hz2 h;rwa[DP (by omega)]at h2
    have HFIN:=H_ hfin
    clear hfin hz2;by_cases hkm2:k<n
    ·have hkz:(k:Int)<(n:Int):=by omega
     have hzz:¬(0:Int)<=z:=by omega
     go_wp2_with fail;go_ret;exact⟨z,rfl,hz0,by omega,HFIN.out,HB.out⟩
    ·have hkz:¬(k:Int)<(n:Int):=by omega
     go_wp2_with fail;go_ret;exact⟨z,rfl,hz0,by omega,HFIN.out,HB.out⟩
theorem sV(xs:List ByteArray)(A:Option Addr)(n c:Nat)(w:World)(G:Nat->Prop)(N:Int)(hs:Sl dn w G xs A n)(h0: -1<=N)(h1:N<=1000):
 Calls Tryz.prog 59 #[.slice A n c,.int .i64 N] w (gC N xs.length w):=by
 have hln:=hs.1;have hnb:n<=1152921504606846976:=hs.2.1;have HS:=H_ hs;clear hs;unfold gC;go_enter Tryz.func59,Tryz.ntmps59;go_wp2_with fail;go_loopw [5] (λi wr=>∃k:Nat,k<=n/\i= .int .i64 k/\wr=w) (λi _=>n-(intOf i).toNat)
 case atStart=>exact⟨0,Ea _,rfl,rfl⟩
 case round=>
  obtain⟨k,hk,rfl,rfl⟩:=hrel;by_cases hkm:k<n
  ·have hkz:(k:Int)<(n:Int):=by omega
   obtain⟨b,off,x,cs,rfl,hgb,hx,hrd,hat⟩:=HS.out.at_ hkm;obtain rfl:cs=[.string x]:=hrd;have d0:=At.e1 hat
   clear hat hx hgb;by_cases h40:(40:Int)<(x.size:Int)
   ·go_wp2_with fail;go_ret;exact⟨-1,rfl,by omega,by omega,λh=>by omega,DN _ _⟩
   ·go_wp2_with fail;go_roundw
    case rel=>exact⟨k+1,by omega,by go_num,trivial⟩
    case measure=>simp[intOf];omega
  ·obtain rfl:k=n:=by omega
   go_wp2_with fail;go_ret;exact⟨N-k,rfl,by omega,by omega,λh=>by omega,DN _ _⟩
def FewP(P:Prop)(w:World)(r:Ending)(w':World):Prop:=∃b:Bool,r= .returned (.bool b)/\(b=true->P)/\Below w.heap.size w w'
theorem FewP.mk{P:Prop}{r:Ending}(b:Bool)(h1:r= .returned (.bool b))(h2:b=true->P)(h3:Below w.heap.size w w'):FewP P w r w':=⟨b,h1,h2,h3⟩
theorem CX(cl:List Cl)(A:Option Addr)(n c:Nat)(w:World)(G:Nat->Prop)(N:Int)(hs:Sl fh w G cl A n)(hG:∀b,G b->b<w.heap.size)(h0:0<=N)(h1:N<=1000):
 Calls Tryz.prog 29 #[.agg #[.slice A n c],.int .i64 N] w (FewP ((lsz csz cl:Int)<=N) w):=by
 have hln:=hs.1;have hnb:n<=1152921504606846976:=hs.2.1;obtain⟨g,hz⟩:=nm_ (w.heap.size);obtain⟨W0,hW0⟩:=nm_ (w.alloc (.cells #[.slice A n c] 28));have HQ:=hng hW0 hz;have HB0:=hba hW0;have hs0:W0.heap.size=g+1:=by rw[<-hW0,DV,hz]
 have HBZ:Hid (Below g w W0):=H_ (hz▸HB0.out);have HS:=H_ (hs.aA (G':=G) (w':=W0) (λb hb=>⟨hb,HB0.out.block b (hG b hb)⟩));have HG:=H_ (show∀b,G b->b<W0.heap.size from λb hb=>by have:=hG b hb;omega);have HW:=H_ hW0;clear hs hG hW0 HB0;go_enter Tryz.func29,Tryz.ntmps29;go_upto_region 1 with fail;rw[HW.out];go_wp2_with fail;go_loopw [1,5] (λu i wr=>∃(k:Nat) (z:Int),k<=n/\i= .int .i64 k/\u= .int .i64 z/\ -2305843009213693952<=z/\z<=N/\(0<=z->((lsz csz (cl.take k):Nat):Int)+z<=N)/\Hid (Below W0.heap.size W0 wr)) (λ_ i _=>n-(intOf i).toNat)
 case atStart=>exact⟨0,N,Ea _,rfl,rfl,by omega,by omega,λh=>by simp[lsz],H_ (DN _ _)⟩
 case round=>
  obtain⟨k,z,hk,rfl,rfl,hz0,hz1,hz2,HB⟩:=hrel;have hsr:=HB.out.size;have q0:=(HQ.out.below HB.out (by omega)).k0;by_cases hkm:k<n/\0<=z
  ·obtain⟨hkm,hzz⟩:=hkm;have hkz:(k:Int)<(n:Int):=by omega
   have hS2:=HS.out.aA (G':=G) (w':=wr) (λb hb'=>⟨hb',HB.out.block b (HG.out b hb')⟩);obtain⟨b,off,x,cs,rfl,hgb,hx,hrd,hat⟩:=hS2.at_ hkm;have htk:=dL csz cl hx;have hz2':=hz2 hzz;obtain⟨nm,ac,fs,ms⟩:=x;obtain⟨A1,n1,c1,A2,n2,c2,rfl,hs1,hs2⟩:=ClK.inv hrd;have hnb2:n2<=1152921504606846976:=hs2.2.1;have hln1:fs.length=n1:=hs1.1;have hln2:ms.length=n2:=hs2.1;obtain⟨d0,d1,d2,d3⟩:=At.e4 hat
   rw[show csz ⟨nm,ac,fs,ms⟩=1+fs.length+lsz msz ms from rfl]at htk;have HTK:=H_ htk;obtain⟨P,hP⟩:=nm_ (lsz csz (cl.take k));rw[hP]at HTK hz2';obtain⟨p,hp⟩:=nm_ (wr.heap.size);obtain⟨w3,hw3⟩:=nm_ (wr.alloc (.cells #[.string nm,.bool ac,.slice A1 n1 c1,.slice A2 n2 c2] 117));have HC:=hng hw3 hp;have hs3:w3.heap.size=p+1:=by rw[<-hw3,DV,hp]
   have HB3:=H_ (HB.out.trans ((bal hw3).mono hsr));have HS1:=H_ (hs1.aA (G':=G) (w':=w3) (λq hq=>⟨hq,(bal hw3).block q (by have:=HG.out q hq;omega)⟩));have HS2:=H_ (hs2.aA (G':=G) (w':=w3) (λq hq=>⟨hq,(bal hw3).block q (by have:=HG.out q hq;omega)⟩));have HG3:=H_ (show∀b,G b->b<w3.heap.size from λb hb=>by have:=HG.out b hb;omega);obtain⟨x0,x1,x2,x3⟩:=HC.out.c4;have HW3:=H_ hw3;clear hx hat hgb hs1 hs2 hS2 hw3 hz2 htk hP HB;go_upto_region 5 with fail;rw[HW3.out];clear q0 d0 d1 d2 d3;by_cases h40:(40:Int)<(nm.size:Int)
   ·have HE:Hid (Below g w w3):=H_ (HBZ.out.trans (HB3.out.mono (by omega)));go_wp2_with fail;go_ret;exact FewP.mk false rfl (λh=>absurd h (by simp)) (hz▸HE.out)
   ·have HC59:=H_ (sV fs A1 n1 c1 w3 G (z-1) HS1.out (by omega) (by omega));unfold gC at HC59;rw[hln1]at HC59;go_wp2_with fail;refine HC59.out.mono ?_;rintro r w4 ⟨z1,rfl,hy0,hy1,hy2,b4⟩;have HB4:=H_ b4;have hs4:=b4.size;obtain⟨x0,x1,x2,x3⟩:=(HC.out.below HB4.out HC.out.lt).c4;clear b4 HC59;go_wp2_with fail;go_loopw [1,7] (λu i wy=>∃(r:Nat) (v:Int),r<=n2/\i= .int .i64 r/\u= .int .i64 v/\ -2305843009213693952<=v/\v<=z1/\(0<=v->((lsz msz (ms.take r):Nat):Int)+v<=z1)/\Hid (Below w3.heap.size w3 wy)) (λ_ i _=>n2-(intOf i).toNat)
    case atStart=>exact⟨0,z1,Ea _,rfl,rfl,by omega,by omega,λh=>by simp[lsz],HB4⟩
    case round=>
     clear HB4;obtain⟨r,v,hr,rfl,rfl,hv0,hv1,hv2,HBi⟩:=hrel;have hsi:=HBi.out.size;have x3:=(HC.out.below HBi.out HC.out.lt).k3;by_cases hrm:r<n2/\0<=v
     ·obtain⟨hrm,hvv⟩:=hrm;have hrz:(r:Int)<(n2:Int):=by omega
      have hv2':=hv2 hvv;have hS3:=HS2.out.aA (G':=G) (w':=wr) (λb hb'=>⟨hb',HBi.out.block b (HG3.out b hb')⟩);obtain⟨b',off',y,cs',rfl,hgb',hy,hrd',hat'⟩:=hS3.at_ hrm;have htk2:=dL msz ms hy;obtain⟨mn,ps,bd⟩:=y;obtain⟨A3,n3,c3,A4,n4,c4,rfl,ht1,ht2⟩:=MeK.inv hrd';have hln3:ps.length=n3:=ht1.1;rw[show msz ⟨mn,ps,bd⟩=1+ps.length+lsz ssz bd from rfl]at htk2;obtain⟨e0,e1,e2⟩:=At.e3 hat';have hbl:b'<wr.heap.size:=by have:=HG3.out b' hgb';omega
      have HTK2:=H_ htk2;have HT2:=H_ ht2;have HC59:=H_ (sV ps A3 n3 c3 wr G (v-1) ht1 (by omega) (by omega));unfold gC at HC59;rw[hln3]at HC59;clear hy hat' hgb' ht1 ht2 hS3 hv2 htk2;by_cases h40:(40:Int)<(mn.size:Int)
      ·have HE:Hid (Below g w wr):=H_ (HBZ.out.trans ((HB3.out.trans (HBi.out.mono (by omega))).mono (by omega)));go_wp2_with fail;go_ret;exact FewP.mk false rfl (λh=>absurd h (by simp)) (hz▸HE.out)
      ·go_wp2_with fail;refine HC59.out.mono ?_;rintro e w5 ⟨v',rfl,hv3,hv4,hv5,b5⟩;have HB5:=htr HBi b5;have hs5:=HB5.out.size;have x3:=(HC.out.below HB5.out HC.out.lt).k3;have e2:=(ab b5 hbl _).trans e2;have HT3:=H_ (HT2.out.aA (G':=G) (w':=w5) (λq hq=>⟨hq,b5.block q (by have:=HG3.out q hq;omega)⟩));clear b5 HC59 HBi HT2;by_cases hvw:0<=v'
       ·have hv5':=hv5 hvw;have HC60:=H_ (BG _ bd A4 n4 c4 w5 G v' (Nat.lt_succ_self _) HT3.out (λq hq=>by have:=HG3.out q hq;omega) hvw (by omega));unfold gC at HC60;go_wp2_with fail;refine HC60.out.mono ?_;rintro e w6 ⟨v2,rfl,hv6,hv7,hv8,b6⟩;have HB6:=htr HB5 b6;clear b6 HC60 HB5 e2;go_wp2_with fail;go_roundw
        case rel=>exact⟨r+1,v2,by omega,by go_num,rfl,hv6,by omega,λh=>by have:=hv8 h;have:=HTK2.out;omega,HB6⟩
        case measure=>simp[intOf];omega
       ·have hvn:¬(0:Int)<=v':=hvw;go_wp2_with fail;go_roundw
        case rel=>exact⟨r+1,v',by omega,by go_num,rfl,hv3,by omega,λh=>absurd h (by omega),HB5⟩
        case measure=>simp[intOf];omega
     ·have hfin:0<=v->((lsz msz ms:Nat):Int)+v<=z1:=λh=>by
       have h2:=hv2 h;rwa[DP (by omega)]at h2
      have HFIN:=H_ hfin
      have HE:=H_ (HB3.out.trans (HBi.out.mono (by omega)))
      have hkc:∀P:Prop,((r:Int)<(n2:Int)->¬(0:Int)<=v->P)->(¬(r:Int)<(n2:Int)->P)->P:=λP h1 h2=>by
       by_cases h:(r:Int)<(n2:Int)
       ·exact h1 h (by omega)
       ·exact h2 h
      clear hfin hv2;refine hkc _ (λh1 h2=>?_) (λh1=>?_)
      all_goals
       go_wp2_with fail;go_roundw
       case rel=>exact⟨k+1,v,by omega,by go_num,rfl,hv0,by omega,λh=>by have:=HFIN.out h;have:=HTK.out;omega,HE⟩
       case measure=>simp[intOf];omega
  ·have hfin:0<=z->((lsz csz cl:Nat):Int)+z<=N:=λh=>by
    have h2:=hz2 h;rwa[DP (by omega)]at h2
   have HFIN:=H_ hfin
   have HE:Hid (Below g w wr):=H_ (HBZ.out.trans (HB.out.mono (by omega)))
   have hkc:∀P:Prop,((k:Int)<(n:Int)->¬(0:Int)<=z->P)->(¬(k:Int)<(n:Int)->P)->P:=λP h1 h2=>by
    by_cases h:(k:Int)<(n:Int)
    ·exact h1 h (by omega)
    ·exact h2 h
   clear hfin hz2;refine hkc _ (λh1 h2=>?_) (λh1=>?_)
   all_goals
    go_wp2_with fail;go_ret;exact FewP.mk (decide (0<=z)) (by first|rfl|simp[*]) (λh=>by have h2:=Er h;have:=HFIN.out h2;omega) (hz▸HE.out)
def AllB(w:World)(b:Nat):Prop:=b<w.heap.size
theorem AllB.aA(h:Below w.heap.size w w'):∀b,AllB w b->AllB w' b/\w'.heap[b]?=w.heap[b]?:=λb hb=>⟨DR hb h.size,h.block b hb⟩
def kP(w:World)(e:Ending)(w':World):Prop:=e= .returned (.bool true)/\Below w.heap.size w w'
theorem wo(xs:List ByteArray)(A B:Option Addr)(n c1 c2:Nat)(w:World)(h1:Sl dn w (AllB w) xs A n)(h2:Sl dn w (AllB w) xs B n)(hn:n<=1000000):Calls Tryz.prog 56 #[.slice A n c1,.slice B n c2] w (kP w):=by
 have H1:=H_ h1;have H2:=H_ h2;clear h1 h2;go_enter Tryz.func56,Tryz.ntmps56;go_wp2_with fail;go_loopw [5] (λi wr=>∃k:Nat,k<=n/\i= .int .i64 k/\Hid (Below w.heap.size w wr)) (λi _=>n-(intOf i).toNat)
 case atStart=>exact⟨0,Ea _,rfl,H_ (DN _ _)⟩
 case round=>
  obtain⟨k,hk,rfl,HB⟩:=hrel;by_cases hkm:k<n
  ·have hkz:(k:Int)<(n:Int):=by omega
   obtain⟨b,off,x,cs,rfl,hgb,hx,hrd,hat⟩:=(H1.out.aA (AllB.aA HB.out)).at_ hkm;obtain⟨b',off',x',cs',rfl,hgb',hx',hrd',hat'⟩:=(H2.out.aA (AllB.aA HB.out)).at_ hkm;obtain rfl:x'=x:=Option.some.inj (hx'.symm.trans hx);obtain⟨TT,f,hne,hf,hcov⟩:=cq wr.heap.size wr;have hcs:cs=[.string x']:=hrd;have hcs':cs'=[.string x']:=hrd';subst hcs hcs';have d0:∀y,(f y).cell? ⟨b,off+k,none⟩=some (.string x'):=λy=>(ab (hf y) hgb _).trans (by have:=hat 0 _ rfl;rwa[show dn.sz=1 from rfl,FR]at this);have d1:∀y,(f y).cell? ⟨b',off'+k,none⟩=some (.string x'):=λy=>(ab (hf y) hgb' _).trans (by have:=hat' 0 _ rfl;rwa[show dn.sz=1 from rfl,FR]at this);have HF:=H_ (λy=>HB.out.trans ((hf y).mono HB.out.size));have HCOV:=H_ hcov;clear hat hat' hrd hrd' hf hcov HB hx hx' hgb hgb';go_upto_region 6 with fail;refine az f (by kernel_rfl) (by kernel_rfl) (HCOV.out _ (DN _ _).drew) ?_;repeat (go_big_quiet_step (fail))
   refine Fp ?_;rintro _ ⟨y,rfl⟩;go_wp2_with fail;go_roundw
   case rel=>exact⟨k+1,by omega,by go_num,H_ (HF.out y)⟩
   case measure=>simp[intOf];omega
  ·obtain rfl:k=n:=by omega
   go_wp2_with fail;go_ret;exact⟨rfl,HB.out⟩
theorem cW{P:Program}{C:World->Prop}{a:Act}{o:Oper}{K:Act->Prop}(ty:TypeId)(x:Operand)(ho:o.op= .load ty x)
 (b off:Nat) (hx:a.eval x= .pointer (some ⟨b,off,none⟩)) (cs:List Value) (d:TypeDesc) (hc:∀w,C w->w.rangeAt b off cs)
 (hu:P.underlying ty=some d) (hd:d.isRow=true) (hi:(P.info? ty).map (·.size)=some cs.length) (hk:K (a.put o.dst (.agg cs.toArray))):o.quiet P a C K:=
 ⟨_,λw hw=>by
   unfold Oper.quietAt execOp;simp only[ho,hx,Instr.loadAt,Instr.sureAddr,Fg,Fh,EM,run_loadVar_mid w b off ty cs d (hc w hw) hu hd hi];exact⟨rfl,rfl⟩,hk⟩
theorem nJ(m:Nat)(IH:∀(x:Ex) (v1 v2:Value) (w:World),esz x<=m->ExV w (AllB w) x v1->ExV w (AllB w) x v2->Calls Tryz.prog 147 #[v1,v2] w (kP w))
 (xs:List Ex) (A B:Option Addr) (n c1 c2:Nat) (w:World) (h1:Sl kEx w (AllB w) xs A n) (h2:Sl kEx w (AllB w) xs B n) (hn:n<=1000000) (hm:lsz esz xs<=m):Calls Tryz.prog 95 #[.slice A n c1,.slice B n c2] w (kP w):=by
 have H1:=H_ h1;have H2:=H_ h2;have HI:=H_ IH;clear h1 h2 IH;go_enter Tryz.func95,Tryz.ntmps95;go_wp2_with fail;go_loopw [5] (λi wr=>∃k:Nat,k<=n/\i= .int .i64 k/\Hid (Below w.heap.size w wr)) (λi _=>n-(intOf i).toNat)
 case atStart=>exact⟨0,Ea _,rfl,H_ (DN _ _)⟩
 case round=>
  obtain⟨k,hk,rfl,HB⟩:=hrel;by_cases hkm:k<n
  ·have hkz:(k:Int)<(n:Int):=by omega
   obtain⟨b,off,x,cs,rfl,hgb,hx,hrd,hat⟩:=(H1.out.aA (AllB.aA HB.out)).at_ hkm;obtain⟨b',off',x',cs',rfl,hgb',hx',hrd',hat'⟩:=(H2.out.aA (AllB.aA HB.out)).at_ hkm;obtain rfl:x'=x:=Option.some.inj (hx'.symm.trans hx);have hsz:=cd esz hx;obtain⟨xk,xo,xz,xn,xa,args⟩:=x';obtain⟨A2,n2,c2',rfl,_⟩:=ExC.inv hrd;obtain⟨A3,n3,c3',rfl,_⟩:=ExC.inv hrd';obtain⟨TT,f,hne,hf,hcov⟩:=cq wr.heap.size wr;have R1:=H_ (show∀y,(f y).rangeAt b (off+k*6) [.int .i64 xk,.int .i64 xo,.int .i64 xz,.string xn,.bool xa,.slice A2 n2 c2']from λy j u hj=>(ab (hf y) hgb _).trans (by have:=hat j u hj;rwa[show kEx.sz=6 from rfl,El]at this));have R2:=H_ (show∀y,(f y).rangeAt b' (off'+k*6) [.int .i64 xk,.int .i64 xo,.int .i64 xz,.string xn,.bool xa,.slice A3 n3 c3']from λy j u hj=>(ab (hf y) hgb' _).trans (by have:=hat' j u hj;rwa[show kEx.sz=6 from rfl,El]at this))
   have C1:=H_ (show∀y,Calls Tryz.prog 147 #[.agg #[.int .i64 xk,.int .i64 xo,.int .i64 xz,.string xn,.bool xa,.slice A2 n2 c2'],.agg #[.int .i64 xk,.int .i64 xo,.int .i64 xz,.string xn,.bool xa,.slice A3 n3 c3']] (f y) (λe w''=>e= .returned (.bool true)/\∃z,w''=f z)from λy=>
    (HI.out (.mk xk xo xz xn xa args) _ _ (f y) (by omega) ⟨_,rfl,ExC.aA (AllB.aA (hf y)) hrd⟩ ⟨_,rfl,ExC.aA (AllB.aA (hf y)) hrd'⟩).mono λe w'' ⟨h1,h2⟩=>⟨h1,hcov _ ((hf y).trans (h2.mono (hf y).size))⟩)
   have HF:=H_ (λy=>HB.out.trans ((hf y).mono HB.out.size));have HCOV:=H_ hcov;clear hat hat' hrd hrd' hf hcov HB hx hx' hgb hgb';go_upto_region 6 with fail;refine az f (by kernel_rfl) (by kernel_rfl) (HCOV.out _ (DN _ _).drew) ?_;repeat (go_big_quiet_step (fail))
   go_big_quiet_want;refine cW 172 (.tmp 19) rfl b (off+k*6) rfl [_,_,_,_,_,_] _ (by rintro _ ⟨y,rfl⟩;exact R1.out y) Tryz.underlying172 rfl (by kernel_rfl) ?_;go_simp;go_big_quiet_on;repeat (go_big_quiet_step (fail))
   go_big_quiet_want;refine cW 172 (.tmp 23) rfl b' (off'+k*6) rfl [_,_,_,_,_,_] _ (by rintro _ ⟨y,rfl⟩;exact R2.out y) Tryz.underlying172 rfl (by kernel_rfl) ?_;go_simp;go_big_quiet_on;repeat (go_big_quiet_step ((go_at_call 147;exact C1.out _)))
   refine Fp ?_;rintro _ ⟨y,rfl⟩;go_wp2_with fail;go_roundw
   case rel=>exact⟨k+1,by omega,by go_num,H_ (HF.out y)⟩
   case measure=>simp[intOf];omega
  ·obtain rfl:k=n:=by omega
   go_wp2_with fail;go_ret;exact⟨rfl,HB.out⟩
theorem eD{α:Type}(sz:α->Nat)(h:∀x,1<=sz x):∀l:List α,l.length<=lsz sz l
 |[]=>DK _
 |x::l=>by have:=eD sz h l;have:=h x;rw[aS,DL];omega
theorem rk(m:Nat)(hm0:m<=1000000)(IH:∀(x:Ex) (v1 v2:Value) (w:World),esz x<m->ExV w (AllB w) x v1->ExV w (AllB w) x v2->Calls Tryz.prog 147 #[v1,v2] w (kP w))
 (x:Ex) (v1 v2:Value) (w:World) (hm:esz x<=m) (h1:ExV w (AllB w) x v1) (h2:ExV w (AllB w) x v2):Calls Tryz.prog 147 #[v1,v2] w (kP w):=by
 obtain⟨xk,xo,xz,xn,xa,args⟩:=x;rw[dH]at hm;obtain⟨cs,rfl,hrd⟩:=h1;obtain⟨cs',rfl,hrd'⟩:=h2;obtain⟨A2,n2,c2,rfl,hs⟩:=ExC.inv hrd;obtain⟨A3,n3,c3,rfl,hs'⟩:=ExC.inv hrd';obtain rfl:n3=n2:=hs'.1.symm.trans hs.1;have hn:=eD esz bE args;rw[hs.1]at hn;clear hrd hrd';obtain⟨w0,hw0⟩:=nm_ (w.alloc (.cells #[.int .i64 xk,.int .i64 xo,.int .i64 xz,.string xn,.bool xa,.slice A2 n3 c2] 172));obtain⟨w1,hw1⟩:=nm_ (w0.alloc (.cells #[.int .i64 xk,.int .i64 xo,.int .i64 xz,.string xn,.bool xa,.slice A3 n3 c3] 172));have hsz0:w0.heap.size=w.heap.size+1:=by rw[<-hw0];simp
 have hsz1:w1.heap.size=w.heap.size+2:=by rw[<-hw1];simp[hsz0]
 have hb0:=bal hw0;have hb1':=bal hw1;have hb1:=hb0.trans (hb1'.mono hb0.size);have p0:=Blk.nw hw0;have p1:Blk w1 w.heap.size 172 #[.int .i64 xk,.int .i64 xo,.int .i64 xz,.string xn,.bool xa,.slice A2 n3 c2]:=(hb1'.block _ (by omega)).trans p0;have p2:Blk w1 (w.heap.size+1) 172 #[.int .i64 xk,.int .i64 xo,.int .i64 xz,.string xn,.bool xa,.slice A3 n3 c3]:=by rw[<-hsz0];exact hw1▸Blk.new w0 172 _
 have C1:=nJ (lsz esz args) (λy u1 u2 w' hy=>IH y u1 u2 w' (by omega)) args A2 A3 n3 c2 c3 w1 (hs.aA (AllB.aA hb1)) (hs'.aA (AllB.aA hb1)) (by omega) (DK _);generalize hp:w.heap.size=p at*
 have q0:=p1.cell 0;have q1:=p1.cell 1;have q2:=p1.cell 2;have q3:=p1.cell 3;have q4:=p1.cell 4;have q5:=p1.cell 5;have r0:=p2.cell 0;have r1:=p2.cell 1;have r2:=p2.cell 2;have r3:=p2.cell 3;have r4:=p2.cell 4;have r5:=p2.cell 5;have HB:=H_ hb1;have HY:=H_ hsz1;have HC:=H_ C1;clear C1 hb1 p0 p1 p2 hb0 hb1' hs hs' IH;go_enter Tryz.func147,Tryz.ntmps147;go_wp2_with (go_at_call 95;refine HC.out.mono ?_);rintro _ w2 ⟨rfl,hb2⟩;go_wp2_with fail;go_ret;exact⟨rfl,hp▸HB.out.trans (hb2.mono (by have:=HY.out;omega))⟩
theorem pQ(m:Nat)(hm0:m<=1000000):∀(x:Ex) (v1 v2:Value) (w:World),esz x<=m->ExV w (AllB w) x v1->ExV w (AllB w) x v2->Calls Tryz.prog 147 #[v1,v2] w (kP w):=by
 induction m with
 |zero=>exact λx v1 v2 w hx=>absurd (bE x) (by omega)
 |succ m ih=>exact rk (m+1) hm0 (λx v1 v2 w hx=>ih (by omega) x v1 v2 w (by omega))
theorem AX(xs:List Ex)(A B:Option Addr)(n c1 c2:Nat)(w:World)(h1:Sl kEx w (AllB w) xs A n)(h2:Sl kEx w (AllB w) xs B n)(hm:lsz esz xs<=1000000):Calls Tryz.prog 95 #[.slice A n c1,.slice B n c2] w (kP w):=
 nJ 1000000 (pQ 1000000 (DK _)) xs A B n c1 c2 w h1 h2 (by have:=eD esz bE xs;rw[h1.1]at this;omega) hm
theorem nK(m:Nat)(hm0:m<=1000000)(IH:∀(xs:List St) (A B:Option Addr) (n c1 c2:Nat) (w:World),lsz ssz xs<m->Sl kSt w (AllB w) xs A n->Sl kSt w (AllB w) xs B n->Calls Tryz.prog 57 #[.slice A n c1,.slice B n c2] w (kP w))
 (xs:List St) (A B:Option Addr) (n c1 c2:Nat) (w:World) (h1:Sl kSt w (AllB w) xs A n) (h2:Sl kSt w (AllB w) xs B n) (hm:lsz ssz xs<=m):Calls Tryz.prog 57 #[.slice A n c1,.slice B n c2] w (kP w):=by
 have hn:=eD ssz lE xs;rw[h1.1]at hn;have hn6:n<=1000000:=by omega
 have H1:=H_ h1;have H2:=H_ h2;have HI:=H_ IH;clear h1 h2 IH;go_enter Tryz.func57,Tryz.ntmps57;go_wp2_with fail;go_loopw [5] (λi wr=>∃k:Nat,k<=n/\i= .int .i64 k/\Hid (Below w.heap.size w wr)) (λi _=>n-(intOf i).toNat)
 case atStart=>exact⟨0,Ea _,rfl,H_ (DN _ _)⟩
 case round=>
  obtain⟨k,hk,rfl,HB⟩:=hrel;by_cases hkm:k<n
  ·have hkz:(k:Int)<(n:Int):=by omega
   obtain⟨b,off,x,cs,rfl,hgb,hx,hrd,hat⟩:=(H1.out.aA (AllB.aA HB.out)).at_ hkm;obtain⟨b',off',x',cs',rfl,hgb',hx',hrd',hat'⟩:=(H2.out.aA (AllB.aA HB.out)).at_ hkm;obtain rfl:x'=x:=Option.some.inj (hx'.symm.trans hx);have hsz:=cd ssz hx;obtain⟨xk,xn,ex,bo,el⟩:=x';rw[di]at hsz;obtain⟨A2,n2,c2',A3,n3,c3,A4,n4,c4,rfl,hs1,hs2,hs3⟩:=StC.inv hrd;obtain⟨A2',n2',c2'',A3',n3',c3',A4',n4',c4',rfl,ht1,ht2,ht3⟩:=StC.inv hrd';obtain rfl:n2'=n2:=ht1.1.symm.trans hs1.1;obtain rfl:n3'=n3:=ht2.1.symm.trans hs2.1;obtain rfl:n4'=n4:=ht3.1.symm.trans hs3.1;obtain⟨TT,f,hne,hf,hcov⟩:=cq wr.heap.size wr;have R1:=λ(y:TT) (j:Nat) (u:Value) (hj:[Value.int .i64 xk,.string xn,.slice A2 n2' c2',.slice A3 n3' c3,.slice A4 n4' c4][j]?=some u)=>(ab (hf y) hgb _).trans (show wr.cell? ⟨b,off+k*5+j,none⟩=some u by have:=hat j u hj;rwa[show kSt.sz=5 from rfl,El]at this);have R2:=λ(y:TT) (j:Nat) (u:Value) (hj:[Value.int .i64 xk,.string xn,.slice A2' n2' c2'',.slice A3' n3' c3',.slice A4' n4' c4'][j]?=some u)=>(ab (hf y) hgb' _).trans (show wr.cell? ⟨b',off'+k*5+j,none⟩=some u by have:=hat' j u hj;rwa[show kSt.sz=5 from rfl,El]at this);have a0:∀y,(f y).cell? ⟨b,off+k*5,none⟩=some (.int .i64 xk):=λy=>R1 y 0 _ rfl;have a1:=λy=>R1 y 1 _ rfl;have a2:=λy=>R1 y 2 _ rfl;have a3:=λy=>R1 y 3 _ rfl;have a4:=λy=>R1 y 4 _ rfl;have e0:∀y,(f y).cell? ⟨b',off'+k*5,none⟩=some (.int .i64 xk):=λy=>R2 y 0 _ rfl;have e1:=λy=>R2 y 1 _ rfl;have e2:=λy=>R2 y 2 _ rfl;have e3:=λy=>R2 y 3 _ rfl;have e4:=λy=>R2 y 4 _ rfl
   have C1:=H_ (show∀y,Calls Tryz.prog 95 #[.slice A2 n2' c2',.slice A2' n2' c2''] (f y) (λe w''=>e= .returned (.bool true)/\∃z,w''=f z)from λy=>
    (AX ex A2 A2' _ _ _ (f y) (hs1.aA (AllB.aA (hf y))) (ht1.aA (AllB.aA (hf y))) (by omega)).mono λe w'' ⟨h1,h2⟩=>⟨h1,hcov _ ((hf y).trans (h2.mono (hf y).size))⟩)
   have C2:=H_ (show∀y,Calls Tryz.prog 57 #[.slice A3 n3' c3,.slice A3' n3' c3'] (f y) (λe w''=>e= .returned (.bool true)/\∃z,w''=f z)from λy=>
    (HI.out bo A3 A3' _ _ _ (f y) (by omega) (hs2.aA (AllB.aA (hf y))) (ht2.aA (AllB.aA (hf y)))).mono λe w'' ⟨h1,h2⟩=>⟨h1,hcov _ ((hf y).trans (h2.mono (hf y).size))⟩)
   have C3:=H_ (show∀y,Calls Tryz.prog 57 #[.slice A4 n4' c4,.slice A4' n4' c4'] (f y) (λe w''=>e= .returned (.bool true)/\∃z,w''=f z)from λy=>
    (HI.out el A4 A4' _ _ _ (f y) (by omega) (hs3.aA (AllB.aA (hf y))) (ht3.aA (AllB.aA (hf y)))).mono λe w'' ⟨h1,h2⟩=>⟨h1,hcov _ ((hf y).trans (h2.mono (hf y).size))⟩)
   have HF:=H_ (λy=>HB.out.trans ((hf y).mono HB.out.size));have HCOV:=H_ hcov;clear hat hat' hrd hrd' hf hcov HB hx hx' hgb hgb' R1 R2 hs1 hs2 hs3 ht1 ht2 ht3 hsz hm hn;go_upto_region 6 with fail;refine az f (by kernel_rfl) (by kernel_rfl) (HCOV.out _ (DN _ _).drew) ?_;simp only[List.append_eq,EK,EG];repeat (go_big_quiet_step (fail))
   go_big_quiet_step ((go_at_call 95;exact C1.out _));repeat (go_big_quiet_step (fail))
   go_big_quiet_step ((go_at_call 57;exact C2.out _));repeat (go_big_quiet_step (fail))
   go_big_quiet_step ((go_at_call 57;exact C3.out _));repeat (go_big_quiet_step (fail))
   refine Fp ?_;rintro _ ⟨y,rfl⟩;go_wp2_with fail;go_roundw
   case rel=>exact⟨k+1,by omega,by go_num,H_ (HF.out y)⟩
   case measure=>simp[intOf];omega
  ·obtain rfl:k=n:=by omega
   go_wp2_with fail;go_ret;exact⟨rfl,HB.out⟩
theorem AY(xs:List St)(A B:Option Addr)(n c1 c2:Nat)(w:World)(h1:Sl kSt w (AllB w) xs A n)(h2:Sl kSt w (AllB w) xs B n)(hm:lsz ssz xs<=1000000):Calls Tryz.prog 57 #[.slice A n c1,.slice B n c2] w (kP w):=by
 have h:∀(m:Nat),m<=1000000->∀(xs:List St) (A B:Option Addr) (n c1 c2:Nat) (w:World),lsz ssz xs<=m->Sl kSt w (AllB w) xs A n->Sl kSt w (AllB w) xs B n->Calls Tryz.prog 57 #[.slice A n c1,.slice B n c2] w (kP w):=by
  intro m;induction m with
  |zero=>exact λ_ xs A B n c1 c2 w hx h1 h2=>nK 0 (by omega) (λ_ _ _ _ _ _ _ h=>absurd h (by omega)) xs A B n c1 c2 w h1 h2 hx
  |succ m ih=>exact λh0 xs A B n c1 c2 w hx h1 h2=>nK (m+1) h0 (λxs A B n c1 c2 w h=>ih (by omega) xs A B n c1 c2 w (by omega)) xs A B n c1 c2 w h1 h2 hx
 exact h 1000000 (DK _) xs A B n c1 c2 w hm h1 h2
end
end Go.Proofs.YtjpbckbpeblibaaGreatDoor
