/- part of a proof -/
import Derived.Test.YtjpbckbpeblibaaGreatDoorCC15
namespace Go.Proofs.YtjpbckbpeblibaaGreatDoor
set_option linter.unusedVariables false
set_option linter.unusedSimpArgs false
set_option maxRecDepth 100000
set_option maxHeartbeats 64000000
section
open Go.RowKit
variable{B N d:Nat}{T:Type}
theorem gF{p:Nat}{xs:List Ex}(i:Nat){a:Ex}(hi:xs[i]?=some a)(hv:vE a=true)(r:Nat)(A:Option Addr)(n c g1 g2:Nat)(v0 v1 v3 v4:Value)(w:World)(s:List UInt8)(hb1:Blk w g1 126 #[.pointer (some ⟨p,0,none⟩)])
 (hb2:Blk w g2 168 #[v0,v1,.slice A n c,v3,v4]) (hs:Sl gX w (GB B p N) xs A n) (hp:PW w B p d s) (hg:GP w p N) (hlen:s.length+(tIn r a).length<=TB):
 Calls Tryz.prog 265 #[.int .i64 (i:Int),.int .i64 (r:Int),.pointer (some ⟨g1,0,none⟩),.pointer (some ⟨g2,0,none⟩)] w (Pr B p d s (tIn r a) w):=by
 have hlt:=hp.lt;have hle:=hp.le;have hil:=(DQ.1 hi).1;have hn:=hs.1;obtain⟨b,off,a',cs,rfl,hgb,ha,hrd,hat⟩:=hs.at_ (k:=i) (by omega);obtain rfl:a=a':=by rw[hi]at ha;simpa using ha
 have hbd:Below w.heap.size w w.drew:=(DN _ _).drew;have HC:=H_ (jT hv r cs w.drew _ (ExK.lk hrd (Lk.al hbd) hle) (oX hrd) (hp.below hbd) (hg.new hbd) hlen);obtain⟨yk,yo,yz,yn,ya,args2⟩:=a;obtain⟨A2,n2,c2,rfl,hsa⟩:=ExK.inv hrd;obtain⟨d0,d1,d2,d3,d4,d5⟩:=At.e6 (k:=i) hat
 have f0:=hb1.k0;have f2:=hb2.k2;have hi0:(0:Int)<=(i:Int):=by omega
 have hi1:(i:Int)<(n:Int):=by omega
 have HLD:=H_ (show Lk B p w w.drew from Lk.al hbd);obtain⟨T,hT⟩:=nm_ (tIn r (.mk yk yo yz yn ya args2));rw[hT]at HC⊢;clear hgb ha hrd hat hsa hbd hb1 hb2 hs hp hg hi hT hlen;go_enter Tryz.func265,Tryz.ntmps265;go_wp2_with fail;go_still_tail 7,(by kernel_rfl);change wpList _ _ _ _ _ w.drew;go_wp2_with fail;refine HC.out.mono ?_;rintro e w2 ⟨rfl,l2,p2⟩;have HL2:=H_ (HLD.out.trans l2);have HP2:=H_ p2;clear HC l2 p2;go_wp2_with fail;go_end0;exact⟨rfl,HL2.out,HP2.out⟩
def tSm(k:Int)(nm:ByteArray)(xs:List Ex):List UInt8:=
 if k=0 then cY++nm.data.toList++sEq++tE (xs.getD 0 (ge 0))else if k=1 then nm.data.toList++sEq++tE (xs.getD 0 (ge 0))
 else if k=2 then tIn 9 (xs.getD 0 (ge 0))++[46]++nm.data.toList++sEq++tE (xs.getD 1 (ge 0))
 else if k=5 then bQ++tIn 8 (xs.getD 0 (ge 0))++[46]++nm.data.toList++40::(cp xs.tail++[41])
 else if k=6 then aZ++tE (xs.getD 0 (ge 0))else if k=7 then bR++tE (xs.getD 0 (ge 0))++sTo++tE (xs.getD 1 (ge 0))
 else if k=8 then aY++tE (xs.getD 0 (ge 0))++sBy++nm.data.toList++40::(cp xs.tail++[41])else ax
theorem Cw{p:Nat}{e:St}(hv:vS e=true)(cs:List Value)(w:World)(s:List UInt8)(hr:StK w (GB B p N) e cs)(hcl:lw cs)(hp:PW w B p d s)(hg:GP w p N)(k:Int)(nm:ByteArray)(xs:List Ex)(he:e=stE k nm xs)(hk:k≠3/\k≠4)
 (hlen:s.length+(tSm k nm xs).length<=TB):Calls Tryz.prog 238 #[.pointer (some ⟨p,0,none⟩),.agg cs.toArray] w (Pr B p d s (tSm k nm xs) w):=by
 subst he;obtain⟨A,n,c,A2,n2,c2,A3,n3,c3,rfl,hs,_,_⟩:=StK.inv hr;have hn:=hs.1;have hcap:n<=c:=hcl A n c (by simp);clear hcl;obtain⟨g1,hz⟩:∃g,w.heap.size=g:=⟨_,rfl⟩;obtain⟨W0,hW0⟩:=nm_ (w.alloc (.cells #[.pointer (some ⟨p,0,none⟩)] 126));obtain⟨W1,hW1⟩:=nm_ (W0.alloc (.cells #[.int .i64 k,.string nm,.slice A n c,.slice A2 n2 c2,.slice A3 n3 c3] 168));have hlt:=hp.lt;have hle:=hp.le;have HF0:=hng hW0 hz;have hs0:W0.heap.size=g1+1:=by rw[<-hW0,DV,hz]
 have HE1:=hng hW1 hs0;have hs1:W1.heap.size=g1+2:=by rw[<-hW1,DV,hs0]
 have HF1:=H_ (HF0.out.al hW1);have l1:Lk B p w W1:=(Lk.al (bal hW0)).trans (Lk.al (bal hW1));have HL1:=H_ l1;have HP1:=H_ ((hp.below (bal hW0)).below (bal hW1));have HG1:=H_ (hg.lk l1 hlt);have HS1:=H_ (hs.lk l1 hle);have HW:=H_ (And.intro hW0 hW1);obtain⟨T,hT⟩:=nm_ (tSm k nm xs);rw[hT]at hlen⊢;have HT:=H_ hT;have f0:=HF1.out.k0;obtain⟨e0,e1,e2,e3,e4⟩:=HE1.out.c5;have hB1:B<=W1.heap.size:=by omega
 have HV:=H_ hv;have hxl:nm.data.toList.length=nm.size:=rfl;have hpg1:g1≠p:=by omega
 have hpg2:g1+1≠p:=by omega
 clear hr hs hp hg hW0 hW1 hT l1 HF0 hv;go_enter Tryz.func238,Tryz.ntmps238;go_upto_region 1 with fail;rw[HW.out.1,HW.out.2];rcases gn HV.out with⟨nm',x,e,_,hx⟩|⟨nm',x,e,_,hx⟩|⟨nm',x,y,e,_,hx,hy⟩|⟨x,b,f,e,_⟩|⟨x,b,e,_⟩|⟨nm',x,l,e,_,hx,hl⟩|⟨x,e,hx⟩|⟨x,y,e,hx,hy⟩|⟨nm',x,y,e,_,hx,hy⟩|e
 case inl=>
  simp only[stE,St.mk.injEq,Em]at e;obtain⟨rfl,rfl,rfl⟩:=e;have hTT:T=cY++nm.data.toList++sEq++tE x:=HT.out.symm;rw[hTT]at hlen;have HTT:=H_ hTT;clear hTT;try simp only[DJ,DL,DO]at hlen
  have HR1:=H_ (Lk.refl B p W1);have HM1:=H_ (show PW W1 B p d (s++[]) by rw[Eo];exact HP1.out);have HC1:=H_ (wr3 HM1.out ⟨#[108,101,116,32]⟩ nm ⟨#[32,61,32]⟩ (by simp only[DJ,DL,DO,am,cY,sEq,bQ,aZ,bR,sTo,aY,sBy,ax,ByteArray.size,List.size_toArray,Array.length_toList]at*;omega));rw[hs1]at HC1;go_wp2_with fail;refine HC1.out.mono ?_;rintro e w2 ⟨rfl,l2,p2⟩;rw[Eb]at p2;have hs2:=l2.size;have HR2:=H_ (HR1.out.trans l2);have HM2:=H_ p2;clear l2 p2 HC1;have HC2:=H_ (gF 0 (xs:=_) rfl hx 1 A n c g1 (g1+1) _ _ _ _ w2 _ (HF1.out.lk HR2.out hpg1) (HE1.out.lk HR2.out hpg2) (HS1.out.lk HR2.out hB1) HM2.out (HG1.out.lk HR2.out hlt) (by simp only[DJ,DL,DO,am,cY,sEq,bQ,aZ,bR,sTo,aY,sBy,ax,ByteArray.size,List.size_toArray,Array.length_toList]at*;omega));go_wp2_with fail;refine HC2.out.mono ?_;rintro e w3 ⟨rfl,l3,p3⟩;rw[Eb]at p3;have hs3:=l3.size;have HR3:=H_ (HR2.out.trans l3);have HM3:=H_ p3;clear l3 p3 HC2;go_wp2_with fail;go_end0;exact⟨rfl,HL1.out.trans HR3.out,by rw[HTT.out];simpa[cY,sEq,bQ,aZ,bR,sTo,aY,sBy,ax,am]using HM3.out⟩
 case inr.inl=>
  simp only[stE,St.mk.injEq,Em]at e;obtain⟨rfl,rfl,rfl⟩:=e;have hTT:T=nm.data.toList++sEq++tE x:=HT.out.symm;rw[hTT]at hlen;have HTT:=H_ hTT;clear hTT;try simp only[DJ,DL,DO]at hlen
  have HR1:=H_ (Lk.refl B p W1);have HM1:=H_ (show PW W1 B p d (s++[]) by rw[Eo];exact HP1.out);have HC1:=H_ (wr2 HM1.out nm ⟨#[32,61,32]⟩ (by simp only[DJ,DL,DO,am,cY,sEq,bQ,aZ,bR,sTo,aY,sBy,ax,ByteArray.size,List.size_toArray,Array.length_toList]at*;omega));rw[hs1]at HC1;go_wp2_with fail;refine HC1.out.mono ?_;rintro e w2 ⟨rfl,l2,p2⟩;rw[Eb]at p2;have hs2:=l2.size;have HR2:=H_ (HR1.out.trans l2);have HM2:=H_ p2;clear l2 p2 HC1;have HC2:=H_ (gF 0 (xs:=_) rfl hx 1 A n c g1 (g1+1) _ _ _ _ w2 _ (HF1.out.lk HR2.out hpg1) (HE1.out.lk HR2.out hpg2) (HS1.out.lk HR2.out hB1) HM2.out (HG1.out.lk HR2.out hlt) (by simp only[DJ,DL,DO,am,cY,sEq,bQ,aZ,bR,sTo,aY,sBy,ax,ByteArray.size,List.size_toArray,Array.length_toList]at*;omega));go_wp2_with fail;refine HC2.out.mono ?_;rintro e w3 ⟨rfl,l3,p3⟩;rw[Eb]at p3;have hs3:=l3.size;have HR3:=H_ (HR2.out.trans l3);have HM3:=H_ p3;clear l3 p3 HC2;go_wp2_with fail;go_end0;exact⟨rfl,HL1.out.trans HR3.out,by rw[HTT.out];simpa[cY,sEq,bQ,aZ,bR,sTo,aY,sBy,ax,am]using HM3.out⟩
 case inr.inr.inl=>
  simp only[stE,St.mk.injEq,Em]at e;obtain⟨rfl,rfl,rfl⟩:=e;have hTT:T=tIn 9 x++[46]++nm.data.toList++sEq++tE y:=HT.out.symm;rw[hTT]at hlen;have HTT:=H_ hTT;clear hTT;try simp only[DJ,DL,DO]at hlen
  have HR1:=H_ (Lk.refl B p W1);have HM1:=H_ (show PW W1 B p d (s++[]) by rw[Eo];exact HP1.out);have HC1:=H_ (gF 0 (xs:=_) rfl hx 9 A n c g1 (g1+1) _ _ _ _ W1 _ (HF1.out.lk HR1.out hpg1) (HE1.out.lk HR1.out hpg2) (HS1.out.lk HR1.out hB1) HM1.out (HG1.out.lk HR1.out hlt) (by simp only[DJ,DL,DO,am,cY,sEq,bQ,aZ,bR,sTo,aY,sBy,ax,ByteArray.size,List.size_toArray,Array.length_toList]at*;omega));go_wp2_with fail;refine HC1.out.mono ?_;rintro e w2 ⟨rfl,l2,p2⟩;rw[Eb]at p2;have hs2:=l2.size;have HR2:=H_ (HR1.out.trans l2);have HM2:=H_ p2;clear l2 p2 HC1;have HC2:=H_ (wr3 HM2.out ⟨#[46]⟩ nm ⟨#[32,61,32]⟩ (by simp only[DJ,DL,DO,am,cY,sEq,bQ,aZ,bR,sTo,aY,sBy,ax,ByteArray.size,List.size_toArray,Array.length_toList]at*;omega));have u2:=(HF1.out.lk HR2.out hpg1).k0;have un2:=(HE1.out.lk HR2.out hpg2).k1;go_wp2_with fail;refine HC2.out.mono ?_;rintro e w3 ⟨rfl,l3,p3⟩;rw[Eb]at p3;have hs3:=l3.size;have HR3:=H_ (HR2.out.trans l3);have HM3:=H_ p3;clear l3 p3 HC2;have HC3:=H_ (gF 1 (xs:=_) rfl hy 1 A n c g1 (g1+1) _ _ _ _ w3 _ (HF1.out.lk HR3.out hpg1) (HE1.out.lk HR3.out hpg2) (HS1.out.lk HR3.out hB1) HM3.out (HG1.out.lk HR3.out hlt) (by simp only[DJ,DL,DO,am,cY,sEq,bQ,aZ,bR,sTo,aY,sBy,ax,ByteArray.size,List.size_toArray,Array.length_toList]at*;omega));go_wp2_with fail;refine HC3.out.mono ?_;rintro e w4 ⟨rfl,l4,p4⟩;rw[Eb]at p4;have hs4:=l4.size;have HR4:=H_ (HR3.out.trans l4);have HM4:=H_ p4;clear l4 p4 HC3;go_wp2_with fail;go_end0;exact⟨rfl,HL1.out.trans HR4.out,by rw[HTT.out];simpa[cY,sEq,bQ,aZ,bR,sTo,aY,sBy,ax,am]using HM4.out⟩
 case inr.inr.inr.inl=>
  simp only[stE,St.mk.injEq]at e;exact absurd e.1 hk.1
 case inr.inr.inr.inr.inl=>
  simp only[stE,St.mk.injEq]at e;exact absurd e.1 hk.2
 case inr.inr.inr.inr.inr.inl=>
  simp only[stE,St.mk.injEq,Em]at e;obtain⟨rfl,rfl,rfl⟩:=e;have hTT:T=bQ++tIn 8 x++[46]++nm.data.toList++40::(cp l++[41]):=HT.out.symm;rw[hTT]at hlen;have HTT:=H_ hTT;clear hTT;try simp only[DJ,DL,DO]at hlen
  have HR1:=H_ (Lk.refl B p W1);have HM1:=H_ (show PW W1 B p d (s++[]) by rw[Eo];exact HP1.out);have HC1:=H_ (wr1 HM1.out ⟨#[115,101,110,100,32]⟩ (by simp only[DJ,DL,DO,am,cY,sEq,bQ,aZ,bR,sTo,aY,sBy,ax,ByteArray.size,List.size_toArray,Array.length_toList]at*;omega));rw[hs1]at HC1;go_wp2_with fail;refine HC1.out.mono ?_;rintro e w2 ⟨rfl,l2,p2⟩;rw[Eb]at p2;have hs2:=l2.size;have HR2:=H_ (HR1.out.trans l2);have HM2:=H_ p2;clear l2 p2 HC1;have HC2:=H_ (gF 0 (xs:=_) rfl hx 8 A n c g1 (g1+1) _ _ _ _ w2 _ (HF1.out.lk HR2.out hpg1) (HE1.out.lk HR2.out hpg2) (HS1.out.lk HR2.out hB1) HM2.out (HG1.out.lk HR2.out hlt) (by simp only[DJ,DL,DO,am,cY,sEq,bQ,aZ,bR,sTo,aY,sBy,ax,ByteArray.size,List.size_toArray,Array.length_toList]at*;omega));go_wp2_with fail;refine HC2.out.mono ?_;rintro e w3 ⟨rfl,l3,p3⟩;rw[Eb]at p3;have hs3:=l3.size;have HR3:=H_ (HR2.out.trans l3);have HM3:=H_ p3;clear l3 p3 HC2;have HC3:=H_ (wr2 HM3.out ⟨#[46]⟩ nm (by simp only[DJ,DL,DO,am,cY,sEq,bQ,aZ,bR,sTo,aY,sBy,ax,ByteArray.size,List.size_toArray,Array.length_toList]at*;omega));have u3:=(HF1.out.lk HR3.out hpg1).k0;have un3:=(HE1.out.lk HR3.out hpg2).k1;go_wp2_with fail;refine HC3.out.mono ?_;rintro e w4 ⟨rfl,l4,p4⟩;rw[Eb]at p4;have hs4:=l4.size;have HR4:=H_ (HR3.out.trans l4);have HM4:=H_ p4;clear l4 p4 HC3;have hbd:Below w4.heap.size w4 w4.drew:=(DN _ _).drew;obtain⟨m,rfl⟩:∃m,n=m+1:=⟨n-1,by simp at hn;omega⟩;have hnb:m+1<=1152921504606846976:=HS1.out.2.1;have hcp:((m:Int)+1)<=(c:Int):=by omega
  have hm1:(1:Int)<=(m:Int)+1:=by omega
  have u4:=(HF1.out.lk HR4.out hpg1).k0;have HRd:=H_ (HR4.out.trans (Lk.al hbd));have HGd:=H_ ((HG1.out.lk HR4.out hlt).new hbd);have HMd:=H_ (HM4.out.below hbd);by_cases hc1:c=1
  ·subst hc1;obtain rfl:m=0:=by omega
   obtain rfl:l=[]:=by simpa using hn
   have HC4:=H_ (my [] (λb hb=>absurd hb DX) A 0 0 w4.drew _ (Sl.nil _ _ _) HMd.out HGd.out (by simp only[DJ,DL,DO,am,cY,sEq,bQ,aZ,bR,sTo,aY,sBy,ax,ByteArray.size,List.size_toArray,Array.length_toList]at*;omega));have ux4:=(HE1.out.lk HR4.out hpg2).k2;clear hbd HR4;go_wp2_with fail;go_still_tail 4,(by kernel_rfl);change wpList _ _ _ _ _ w4.drew;go_wp2_with fail;refine HC4.out.mono ?_;rintro e w5 ⟨rfl,l5,p5⟩;rw[Eb]at p5;have HR5:=H_ (HRd.out.trans l5);have HM5:=H_ p5;clear l5 p5 HC4;go_wp2_with fail;go_end0;exact⟨rfl,HL1.out.trans HR5.out,by rw[HTT.out];simpa[cY,sEq,bQ,aZ,bR,sTo,aY,sBy,ax,am]using HM5.out⟩
  ·have hsl:=(HS1.out.lk HR4.out hB1);obtain⟨b1,off,a',cs,rfl,hgb,_,_,_⟩:=hsl.at_ (k:=0) (by omega);have hsl2:=hsl.drop (k:=1) (by omega);rw[show m+1-1=m by omega]at hsl2;have HC4:=H_ (my _ (λb hb=>jT (cI hl b hb)) (some ⟨b1,off+6,none⟩) m (c-1) w4.drew _ (hsl2.lk (Lk.al hbd) (by omega)) HMd.out HGd.out (by simp only[DJ,DL,DO,am,cY,sEq,bQ,aZ,bR,sTo,aY,sBy,ax,ByteArray.size,List.size_toArray,Array.length_toList]at*;omega));have ux4:=(HE1.out.lk HR4.out hpg2).k2;clear hsl hsl2 hgb hbd HR4;go_wp2_with fail;go_still_tail 4,(by kernel_rfl);change wpList _ _ _ _ _ w4.drew;go_wp2_with fail;refine HC4.out.mono ?_;rintro e w5 ⟨rfl,l5,p5⟩;rw[Eb]at p5;have HR5:=H_ (HRd.out.trans l5);have HM5:=H_ p5;clear l5 p5 HC4;go_wp2_with fail;go_end0;exact⟨rfl,HL1.out.trans HR5.out,by rw[HTT.out];simpa[cY,sEq,bQ,aZ,bR,sTo,aY,sBy,ax,am]using HM5.out⟩
 case inr.inr.inr.inr.inr.inr.inl=>
  simp only[stE,St.mk.injEq,Em]at e;obtain⟨rfl,rfl,rfl⟩:=e;have hTT:T=aZ++tE x:=HT.out.symm;rw[hTT]at hlen;have HTT:=H_ hTT;clear hTT;try simp only[DJ,DL,DO]at hlen
  have HR1:=H_ (Lk.refl B p W1);have HM1:=H_ (show PW W1 B p d (s++[]) by rw[Eo];exact HP1.out);have HC1:=H_ (wr1 HM1.out ⟨#[112,114,105,110,116,32]⟩ (by simp only[DJ,DL,DO,am,cY,sEq,bQ,aZ,bR,sTo,aY,sBy,ax,ByteArray.size,List.size_toArray,Array.length_toList]at*;omega));rw[hs1]at HC1;go_wp2_with fail;refine HC1.out.mono ?_;rintro e w2 ⟨rfl,l2,p2⟩;rw[Eb]at p2;have hs2:=l2.size;have HR2:=H_ (HR1.out.trans l2);have HM2:=H_ p2;clear l2 p2 HC1;have HC2:=H_ (gF 0 (xs:=_) rfl hx 1 A n c g1 (g1+1) _ _ _ _ w2 _ (HF1.out.lk HR2.out hpg1) (HE1.out.lk HR2.out hpg2) (HS1.out.lk HR2.out hB1) HM2.out (HG1.out.lk HR2.out hlt) (by simp only[DJ,DL,DO,am,cY,sEq,bQ,aZ,bR,sTo,aY,sBy,ax,ByteArray.size,List.size_toArray,Array.length_toList]at*;omega));go_wp2_with fail;refine HC2.out.mono ?_;rintro e w3 ⟨rfl,l3,p3⟩;rw[Eb]at p3;have hs3:=l3.size;have HR3:=H_ (HR2.out.trans l3);have HM3:=H_ p3;clear l3 p3 HC2;go_wp2_with fail;go_end0;exact⟨rfl,HL1.out.trans HR3.out,by rw[HTT.out];simpa[cY,sEq,bQ,aZ,bR,sTo,aY,sBy,ax,am]using HM3.out⟩
 case inr.inr.inr.inr.inr.inr.inr.inl=>
  simp only[stE,St.mk.injEq,Em]at e;obtain⟨rfl,rfl,rfl⟩:=e;have hTT:T=bR++tE x++sTo++tE y:=HT.out.symm;rw[hTT]at hlen;have HTT:=H_ hTT;clear hTT;try simp only[DJ,DL,DO]at hlen
  have HR1:=H_ (Lk.refl B p W1);have HM1:=H_ (show PW W1 B p d (s++[]) by rw[Eo];exact HP1.out);have HC1:=H_ (wr1 HM1.out ⟨#[109,111,118,101,32]⟩ (by simp only[DJ,DL,DO,am,cY,sEq,bQ,aZ,bR,sTo,aY,sBy,ax,ByteArray.size,List.size_toArray,Array.length_toList]at*;omega));rw[hs1]at HC1;go_wp2_with fail;refine HC1.out.mono ?_;rintro e w2 ⟨rfl,l2,p2⟩;rw[Eb]at p2;have hs2:=l2.size;have HR2:=H_ (HR1.out.trans l2);have HM2:=H_ p2;clear l2 p2 HC1;have HC2:=H_ (gF 0 (xs:=_) rfl hx 1 A n c g1 (g1+1) _ _ _ _ w2 _ (HF1.out.lk HR2.out hpg1) (HE1.out.lk HR2.out hpg2) (HS1.out.lk HR2.out hB1) HM2.out (HG1.out.lk HR2.out hlt) (by simp only[DJ,DL,DO,am,cY,sEq,bQ,aZ,bR,sTo,aY,sBy,ax,ByteArray.size,List.size_toArray,Array.length_toList]at*;omega));go_wp2_with fail;refine HC2.out.mono ?_;rintro e w3 ⟨rfl,l3,p3⟩;rw[Eb]at p3;have hs3:=l3.size;have HR3:=H_ (HR2.out.trans l3);have HM3:=H_ p3;clear l3 p3 HC2;have HC3:=H_ (wr1 HM3.out ⟨#[32,116,111,32]⟩ (by simp only[DJ,DL,DO,am,cY,sEq,bQ,aZ,bR,sTo,aY,sBy,ax,ByteArray.size,List.size_toArray,Array.length_toList]at*;omega));have u3:=(HF1.out.lk HR3.out hpg1).k0;go_wp2_with fail;refine HC3.out.mono ?_;rintro e w4 ⟨rfl,l4,p4⟩;rw[Eb]at p4;have hs4:=l4.size;have HR4:=H_ (HR3.out.trans l4);have HM4:=H_ p4;clear l4 p4 HC3;have HC4:=H_ (gF 1 (xs:=_) rfl hy 1 A n c g1 (g1+1) _ _ _ _ w4 _ (HF1.out.lk HR4.out hpg1) (HE1.out.lk HR4.out hpg2) (HS1.out.lk HR4.out hB1) HM4.out (HG1.out.lk HR4.out hlt) (by simp only[DJ,DL,DO,am,cY,sEq,bQ,aZ,bR,sTo,aY,sBy,ax,ByteArray.size,List.size_toArray,Array.length_toList]at*;omega));go_wp2_with fail;refine HC4.out.mono ?_;rintro e w5 ⟨rfl,l5,p5⟩;rw[Eb]at p5;have hs5:=l5.size;have HR5:=H_ (HR4.out.trans l5);have HM5:=H_ p5;clear l5 p5 HC4;go_wp2_with fail;go_end0;exact⟨rfl,HL1.out.trans HR5.out,by rw[HTT.out];simpa[cY,sEq,bQ,aZ,bR,sTo,aY,sBy,ax,am]using HM5.out⟩
 case inr.inr.inr.inr.inr.inr.inr.inr.inl=>
  simp only[stE,St.mk.injEq,Em]at e;obtain⟨rfl,rfl,rfl⟩:=e;have hTT:T=aY++tE x++sBy++nm.data.toList++40::(cp [y]++[41]):=HT.out.symm;rw[hTT]at hlen;have HTT:=H_ hTT;clear hTT;try simp only[DJ,DL,DO]at hlen
  have HR1:=H_ (Lk.refl B p W1);have HM1:=H_ (show PW W1 B p d (s++[]) by rw[Eo];exact HP1.out);have HC1:=H_ (wr1 HM1.out ⟨#[119,97,116,99,104,32]⟩ (by simp only[DJ,DL,DO,am,cY,sEq,bQ,aZ,bR,sTo,aY,sBy,ax,ByteArray.size,List.size_toArray,Array.length_toList]at*;omega));rw[hs1]at HC1;go_wp2_with fail;refine HC1.out.mono ?_;rintro e w2 ⟨rfl,l2,p2⟩;rw[Eb]at p2;have hs2:=l2.size;have HR2:=H_ (HR1.out.trans l2);have HM2:=H_ p2;clear l2 p2 HC1;have HC2:=H_ (gF 0 (xs:=_) rfl hx 1 A n c g1 (g1+1) _ _ _ _ w2 _ (HF1.out.lk HR2.out hpg1) (HE1.out.lk HR2.out hpg2) (HS1.out.lk HR2.out hB1) HM2.out (HG1.out.lk HR2.out hlt) (by simp only[DJ,DL,DO,am,cY,sEq,bQ,aZ,bR,sTo,aY,sBy,ax,ByteArray.size,List.size_toArray,Array.length_toList]at*;omega));go_wp2_with fail;refine HC2.out.mono ?_;rintro e w3 ⟨rfl,l3,p3⟩;rw[Eb]at p3;have hs3:=l3.size;have HR3:=H_ (HR2.out.trans l3);have HM3:=H_ p3;clear l3 p3 HC2;have HC3:=H_ (wr2 HM3.out ⟨#[32,98,121,32]⟩ nm (by simp only[DJ,DL,DO,am,cY,sEq,bQ,aZ,bR,sTo,aY,sBy,ax,ByteArray.size,List.size_toArray,Array.length_toList]at*;omega));have u3:=(HF1.out.lk HR3.out hpg1).k0;have un3:=(HE1.out.lk HR3.out hpg2).k1;go_wp2_with fail;refine HC3.out.mono ?_;rintro e w4 ⟨rfl,l4,p4⟩;rw[Eb]at p4;have hs4:=l4.size;have HR4:=H_ (HR3.out.trans l4);have HM4:=H_ p4;clear l4 p4 HC3;have hbd:Below w4.heap.size w4 w4.drew:=(DN _ _).drew;obtain⟨m,rfl⟩:∃m,n=m+1:=⟨n-1,by simp at hn;omega⟩;have hnb:m+1<=1152921504606846976:=HS1.out.2.1;have hcp:((m:Int)+1)<=(c:Int):=by omega
  have hm1:(1:Int)<=(m:Int)+1:=by omega
  have u4:=(HF1.out.lk HR4.out hpg1).k0;have HRd:=H_ (HR4.out.trans (Lk.al hbd));have HGd:=H_ ((HG1.out.lk HR4.out hlt).new hbd);have HMd:=H_ (HM4.out.below hbd);by_cases hc1:c=1
  ·exfalso;simp at hn;omega
  ·have hsl:=(HS1.out.lk HR4.out hB1);obtain⟨b1,off,a',cs,rfl,hgb,_,_,_⟩:=hsl.at_ (k:=0) (by omega);have hsl2:=hsl.drop (k:=1) (by omega);rw[show m+1-1=m by omega]at hsl2;have HC4:=H_ (my _ (λb hb=>jT (cI (show vEs [y]=true by rw[vEs,hy];rfl) b hb)) (some ⟨b1,off+6,none⟩) m (c-1) w4.drew _ (hsl2.lk (Lk.al hbd) (by omega)) HMd.out HGd.out (by simp only[DJ,DL,DO,am,cY,sEq,bQ,aZ,bR,sTo,aY,sBy,ax,ByteArray.size,List.size_toArray,Array.length_toList]at*;omega));have ux4:=(HE1.out.lk HR4.out hpg2).k2;clear hsl hsl2 hgb hbd HR4;go_wp2_with fail;go_still_tail 4,(by kernel_rfl);change wpList _ _ _ _ _ w4.drew;go_wp2_with fail;refine HC4.out.mono ?_;rintro e w5 ⟨rfl,l5,p5⟩;rw[Eb]at p5;have HR5:=H_ (HRd.out.trans l5);have HM5:=H_ p5;clear l5 p5 HC4;go_wp2_with fail;go_end0;exact⟨rfl,HL1.out.trans HR5.out,by rw[HTT.out];simpa[cY,sEq,bQ,aZ,bR,sTo,aY,sBy,ax,am]using HM5.out⟩
 case inr.inr.inr.inr.inr.inr.inr.inr.inr=>
  simp only[stE,St.mk.injEq,Em]at e;obtain⟨rfl,rfl,rfl⟩:=e;have hTT:T=ax:=HT.out.symm;rw[hTT]at hlen;have HTT:=H_ hTT;clear hTT;try simp only[DJ,DL,DO]at hlen
  have HR1:=H_ (Lk.refl B p W1);have HM1:=H_ (show PW W1 B p d (s++[]) by rw[Eo];exact HP1.out);have HC1:=H_ (wr1 HM1.out ⟨#[114,101,116,117,114,110]⟩ (by simp only[DJ,DL,DO,am,cY,sEq,bQ,aZ,bR,sTo,aY,sBy,ax,ByteArray.size,List.size_toArray,Array.length_toList]at*;omega));rw[hs1]at HC1;go_wp2_with fail;refine HC1.out.mono ?_;rintro e w2 ⟨rfl,l2,p2⟩;rw[Eb]at p2;have hs2:=l2.size;have HR2:=H_ (HR1.out.trans l2);have HM2:=H_ p2;clear l2 p2 HC1;go_wp2_with fail;go_end0;exact⟨rfl,HL1.out.trans HR2.out,by rw[HTT.out];simpa[cY,sEq,bQ,aZ,bR,sTo,aY,sBy,ax,am]using HM2.out⟩
section
variable{w:World}{B p d:Nat}{s:List UInt8}
theorem wd1(h:PW w B p d s)(x:ByteArray)(hd:d<=1000000)(hlen:s.length+(tLn d x.data.toList).length<=TB):
 Calls Tryz.prog 112 #[.pointer (some ⟨p,0,none⟩),.slice (some ⟨w.heap.size,0,none⟩) 1 1] (w.alloc (.cells #[.string x] 9)) (Pr B p d s (tLn d x.data.toList) w):=by
 obtain⟨w1,e⟩:=nm_ (w.alloc (.cells #[.string x] 9));rw[e];have hp:=h.lt;have hle:=h.le;have hc:eb [x]=x.data.toList:=by simp[eb]
 refine(oc [x] w.heap.size 1 (h.al e) (Blk.nw e) (by omega) (by simp) hd (by rw[hc];exact hlen)).mono ?_;rintro r w2 ⟨rfl,l1,p1⟩;rw[hc]at p1;exact⟨rfl,(Lk.al (bal e)).trans l1,p1⟩
theorem wd3(h:PW w B p d s)(x y z:ByteArray)(hd:d<=1000000)(hlen:s.length+(tLn d (x.data.toList++(y.data.toList++z.data.toList))).length<=TB):
 Calls Tryz.prog 112 #[.pointer (some ⟨p,0,none⟩),.slice (some ⟨w.heap.size,0,none⟩) 3 3] (w.alloc (.cells #[.string x,.string y,.string z] 9)) (Pr B p d s (tLn d (x.data.toList++(y.data.toList++z.data.toList))) w):=by
 obtain⟨w1,e⟩:=nm_ (w.alloc (.cells #[.string x,.string y,.string z] 9));rw[e];have hp:=h.lt;have hle:=h.le;have hc:eb [x,y,z]=x.data.toList++(y.data.toList++z.data.toList):=by simp[eb]
 refine(oc [x,y,z] w.heap.size 3 (h.al e) (Blk.nw e) (by omega) (by simp) hd (by rw[hc];exact hlen)).mono ?_;rintro r w2 ⟨rfl,l1,p1⟩;rw[hc]at p1;exact⟨rfl,(Lk.al (bal e)).trans l1,p1⟩
end
def Am(B p d N:Nat)(e:St):Prop:=∀(cs:List Value) (w:World) (s:List UInt8),StK w (GB B p N) e cs->lw cs->PW w B p d s->GP w p N->s.length+(tS e d).length<=TB->Calls Tryz.prog 168 #[.pointer (some ⟨p,0,none⟩),.agg cs.toArray] w (Pr B p d s (tS e d) w)
theorem pB(d:Nat):∀(xs:List St) (k:Nat),(tSs (xs.take k) d).length<=(tSs xs d).length
 |[],k=>by simp
 |a::l,0=>by simp[jt]
 |a::l,k+1=>by
  rw[List.take_succ_cons,i6,i6,DJ,DJ];have:=pB d l k;omega
theorem yS(d:Nat)(a b:List St):tSs (a++b) d=tSs a d++tSs b d:=by rw[ju,ju,ju,EX]
theorem vH{xs:List St}{k:Nat}{x:St}(h:xs[k]?=some x):tSs (xs.take (k+1)) d=tSs (xs.take k) d++tS x d:=by
 rw[EQ,h];show tSs (xs.take k++[x]) d=_;rw[yS,i6,jt,Eo]
theorem oj{p:Nat}(l:List St)(h:∀x∈l,Am B p (d+1) N x)(A:Option Addr)(n c:Nat)(w:World)(s:List UInt8)(hs:Sl gI w (GB B p N) l A n)(hp:PW w B p d s)(hg:GP w p N)(hd:d<=1000000)(hlen:s.length+(tSs l (d+1)).length<=TB):
 Calls Tryz.prog 115 #[.pointer (some ⟨p,0,none⟩),.slice A n c] w (Pr B p d s (tSs l (d+1)) w):=by
 obtain⟨g1,hz⟩:∃g,w.heap.size=g:=⟨_,rfl⟩;obtain⟨W0,hW0⟩:=nm_ (w.alloc (.cells #[.pointer (some ⟨p,0,none⟩)] 126));obtain⟨W1,hW1⟩:=nm_ (W0.alloc (.cells #[.slice A n c] 119));have hlt:=hp.lt;have hle:=hp.le;have hn:=hs.1;have hnb:n<=1152921504606846976:=hs.2.1;have HF0:=hng hW0 hz;have hs0:W0.heap.size=g1+1:=by rw[<-hW0,DV,hz]
 have HE1:=hng hW1 hs0;have hs1:W1.heap.size=g1+2:=by rw[<-hW1,DV,hs0]
 have HF1:=H_ (HF0.out.al hW1);have l1:Lk B p w W1:=(Lk.al (bal hW0)).trans (Lk.al (bal hW1));have hp1:=(hp.below (bal hW0)).below (bal hW1);have HS1:=H_ (hs.lk l1 hle);have HG1:=H_ (hg.lk l1 hlt);have hB1:B<=W1.heap.size:=by omega
 have hpg1:g1≠p:=by omega
 have hpg2:g1+1≠p:=by omega
 have HH:=H_ h
 have HCL:Hid (Calls Tryz.prog 113 #[.pointer (some ⟨p,0,none⟩),.func (.func 167) #[] #[.pointer (some ⟨g1+1,0,none⟩),.pointer (some ⟨g1,0,none⟩)]] W1 (Pr B p d s (tSs l (d+1)) W1)):=H_ (qO (tSs l (d+1)) 167 _ (λ_ _=>by kernel_rfl) hp1 hd (λw2 l2 p2=>by
  have HL2:=H_ l2;have HP2:=H_ p2;have hs2:=l2.size;have f0:=(HF1.out.lk l2 hpg1).k0;have f1:=(HE1.out.lk l2 hpg2).k0;clear l2 p2 hp1 hp h l1 hs hg hW0 hW1;go_enter Tryz.func167,Tryz.ntmps167;go_wp2_with fail;go_loopw [6] (λi wr=>∃k:Nat,k<=n/\i= .int .i64 k/\Hid (Lk B p w2 wr)/\Hid (PW wr B p (d+1) (s++tSs (l.take k) (d+1)))) (λi _=>n-(intOf i).toNat)
  case atStart=>exact⟨0,Ea _,rfl,H_ (Lk.refl _ _ _),H_ (by simpa[jt]using HP2.out)⟩
  case round=>
   obtain⟨k,hk,rfl,HL,HP⟩:=hrel;have hsr:=HL.out.size;by_cases hkm:k<n
   ·have hkz:(k:Int)<(n:Int):=by omega
    have hLr:=HL2.out.trans HL.out;obtain⟨b,off,a,cs,rfl,hgb,ha,hrd,hat⟩:=(HS1.out.lk hLr hB1).at_ hkm;have hmem:=DW ha;have hmono:=pB (d+1) l (k+1);have htk:=vH (d:=d+1) ha;rw[htk,DJ]at hmono;have HTK:=H_ htk;have HR:=H_ hrd;have HCL:=H_ (Dz hrd);obtain⟨yk,yn,ex,bo,el⟩:=a;obtain⟨A1,n1,c1,A2,n2,c2,A3,n3,c3,rfl,hsa⟩:=StK.inv hrd;obtain⟨d0,d1,d2,d3,d4⟩:=At.e5 hat
    obtain⟨w3,hw3⟩:=nm_ (wr.alloc (.cells #[.int .i64 yk,.string yn,.slice A1 n1 c1,.slice A2 n2 c2,.slice A3 n3 c3] 168));have HW3:=H_ hw3;obtain⟨q0,q1,q2,q3,q4⟩:=(hnw hw3).out.c5;have l3:Lk B p wr w3:=Lk.al (bal hw3);have u0:=((HF1.out.lk hLr hpg1).al hw3).k0;have HC:=H_ (HH.out _ hmem _ w3 _ (StK.aA (λq hq=>⟨hq,l3.gb (by omega) hq⟩) HR.out) HCL.out (HP.out.below (bal hw3)) ((HG1.out.lk hLr hlt).lk l3 hlt) (by rw[DJ];omega));have HL3:=H_ (HL.out.trans l3);clear ha hrd hat hsa hmem hgb hw3 l3 hLr htk HP HL;go_upto_region 3 with fail;rw[HW3.out];go_wp2_with fail;refine HC.out.mono ?_;rintro e w4 ⟨rfl,l4,p4⟩;have HL4:=H_ (HL3.out.trans l4);have HP4:=H_ p4;clear l4 p4 HC HL3;go_wp2_with fail;go_roundw
    case rel=>exact⟨k+1,by omega,by go_num,HL4,H_ (by rw[HTK.out,<-Eb];exact HP4.out)⟩
    case measure=>simp[intOf];omega
   ·obtain rfl:k=n:=by omega
    rw[DP (by omega)]at HP;go_wp2_with fail;go_end0;exact⟨rfl,HL.out,HP.out⟩))
 have HL1:=H_ l1;have HW:=H_ (And.intro hW0 hW1);have f0:=HF1.out.k0;clear h hs hp hg hW0 hW1 l1 hp1 HF0;go_enter Tryz.func115,Tryz.ntmps115;go_upto_region 1 with fail;rw[HW.out.1,HW.out.2];go_wp2_with fail;refine HCL.out.mono ?_;rintro e w3 ⟨rfl,l3,p3⟩;have HL3:=H_ (HL1.out.trans l3);have HP3:=H_ p3;clear l3 p3 HCL;go_wp2_with fail;go_end0;exact⟨rfl,HL3.out,HP3.out⟩
theorem Cls.ln{w W0:World}{G:Nat->Prop}{f:T->World}(C:Cls w W0 G f)(d:Nat)(X:List UInt8)(hd:d<=1000000000)(hlen:(tLn d X).length<=TB):
 Hid (∀y,Calls Tryz.prog 67 #[.int .i64 (d:Int),.string (ba X)] (f y) λe w''=>e= .returned (.string (ba (tLn d X)))/\∃z,w''=f z):=
 C.all λy=>(Bv d (ba X) X (f y) rfl hd hlen).mono λe w'' ⟨h1,h2⟩=>⟨h1,h2▸DN _ _⟩

theorem Dx(yk yo yz:Int)(yn:ByteArray)(ya:Bool)(A2:Option Addr)(n2 c2:Nat)(bb:Nat)(bv:Bool)(W:World)(hb:Blk W bb 218 #[(.func (.func 154) #[] #[])])(H:Calls Tryz.prog 154 #[.agg #[.int .i64 yk,.int .i64 yo,.int .i64 yz,.string yn,.bool ya,.slice A2 n2 c2]] (W.alloc (.cells #[.int .i64 yk,.int .i64 yo,.int .i64 yz,.string yn,.bool ya,.slice A2 n2 c2] 172)) λr w'=>r= .returned (.bool bv)/\Below (W.alloc (.cells #[.int .i64 yk,.int .i64 yo,.int .i64 yz,.string yn,.bool ya,.slice A2 n2 c2] 172)).heap.size (W.alloc (.cells #[.int .i64 yk,.int .i64 yo,.int .i64 yz,.string yn,.bool ya,.slice A2 n2 c2] 172)) w'):
 Calls Tryz.prog 229 #[.agg #[.int .i64 yk,.int .i64 yo,.int .i64 yz,.string yn,.bool ya,.slice A2 n2 c2],.pointer (some ⟨bb,0,none⟩)] W λr w'=>r= .returned (.bool (!bv))/\Below W.heap.size W w':=by
 obtain⟨W1,hW⟩:=nm_ (W.alloc (.cells #[.int .i64 yk,.int .i64 yo,.int .i64 yz,.string yn,.bool ya,.slice A2 n2 c2] 172));have HQ:=hnw hW;have HB:=hba hW;have HF:=H_ (hb.al hW);rw[hW]at H;have HH:=H_ H;have HW:=H_ hW;have hs:W1.heap.size=W.heap.size+1:=by rw[<-hW,DV]
 clear hb H hW;go_enter Tryz.func229,Tryz.ntmps229;go_upto_region 1 with fail;rw[HW.out];have f0:=HF.out.k0;obtain⟨q0,q1,q2,q3,q4,q5⟩:=HQ.out.c6;go_wp2_with fail;refine HH.out.mono ?_;rintro r w1 ⟨rfl,b1⟩;have HE:=H_ (HB.out.trans (b1.mono (by omega)));clear b1 f0;go_wp2_with fail;go_ret;exact⟨rfl,HE.out⟩
theorem ixE(xs:List Ex)(P:Ex->Bool)(A:Option Addr)(n c bb:Nat)(w:World)(G:Nat->Prop)(hs:Sl gX w G xs A n)(hG:∀b,G b->b<w.heap.size)(hb:Blk w bb 218 #[(.func (.func 154) #[] #[])])
 (H:∀x∈xs,∀cs W,Below w.heap.size w W->gX.rd W G x cs->Calls Tryz.prog 154 #[.agg cs.toArray] W λr w'=>r= .returned (.bool (P x))/\Below W.heap.size W w'):
 Calls Tryz.prog 260 #[.slice A n c,.func (.func 229) #[] #[.pointer (some ⟨bb,0,none⟩)]] w λr w'=>(∃z:Int,r= .returned (.int .i64 z)/\decide (0<=z)= !(xs.all P))/\Below w.heap.size w w':=by
 have HS:=H_ hs;have HG:=H_ hG;have HH:=H_ H;have HF:=H_ hb;have hm:=hs.1;have hnb:n<=1152921504606846976:=hs.2.1;clear hs hG hb H;go_enter Tryz.func260,Tryz.ntmps260;go_wp2_with fail;go_loopw [8] (λi wr=>∃k:Nat,k<=n/\i= .int .i64 k/\Hid (Below w.heap.size w wr)/\Hid ((xs.take k).all P=true)) (λi _=>n-(intOf i).toNat)
 case atStart=>exact⟨0,Ea _,rfl,H_ (DN _ _),H_ rfl⟩
 case round=>
  obtain⟨k,hk,rfl,HB,HV⟩:=hrel;by_cases hkm:k<n
  ·have hkz:(k:Int)<(n:Int):=by omega
   have hS2:=HS.out.aA (G':=G) (w':=wr) (λb hb'=>⟨hb',HB.out.block b (HG.out b hb')⟩);obtain⟨b,off,x,cs,rfl,hgb,hx,hrd,hat⟩:=hS2.at_ hkm;have HX:=H_ hx;obtain⟨bx,hbx⟩:=nm_ (P x);have HVX:=H_ hbx;have hmem:=DW hx;have hz:=HB.out.size;have hrd0:=hrd;obtain⟨yk,yo,yz,yn,ya,ar⟩:=x;obtain⟨A2,n2,c2,rfl,hsa⟩:=ExK.inv hrd;have⟨d0,d1,d2,d3,d4,d5⟩:=At.e6 hat
   have HC:=H_ (Dx yk yo yz yn ya A2 n2 c2 bb bx wr (HF.out.below HB.out HF.out.lt) (by
    rw[<-HVX.out];exact HH.out _ hmem _ _ (HB.out.alloc hz _) (gX.aA (λq hq=>⟨hq,EA _ _ _ (by have:=HG.out q hq;omega)⟩) hrd0)))
   clear hat hrd0 hS2 hx hbx hmem hsa;have hk0:(0:Int)<=(k:Int):=by omega
   go_wp2_with fail;refine HC.out.mono ?_;rintro r w1 ⟨rfl,b1⟩;have B1:=htr HB b1;clear b1 HB HC;cases bx with
   |false=>
    go_wp2_with fail;go_ret;refine⟨⟨_,rfl,?_⟩,B1.out⟩;rw[bh HX.out HVX.out];simp
   |true=>
    go_wp2_with fail;go_roundw
    case rel=>exact⟨k+1,by omega,by go_num,B1,H_ (by rw[br HX.out,HV.out,HVX.out];rfl)⟩
    case measure=>simp[intOf];omega
  ·obtain rfl:k=n:=by omega
   have ht:xs.take k=xs:=DP (by omega);rw[ht]at HV;go_wp2_with fail;go_ret;refine⟨⟨_,rfl,?_⟩,HB.out⟩;rw[HV.out];rfl
theorem DD(xs:List Ex)(P:Ex->Bool)(A:Option Addr)(n c:Nat)(w:World)(G:Nat->Prop)(hs:Sl gX w G xs A n)(hG:∀b,G b->b<w.heap.size)
 (H:∀x∈xs,∀cs W,Below w.heap.size w W->gX.rd W G x cs->Calls Tryz.prog 154 #[.agg cs.toArray] W λr w'=>r= .returned (.bool (P x))/\Below W.heap.size W w'):
 Calls Tryz.prog 153 #[.slice A n c,(.func (.func 154) #[] #[])] w λr w'=>r= .returned (.bool (xs.all P))/\Below w.heap.size w w':=by
 obtain⟨W1,hW⟩:=nm_ (w.alloc (.cells #[(.func (.func 154) #[] #[])] 218));have HF:=hnw hW;have HB:=hba hW;have hsz:W1.heap.size=w.heap.size+1:=by rw[<-hW,DV]
 have HC:Hid (Calls Tryz.prog 228 #[.slice A n c,.func (.func 229) #[] #[.pointer (some ⟨w.heap.size,0,none⟩)]] W1 λr w'=>r= .returned (.bool (!(xs.all P)))/\Below W1.heap.size W1 w'):=by
  have HI:=H_ (ixE xs P A n c w.heap.size W1 G (hs.aA λb hb=>⟨hb,HB.out.block b (hG b hb)⟩) (λb hb=>by have:=hG b hb;omega) HF.out (λx hx cs W hW' hr=>H x hx cs W (HB.out.trans (hW'.mono (by omega))) hr));refine H_ ?_;clear hs hG H HF HB;go_enter Tryz.func228,Tryz.ntmps228;go_wp2_with fail;refine HI.out.mono ?_;rintro r w1 ⟨⟨z,rfl,h1⟩,b1⟩;have H1:=H_ h1;have HB1:=H_ b1;clear h1 b1;go_wp2_with fail;go_ret;exact⟨aa H1.out,HB1.out⟩
 have HW:=H_ hW;clear hs hG H HF hW;go_enter Tryz.func153,Tryz.ntmps153;go_upto_region 1 with fail;rw[HW.out];go_wp2_with fail;refine HC.out.mono ?_;rintro r w1 ⟨rfl,b1⟩;have HE:=H_ (HB.out.trans (b1.mono (by omega)));clear b1;go_wp2_with fail;go_ret;exact⟨rfl,HE.out⟩
theorem Du(yk:Int)(yn:ByteArray)(A1:Option Addr)(n1 c1:Nat)(A2:Option Addr)(n2 c2:Nat)(A3:Option Addr)(n3 c3:Nat)(bb:Nat)(bv:Bool)(W:World)(hb:Blk W bb 175 #[(.func (.func 101) #[] #[])])(H:Calls Tryz.prog 101 #[.agg #[.int .i64 yk,.string yn,.slice A1 n1 c1,.slice A2 n2 c2,.slice A3 n3 c3]] (W.alloc (.cells #[.int .i64 yk,.string yn,.slice A1 n1 c1,.slice A2 n2 c2,.slice A3 n3 c3] 168)) λr w'=>r= .returned (.bool bv)/\Below (W.alloc (.cells #[.int .i64 yk,.string yn,.slice A1 n1 c1,.slice A2 n2 c2,.slice A3 n3 c3] 168)).heap.size (W.alloc (.cells #[.int .i64 yk,.string yn,.slice A1 n1 c1,.slice A2 n2 c2,.slice A3 n3 c3] 168)) w'):
 Calls Tryz.prog 152 #[.agg #[.int .i64 yk,.string yn,.slice A1 n1 c1,.slice A2 n2 c2,.slice A3 n3 c3],.pointer (some ⟨bb,0,none⟩)] W λr w'=>r= .returned (.bool (!bv))/\Below W.heap.size W w':=by
 obtain⟨W1,hW⟩:=nm_ (W.alloc (.cells #[.int .i64 yk,.string yn,.slice A1 n1 c1,.slice A2 n2 c2,.slice A3 n3 c3] 168));have HQ:=hnw hW;have HB:=hba hW;have HF:=H_ (hb.al hW);rw[hW]at H;have HH:=H_ H;have HW:=H_ hW;have hs:W1.heap.size=W.heap.size+1:=by rw[<-hW,DV]
 clear hb H hW;go_enter Tryz.func152,Tryz.ntmps152;go_upto_region 1 with fail;rw[HW.out];have f0:=HF.out.k0;obtain⟨q0,q1,q2,q3,q4⟩:=HQ.out.c5;go_wp2_with fail;refine HH.out.mono ?_;rintro r w1 ⟨rfl,b1⟩;have HE:=H_ (HB.out.trans (b1.mono (by omega)));clear b1 f0;go_wp2_with fail;go_ret;exact⟨rfl,HE.out⟩
theorem ixS(xs:List St)(P:St->Bool)(A:Option Addr)(n c bb:Nat)(w:World)(G:Nat->Prop)(hs:Sl gI w G xs A n)(hG:∀b,G b->b<w.heap.size)(hb:Blk w bb 175 #[(.func (.func 101) #[] #[])])
 (H:∀x∈xs,∀cs W,Below w.heap.size w W->gI.rd W G x cs->Calls Tryz.prog 101 #[.agg cs.toArray] W λr w'=>r= .returned (.bool (P x))/\Below W.heap.size W w'):
 Calls Tryz.prog 227 #[.slice A n c,.func (.func 152) #[] #[.pointer (some ⟨bb,0,none⟩)]] w λr w'=>(∃z:Int,r= .returned (.int .i64 z)/\decide (0<=z)= !(xs.all P))/\Below w.heap.size w w':=by
 have HS:=H_ hs;have HG:=H_ hG;have HH:=H_ H;have HF:=H_ hb;have hm:=hs.1;have hnb:n<=1152921504606846976:=hs.2.1;clear hs hG hb H;go_enter Tryz.func227,Tryz.ntmps227;go_wp2_with fail;go_loopw [8] (λi wr=>∃k:Nat,k<=n/\i= .int .i64 k/\Hid (Below w.heap.size w wr)/\Hid ((xs.take k).all P=true)) (λi _=>n-(intOf i).toNat)
 case atStart=>exact⟨0,Ea _,rfl,H_ (DN _ _),H_ rfl⟩
 case round=>
  obtain⟨k,hk,rfl,HB,HV⟩:=hrel;by_cases hkm:k<n
  ·have hkz:(k:Int)<(n:Int):=by omega
   have hS2:=HS.out.aA (G':=G) (w':=wr) (λb hb'=>⟨hb',HB.out.block b (HG.out b hb')⟩);obtain⟨b,off,x,cs,rfl,hgb,hx,hrd,hat⟩:=hS2.at_ hkm;have HX:=H_ hx;obtain⟨bx,hbx⟩:=nm_ (P x);have HVX:=H_ hbx;have hmem:=DW hx;have hz:=HB.out.size;have hrd0:=hrd;obtain⟨yk,yn,ex,bo,el⟩:=x;obtain⟨A1,n1,c1,A2,n2,c2,A3,n3,c3,rfl,hsa⟩:=StK.inv hrd;have⟨d0,d1,d2,d3,d4⟩:=At.e5 hat
   have HC:=H_ (Du yk yn A1 n1 c1 A2 n2 c2 A3 n3 c3 bb bx wr (HF.out.below HB.out HF.out.lt) (by
    rw[<-HVX.out];exact HH.out _ hmem _ _ (HB.out.alloc hz _) (gI.aA (λq hq=>⟨hq,EA _ _ _ (by have:=HG.out q hq;omega)⟩) hrd0)))
   clear hat hrd0 hS2 hx hbx hmem hsa;have hk0:(0:Int)<=(k:Int):=by omega
   go_wp2_with fail;refine HC.out.mono ?_;rintro r w1 ⟨rfl,b1⟩;have B1:=htr HB b1;clear b1 HB HC;cases bx with
   |false=>
    go_wp2_with fail;go_ret;refine⟨⟨_,rfl,?_⟩,B1.out⟩;rw[bh HX.out HVX.out];simp
   |true=>
    go_wp2_with fail;go_roundw
    case rel=>exact⟨k+1,by omega,by go_num,B1,H_ (by rw[br HX.out,HV.out,HVX.out];rfl)⟩
    case measure=>simp[intOf];omega
  ·obtain rfl:k=n:=by omega
   have ht:xs.take k=xs:=DP (by omega);rw[ht]at HV;go_wp2_with fail;go_ret;refine⟨⟨_,rfl,?_⟩,HB.out⟩;rw[HV.out];rfl
theorem Ce(xs:List St)(P:St->Bool)(A:Option Addr)(n c:Nat)(w:World)(G:Nat->Prop)(hs:Sl gI w G xs A n)(hG:∀b,G b->b<w.heap.size)
 (H:∀x∈xs,∀cs W,Below w.heap.size w W->gI.rd W G x cs->Calls Tryz.prog 101 #[.agg cs.toArray] W λr w'=>r= .returned (.bool (P x))/\Below W.heap.size W w'):
 Calls Tryz.prog 100 #[.slice A n c,(.func (.func 101) #[] #[])] w λr w'=>r= .returned (.bool (xs.all P))/\Below w.heap.size w w':=by
 obtain⟨W1,hW⟩:=nm_ (w.alloc (.cells #[(.func (.func 101) #[] #[])] 175));have HF:=hnw hW;have HB:=hba hW;have hsz:W1.heap.size=w.heap.size+1:=by rw[<-hW,DV]
 have HC:Hid (Calls Tryz.prog 151 #[.slice A n c,.func (.func 152) #[] #[.pointer (some ⟨w.heap.size,0,none⟩)]] W1 λr w'=>r= .returned (.bool (!(xs.all P)))/\Below W1.heap.size W1 w'):=by
  have HI:=H_ (ixS xs P A n c w.heap.size W1 G (hs.aA λb hb=>⟨hb,HB.out.block b (hG b hb)⟩) (λb hb=>by have:=hG b hb;omega) HF.out (λx hx cs W hW' hr=>H x hx cs W (HB.out.trans (hW'.mono (by omega))) hr));refine H_ ?_;clear hs hG H HF HB;go_enter Tryz.func151,Tryz.ntmps151;go_wp2_with fail;refine HI.out.mono ?_;rintro r w1 ⟨⟨z,rfl,h1⟩,b1⟩;have H1:=H_ h1;have HB1:=H_ b1;clear h1 b1;go_wp2_with fail;go_ret;exact⟨aa H1.out,HB1.out⟩
 have HW:=H_ hW;clear hs hG H HF hW;go_enter Tryz.func100,Tryz.ntmps100;go_upto_region 1 with fail;rw[HW.out];go_wp2_with fail;refine HC.out.mono ?_;rintro r w1 ⟨rfl,b1⟩;have HE:=H_ (HB.out.trans (b1.mono (by omega)));clear b1;go_wp2_with fail;go_ret;exact⟨rfl,HE.out⟩
theorem Dw(yn:ByteArray)(A1:Option Addr)(n1 c1:Nat)(A2:Option Addr)(n2 c2:Nat)(bb:Nat)(bv:Bool)(W:World)(hb:Blk W bb 176 #[(.func (.func 97) #[] #[])])(H:Calls Tryz.prog 97 #[.agg #[.string yn,.slice A1 n1 c1,.slice A2 n2 c2]] (W.alloc (.cells #[.string yn,.slice A1 n1 c1,.slice A2 n2 c2] 121)) λr w'=>r= .returned (.bool bv)/\Below (W.alloc (.cells #[.string yn,.slice A1 n1 c1,.slice A2 n2 c2] 121)).heap.size (W.alloc (.cells #[.string yn,.slice A1 n1 c1,.slice A2 n2 c2] 121)) w'):
 Calls Tryz.prog 158 #[.agg #[.string yn,.slice A1 n1 c1,.slice A2 n2 c2],.pointer (some ⟨bb,0,none⟩)] W λr w'=>r= .returned (.bool (!bv))/\Below W.heap.size W w':=by
 obtain⟨W1,hW⟩:=nm_ (W.alloc (.cells #[.string yn,.slice A1 n1 c1,.slice A2 n2 c2] 121));have HQ:=hnw hW;have HB:=hba hW;have HF:=H_ (hb.al hW);rw[hW]at H;have HH:=H_ H;have HW:=H_ hW;have hs:W1.heap.size=W.heap.size+1:=by rw[<-hW,DV]
 clear hb H hW;go_enter Tryz.func158,Tryz.ntmps158;go_upto_region 1 with fail;rw[HW.out];have f0:=HF.out.k0;obtain⟨q0,q1,q2⟩:=HQ.out.c3;go_wp2_with fail;refine HH.out.mono ?_;rintro r w1 ⟨rfl,b1⟩;have HE:=H_ (HB.out.trans (b1.mono (by omega)));clear b1 f0;go_wp2_with fail;go_ret;exact⟨rfl,HE.out⟩
theorem ixM(xs:List Me)(P:Me->Bool)(A:Option Addr)(n c bb:Nat)(w:World)(G:Nat->Prop)(hs:Sl nr w G xs A n)(hG:∀b,G b->b<w.heap.size)(hb:Blk w bb 176 #[(.func (.func 97) #[] #[])])
 (H:∀x∈xs,∀cs W,Below w.heap.size w W->nr.rd W G x cs->Calls Tryz.prog 97 #[.agg cs.toArray] W λr w'=>r= .returned (.bool (P x))/\Below W.heap.size W w'):
 Calls Tryz.prog 231 #[.slice A n c,.func (.func 158) #[] #[.pointer (some ⟨bb,0,none⟩)]] w λr w'=>(∃z:Int,r= .returned (.int .i64 z)/\decide (0<=z)= !(xs.all P))/\Below w.heap.size w w':=by
 have HS:=H_ hs;have HG:=H_ hG;have HH:=H_ H;have HF:=H_ hb;have hm:=hs.1;have hnb:n<=1152921504606846976:=hs.2.1;clear hs hG hb H;go_enter Tryz.func231,Tryz.ntmps231;go_wp2_with fail;go_loopw [8] (λi wr=>∃k:Nat,k<=n/\i= .int .i64 k/\Hid (Below w.heap.size w wr)/\Hid ((xs.take k).all P=true)) (λi _=>n-(intOf i).toNat)
 case atStart=>exact⟨0,Ea _,rfl,H_ (DN _ _),H_ rfl⟩
 case round=>
  obtain⟨k,hk,rfl,HB,HV⟩:=hrel;by_cases hkm:k<n
  ·have hkz:(k:Int)<(n:Int):=by omega
   have hS2:=HS.out.aA (G':=G) (w':=wr) (λb hb'=>⟨hb',HB.out.block b (HG.out b hb')⟩);obtain⟨b,off,x,cs,rfl,hgb,hx,hrd,hat⟩:=hS2.at_ hkm;have HX:=H_ hx;obtain⟨bx,hbx⟩:=nm_ (P x);have HVX:=H_ hbx;have hmem:=DW hx;have hz:=HB.out.size;have hrd0:=hrd;obtain⟨yn,ps,bo⟩:=x;obtain⟨A1,n1,c1,A2,n2,c2,rfl,hsa⟩:=hrd;have⟨d0,d1,d2⟩:=At.e3 hat
   have HC:=H_ (Dw yn A1 n1 c1 A2 n2 c2 bb bx wr (HF.out.below HB.out HF.out.lt) (by
    rw[<-HVX.out];exact HH.out _ hmem _ _ (HB.out.alloc hz _) (nr.aA (λq hq=>⟨hq,EA _ _ _ (by have:=HG.out q hq;omega)⟩) hrd0)))
   clear hat hrd0 hS2 hx hbx hmem hsa;have hk0:(0:Int)<=(k:Int):=by omega
   go_wp2_with fail;refine HC.out.mono ?_;rintro r w1 ⟨rfl,b1⟩;have B1:=htr HB b1;clear b1 HB HC;cases bx with
   |false=>
    go_wp2_with fail;go_ret;refine⟨⟨_,rfl,?_⟩,B1.out⟩;rw[bh HX.out HVX.out];simp
   |true=>
    go_wp2_with fail;go_roundw
    case rel=>exact⟨k+1,by omega,by go_num,B1,H_ (by rw[br HX.out,HV.out,HVX.out];rfl)⟩
    case measure=>simp[intOf];omega
  ·obtain rfl:k=n:=by omega
   have ht:xs.take k=xs:=DP (by omega);rw[ht]at HV;go_wp2_with fail;go_ret;refine⟨⟨_,rfl,?_⟩,HB.out⟩;rw[HV.out];rfl
theorem DC(xs:List Me)(P:Me->Bool)(A:Option Addr)(n c:Nat)(w:World)(G:Nat->Prop)(hs:Sl nr w G xs A n)(hG:∀b,G b->b<w.heap.size)
 (H:∀x∈xs,∀cs W,Below w.heap.size w W->nr.rd W G x cs->Calls Tryz.prog 97 #[.agg cs.toArray] W λr w'=>r= .returned (.bool (P x))/\Below W.heap.size W w'):
 Calls Tryz.prog 105 #[.slice A n c,(.func (.func 97) #[] #[])] w λr w'=>r= .returned (.bool (xs.all P))/\Below w.heap.size w w':=by
 obtain⟨W1,hW⟩:=nm_ (w.alloc (.cells #[(.func (.func 97) #[] #[])] 176));have HF:=hnw hW;have HB:=hba hW;have hsz:W1.heap.size=w.heap.size+1:=by rw[<-hW,DV]
 have HC:Hid (Calls Tryz.prog 157 #[.slice A n c,.func (.func 158) #[] #[.pointer (some ⟨w.heap.size,0,none⟩)]] W1 λr w'=>r= .returned (.bool (!(xs.all P)))/\Below W1.heap.size W1 w'):=by
  have HI:=H_ (ixM xs P A n c w.heap.size W1 G (hs.aA λb hb=>⟨hb,HB.out.block b (hG b hb)⟩) (λb hb=>by have:=hG b hb;omega) HF.out (λx hx cs W hW' hr=>H x hx cs W (HB.out.trans (hW'.mono (by omega))) hr));refine H_ ?_;clear hs hG H HF HB;go_enter Tryz.func157,Tryz.ntmps157;go_wp2_with fail;refine HI.out.mono ?_;rintro r w1 ⟨⟨z,rfl,h1⟩,b1⟩;have H1:=H_ h1;have HB1:=H_ b1;clear h1 b1;go_wp2_with fail;go_ret;exact⟨aa H1.out,HB1.out⟩
 have HW:=H_ hW;clear hs hG H HF hW;go_enter Tryz.func105,Tryz.ntmps105;go_upto_region 1 with fail;rw[HW.out];go_wp2_with fail;refine HC.out.mono ?_;rintro r w1 ⟨rfl,b1⟩;have HE:=H_ (HB.out.trans (b1.mono (by omega)));clear b1;go_wp2_with fail;go_ret;exact⟨rfl,HE.out⟩
theorem Dy(yn:ByteArray)(ya:Bool)(A1:Option Addr)(n1 c1:Nat)(A2:Option Addr)(n2 c2:Nat)(mb:Nat)(bb:Nat)(bv:Bool)(W:World)(hb:Blk W bb 179 #[(.func (.func 103) #[] #[.pointer (some ⟨mb,0,none⟩)])])(H:Calls Tryz.prog 103 #[.agg #[.string yn,.bool ya,.slice A1 n1 c1,.slice A2 n2 c2],.pointer (some ⟨mb,0,none⟩)] (W.alloc (.cells #[.string yn,.bool ya,.slice A1 n1 c1,.slice A2 n2 c2] 117)) λr w'=>r= .returned (.bool bv)/\Below (W.alloc (.cells #[.string yn,.bool ya,.slice A1 n1 c1,.slice A2 n2 c2] 117)).heap.size (W.alloc (.cells #[.string yn,.bool ya,.slice A1 n1 c1,.slice A2 n2 c2] 117)) w'):
 Calls Tryz.prog 156 #[.agg #[.string yn,.bool ya,.slice A1 n1 c1,.slice A2 n2 c2],.pointer (some ⟨bb,0,none⟩)] W λr w'=>r= .returned (.bool (!bv))/\Below W.heap.size W w':=by
 obtain⟨W1,hW⟩:=nm_ (W.alloc (.cells #[.string yn,.bool ya,.slice A1 n1 c1,.slice A2 n2 c2] 117));have HQ:=hnw hW;have HB:=hba hW;have HF:=H_ (hb.al hW);rw[hW]at H;have HH:=H_ H;have HW:=H_ hW;have hs:W1.heap.size=W.heap.size+1:=by rw[<-hW,DV]
 clear hb H hW;go_enter Tryz.func156,Tryz.ntmps156;go_upto_region 1 with fail;rw[HW.out];have f0:=HF.out.k0;obtain⟨q0,q1,q2,q3⟩:=HQ.out.c4;go_wp2_with fail;refine HH.out.mono ?_;rintro r w1 ⟨rfl,b1⟩;have HE:=H_ (HB.out.trans (b1.mono (by omega)));clear b1 f0;go_wp2_with fail;go_ret;exact⟨rfl,HE.out⟩
theorem ixC(xs:List Cl)(P:Cl->Bool)(mb:Nat)(A:Option Addr)(n c bb:Nat)(w:World)(G:Nat->Prop)(hs:Sl fh w G xs A n)(hG:∀b,G b->b<w.heap.size)(hb:Blk w bb 179 #[(.func (.func 103) #[] #[.pointer (some ⟨mb,0,none⟩)])])
 (H:∀x∈xs,∀cs W,Below w.heap.size w W->fh.rd W G x cs->Calls Tryz.prog 103 #[.agg cs.toArray,.pointer (some ⟨mb,0,none⟩)] W λr w'=>r= .returned (.bool (P x))/\Below W.heap.size W w'):
 Calls Tryz.prog 230 #[.slice A n c,.func (.func 156) #[] #[.pointer (some ⟨bb,0,none⟩)]] w λr w'=>(∃z:Int,r= .returned (.int .i64 z)/\decide (0<=z)= !(xs.all P))/\Below w.heap.size w w':=by
 have HS:=H_ hs;have HG:=H_ hG;have HH:=H_ H;have HF:=H_ hb;have hm:=hs.1;have hnb:n<=1152921504606846976:=hs.2.1;clear hs hG hb H;go_enter Tryz.func230,Tryz.ntmps230;go_wp2_with fail;go_loopw [8] (λi wr=>∃k:Nat,k<=n/\i= .int .i64 k/\Hid (Below w.heap.size w wr)/\Hid ((xs.take k).all P=true)) (λi _=>n-(intOf i).toNat)
 case atStart=>exact⟨0,Ea _,rfl,H_ (DN _ _),H_ rfl⟩
 case round=>
  obtain⟨k,hk,rfl,HB,HV⟩:=hrel;by_cases hkm:k<n
  ·have hkz:(k:Int)<(n:Int):=by omega
   have hS2:=HS.out.aA (G':=G) (w':=wr) (λb hb'=>⟨hb',HB.out.block b (HG.out b hb')⟩);obtain⟨b,off,x,cs,rfl,hgb,hx,hrd,hat⟩:=hS2.at_ hkm;have HX:=H_ hx;obtain⟨bx,hbx⟩:=nm_ (P x);have HVX:=H_ hbx;have hmem:=DW hx;have hz:=HB.out.size;have hrd0:=hrd;obtain⟨yn,ya,fs,ms⟩:=x;obtain⟨A1,n1,c1,A2,n2,c2,rfl,hsa⟩:=hrd;have⟨d0,d1,d2,d3⟩:=At.e4 hat
   have HC:=H_ (Dy yn ya A1 n1 c1 A2 n2 c2 mb bb bx wr (HF.out.below HB.out HF.out.lt) (by
    rw[<-HVX.out];exact HH.out _ hmem _ _ (HB.out.alloc hz _) (fh.aA (λq hq=>⟨hq,EA _ _ _ (by have:=HG.out q hq;omega)⟩) hrd0)))
   clear hat hrd0 hS2 hx hbx hmem hsa;have hk0:(0:Int)<=(k:Int):=by omega
   go_wp2_with fail;refine HC.out.mono ?_;rintro r w1 ⟨rfl,b1⟩;have B1:=htr HB b1;clear b1 HB HC;cases bx with
   |false=>
    go_wp2_with fail;go_ret;refine⟨⟨_,rfl,?_⟩,B1.out⟩;rw[bh HX.out HVX.out];simp
   |true=>
    go_wp2_with fail;go_roundw
    case rel=>exact⟨k+1,by omega,by go_num,B1,H_ (by rw[br HX.out,HV.out,HVX.out];rfl)⟩
    case measure=>simp[intOf];omega
  ·obtain rfl:k=n:=by omega
   have ht:xs.take k=xs:=DP (by omega);rw[ht]at HV;go_wp2_with fail;go_ret;refine⟨⟨_,rfl,?_⟩,HB.out⟩;rw[HV.out];rfl
theorem DE(xs:List Cl)(P:Cl->Bool)(mb:Nat)(A:Option Addr)(n c:Nat)(w:World)(G:Nat->Prop)(hs:Sl fh w G xs A n)(hG:∀b,G b->b<w.heap.size)
 (H:∀x∈xs,∀cs W,Below w.heap.size w W->fh.rd W G x cs->Calls Tryz.prog 103 #[.agg cs.toArray,.pointer (some ⟨mb,0,none⟩)] W λr w'=>r= .returned (.bool (P x))/\Below W.heap.size W w'):
 Calls Tryz.prog 102 #[.slice A n c,(.func (.func 103) #[] #[.pointer (some ⟨mb,0,none⟩)])] w λr w'=>r= .returned (.bool (xs.all P))/\Below w.heap.size w w':=by
 obtain⟨W1,hW⟩:=nm_ (w.alloc (.cells #[(.func (.func 103) #[] #[.pointer (some ⟨mb,0,none⟩)])] 179));have HF:=hnw hW;have HB:=hba hW;have hsz:W1.heap.size=w.heap.size+1:=by rw[<-hW,DV]
 have HC:Hid (Calls Tryz.prog 155 #[.slice A n c,.func (.func 156) #[] #[.pointer (some ⟨w.heap.size,0,none⟩)]] W1 λr w'=>r= .returned (.bool (!(xs.all P)))/\Below W1.heap.size W1 w'):=by
  have HI:=H_ (ixC xs P mb A n c w.heap.size W1 G (hs.aA λb hb=>⟨hb,HB.out.block b (hG b hb)⟩) (λb hb=>by have:=hG b hb;omega) HF.out (λx hx cs W hW' hr=>H x hx cs W (HB.out.trans (hW'.mono (by omega))) hr));refine H_ ?_;clear hs hG H HF HB;go_enter Tryz.func155,Tryz.ntmps155;go_wp2_with fail;refine HI.out.mono ?_;rintro r w1 ⟨⟨z,rfl,h1⟩,b1⟩;have H1:=H_ h1;have HB1:=H_ b1;clear h1 b1;go_wp2_with fail;go_ret;exact⟨aa H1.out,HB1.out⟩
 have HW:=H_ hW;clear hs hG H HF hW;go_enter Tryz.func102,Tryz.ntmps102;go_upto_region 1 with fail;rw[HW.out];go_wp2_with fail;refine HC.out.mono ?_;rintro r w1 ⟨rfl,b1⟩;have HE:=H_ (HB.out.trans (b1.mono (by omega)));clear b1;go_wp2_with fail;go_ret;exact⟨rfl,HE.out⟩
theorem Dv(x:ByteArray)(bb:Nat)(bv:Bool)(W:World)(hb:Blk W bb 40 #[(.func (.func 98) #[] #[])])(H:Calls Tryz.prog 98 #[.string x] W λr w'=>r= .returned (.bool bv)/\Below W.heap.size W w'):
 Calls Tryz.prog 150 #[.string x,.pointer (some ⟨bb,0,none⟩)] W λr w'=>r= .returned (.bool (!bv))/\Below W.heap.size W w':=by
 have HH:=H_ H;have f0:=hb.k0;clear hb H;go_enter Tryz.func150,Tryz.ntmps150;go_wp2_with fail;refine HH.out.mono ?_;rintro r w1 ⟨rfl,b1⟩;have HE:=H_ b1;clear b1 f0;go_wp2_with fail;go_ret;exact⟨rfl,HE.out⟩
theorem ixN(xs:List ByteArray)(P:ByteArray->Bool)(A:Option Addr)(n c bb:Nat)(w:World)(G:Nat->Prop)(hs:Sl dn w G xs A n)(hG:∀b,G b->b<w.heap.size)(hb:Blk w bb 40 #[(.func (.func 98) #[] #[])])
 (H:∀x∈xs,∀cs W,Below w.heap.size w W->dn.rd W G x cs->Calls Tryz.prog 98 #[.string x] W λr w'=>r= .returned (.bool (P x))/\Below W.heap.size W w'):
 Calls Tryz.prog 226 #[.slice A n c,.func (.func 150) #[] #[.pointer (some ⟨bb,0,none⟩)]] w λr w'=>(∃z:Int,r= .returned (.int .i64 z)/\decide (0<=z)= !(xs.all P))/\Below w.heap.size w w':=by
 have HS:=H_ hs;have HG:=H_ hG;have HH:=H_ H;have HF:=H_ hb;have hm:=hs.1;have hnb:n<=1152921504606846976:=hs.2.1;clear hs hG hb H;go_enter Tryz.func226,Tryz.ntmps226;go_wp2_with fail;go_loopw [8] (λi wr=>∃k:Nat,k<=n/\i= .int .i64 k/\Hid (Below w.heap.size w wr)/\Hid ((xs.take k).all P=true)) (λi _=>n-(intOf i).toNat)
 case atStart=>exact⟨0,Ea _,rfl,H_ (DN _ _),H_ rfl⟩
 case round=>
  obtain⟨k,hk,rfl,HB,HV⟩:=hrel;by_cases hkm:k<n
  ·have hkz:(k:Int)<(n:Int):=by omega
   have hS2:=HS.out.aA (G':=G) (w':=wr) (λb hb'=>⟨hb',HB.out.block b (HG.out b hb')⟩);obtain⟨b,off,x,cs,rfl,hgb,hx,hrd,hat⟩:=hS2.at_ hkm;have HX:=H_ hx;obtain⟨bx,hbx⟩:=nm_ (P x);have HVX:=H_ hbx;have hmem:=DW hx;have hz:=HB.out.size;have hrd0:=hrd;obtain rfl:cs=[.string x]:=hrd;have d0:=At.e1 hat
   have HC:=H_ (Dv x bb bx wr (HF.out.below HB.out HF.out.lt) (by
    rw[<-HVX.out];exact HH.out _ hmem _ _ HB.out hrd0))
   clear hat hrd0 hS2 hx hbx hmem;have hk0:(0:Int)<=(k:Int):=by omega
   go_wp2_with fail;refine HC.out.mono ?_;rintro r w1 ⟨rfl,b1⟩;have B1:=htr HB b1;clear b1 HB HC;cases bx with
   |false=>
    go_wp2_with fail;go_ret;refine⟨⟨_,rfl,?_⟩,B1.out⟩;rw[bh HX.out HVX.out];simp
   |true=>
    go_wp2_with fail;go_roundw
    case rel=>exact⟨k+1,by omega,by go_num,B1,H_ (by rw[br HX.out,HV.out,HVX.out];rfl)⟩
    case measure=>simp[intOf];omega
  ·obtain rfl:k=n:=by omega
   have ht:xs.take k=xs:=DP (by omega);rw[ht]at HV;go_wp2_with fail;go_ret;refine⟨⟨_,rfl,?_⟩,HB.out⟩;rw[HV.out];rfl
theorem Df(xs:List ByteArray)(P:ByteArray->Bool)(A:Option Addr)(n c:Nat)(w:World)(G:Nat->Prop)(hs:Sl dn w G xs A n)(hG:∀b,G b->b<w.heap.size)
 (H:∀x∈xs,∀cs W,Below w.heap.size w W->dn.rd W G x cs->Calls Tryz.prog 98 #[.string x] W λr w'=>r= .returned (.bool (P x))/\Below W.heap.size W w'):
 Calls Tryz.prog 99 #[.slice A n c,(.func (.func 98) #[] #[])] w λr w'=>r= .returned (.bool (xs.all P))/\Below w.heap.size w w':=by
 obtain⟨W1,hW⟩:=nm_ (w.alloc (.cells #[(.func (.func 98) #[] #[])] 40));have HF:=hnw hW;have HB:=hba hW;have hsz:W1.heap.size=w.heap.size+1:=by rw[<-hW,DV]
 have HC:Hid (Calls Tryz.prog 149 #[.slice A n c,.func (.func 150) #[] #[.pointer (some ⟨w.heap.size,0,none⟩)]] W1 λr w'=>r= .returned (.bool (!(xs.all P)))/\Below W1.heap.size W1 w'):=by
  have HI:=H_ (ixN xs P A n c w.heap.size W1 G (hs.aA λb hb=>⟨hb,HB.out.block b (hG b hb)⟩) (λb hb=>by have:=hG b hb;omega) HF.out (λx hx cs W hW' hr=>H x hx cs W (HB.out.trans (hW'.mono (by omega))) hr));refine H_ ?_;clear hs hG H HF HB;go_enter Tryz.func149,Tryz.ntmps149;go_wp2_with fail;refine HI.out.mono ?_;rintro r w1 ⟨⟨z,rfl,h1⟩,b1⟩;have H1:=H_ h1;have HB1:=H_ b1;clear h1 b1;go_wp2_with fail;go_ret;exact⟨aa H1.out,HB1.out⟩
 have HW:=H_ hW;clear hs hG H HF hW;go_enter Tryz.func99,Tryz.ntmps99;go_upto_region 1 with fail;rw[HW.out];go_wp2_with fail;refine HC.out.mono ?_;rintro r w1 ⟨rfl,b1⟩;have HE:=H_ (HB.out.trans (b1.mono (by omega)));clear b1;go_wp2_with fail;go_ret;exact⟨rfl,HE.out⟩
theorem lz:∀l:List St,vSs l=l.all vS
 |[]=>rfl
 |a::l=>by rw[vSs,lz l,List.all_cons]
theorem Dp(L:List T):(!L.isEmpty)=true↔¬L=[]:=by cases L<;>simp
theorem Do(L:List T):(!L.isEmpty)=false↔L=[]:=by cases L<;>simp
theorem yY{q n:Nat}{a b:Int}{x y z be ee:Bool}{nm:ByteArray}(hq:q<=9)(hn:n<=1152921504606846976)
 (he:[(1,1,true,false,false),(1,1,true,false,false),(2,2,true,false,false),(1,1,false,true,true),(1,1,false,true,false),(1,4611686018427387904,true,false,false),(1,1,false,false,false),(2,2,false,false,false),(2,2,true,false,false),((0:Int),(0:Int),false,false,false)][q]?=some (a,b,x,y,z)):
 stB (q:Int) nm n be ee=(decide (a<=(n:Int))&&(decide ((n:Int)<=b)&&((if x=true then aO nm 97 122 else decide (nm.toList=[]))&&((y||be)&&(z||ee))))):=by
 have hqq:q=0\/q=1\/q=2\/q=3\/q=4\/q=5\/q=6\/q=7\/q=8\/q=9:=by omega
 rcases hqq with rfl|rfl|rfl|rfl|rfl|rfl|rfl|rfl|rfl|rfl
 all_goals
  simp only[FA,ED,Option.some.injEq,Prod.mk.injEq]at he;obtain⟨rfl,rfl,rfl,rfl,rfl⟩:=he;unfold stB;rw[Bool.eq_iff_iff];cases be<;>cases ee<;>simp[aW]<;>(try generalize aO nm 97 122=V)<;>(try generalize nm.toList=L)<;>(try omega)<;>(constructor<;>rintro h<;>(try simp_all)<;>(try omega))
theorem Cs:∀(m:Nat) (e:St) (cs:List Value) (w:World) (G:Nat->Prop),ssz e<=m->StK w G e cs->(∀b,G b->b<w.heap.size)->Gl w->GlF w->
 Calls Tryz.prog 101 #[.agg cs.toArray] w λr w'=>r= .returned (.bool (vS e))/\Below w.heap.size w w':=by
 intro m;induction m with
 |zero=>intro e cs w G hm;have:=i8 e;omega
 |succ m ih=>
  intro e cs w G hm hr hG hg hf;obtain⟨k,nm,ex,bo,el⟩:=e;obtain⟨A,n,c,A2,n2,c2,A3,n3,c3,rfl,hs,hs2,hs3⟩:=StK.inv hr;rw[ssz]at hm;obtain⟨vb,hvb⟩:=nm_ (vS (.mk k nm ex bo el));rw[hvb];have HVB:=H_ hvb;have hbig:=hg.big;have hl1:=hs.1;have hl2:=hs2.1;have hl3:=hs3.1;have hnb:n<=1152921504606846976:=hs.2.1;have hnb2:n2<=1152921504606846976:=hs2.2.1;have hnb3:n3<=1152921504606846976:=hs3.2.1;obtain⟨g,hz⟩:=nm_ (w.heap.size);obtain⟨W1,hW1⟩:=nm_ (w.alloc (.cells #[.int .i64 k,.string nm,.slice A n c,.slice A2 n2 c2,.slice A3 n3 c3] 168));have HQ:=hng hW1 hz;have HB1:=hba hW1;have hs1:W1.heap.size=g+1:=by rw[<-hW1,DV,hz]
  have HF:=H_ (hf.below HB1.out hbig);have HW:=H_ hW1;obtain⟨q0,q1,q2,q3,q4⟩:=HQ.out.c5;by_cases hk:0<=k/\k<=9
  ·obtain⟨q,rfl⟩:=Ei hk.1;obtain⟨a,b,x,y,z,he,c0',c1',c2',c3',c4'⟩:=HF.out.fm q (by omega);obtain⟨W2,hW2⟩:=nm_ (W1.alloc (.cells #[.int .i64 a,.int .i64 b,.bool x,.bool y,.bool z] 215));have HT:=hng hW2 hs1;have HB2:Hid (Below g w W2):=H_ (hz▸HB1.out.trans ((bal hW2).mono (by omega)));have HQ2:=H_ (HQ.out.al hW2);have hs2':W2.heap.size=g+2:=by rw[<-hW2,DV,hs1]
   have HW2:=H_ hW2;have HS:=H_ (hs.aA (G':=G) (w':=W2) (λb hb=>⟨hb,HB2.out.block b (by have:=hG b hb;omega)⟩));have HS2:=H_ (hs2.aA (G':=G) (w':=W2) (λb hb=>⟨hb,HB2.out.block b (by have:=hG b hb;omega)⟩));have HS3:=H_ (hs3.aA (G':=G) (w':=W2) (λb hb=>⟨hb,HB2.out.block b (by have:=hG b hb;omega)⟩));have HGl:=H_ (hg.below (HB2.out.mono (Nat.le_of_eq hz)));have HF2:=H_ (hf.below HB2.out (by omega));have HG:=H_ (show∀b,G b->b<W2.heap.size from λb hb=>by have:=hG b hb;omega);have HIH:=H_ ih;have HB:=H_ (DN W2.heap.size W2);have hmx:∀y∈bo,ssz y<=m:=λy hy=>by have:=fe hy;omega
   have hmy:∀y∈el,ssz y<=m:=λy hy=>by have:=fe hy;omega
   have HMX:=H_ hmx;have HMY:=H_ hmy;have HKP:Hid (∀W,Below W2.heap.size W2 W->(∀b,G b->G b/\W.heap[b]?=W2.heap[b]?)):=H_ λW hW b hb=>⟨hb,hW.block b (HG.out b hb)⟩
   have HEX:Hid (∀W,Below W2.heap.size W2 W->Calls Tryz.prog 153 #[.slice A n c,.func (.func 154) #[] #[]] W λr w'=>r= .returned (.bool (ex.all vE))/\Below W.heap.size W w'):=H_ λW hW=>
    DD ex vE A n c W G (HS.out.aA (HKP.out W hW)) (λb hb=>by have:=HG.out b hb;have:=hW.size;omega) (λx _ cs W' hW' hr=>Cr _ x cs W' G (DK _) hr (λb hb=>by have:=HG.out b hb;have:=hW.size;have:=hW'.size;omega) ((HGl.out.below hW).below hW'))
   have HBO:Hid (∀W,Below W2.heap.size W2 W->Calls Tryz.prog 100 #[.slice A2 n2 c2,.func (.func 101) #[] #[]] W λr w'=>r= .returned (.bool (bo.all vS))/\Below W.heap.size W w'):=H_ λW hW=>
    Ce bo vS A2 n2 c2 W G (HS2.out.aA (HKP.out W hW)) (λb hb=>by have:=HG.out b hb;have:=hW.size;omega) (λx hx cs W' hW' hr=>HIH.out x cs W' G (HMX.out x hx) hr (λb hb=>by have:=HG.out b hb;have:=hW.size;have:=hW'.size;omega) ((HGl.out.below hW).below hW') ((HF2.out.below hW (by omega)).below hW' (by have:=hW.size;omega)))
   have HEL:Hid (∀W,Below W2.heap.size W2 W->Calls Tryz.prog 100 #[.slice A3 n3 c3,.func (.func 101) #[] #[]] W λr w'=>r= .returned (.bool (el.all vS))/\Below W.heap.size W w'):=H_ λW hW=>
    Ce el vS A3 n3 c3 W G (HS3.out.aA (HKP.out W hW)) (λb hb=>by have:=HG.out b hb;have:=hW.size;omega) (λx hx cs W' hW' hr=>HIH.out x cs W' G (HMY.out x hx) hr (λb hb=>by have:=HG.out b hb;have:=hW.size;have:=hW'.size;omega) ((HGl.out.below hW).below hW') ((HF2.out.below hW (by omega)).below hW' (by have:=hW.size;omega)))
   have HBO0:Hid (n2=0->∀W,Below W2.heap.size W2 W->Calls Tryz.prog 100 #[.slice A2 0 c2,.func (.func 101) #[] #[]] W λr w'=>r= .returned (.bool (bo.all vS))/\Below W.heap.size W w'):=H_ λh W hW=>by have:=HBO.out W hW;rwa[h]at this
   have HEL0:Hid (n3=0->∀W,Below W2.heap.size W2 W->Calls Tryz.prog 100 #[.slice A3 0 c3,.func (.func 101) #[] #[]] W λr w'=>r= .returned (.bool (el.all vS))/\Below W.heap.size W w'):=H_ λh W hW=>by have:=HEL.out W hW;rwa[h]at this
   have HA:Hid (vb=(stB (q:Int) nm n bo.isEmpty el.isEmpty&&(ex.all vE&&(bo.all vS&&el.all vS)))):=H_ (by rw[<-HVB.out,vS,gE,lz,lz,hl1]);have hbe:bo.isEmpty=decide (n2=0):=by rw[<-hl2];cases bo<;>simp
   have hee:el.isEmpty=decide (n3=0):=by rw[<-hl3];cases el<;>simp
   rw[hbe,hee,yY (by omega) hnb he]at HA;clear he;generalize ex.all vE=vx at*
   generalize bo.all vS=vbo at*
   generalize el.all vS=vel at*
   obtain⟨t0,t1,t2,t3,t4⟩:=HT.out.c5;obtain⟨r0,r1,r2,r3,r4⟩:=HQ2.out.c5;clear ih hs hs2 hs3 hr hG hg hf hvb hW1 hW2 hmx hmy hbe hee HS HS2 HS3 HIH HMX HMY HKP;go_enter Tryz.func101,Tryz.ntmps101;rw[hz];go_upto_region 1 with fail;rw[HW.out];have hq0:(0:Int)<=(q:Int):=by omega
   have hq1:(q:Int)<10:=by omega
   have hq2:¬((q:Int)<0):=by omega
   have hq3:¬((10:Int)<=(q:Int)):=by omega
   go_upto_region 4 with fail;rw[HW2.out]
   go_wp2_with (first
    |(go_at_call 98;refine(pu nm _ (HGl.out.below HB.out)).mono ?_;rintro r w3 ⟨rfl,b3⟩;have HB:=htr HB b3;clear b3;have hsz:=HB.out.size;obtain⟨t0,t1,t2,t3,t4⟩:=(HT.out.below HB.out HT.out.lt).c5;obtain⟨r0,r1,r2,r3,r4⟩:=(HQ2.out.below HB.out HQ2.out.lt).c5)
    |(go_at_call 153;refine(HEX.out _ HB.out).mono ?_;rintro r w3 ⟨rfl,b3⟩;have HB:=htr HB b3;clear b3;have hsz:=HB.out.size;obtain⟨t0,t1,t2,t3,t4⟩:=(HT.out.below HB.out HT.out.lt).c5;obtain⟨r0,r1,r2,r3,r4⟩:=(HQ2.out.below HB.out HQ2.out.lt).c5)
    |(go_at_call 100;refine(HBO.out _ HB.out).mono ?_;rintro r w3 ⟨rfl,b3⟩;have HB:=htr HB b3;clear b3;have hsz:=HB.out.size;obtain⟨t0,t1,t2,t3,t4⟩:=(HT.out.below HB.out HT.out.lt).c5;obtain⟨r0,r1,r2,r3,r4⟩:=(HQ2.out.below HB.out HQ2.out.lt).c5)
    |(go_at_call 100;refine(HEL.out _ HB.out).mono ?_;rintro r w3 ⟨rfl,b3⟩;have HB:=htr HB b3;clear b3;have hsz:=HB.out.size;obtain⟨t0,t1,t2,t3,t4⟩:=(HT.out.below HB.out HT.out.lt).c5;obtain⟨r0,r1,r2,r3,r4⟩:=(HQ2.out.below HB.out HQ2.out.lt).c5)
    |(go_at_call 100;refine(HBO0.out (by assumption) _ HB.out).mono ?_;rintro r w3 ⟨rfl,b3⟩;have HB:=htr HB b3;clear b3;have hsz:=HB.out.size;obtain⟨t0,t1,t2,t3,t4⟩:=(HT.out.below HB.out HT.out.lt).c5;obtain⟨r0,r1,r2,r3,r4⟩:=(HQ2.out.below HB.out HQ2.out.lt).c5)
    |(go_at_call 100;refine(HEL0.out (by assumption) _ HB.out).mono ?_;rintro r w3 ⟨rfl,b3⟩;have HB:=htr HB b3;clear b3;have hsz:=HB.out.size;obtain⟨t0,t1,t2,t3,t4⟩:=(HT.out.below HB.out HT.out.lt).c5;obtain⟨r0,r1,r2,r3,r4⟩:=(HQ2.out.below HB.out HQ2.out.lt).c5))
   all_goals
    go_ret;refine⟨aa ?_,HB2.out.trans (HB.out.mono (by omega))⟩;rw[HA.out]
    first
    |(simp[*];done)
    |(rw[Bool.eq_iff_iff];simp[*];omega)
    |(simp[*,isE];done)
    |(rw[Bool.eq_iff_iff];simp[*,isE];omega)
    |(rw[Bool.eq_iff_iff];(try simp only[Dp,Do]at*);by_cases hN:nm.toList=[]<;>(try simp only[hN,not_true_eq_false,not_false_eq_true,Em,and_false,Ew,or_true,true_and,false_and,ne_eq,false_implies,true_implies,implies_true]at*)<;>(try simp[*,isE])<;>(intros;first|omega|contradiction))
  ·have hk':(k<0)\/(9<k):=by omega
   have hf:vb=false:=by
    rw[<-HVB.out,vS];unfold stB;rw[DS (by omega),DS (by omega),DS (by omega),DS (by omega),DS (by omega),DS (by omega),DS (by omega),DS (by omega),Bool.false_and]
   have HFB:=H_ hf;have HBE:Hid (Below g w W1):=H_ (hz▸HB1.out);clear ih hs hs2 hs3 hr hG hg hvb hW1 hf;go_enter Tryz.func101,Tryz.ntmps101;rw[hz];go_upto_region 1 with fail;rw[HW.out];rcases hk' with h|h
   ·go_wp2_with fail;go_ret;exact⟨aa HFB.out.symm,HBE.out⟩
   ·have h0:¬k<0:=by omega
    have h10:10<=k:=by omega
    go_wp2_with fail;go_ret;exact⟨aa HFB.out.symm,HBE.out⟩
end
end Go.Proofs.YtjpbckbpeblibaaGreatDoor
