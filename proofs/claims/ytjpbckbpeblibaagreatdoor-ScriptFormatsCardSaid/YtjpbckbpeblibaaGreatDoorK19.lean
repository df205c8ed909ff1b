/- part of a proof -/
import Derived.Test.YtjpbckbpeblibaaGreatDoorK18
namespace Go.Proofs.YtjpbckbpeblibaaGreatDoor
set_option linter.unusedVariables false
set_option linter.unusedSimpArgs false
set_option maxRecDepth 100000
set_option maxHeartbeats 64000000
section
open Go.RowKit
variable{B u:Nat}{G:Nat->Prop}{T:Type}{W0 w:World}{a:List UInt8}{d:Ad}{l:ByteArray}{x:Sc}{xs:List Cl}
theorem Hg:type_of% @IntWalk.i64_in:=@IntWalk.i64_in
theorem zq:∀(ar:Array Value) (w:World),(callFunc 114 ar).run Tryz.prog w= .ok (.enter 114 ar) w:=λ_ _=>by kernel_rfl
theorem Ei{p N:Nat}(c:Cl)(hv:vCl c=true)(hsz:csz c<=900000)(cs:List Value)(w:World)(s:List UInt8)(hr:ClK w (GB B p N) c cs)(hp:PW w B p 0 s)(hg:GP w p N)(hlen:s.length+(tCl c).length<=TB):
 Calls Tryz.prog 66 #[.pointer (some ⟨p,0,none⟩),.agg cs.toArray] w (Pr B p 0 s (tCl c) w):=by
 obtain⟨A1,n1,c1,A2,n2,c2,rfl,hs1,hs2⟩:=ClK.inv hr;obtain⟨nm,ac,fs,ms⟩:=c;obtain⟨g1,hz⟩:∃g,w.heap.size=g:=⟨_,rfl⟩;obtain⟨W0,hW0⟩:=nm_ (w.alloc (.cells #[.pointer (some ⟨p,0,none⟩)] 126));obtain⟨W1,hW1⟩:=nm_ (W0.alloc (.cells #[.string nm,.bool ac,.slice A1 n1 c1,.slice A2 n2 c2] 117));have hlt:=hp.lt;have hle:=hp.le;have HF0:=hng hW0 hz;have hs0:W0.heap.size=g1+1:=by rw[<-hW0,Fc,hz]
 have HE1:=hng hW1 hs0;have hsW:W1.heap.size=g1+2:=by rw[<-hW1,Fc,hs0]
 have HF1:=H_ (HF0.out.al hW1);have l1:Lk B p w W1:=(Lk.al (bal hW0)).trans (Lk.al (bal hW1));have HL1:=H_ l1;have HP1:=H_ ((hp.below (bal hW0)).below (bal hW1));have HG1:=H_ (hg.lk l1 hlt);have HS1:=H_ (Sl.lk hs1 l1 hle);have HS2:=H_ (Sl.lk hs2 l1 hle);have HW:=H_ (And.intro hW0 hW1);have HV:=H_ hv;have f0:=HF1.out.k0;obtain⟨e0,e1,e2,e3⟩:=HE1.out.c4;have hB1:B<=W1.heap.size:=by omega
 have hpg1:g1≠p:=by omega
 have hpg2:g1+1≠p:=by omega
 obtain⟨T,hT⟩:=nm_ (tCl ⟨nm,ac,fs,ms⟩);rw[hT]at hlen⊢;obtain⟨K,hK⟩:∃K:ByteArray,K=if ac=true then⟨#[97,99,116,111,114,32]⟩else⟨#[114,101,99,111,114,100,32]⟩:=⟨_,rfl⟩
 have hT2:T=tLn 0 (K.data.toList++(nm.data.toList++[32,123]))++((fs.flatMap tFd++ms.flatMap tMe)++tLn 0 [125]):=by
  rw[<-hT,hK];unfold tCl;cases ac<;>simp[jG,ia,sBr]
 have hl2:=GD List.length hT2;simp only[EY]at hl2;have HT:=H_ hT2;have HC:=H_ (wd3 HP1.out K nm ⟨#[32,123]⟩ (by omega) (by show s.length+(tLn 0 (K.data.toList++(nm.data.toList++[32,123]))).length<=TB;omega));rw[hsW]at HC;clear hs1 hs2 hp hg hW0 hW1 l1 HF0 hv hT hT2;go_enter Tryz.func66,Tryz.ntmps66;go_upto_region 1 with fail;rw[HW.out.1,HW.out.2];cases ac
 all_goals
  simp only[Hl,if_false,Hp]at hK;subst hK;go_wp2_with fail;refine HC.out.mono ?_;rintro e w2 ⟨rfl,l2,p2⟩;have hs2:=l2.size;have r0:=(HF1.out.lk l2 hpg1).k0;have HR2:=H_ l2
  have HCB:=H_ (rJ (fs.flatMap tFd++ms.flatMap tMe) 114 #[.pointer (some ⟨g1+1,0,none⟩),.pointer (some ⟨g1,0,none⟩)] zq p2 (by omega) (λw3 l3 p3=>
   Dj _ HV.out hsz A1 n1 c1 A2 n2 c2 g1 (g1+1) _ _ w3 _ (HF1.out.lk (HR2.out.trans l3) hpg1) (HE1.out.lk (HR2.out.trans l3) hpg2) (HS1.out.lk (HR2.out.trans l3) hB1) (HS2.out.lk (HR2.out.trans l3) hB1) hpg1 hpg2 p3 (HG1.out.lk (HR2.out.trans l3) hlt) (by
    rw[EY];show s.length+(tLn 0 _).length+((fs.flatMap tFd).length+(ms.flatMap tMe).length)<=TB;omega)))
  clear l2 p2 HC;have hen:=zq;go_wp2_with fail;refine HCB.out.mono ?_;rintro e w4 ⟨rfl,l4,p4⟩;have hs4:=l4.size;have x0:=(HF1.out.lk (HR2.out.trans l4) hpg1).k0
  have HC5:=H_ (wd1 p4 ⟨#[125]⟩ (by omega) (by
   simp only[EY];show s.length+(tLn 0 _).length+_+(tLn 0 [125]).length<=TB;omega))
  have HR4:=H_ (HR2.out.trans l4);clear l4 p4 HCB;go_wp2_with fail;refine HC5.out.mono ?_;rintro e w5 ⟨rfl,l5,p5⟩;have HL5:=H_ (HL1.out.trans (HR4.out.trans l5));have HP5:=H_ p5;clear l5 p5 HC5;go_wp2_with fail;go_end0;exact⟨rfl,HL5.out,by rw[HT.out];simpa using HP5.out⟩
theorem qv{k:Nat}{x:Cl}(h:xs[k]?=some x):tPr (xs.take (k+1))=tPr (xs.take k)++tCl x:=by
 rw[Gh,h];simp[tPr]
theorem mI:∀(xs:List Cl) (k:Nat),(tPr (xs.take k)).length<=(tPr xs).length
 |[],k=>by simp
 |a::l,0=>by simp[tPr]
 |a::l,k+1=>by
  have:=mI l k;simp only[tPr,List.take_succ_cons,FS,EY]at*
  omega
theorem C9(c:Cl):tCl c≠[]:=by unfold tCl;simp[tLn]
theorem BY(h:xs≠[]):tPr xs≠[]:=by
 cases xs with
 |nil=>exact absurd rfl h
 |cons a l=>simp[tPr,C9]
theorem qJ{b:List UInt8}(h:a=b):Ending.returned (.string ⟨a.toArray⟩)= .returned (.string ⟨b.toArray⟩):=by rw[h]
def pgT(cl:List Cl):List UInt8:=if vPr cl=true then tPr cl else[]
theorem Cr(cl:List Cl)(A:Option Addr)(n c:Nat)(w:World)(N:Nat)(hs:Sl eM w (λb=>b<N) cl A n)(hN:N<=w.heap.size)(hg:Gl w)(hf:GlF w)(hcap:Cap w N)(hz:∀c∈cl,csz c<=900000)(hlen:vPr cl=true->(tPr cl).length<=TB):
 Calls Tryz.prog 34 #[.agg #[.slice A n c]] w λe w'=>e= .returned (.string ⟨(pgT cl).toArray⟩)/\Below w.heap.size w w':=by
 have hbig:=hg.big;obtain⟨g,hgz⟩:=nm_ (w.heap.size);obtain⟨W1,hW1⟩:=nm_ (w.alloc (.cells #[.slice A n c] 28));have HT:=hng hW1 hgz;have HB1:=hba hW1;have hs1:W1.heap.size=g+1:=by rw[<-hW1,Fc,hgz]
 have HGl:=H_ (hg.below HB1.out);have HF:=H_ (hf.below HB1.out hbig);have HS1:Hid (Sl eM W1 (λb=>b<N) cl A n):=H_ (hs.aA λb hb=>⟨hb,HB1.out.block b (by omega)⟩);have HCP:Hid (Cap W1 N):=H_ (hcap.aA λb hb=>HB1.out.block b (by omega));have HV:=H_ (tU cl A n c W1 _ HS1.out (λb hb=>by omega) HGl.out HF.out);have HW:=H_ hW1;have hln:=hs.1;have hnb:n<=1152921504606846976:=hs.2.1;have t0:=HT.out.k0;obtain⟨vb,hvb⟩:=nm_ (vPr cl);have hpt:pgT cl=if vb=true then tPr cl else[]:=by rw[<-hvb];rfl
 have HPT:=H_ hpt;have HVB:=H_ hvb;rw[hvb]at HV;have HLE:=H_ hlen;have HZ:=H_ hz;clear hs hg hf hcap hz hlen hvb hpt hW1;go_enter Tryz.func34,Tryz.ntmps34;rw[hgz];go_upto_region 1 with fail;rw[HW.out];go_wp2_with fail;refine HV.out.mono ?_;rintro r w2 ⟨rfl,b2⟩;have hs2:=b2.size;have HB2:=H_ (HB1.out.trans (b2.mono (by omega)));have HT2:=hbl HT b2;have HS2:Hid (Sl eM w2 (λb=>b<N) cl A n):=H_ (HS1.out.aA λb hb=>⟨hb,b2.block b (by omega)⟩);have HCP2:Hid (Cap w2 N):=H_ (HCP.out.aA λb hb=>b2.block b (by omega));have HGl2:=H_ (HGl.out.below b2);have HF2:=H_ (HF.out.below b2 (by omega));have t0:=HT2.out.k0;clear b2 HV;by_cases hv:vb=true
 ·subst hv;rw[Ft rfl]at HPT;have hlen:=HLE.out HVB.out;obtain⟨p,hp⟩:=nm_ (w2.heap.size);obtain⟨W3,hW3⟩:=nm_ (w2.alloc (.cells #[.pointer none,.slice none 0 0,.int .i64 0] 128));have HP3:=hng hW3 hp;have HB3:=hba hW3;have hs3:W3.heap.size=p+1:=by rw[<-hW3,Fc,hp]
  have HPW:Hid (PW W3 (p+1) p 0 []):=H_ ⟨⟨_,_,HP3.out,.inl rfl,GA _ _ _ _⟩,by omega,by omega⟩;have HT3:=H_ (HT2.out.al hW3);have HS3:Hid (Sl eM W3 (GB (p+1) p N) cl A n):=H_ (HS2.out.aA λb hb=>⟨⟨by omega,by omega,hb⟩,HB3.out.block b (by omega)⟩);have HG3:Hid (GP W3 p N):=H_ ⟨GlB.below (hp▸HGl2.out) (hp▸HB3.out),HF2.out.below HB3.out (by omega),by omega,HCP2.out.aA λb hb=>HB3.out.block b (by omega)⟩;have HW3:=H_ hW3;have t0:=HT3.out.k0;have x0:=HP3.out.k0;have hgp:g≠p:=by omega
  clear hW3;go_upto_region 4 with fail;rw[HW3.out];go_wp2_with fail;go_loopw [14] (λi wr=>∃k:Nat,k<=n/\i= .int .i64 k/\Hid (Lk (p+1) p W3 wr)/\Hid (PW wr (p+1) p 0 (tPr (cl.take k)))/\Hid (k=0->wr=W3)) (λi _=>n-(intOf i).toNat)
  case atStart=>exact⟨0,Fl _,rfl,H_ (Lk.refl _ _ _),H_ (by simpa[tPr]using HPW.out),H_ λ_=>rfl⟩
  case round=>
   obtain⟨k,hk,rfl,HL,HP,HK0⟩:=hrel;have hsr:=HL.out.size;by_cases hkm:k<n
   ·have hkz:(k:Int)<(n:Int):=by omega
    obtain⟨b,off,a,cs,rfl,hgb,ha,hrd,hat⟩:=(HS3.out.lk HL.out (by omega)).at_ hkm;have hmem:=Fi ha;have hva:vCl a=true:=Fu.mp HVB.out a hmem;have hmono:=mI cl (k+1);have htk:=qv ha;rw[htk,EY]at hmono;have HTK:=H_ htk;have HR:=H_ hrd;obtain⟨nm,ac,fs,ms⟩:=a;obtain⟨A1,n1,c1,A2,n2,c2,rfl,hsa⟩:=ClK.inv hrd;obtain⟨d0,d1,d2,d3⟩:=At.e4 hat
    obtain⟨w3,hw3⟩:=nm_ (wr.alloc (.cells #[.string nm,.bool ac,.slice A1 n1 c1,.slice A2 n2 c2] 117));have HW5:=H_ hw3;obtain⟨q0,q1,q2,q3⟩:=(hnw hw3).out.c4;have l3:Lk (p+1) p wr w3:=Lk.al (bal hw3);have u0:=((HT3.out.lk HL.out hgp).al hw3).k0;have HC:=H_ (Ei _ hva (HZ.out _ hmem) _ w3 _ (eM.aA (λq hq=>⟨hq,l3.gb (by omega) hq⟩) HR.out) (HP.out.below (bal hw3)) ((HG3.out.lk HL.out (by omega)).lk l3 (by omega)) (by omega));have HL3:=H_ (HL.out.trans l3);clear ha hat hsa hmem hgb hw3 l3 htk HP HL HK0 hva HR;go_upto_region 7 with fail;rw[HW5.out];go_wp2_with fail;refine HC.out.mono ?_;rintro e w4 ⟨rfl,l4,p4⟩;have HL4:=H_ (HL3.out.trans l4);have HP4:=H_ p4;clear l4 p4 HC HL3;go_wp2_with fail;go_roundw
    case rel=>exact⟨k+1,by omega,by go_num,HL4,H_ (by rw[HTK.out];exact HP4.out),H_ λh=>absurd h (by omega)⟩
    case measure=>simp[intOf];omega
   ·obtain rfl:k=n:=by omega
    rw[Fd (by omega)]at HP
    have HC:Hid (Calls Tryz.prog 35 #[.pointer (some ⟨p,0,none⟩)] wr λe w'=>e= .returned (.string ⟨(tPr cl).toArray⟩)/\Lk (p+1) p wr w'):=by
     by_cases h0:k=0
     ·have h00:cl=[]:=FE (by omega);have hwr:=HK0.out h0;subst h00;refine H_ ?_;rw[hwr];exact xi (o:=0) (T:=128) (cs:= #[.pointer none,.slice none 0 0,.int .i64 0]) (sv:= .slice none 0 0) [] W3 HP3.out rfl (GA _ _ _ _) (λ_=>rfl) (by omega) (by simp)
     ·exact H_ (HP.out.str (BY λe=>by subst e;simp at hln;omega) hlen)
    have HLB:=H_ HL.out;clear HP HL HK0;go_wp2_with fail;refine HC.out.mono ?_;rintro e w4 ⟨rfl,l4⟩;have HE:Hid (Below g w w4):=H_ (hgz▸(HB2.out.trans ((HB3.out.mono (by omega)).trans ((HLB.out.trans l4).below (by omega) (by omega) (by omega)))));clear l4 HC;go_wp2_with fail;go_ret;exact⟨qJ HPT.out.symm,HE.out⟩
 ·rw[Fg hv]at HPT;go_wp2_with fail;go_ret;exact⟨qJ HPT.out.symm,hgz▸HB2.out⟩
theorem qw{xs:List ByteArray}{k:Nat}{x:ByteArray}(h:xs[k]?=some x):aY (xs.take (k+1))=if k=0 then x.data.toList else aY (xs.take k)++[44,32]++x.data.toList:=by
 rw[Gh,h];show aY (xs.take k++[x])=_;have hk:=(Ff.1 h).1;by_cases h0:k=0
 ·subst h0;simp[aY]
 ·rw[Fg h0];cases hl:xs.take k with
  |nil=>have:=GD List.length hl;rw[GV,F1]at this;omega
  |cons a l=>simp[aY]
theorem qx(xs:List ByteArray)(k:Nat):(aY (xs.take k)).length<=(aY xs).length:=by
 cases xs with
 |nil=>simp
 |cons a l=>
  cases k with
  |zero=>simp[aY]
  |succ k=>
   rw[List.take_succ_cons];simp only[aY,EY];have:=GD (λm:List ByteArray=>(m.flatMap λb=>44::32::b.data.toList).length) (Gn k l);simp only[Gk,EY]at this;omega
theorem Cls.sts2{f:T->World}(C:Cls w W0 G f){xs:List St}(h:∀a∈xs,iy 2 a){A:Option Addr}{n:Nat}(c:Nat)(hs:Sl gj w G xs A n)(hlen:(tSs xs 2).length<=TB):
 Hid (∀y,Calls Tryz.prog 68 #[.int .i64 2,.slice A n c] (f y) λe w''=>e= .returned (.string (ba (tSs xs 2)))/\∃z,w''=f z):=
 C.all λy=>ua 2 xs h A n c (f y) G (hs.aA (C.aA y)) (C.lt y) (C.cap y) hlen
theorem Cls.ln1{f:T->World}(C:Cls w W0 G f)(X:List UInt8)(hlen:(tLn 1 X).length<=TB):
 Hid (∀y,Calls Tryz.prog 67 #[.int .i64 1,.string (ba X)] (f y) λe w''=>e= .returned (.string (ba (tLn 1 X)))/\∃z,w''=f z):=
 C.ln 1 X (by decide) hlen
theorem t7(d:Nat)(D:Int)(hD:D=(d:Int))(X:List UInt8)(hd:d<=1000000000)(hlen:(tLn d X).length<=TB):Hid (∀w,Calls Tryz.prog 67 #[.int .i64 D,.string (ba X)] w λe w'=>e= .returned (.string (ba (tLn d X)))/\w'=w):=
 H_ λw=>hD▸yC d (ba X) X w rfl hd hlen
theorem Cq(cl:List Cl)(A:Option Addr)(n c:Nat)(w:World)(G:Nat->Prop)(hs:Sl eM w G cl A n)(hG:∀b,G b->b<w.heap.size)(hcg:CapG w G)(hz:∀c∈cl,csz c<=900000)(hlen:vPr cl=true->(tPr cl).length<=TB):
 Calls Tryz.prog 38 #[.agg #[.slice A n c]] w λe w'=>e= .returned (.string (ba (pgT cl)))/\Below w.heap.size w w':=by
 obtain⟨g,hgz⟩:=nm_ (w.heap.size);obtain⟨W0,hW0⟩:=nm_ (w.alloc (.cells #[.slice A n c] 28));have HQ:=hng hW0 hgz;have HB0:=hba hW0;have hs0:W0.heap.size=g+1:=by rw[<-hW0,Fc,hgz]
 have HS0:Hid (Sl eM W0 G cl A n):=H_ (hs.aA (λb hb=>⟨hb,HB0.out.block b (hG b hb)⟩));have HG0:=H_ (show∀b,G b->b<g from λb hb=>by have:=hG b hb;omega);have HCG:=H_ hcg;have HSW:=H_ hs;have HV:=H_ (tV cl A n c W0 G HS0.out (λb hb=>by have:=HG0.out b hb;omega));have hm:=hs.1;have hnb:n<=1152921504606846976:=hs.2.1;have HW:=H_ hW0;have htb:=dp;have t0:=HQ.out.k0;obtain⟨vb,hvb⟩:=nm_ (vPr cl);have hpt:pgT cl=if vb=true then tPr cl else[]:=by rw[<-hvb];rfl
 have HPT:=H_ hpt;have HVB:=H_ hvb;rw[hvb]at HV hlen;have HLE:=H_ hlen;have HZ:=H_ hz;clear hs hG hcg hz hlen hvb hpt hW0;go_enter Tryz.func38,Tryz.ntmps38;rw[hgz];go_upto_region 1 with fail;rw[HW.out];go_wp2_with fail;refine HV.out.mono ?_;rintro r w2 ⟨rfl,b2⟩;have HB2:Hid (Below g w w2):=H_ (hgz▸HB0.out.trans (b2.mono (by omega)));have hs2:=b2.size;have HQ2:=hbl HQ b2;have t0:=HQ2.out.k0;clear b2 HV HS0 HB0;by_cases hv:vb=true
 ·subst hv;rw[Ft rfl]at HPT;have hlen:=HLE.out rfl;go_wp2_with fail;go_loopg [3,4] n (λkk s i wr=>∃k:Nat,k<=n/\kk=n-k/\i= .int .i64 k/\s= .string (ba (tPr (cl.take k)))/\Hid (Below w2.heap.size w2 wr))
  case atStart=>exact⟨0,Fl _,rfl,rfl,rfl,H_ (Fb _ _)⟩
  case round=>
   obtain⟨k,hk,rfl,rfl,rfl,HB⟩:=hrel;have hsr:=HB.out.size;have t0:=(HQ2.out.below HB.out (by omega)).k0;by_cases hkm:k<n
   ·have hkz:(k:Int)<(n:Int):=by omega
    have hBr:Below g w wr:=HB2.out.trans (HB.out.mono (by omega));have hkp:∀q,G q->G q/\wr.heap[q]?=w.heap[q]?:=λq hq=>⟨hq,hBr.block q (HG0.out q hq)⟩;obtain⟨b,off,x,cs,rfl,hgb,hx,hrd,hat⟩:=(HSW.out.aA hkp).at_ hkm;have hva:vCl x=true:=Fu.mp HVB.out x (Fi hx);have hzx:=HZ.out x (Fi hx);have hmono:=mI cl (k+1);have htk:=qv hx;rw[htk,EY]at hmono;have HTK:=H_ htk;obtain⟨nm,ac,fs,ms⟩:=x;obtain⟨A1,n1,c1,A2,n2,c2,rfl,hs1,hs2'⟩:=ClK.inv hrd;obtain⟨d0,d1,d2,d3⟩:=At.e4 hat
    obtain⟨wd,hwd⟩:=nm_ ((if ac=true then jG else ia));have hwl:wd.length<=7:=by rw[<-hwd];split<;>simp[jG,ia]
    have htc:tCl ⟨nm,ac,fs,ms⟩=tLn 0 (wd++nm.data.toList++sBr)++fs.flatMap tFd++ms.flatMap tMe++tLn 0 [125]:=by rw[<-hwd];rfl
    rw[htc]at hmono HTK;obtain⟨P,hP⟩:=nm_ (tPr (cl.take k));rw[hP]at hmono HTK⊢;obtain⟨F,hF⟩:=nm_ (fs.flatMap tFd);obtain⟨M,hM⟩:=nm_ (ms.flatMap tMe);rw[hF,hM]at hmono HTK;have HFF:=H_ hF;have HMM:=H_ hM;obtain⟨L1,hL1⟩:∃L,tLn 0 (wd++nm.data.toList++sBr)=L:=⟨_,rfl⟩;obtain⟨L2,hL2⟩:∃L,tLn 0 [125]=L:=⟨_,rfl⟩;have hl1:wd.length+nm.data.toList.length+3=L1.length:=by rw[<-hL1,bu];simp only[sBr,EY,EZ,F1];omega
    have C1:=t7 0 0 rfl (wd++nm.data.toList++sBr) (by decide) (by rw[hL1];simp only[EY]at hmono;rw[hL1]at hmono;omega);have C2:=t7 0 0 rfl [125] (by decide) (by rw[bu,dp];decide);rw[hL1]at C1 hmono HTK;rw[hL2]at C2 hmono HTK;simp only[EY]at hmono
    --the class in a block of its own
    obtain⟨p,hp⟩:=nm_ (wr.heap.size);obtain⟨w3,hw3⟩:=nm_ (wr.alloc (.cells #[.string nm,.bool ac,.slice A1 n1 c1,.slice A2 n2 c2] 117));have HC:=hng hw3 hp;have hs3:w3.heap.size=p+1:=by rw[<-hw3,Fc,hp]
    have HB3:=H_ (HB.out.trans ((bal hw3).mono hsr));have hB3:Below g w w3:=HB2.out.trans (HB3.out.mono (by omega));have HBG:=H_ hB3;have HS1:=H_ (hs1.aA (G':=G) (w':=w3) (λq hq=>⟨hq,(hB3.block q (HG0.out q hq)).trans (hkp q hq).2.symm⟩));have HS2:=H_ (hs2'.aA (G':=G) (w':=w) (λq hq=>⟨hq,(hkp q hq).2.symm⟩));have hln1:fs.length=n1:=hs1.1;have hnb1:n1<=1152921504606846976:=hs1.2.1;have hln2:ms.length=n2:=hs2'.1;have hnb2:n2<=1152921504606846976:=hs2'.2.1;have HW3:=H_ hw3;have HZX:=H_ (show lsz msz ms<=900000 by have h:csz ⟨nm,ac,fs,ms⟩=1+fs.length+lsz msz ms:=rfl;omega);have HVM:=H_ (show∀y∈ms,vMe y=true from λy hy=>Fu.1 (Fw.1 (Fw.1 (Fw.1 hva).2).2).2 y hy);have HWD:=H_ hwd;obtain⟨x0,x1,x2,x3⟩:=HC.out.c4;have a1:=aw (ba wd) nm wd nm.data.toList rfl rfl (by omega);have a2:=aw (ba (wd++nm.data.toList)) ⟨#[32,123]⟩ (wd++nm.data.toList) sBr rfl rfl (by simp only[sBr,EY,EZ,F1];omega);have a3:=aw (ba P) (ba L1) P L1 rfl rfl (by omega);simp only[Fe,Fq,Fs]at C1 a1 a2 a3;clear hF hM hx hat hgb hs1 hs2' hkp hBr hB3 hw3 hva htc hP hL1 hL2 htk hwd HB;go_upto_region 8 with fail;rw[HW3.out];go_upto_if 28 with fail;go_cut [6] (λv U=>v= .string (ba wd)/\U=w3)
    case first=>
     have hwd:=HWD.out;cases ac with
     |false=>
      rw[Fg (by decide)]at hwd;subst hwd;go_wp2_with fail;go_meet;exact⟨rfl,rfl⟩
     |true=>
      rw[Ft rfl]at hwd;subst hwd;go_wp2_with fail;go_meet;exact⟨rfl,rfl⟩
    case rest=>
    obtain⟨rfl,rfl⟩:=hcut;obtain⟨w3,rfl⟩:∃w3:World,w3=wc:=⟨_,rfl⟩;go_wp2_with fail;refine(C1.out _).mono ?_;rintro r w4 ⟨rfl,rfl⟩;obtain⟨w3,rfl⟩:∃w3:World,w3=w4:=⟨_,rfl⟩;clear a1 a2 C1;go_wp2_with fail;clear a3
    --the fields
    go_loopg [3,7] n1 (λkk s i wx=>∃r:Nat,r<=n1/\kk=n1-r/\i= .int .i64 r/\s= .string (ba (P++L1++(fs.take r).flatMap tFd))/\wx=w3)
    case atStart=>exact⟨0,Fl _,rfl,rfl,by simp,rfl⟩
    case round=>
     obtain⟨r,hr,rfl,rfl,rfl,rfl⟩:=hrel;by_cases hrm:r<n1
     ·have hrz:(r:Int)<(n1:Int):=by omega
      obtain⟨b',off',y,cs',rfl,hgb',hy,hrd',hat'⟩:=HS1.out.at_ hrm;obtain rfl:cs'=[.string y]:=hrd';have e0:=At.e1 hat';have hmo:=dN tFd fs (r+1);rw[HFF.out]at hmo;have htk2:=ot hy;rw[htk2,EY]at hmo;obtain⟨Q,hQ⟩:=nm_ ((fs.take r).flatMap tFd);rw[hQ]at htk2 hmo⊢;have HTK2:=H_ htk2;have hyl:(tFd y).length=y.data.toList.length+8:=by unfold tFd;rw[bu];simp only[kc,EY,EZ,F1];omega
      have C3:=t7 1 1 rfl (kc++y.data.toList++[59]) (by decide) (by rw[show tLn 1 (kc++y.data.toList++[59])=tFd y from rfl];omega);rw[show tLn 1 (kc++y.data.toList++[59])=tFd y from rfl]at C3;have a1:=aw ⟨#[118,97,114,32]⟩ y kc y.data.toList rfl rfl (by simp only[kc,EY,EZ,F1];omega);have a2:=aw (ba (kc++y.data.toList)) ⟨#[59]⟩ (kc++y.data.toList) [59] rfl rfl (by simp only[kc,EY,EZ,F1];omega);have a3:=aw (ba (P++L1++Q)) (ba (tFd y)) (P++L1++Q) (tFd y);generalize tFd y=TF at*
      simp only[Fe,Fq,Fs]at C3 a1 a2 a3;clear hy hat' hgb' htk2 hQ;go_wp2_with fail;refine(C3.out _).mono ?_;rintro r w5 ⟨rfl,rfl⟩;go_wp2_with fail;go_roundg (n1-(r+1))
      case rel=>exact⟨r+1,by omega,rfl,by go_num,by rw[HTK2.out];simp only[Fe,Fq,Fs],rfl⟩
      case measure=>omega
     ·obtain rfl:r=n1:=by omega
      rw[Fd (by omega),HFF.out];have HC4:=HC;clear HS1 HC HW3;go_wp2_with fail
      --the methods
      go_loopg [3,8] n2 (λkk s i wx=>∃q:Nat,q<=n2/\kk=n2-q/\i= .int .i64 q/\s= .string (ba (P++L1++F++(ms.take q).flatMap tMe))/\Hid (Below w2.heap.size w2 wx)/\Hid (Blk wx p 117 #[.string nm,.bool ac,.slice A1 r c1,.slice A2 n2 c2]))
      case atStart=>exact⟨0,Fl _,rfl,rfl,by simp,HB3,HC4⟩
      case round=>
       clear HB3 HC4 x0 x1 x2 x3;obtain⟨j,hj,rfl,rfl,rfl,HB5,HC5⟩:=hrel;have hs5:=HB5.out.size;have x3:=HC5.out.k3;have hlt5:=HC5.out.lt;by_cases hjm:j<n2
       ·have hjz:(j:Int)<(n2:Int):=by omega
        have hBr:Below g w wr:=HB2.out.trans (HB5.out.mono (by omega));have hkp:∀q,G q->G q/\wr.heap[q]?=w.heap[q]?:=λq hq=>⟨hq,hBr.block q (HG0.out q hq)⟩;obtain⟨b',off',y,cs',rfl,hgb',hy,hrd',hat'⟩:=(HS2.out.aA hkp).at_ hjm;have hmz:=bq msz hy;have hzx:=HZX.out;have hme:=HVM.out y (Fi hy);have hmo:=dN tMe ms (j+1);rw[HMM.out,kV hy,EY]at hmo;have htk2:=kV hy;obtain⟨Q,hQ⟩:=nm_ ((ms.take j).flatMap tMe);rw[hQ]at htk2 hmo⊢;obtain⟨mn,ps,bd⟩:=y;obtain⟨A3,n3,c3,A4,n4,c4,rfl,ht1,ht2⟩:=MeK.inv hrd';obtain⟨e0,e1,e2⟩:=At.e3 hat';have hbv:vSs bd=true:=(Fw.1 (Fw.1 hme).2).2;have hmsz:msz ⟨mn,ps,bd⟩=1+ps.length+eU bd:=by rw[jY];rfl
        have hst:∀a∈bd,iy 2 a:=λa ha=>sk _ a 2 (F0 _) (by have:=cW ha;omega) (dq hbv a ha);have htm:tMe ⟨mn,ps,bd⟩=tLn 1 (sOn++mn.data.toList++[40]++aY ps++[41,32,123])++tSs bd 2++tLn 1 [125]:=rfl;rw[htm]at hmo htk2;obtain⟨L3,hL3⟩:∃L,tLn 1 (sOn++mn.data.toList++[40]++aY ps++[41,32,123])=L:=⟨_,rfl⟩;have hl3:mn.data.toList.length+(aY ps).length+10=L3.length:=by rw[<-hL3,bu];simp only[sOn,EY,EZ,F1];omega
        obtain⟨L4,hL4⟩:∃L,tLn 1 [125]=L:=⟨_,rfl⟩;obtain⟨BD',hBD⟩:∃B,tSs bd 2=B:=⟨_,rfl⟩;rw[hL3,hL4,hBD]at hmo htk2;simp only[EY]at hmo;have HTK2:=H_ htk2;obtain⟨gm,hgm⟩:=nm_ (wr.heap.size);obtain⟨w6,hw6⟩:=nm_ (wr.alloc (.cells #[.string mn,.slice A3 n3 c3,.slice A4 n4 c4] 121));have HM6:=hng hw6 hgm;have hs6:w6.heap.size=gm+1:=by rw[<-hw6,Fc,hgm]
        have HC6:=H_ (HC5.out.al hw6);have HB6:=H_ (HB5.out.trans ((bal hw6).mono hs5));have hB6:Below g w w6:=HB2.out.trans (HB6.out.mono (by omega));have HB60:=H_ (hgz▸hB6:Below w.heap.size w w6);have HT1:=H_ (ht1.aA (G':=G) (w':=w6) (λq hq=>⟨hq,(hB6.block q (HG0.out q hq)).trans (hkp q hq).2.symm⟩));have HT2:=H_ (ht2.aA (G':=G) (w':=w) (λq hq=>⟨hq,(hkp q hq).2.symm⟩));have hpl:ps.length=n3:=ht1.1;have hnb3:n3<=1152921504606846976:=ht1.2.1;have HW6:=H_ hw6;obtain⟨y0,y1,y2⟩:=HM6.out.c3;have HST:=H_ hst;have HL3:=H_ hL3;have HL4:=H_ hL4;have HBD:=H_ hBD;clear hy hat' hgb' ht1 ht2 hkp hBr hB6 hw6 htm hL3 hL4 hBD htk2 hQ hst hbv hme hmsz HB5 HC5;go_upto_region 20 with fail;rw[HW6.out];go_wp2_with fail;go_loopg [10,11] n3 (λkk s i wx=>∃r:Nat,r<=n3/\kk=n3-r/\i= .int .i64 r/\s= .string (ba (aY (ps.take r)))/\wx=w6)
        case atStart=>exact⟨0,Fl _,rfl,rfl,by simp[aY];rfl,rfl⟩
        case round=>
         obtain⟨r,hr,rfl,rfl,rfl,rfl⟩:=hrel;by_cases hrm:r<n3
         ·have hrz:(r:Int)<(n3:Int):=by omega
          obtain⟨b'',off'',z,cs'',rfl,hgb'',hzz,hrd'',hat''⟩:=HT1.out.at_ hrm;obtain rfl:cs''=[.string z]:=hrd'';have f0:=At.e1 hat'';have hmn:=qx ps (r+1);have htn:=qw hzz;rw[htn]at hmn;have HTN:=H_ htn;obtain⟨U,hU⟩:=nm_ (aY (ps.take r));rw[hU]at hmn HTN⊢;by_cases h0:r=0
          ·subst h0;rw[Ft rfl]at hmn HTN;have hU0:U=[]:=by rw[<-hU];simp[aY]
           subst hU0;rw[FM]at f0;have a1:=aw (ba []) z [] z.data.toList;simp only[Fs]at a1;clear hzz hat'' hgb'' htn hU;go_wp2_with fail;go_roundg (n3-(0+1))
           case rel=>exact⟨0+1,by omega,rfl,by go_num,by rw[HTN.out],rfl⟩
           case measure=>omega
          ·rw[Fg h0]at hmn HTN;simp only[EY,EZ,F1]at hmn;have a1:=aw (ba U) ⟨#[44,32]⟩ U [44,32];have a2:=aw (ba (U++[44,32])) z (U++[44,32]) z.data.toList;have hr0:(0:Int)<(r:Int):=by omega
           simp only[Fe,Fq,Fs]at a1 a2;clear hzz hat'' hgb'' htn hU;go_wp2_with fail;go_roundg (n3-(r+1))
           case rel=>exact⟨r+1,by omega,rfl,by go_num,by rw[HTN.out];simp only[Fe,Fq,Fs],rfl⟩
           case measure=>omega
         ·obtain rfl:r=n3:=by omega
          rw[Fd (by omega)];clear HT1 HW6;obtain⟨w6,rfl⟩:∃w6:World,w6=wr:=⟨_,rfl⟩;obtain⟨NS,hNS⟩:∃N,aY ps=N:=⟨_,rfl⟩;rw[hNS]at hl3⊢;have hL3:=HL3.out;rw[hNS]at hL3;obtain⟨T,f,hne,C⟩:=Cls.mk' HB60.out (λb hb=>by have:=HG0.out b hb;omega) HCG.out;have CL:=C.ln1 (sOn++mn.data.toList++[40]++NS++[41,32,123]) (by rw[hL3];omega);have CE:=C.ln1 [125] (by rw[HL4.out];omega);have CS:=C.sts2 HST.out c4 HT2.out (by rw[HBD.out];omega);rw[hL3]at CL;rw[HL4.out]at CE;rw[HBD.out]at CS;have a1:=aw ⟨#[111,110,32]⟩ mn sOn mn.data.toList rfl rfl (by simp only[sOn,EY,EZ,F1];omega);have a2:=aw (ba (sOn++mn.data.toList)) ⟨#[40]⟩ (sOn++mn.data.toList) [40] rfl rfl (by simp only[sOn,EY,EZ,F1];omega);have a3:=aw (ba (sOn++mn.data.toList++[40])) (ba NS) (sOn++mn.data.toList++[40]) NS rfl rfl (by simp only[sOn,EY,EZ,F1];omega);have a4:=aw (ba (sOn++mn.data.toList++[40]++NS)) ⟨#[41,32,123]⟩ (sOn++mn.data.toList++[40]++NS) [41,32,123] rfl rfl (by simp only[sOn,EY,EZ,F1];omega);have a5:=aw (ba (P++L1++F++Q)) (ba L3) (P++L1++F++Q) L3;have a6:=aw (ba (P++L1++F++Q++L3)) (ba BD') (P++L1++F++Q++L3) BD';have a7:=aw (ba (P++L1++F++Q++L3++BD')) (ba L4) (P++L1++F++Q++L3++BD') L4;simp only[Fe,Fq,Fs]at CL a1 a2 a3 a4 a5 a6 a7;have z0:=λy=>(HM6.out.below (C.fr y) (by omega)).k0;have z2:=λy=>(HM6.out.below (C.fr y) (by omega)).k2;have HFR:=H_ C.fr;have HCOV:=H_ C.cov;clear C hNS hL3;go_upto_region 27 with fail;refine ai f (by kernel_rfl) (by kernel_rfl) (HCOV.out _ (Fb _ _).drew) ?_;repeat (go_big_quiet_step (first|(go_at_call 68;exact CS.out _)|(go_at_call_of 67 (Value.string ⟨#[125]⟩);exact CE.out _)|(go_at_call 67;exact CL.out _)))
          refine FO ?_;rintro _ ⟨y,rfl⟩;have HB7:=H_ (HB6.out.trans ((HFR.out y).mono (by omega)));have HC7:=H_ (HC6.out.below (HFR.out y) (by omega));clear a1 a2 a3 a4 a5 a6 a7 z0 z2;go_wp2_with fail;go_roundg (n2-(j+1))
          case rel=>exact⟨j+1,by omega,rfl,by go_num,by rw[HTK2.out];simp only[Fe,Fq,Fs],HB7,HC7⟩
          case measure=>omega
       ·obtain rfl:j=n2:=by omega
        rw[Fd (by omega),HMM.out];have a1:=aw (ba (P++L1++F++M)) (ba L2) (P++L1++F++M) L2;simp only[Fe,Fq,Fs]at a1;clear HC5 HS2;go_wp2_with fail;refine(C2.out _).mono ?_;rintro r w9 ⟨rfl,rfl⟩;go_wp2_with fail;go_roundg (n-(k+1))
        case rel=>exact⟨k+1,by omega,rfl,by go_num,by rw[HTK.out];simp only[Fe,Fq,Fs],HB5⟩
        case measure=>omega
   ·obtain rfl:k=n:=by omega
    rw[Fd (by omega)];have HE:Hid (Below g w wr):=H_ (HB2.out.trans (HB.out.mono (by omega)));go_wp2_with fail;go_ret;exact⟨by rw[HPT.out];rfl,hgz▸HE.out⟩
 ·rw[Fg hv]at HPT;go_wp2_with fail;go_ret;exact⟨by rw[HPT.out];rfl,hgz▸HB2.out⟩
theorem CA(h1:1<=u)(h:U64 u):Lib.nDigits u<=20:=by
 have:=Lib.numDigits_eq u h1 h;split at this<;>omega
theorem yQ(u:Nat)(hu:U64 u)(w:World)(hg:Gl w):Calls Tryz.prog 65 #[.int .u64 u,.int .i64 10] w λe w'=>e= .returned (.string (fp u))/\Below w.heap.size w w':=by
 have htab:=GlB.tab hg;clear hg;by_cases hs:u<100
 ·have hcv:IntKind.i64.wrap (u:Int)=u:=Hg _ (by omega);have hsz:(u:Int)<100:=by omega
  have HC:=H_ (show∀W,Calls Tryz.prog 108 #[.int .i64 u] W λe w'=>e= .returned (.string (fp u))/\w'=W from λW=>Any.internal_strconv_small {Tryz.laysM173 with} u hs W);clear htab hu;go_enter Tryz.func65,Tryz.ntmps65;go_wp2_with (go_at_call 108;refine(HC.out _).mono ?_;rintro e w' ⟨rfl,rfl⟩);go_ret;exact⟨rfl,Fb _ _⟩
 ·have hu1:1<=u:=by omega
  have hnd20:=CA hu1 hu;have hsz:¬((u:Int)<100):=by omega
  have hal:Tryz.prog.arrayLen 183=24:=by kernel_rfl
  have hsl1:∀W,(Instr.sliceAt 183 (.pointer (some ⟨w.heap.size,0,none⟩)) none (some (.int .i64 (Lib.nDigits u:Int))) none).run Tryz.prog W= .ok (.slice (some ⟨w.heap.size,0,none⟩) (Lib.nDigits u) 24) W:=λW=>by
   rw[run_sliceAt_array_h W 183 ⟨w.heap.size,0,none⟩ (by kernel_rfl) .i64 (Lib.nDigits u:Int) (by omega) (by rw[hal];omega)];go_simp
  have hH0:=Lib.holds_zero0 w 183 (Lib.nDigits u) (by omega);have HD:=H_ (show∀W,Lib.TabIs Tryz.prog W "internal/strconv.uint64pow10" .u64 Lib.pow10Tab->Calls Tryz.prog 109 #[.int .u64 u] W λe w'=>e= .returned (.int .i64 (Lib.nDigits u))/\w'=W from λW hW=>Any.internal_strconv_numDigits {Tryz.laysM173 with} u hu1 hu W hW);have hfmt:=(show Calls Tryz.prog 110 #[.slice (some ⟨w.heap.size,0,none⟩) (Array.replicate (Lib.nDigits u) (0:UInt8)).size 24,.int .u64 u] (w.alloc (.cells Lib.zeros24 183)) _ from Any.internal_strconv_formatBase10 {Tryz.laysM173 with} w.heap.size 0 24 u (Array.replicate (Lib.nDigits u) 0) (w.alloc (.cells Lib.zeros24 183)) hH0 (by rw[Array.size_replicate];exact Lib.lt_pow_nDigits u) hu (by rw[Array.size_replicate];omega));rw[Array.size_replicate]at hfmt;have HH0:=H_ hH0;have HF:=H_ hfmt;have HT:=H_ (Lib.tabIs_alloc htab (.cells Lib.zeros24 183));clear hH0 hal hfmt htab;go_enter Tryz.func65,Tryz.ntmps65;go_wp2_with (go_at_call 109;refine(HD.out _ HT.out).mono ?_;rintro e w' ⟨rfl,rfl⟩);refine HF.out.mono ?_;rintro e w' ⟨rfl,k,v',dk,rfl,hF⟩
  have hcv:(convert 51 9 (.slice (some ⟨w.heap.size,0,none⟩) (Lib.nDigits u) 24)).run Tryz.prog ((Go.Sort.putRow (λ(b:UInt8)=>Value.int .u8 (b.toNat:Int)) (w.alloc (.cells Lib.zeros24 183)) w.heap.size 0 dk).drewN k)= .ok (.string (fp u)) ((Go.Sort.putRow (λ(b:UInt8)=>Value.int .u8 (b.toNat:Int)) (w.alloc (.cells Lib.zeros24 183)) w.heap.size 0 dk).drewN k):=by
   have h:=run_convert_bytes_back (P:=Tryz.prog) ((Go.Sort.putRow (λ(b:UInt8)=>Value.int .u8 (b.toNat:Int)) (w.alloc (.cells Lib.zeros24 183)) w.heap.size 0 dk).drewN k) 51 9 5 ⟨w.heap.size,0,none⟩ 24 (Lib.decDigits u) Tryz.underlying51 Tryz.underlying5 Tryz.underlying9 (λj hj=>by
    rw[Lib.row_is_numeral hF j hj,Lib.add_plain,World.cell?_drewN];exact Go.Sort.cell?_putRow (λ(b:UInt8)=>Value.int .u8 (b.toNat:Int)) _ w.heap.size 0 _ dk HH0.out (by rw[hF.size,Array.size_replicate]) j (by rw[hF.size];rw[Lib.decDigits_length]at hj;exact hj))
   rw[Lib.decDigits_length]at h;exact h
  go_wp2_with fail;go_ret;obtain⟨os,eo⟩:=Lib.fin_at w (.cells Lib.zeros24 183) dk k 0;exact⟨rfl,by rw[eo];exact Lib.below_grow _ w (F0 _) k os⟩
theorem ro(u:Nat)(hu:U64 u)(w:World)(hg:Gl w):Calls Tryz.prog 33 #[.int .u64 u,.int .i64 10] w λe w'=>e= .returned (.string (fp u))/\Below w.heap.size w w':=by
 have H:=H_ (yQ u hu w hg);clear hg;go_enter Tryz.func33,Tryz.ntmps33;go_wp2_with fail;refine H.out.mono ?_;rintro e w' ⟨rfl,b1⟩;go_wp2_with fail;go_ret;exact⟨rfl,b1⟩
theorem qO(s:ByteArray)(u:Nat)(w:World)(hs:s.size<=1000000)(h:Lib.parseUintB 64 s.data.toList= .ok u):
 Calls Tryz.prog 84 #[.string s,.int .i64 10,.int .i64 64] w λe w'=>e= .returned (.tuple #[.int .u64 u,.nilIface])/\Below w.heap.size w w':=
 (Tryz.strconv_ParseUint_10_at64_ok s (by omega) u h w).mono λe w' ⟨h1,h2⟩=>⟨h1,by
   rcases h2 with rfl|rfl
   ·exact Fb _ _
   ·exact Lib.bytesWorld_below w 5 s⟩
theorem lK(s:ByteArray)(w:World)(hg:Gl w)(hs:s.size<=1000000)(h:∀v,Lib.parseUintB 64 s.data.toList≠ .ok v):
 Calls Tryz.prog 84 #[.string s,.int .i64 10,.int .i64 64] w λe w'=>∃(z:Int) (N:Nat),e= .returned (.tuple #[.int .u64 z,.iface 241 (.pointer (some ⟨N,0,none⟩))])/\Below w.heap.size w w':=by
 rcases hp:Lib.parseUintB 64 s.data.toList with v|_|_
 ·exact absurd hp (h v)
 ·obtain⟨tp,p,e1⟩:=GlB.syn hg;exact(Tryz.strconv_ParseUint_10_at64_syntax_var s (by omega) (hp.trans rfl) tp p w e1).mono λe w' ⟨N,h1,_,_,h2⟩=>⟨_,N,h1,h2⟩
 ·obtain⟨tp,p,e1⟩:=GlB.rng hg;exact(Tryz.strconv_ParseUint_10_at64_range_var s (by omega) hp tp p w e1).mono λe w' ⟨N,h1,_,_,h2⟩=>⟨_,N,h1,h2⟩
theorem td{l:List UInt8}(h:32∉l):Lib.index l [32]= -1:=by
 rw[Lib.index_one];induction l with
 |nil=>rfl
 |cons c l ih=>
  rw[Fp,not_or]at h;simp only[Lib.indexByte,ih h.2];rw[Fg (by simpa using Ne.symm h.1)];rfl
theorem Dg(l:List UInt8):(Lib.cut l [32]=(l,[],false)/\32∉l)\/∃a b,l=a++32::b/\32∉a/\Lib.cut l [32]=(a,b,true):=by
 by_cases h:32∈l
 ·obtain⟨a,b,rfl,ha⟩:=List.eq_append_cons_of_mem h;refine .inr ⟨a,b,rfl,ha,?_⟩;unfold Lib.cut;rw[kz 32 a b (λc hc e=>ha (e▸hc)),Ft (by simp)];simp
 ·refine .inl ⟨?_,h⟩;unfold Lib.cut;rw[td h];rfl
theorem ov{b c d:List UInt8}(ha:32∉a)(hc:32∉c)(h:a++32::b=c++32::d):a=c/\b=d:=by
 have h1:=kz 32 a b (λx hx e=>ha (e▸hx));have h2:=kz 32 c d (λx hx e=>hc (e▸hx));rw[h,h2]at h1;have hl:=Int.ofNat.inj h1;obtain⟨h3,h4⟩:=List.append_inj h hl.symm;exact⟨h3,(List.cons.inj h4).2⟩
theorem nP:∀k:Nat,32∉(iv k).data.toList
 |0=>by decide
 |1=>by decide
 |_+2=>(by decide:32∉([121,111,117,110,103]:List UInt8))
theorem zm{k n:Nat}{b:List UInt8}(hl:l.data.toList=a++32::b)(ha:32∉a)(h:IsConf k l n):a=(iv k).data.toList/\b=Lib.decDigits n:=
 ov ha (nP k) (hl.symm.trans h.2.1)
theorem Bj{k n:Nat}(h:IsConf k l n):32∈l.data.toList:=by rw[h.2.1];simp
theorem iV(m sd y:Int)(w:World):Calls Tryz.prog 61 #[.agg #[.int .i64 m,.int .u64 sd,.int .i64 y]] w λe w'=>e= .returned (.bool (decide (1<=m/\m<=8/\0<=y/\y<=1099511627776)))/\Below w.heap.size w w':=by
 have hq:=Blk.new w 25 #[.int .i64 m,.int .u64 sd,.int .i64 y];have q0:=hq.cell 0;have q2:=hq.cell 2;have hb:=H_ ((Fb w.heap.size w).alloc (F0 _) (.cells #[.int .i64 m,.int .u64 sd,.int .i64 y] 25));clear hq;by_cases h1:1<=m
 ·by_cases h2:m<=8
  ·by_cases h3:0<=y
   ·by_cases h4:y<=1099511627776
    ·have hd:decide (1<=m/\m<=8/\0<=y/\y<=1099511627776)=true:=Hn ⟨h1,h2,h3,h4⟩;rw[hd];clear hd;go_enter Tryz.func61,Tryz.ntmps61;go_wp2_with fail;go_ret;exact⟨rfl,hb.out⟩
    ·have hd:decide (1<=m/\m<=8/\0<=y/\y<=1099511627776)=false:=GU λh=>h4 h.2.2.2;rw[hd];clear hd;go_enter Tryz.func61,Tryz.ntmps61;go_wp2_with fail;go_ret;exact⟨rfl,hb.out⟩
   ·have hd:decide (1<=m/\m<=8/\0<=y/\y<=1099511627776)=false:=GU λh=>h3 h.2.2.1;rw[hd];clear hd;go_enter Tryz.func61,Tryz.ntmps61;go_wp2_with fail;go_ret;exact⟨rfl,hb.out⟩
  ·have hd:decide (1<=m/\m<=8/\0<=y/\y<=1099511627776)=false:=GU λh=>h2 h.2.1;rw[hd];clear hd;go_enter Tryz.func61,Tryz.ntmps61;go_wp2_with fail;go_ret;exact⟨rfl,hb.out⟩
 ·have hd:decide (1<=m/\m<=8/\0<=y/\y<=1099511627776)=false:=GU λh=>h1 h.1;rw[hd];clear hd;go_enter Tryz.func61,Tryz.ntmps61;go_wp2_with fail;go_ret;exact⟨rfl,hb.out⟩
def Ey(k:Nat)(l:ByteArray)(B b:Nat)(x:Sc)(w:World)(e:Ending)(w':World):Prop:=Lk B b w w'/\
 ((gX k l=none/\e= .returned (.bool false)/\∃x',RdP w' B b x' (.conf k))\/∃v,gX k l=some v/\e= .returned (.bool true)/\RdP w' B b (x.set k v) (.conf k))
--walk of configuration
theorem Bt(p:ByteArray):(⟨p.data.toList.toArray⟩:ByteArray)=p:=by rw[Array.toArray_toList]
theorem BH(l p q:ByteArray)(ok:Bool)(w:World)(hg:Gl w)(hl:l.size<=100000)(h:Lib.cut l.data.toList [32]=(p.data.toList,q.data.toList,ok)):
 Calls Tryz.prog 83 #[.string l,.string ⟨#[32]⟩] w λe w'=>e= .returned (.tuple #[.string p,.string q,.bool ok])/\Below w.heap.size w w':=by
 obtain⟨m,hm⟩:=hg.mx;refine(Tryz.strings_Cut l ⟨#[32]⟩ m w (by omega) hm).mono ?_;rintro e w' ⟨rfl,n,rfl⟩;rw[show((⟨#[32]⟩:ByteArray).data.toList)=[32]from rfl,h];exact⟨by simp only[Bt],aX (Fb _ _) n⟩
theorem kI{k:Nat}{q:ByteArray}(hu:U64 u)(hl:l.data.toList=(iv k).data.toList++32::q.data.toList)(hq:fp u=q):(jO k u->gX k l=some u)/\(¬jO k u->gX k l=none):=by
 have hq':q.data.toList=Lib.decDigits u:=by rw[<-hq];rfl
 refine⟨λh=>nO ⟨hu,by rw[hl,hq'],h⟩,λh=>eu λn hn=>h ?_⟩;have h1:=(ov (nP k) (nP k) (hl.symm.trans hn.2.1)).2;rw[hq']at h1;have h2:u=n:=by rw[<-jR u,<-jR n,h1]
 rw[h2];exact hn.2.2
theorem Lk.far{b:Nat}{w':World}{p:Addr}(h:Lk B b w w')(hp:w.heap.size<=p.block)(u:Value):Lk B b w (w'.setCell p u):=
 ⟨h.os,h.tape,h.output,by simp[World.setCell];exact h.size,λk hk hb ht=>(Fo _ _ _ _ (by omega)).trans (h.block k hk hb ht)⟩
theorem zj(k:Nat)(hk:k<3)(l:ByteArray)(w:World)(B b:Nat)(x:Sc)(hg:Gl w)(hr:RdP w B b x (.conf k))(hbB:b<B)(hBw:B<=w.heap.size)(hl:l.size<=100000):
 Calls Tryz.prog 48 #[.pointer (some ⟨b,0,none⟩),.string l] w (Ey k l B b x w):=by
 have HR:=H_ hr;have HG:=H_ hg;rcases Dg l.data.toList with⟨hc,hno⟩|⟨a,t,hlt,ha,hc⟩
 ·have HC:=H_ (BH l l ⟨#[]⟩ false w hg hl hc);have HN:=H_ (show gX k l=none from eu λn h=>hno (Bj h));have HP:=H_ (λW (hW:Gl W)=>lK ⟨#[]⟩ W hW (by decide) (λv h=>by cases h));clear hc hno hr hg;go_enter Tryz.func48,Tryz.ntmps48;go_wp2_with fail;refine HC.out.mono ?_;rintro e w1 ⟨rfl,b1⟩;go_wp2_with fail;refine(HP.out w1 (HG.out.below b1)).mono ?_;rintro e w2 ⟨z,N,rfl,b2⟩;go_wp2_with fail;go_ret;have hb:=b1.trans (b2.mono b1.size);exact⟨Lk.of hb (F0 _),.inl ⟨HN.out,rfl,x,HR.out.below hb (F0 _)⟩⟩
 obtain⟨p,hp⟩:∃p:ByteArray,p.data.toList=a:=⟨⟨a.toArray⟩,rfl⟩;obtain⟨q,hq⟩:∃q:ByteArray,q.data.toList=t:=⟨⟨t.toArray⟩,rfl⟩;subst hp hq
 have hqs:q.size<=100000:=by
  have h1:l.size=l.data.toList.length:=rfl;have h2:q.size=q.data.toList.length:=rfl;rw[hlt,EY,EZ]at h1;omega
 have HC:=H_ (BH l p q true w hg hl hc);have HU:=H_ (λn (h:IsConf k l n)=>zm hlt ha h);have HL:=H_ hlt;clear hc ha hlt hg;by_cases hu:∃u,Lib.parseUintB 64 q.data.toList= .ok u
 rotate_left
 ·have HN:=H_ (eu λn h=>hu ⟨n,by rw[(HU.out n h).2];exact mc n h.1⟩);have HP:=H_ (λW (hW:Gl W)=>lK q W hW (by omega) (λv h=>hu ⟨v,h⟩));clear hr hu;go_enter Tryz.func48,Tryz.ntmps48;go_wp2_with fail;refine HC.out.mono ?_;rintro e w1 ⟨rfl,b1⟩;go_wp2_with fail;refine(HP.out w1 (HG.out.below b1)).mono ?_;rintro e w2 ⟨z,N,rfl,b2⟩;go_wp2_with fail;go_ret;have hb:=b1.trans (b2.mono b1.size);exact⟨Lk.of hb (F0 _),.inl ⟨HN.out,rfl,x,HR.out.below hb (F0 _)⟩⟩
 obtain⟨u,hu⟩:=hu;have hu64:U64 u:=Lib.parseMag_lt (by rw[<-Lib.parseUintB_64];exact hu);have HP:=H_ (λW=>qO q u W (by omega) hu);have HF:=H_ (λW (hW:Gl W)=>ro u hu64 W hW);have HQ:=H_ hu;have HV:=H_ hu64;clear hu;by_cases hf:fp u=q
 rotate_left
 ·have HN:=H_ (show gX k l=none from eu λn h=>hf (by
   have h1:=(HU.out n h).2;have h2:=HQ.out;rw[h1,mc n h.1]at h2;cases h2;exact Fy h1.symm))
  have hne:=Fa.2 λe=>hf (ff e);clear hr hf;go_enter Tryz.func48,Tryz.ntmps48;go_wp2_with fail;refine HC.out.mono ?_;rintro e w1 ⟨rfl,b1⟩;go_wp2_with fail;refine(HP.out w1).mono ?_;rintro e w2 ⟨rfl,b2⟩;go_wp2_with fail;have hb2:=b1.trans (b2.mono b1.size);refine(HF.out w2 (HG.out.below hb2)).mono ?_;rintro e w3 ⟨rfl,b3⟩;go_wp2_with fail;go_ret;have hb:=hb2.trans (b3.mono hb2.size);exact⟨Lk.of hb (F0 _),.inl ⟨HN.out,rfl,x,HR.out.below hb (F0 _)⟩⟩
 have heq:((fp u).toList==q.toList)=true:=He.2 (by rw[hf]);have HT:=H_ hf;clear hf HQ;obtain⟨hbk,hcs,has,_⟩:=hr;have HB:=H_ hbk;have HX:=H_ (And.intro hcs has);clear hbk hcs has;obtain rfl|rfl|rfl:k=0\/k=1\/k=2:=by omega
 ·by_cases hw:p=⟨#[109,97,99,104,105,110,101,115]⟩
  rotate_left
  ·have HN:=H_ (eu λn h=>hw (Fy (HU.out n h).1));have hne:(p.toList==[109,97,99,104,105,110,101,115])=false:=Fa.2 λe=>hw (ff (e.trans (FR (⟨#[109,97,99,104,105,110,101,115]⟩:ByteArray)).symm));clear hw;go_enter Tryz.func48,Tryz.ntmps48;go_wp2_with fail;refine HC.out.mono ?_;rintro e w1 ⟨rfl,b1⟩;go_wp2_with fail;refine(HP.out w1).mono ?_;rintro e w2 ⟨rfl,b2⟩;go_wp2_with fail;have hb2:=b1.trans (b2.mono b1.size);refine(HF.out w2 (HG.out.below hb2)).mono ?_;rintro e w3 ⟨rfl,b3⟩;have hb3:=hb2.trans (b3.mono hb2.size);clear b1 b2 b3 hb2;have hr3:w3.cell? ⟨b,5,none⟩=some (.int .i64 0):=(aa hb3 (HB.out.lt) 5).trans (HB.out.cell 5);have qn:=Blk.new w3 9 #[.string ⟨#[109,97,99,104,105,110,101,115]⟩,.string ⟨#[115,101,101,100]⟩,.string ⟨#[121,111,117,110,103]⟩];have qk:=qn.cell 0;have hb4:=H_ (hb3.alloc hb3.size (.cells #[.string ⟨#[109,97,99,104,105,110,101,115]⟩,.string ⟨#[115,101,101,100]⟩,.string ⟨#[121,111,117,110,103]⟩] 9));have hr4:(w3.alloc (.cells #[.string ⟨#[109,97,99,104,105,110,101,115]⟩,.string ⟨#[115,101,101,100]⟩,.string ⟨#[121,111,117,110,103]⟩] 9)).cell? ⟨b,5,none⟩=some (.int .i64 0):=(aa hb4.out HB.out.lt 5).trans (HB.out.cell 5);clear qn hb3;go_wp2_with fail;go_ret;exact⟨Lk.of hb4.out (F0 _),.inl ⟨HN.out,rfl,x,HR.out.below hb4.out (F0 _)⟩⟩
  subst hw;have heqw:((⟨#[109,97,99,104,105,110,101,115]⟩:ByteArray).toList==[109,97,99,104,105,110,101,115])=true:=by rw[FR];rfl
  go_enter Tryz.func48,Tryz.ntmps48;go_wp2_with fail;refine HC.out.mono ?_;rintro e w1 ⟨rfl,b1⟩;go_wp2_with fail;refine(HP.out w1).mono ?_;rintro e w2 ⟨rfl,b2⟩;go_wp2_with fail;have hb2:=b1.trans (b2.mono b1.size);refine(HF.out w2 (HG.out.below hb2)).mono ?_;rintro e w3 ⟨rfl,b3⟩;have hb3:=hb2.trans (b3.mono hb2.size);clear b1 b2 b3 hb2;have hr3:w3.cell? ⟨b,5,none⟩=some (.int .i64 0):=(aa hb3 (HB.out.lt) 5).trans (HB.out.cell 5);have qn:=Blk.new w3 9 #[.string ⟨#[109,97,99,104,105,110,101,115]⟩,.string ⟨#[115,101,101,100]⟩,.string ⟨#[121,111,117,110,103]⟩];have qk:=qn.cell 0;have hb4:=H_ (hb3.alloc hb3.size (.cells #[.string ⟨#[109,97,99,104,105,110,101,115]⟩,.string ⟨#[115,101,101,100]⟩,.string ⟨#[121,111,117,110,103]⟩] 9));have hr4:(w3.alloc (.cells #[.string ⟨#[109,97,99,104,105,110,101,115]⟩,.string ⟨#[115,101,101,100]⟩,.string ⟨#[121,111,117,110,103]⟩] 9)).cell? ⟨b,5,none⟩=some (.int .i64 0):=(aa hb4.out HB.out.lt 5).trans (HB.out.cell 5);clear qn hb3;have hq4:=hb4.out.size;obtain⟨w4,hw4⟩:=nm_ (w3.alloc (.cells #[.string ⟨#[109,97,99,104,105,110,101,115]⟩,.string ⟨#[115,101,101,100]⟩,.string ⟨#[121,111,117,110,103]⟩] 9));rw[hw4]at hb4 hr4 hq4 qk;go_upto_region 6 with fail;obtain⟨c,hcz⟩:=nm_ (w4.heap.size);obtain⟨w5,hw5⟩:=nm_ (w4.alloc (.cells #[.int .i64 1,.int .u64 0,.int .i64 0] 25));have hcs:w3.heap.size+1=c:=by rw[<-hcz,<-hw4];simp
  have HC5:=hng hw5 hcz;have HB5:=H_ (show Below w.heap.size w w5 from hw5▸hb4.out.alloc hb4.out.size _);rw[hw5]
  (try rw[hcz])
  (try rw[hcs])
  have hbc:b<c:=by have:=HB.out.lt;omega
  have HQ5:=H_ (HB.out.below HB5.out HB.out.lt);clear hw4 hw5 hb4 hr4 qk hr3;have q0:=HQ5.out.cell 0;have q1:=HQ5.out.cell 1;have q2:=HQ5.out.cell 2;have q5:=HQ5.out.cell 5;obtain⟨f0,f1,f2⟩:=HQ5.out.f3;have d0:=HC5.out.cell 0;have d1:=HC5.out.cell 1;have d2:=HC5.out.cell 2;have e0:=HC5.out.frozen 0;have e2:=HC5.out.frozen 2;go_wp2_with fail;by_cases hv:1<=u/\u<=8
  ·refine(iV _ _ _ _).mono ?_;rintro e w6 ⟨he,b6⟩;rw[Hn (by omega)]at he;subst he;have HL6:=H_ ((((Lk.of HB5.out (F0 _)).set 0 (.int .i64 (min (u:Int) 1099511627776))).far (p:=⟨c,0,none⟩) (by show w.heap.size<=c;omega) (.int .i64 (min (u:Int) 1099511627776))).trans (Lk.of (B:=B) (b:=b) b6 (F0 _)));have hq6:=((HQ5.out.set 0 (.int .i64 (min (u:Int) 1099511627776))).other ⟨c,0,none⟩ (.int .i64 (min (u:Int) 1099511627776)) (by show b≠c;omega)).below b6 (by have:=HQ5.out.lt;simp[World.setCell];omega);simp only[Gg,GK,GJ]at hq6;have HR6:=H_ (show RdP w6 B b {x with m:=(min (u:Int) 1099511627776)} (.conf 0)from⟨hq6,HX.out.1,HX.out.2,by omega⟩);clear b6 hq6 q0 q1 q2 q5 f0 f1 f2 d0 d1 d2 e0 e2;go_wp2_with fail;go_ret;have hok:jO 0 u:=⟨λ_=>hv,λh=>absurd h (by decide)⟩;have hmin:(min (u:Int) 1099511627776)=(u:Int):=by omega
   have hr6:=HR6.out;rw[hmin]at hr6;exact⟨HL6.out,.inr ⟨u,(kI (k:=0) HV.out HL.out HT.out).1 hok,rfl,hr6⟩⟩
  ·refine(iV _ _ _ _).mono ?_;rintro e w6 ⟨he,b6⟩;rw[GU (by omega)]at he;subst he;have HL6:=H_ ((((Lk.of HB5.out (F0 _)).set 0 (.int .i64 (min (u:Int) 1099511627776))).far (p:=⟨c,0,none⟩) (by show w.heap.size<=c;omega) (.int .i64 (min (u:Int) 1099511627776))).trans (Lk.of (B:=B) (b:=b) b6 (F0 _)));have hq6:=((HQ5.out.set 0 (.int .i64 (min (u:Int) 1099511627776))).other ⟨c,0,none⟩ (.int .i64 (min (u:Int) 1099511627776)) (by show b≠c;omega)).below b6 (by have:=HQ5.out.lt;simp[World.setCell];omega);simp only[Gg,GK,GJ]at hq6;have HR6:=H_ (show RdP w6 B b {x with m:=(min (u:Int) 1099511627776)} (.conf 0)from⟨hq6,HX.out.1,HX.out.2,by omega⟩);clear b6 hq6 q0 q1 q2 q5 f0 f1 f2 d0 d1 d2 e0 e2;go_wp2_with fail;go_ret;exact⟨HL6.out,.inl ⟨(kI (k:=0) HV.out HL.out HT.out).2 λh=>hv (h.1 rfl),rfl,_,HR6.out⟩⟩
 ·by_cases hw:p=⟨#[115,101,101,100]⟩
  rotate_left
  ·have HN:=H_ (eu λn h=>hw (Fy (HU.out n h).1));have hne:(p.toList==[115,101,101,100])=false:=Fa.2 λe=>hw (ff (e.trans (FR (⟨#[115,101,101,100]⟩:ByteArray)).symm));clear hw;go_enter Tryz.func48,Tryz.ntmps48;go_wp2_with fail;refine HC.out.mono ?_;rintro e w1 ⟨rfl,b1⟩;go_wp2_with fail;refine(HP.out w1).mono ?_;rintro e w2 ⟨rfl,b2⟩;go_wp2_with fail;have hb2:=b1.trans (b2.mono b1.size);refine(HF.out w2 (HG.out.below hb2)).mono ?_;rintro e w3 ⟨rfl,b3⟩;have hb3:=hb2.trans (b3.mono hb2.size);clear b1 b2 b3 hb2;have hr3:w3.cell? ⟨b,5,none⟩=some (.int .i64 1):=(aa hb3 (HB.out.lt) 5).trans (HB.out.cell 5);have qn:=Blk.new w3 9 #[.string ⟨#[109,97,99,104,105,110,101,115]⟩,.string ⟨#[115,101,101,100]⟩,.string ⟨#[121,111,117,110,103]⟩];have qk:=qn.cell 1;have hb4:=H_ (hb3.alloc hb3.size (.cells #[.string ⟨#[109,97,99,104,105,110,101,115]⟩,.string ⟨#[115,101,101,100]⟩,.string ⟨#[121,111,117,110,103]⟩] 9));have hr4:(w3.alloc (.cells #[.string ⟨#[109,97,99,104,105,110,101,115]⟩,.string ⟨#[115,101,101,100]⟩,.string ⟨#[121,111,117,110,103]⟩] 9)).cell? ⟨b,5,none⟩=some (.int .i64 1):=(aa hb4.out HB.out.lt 5).trans (HB.out.cell 5);clear qn hb3;go_wp2_with fail;go_ret;exact⟨Lk.of hb4.out (F0 _),.inl ⟨HN.out,rfl,x,HR.out.below hb4.out (F0 _)⟩⟩
  subst hw;have heqw:((⟨#[115,101,101,100]⟩:ByteArray).toList==[115,101,101,100])=true:=by rw[FR];rfl
  go_enter Tryz.func48,Tryz.ntmps48;go_wp2_with fail;refine HC.out.mono ?_;rintro e w1 ⟨rfl,b1⟩;go_wp2_with fail;refine(HP.out w1).mono ?_;rintro e w2 ⟨rfl,b2⟩;go_wp2_with fail;have hb2:=b1.trans (b2.mono b1.size);refine(HF.out w2 (HG.out.below hb2)).mono ?_;rintro e w3 ⟨rfl,b3⟩;have hb3:=hb2.trans (b3.mono hb2.size);clear b1 b2 b3 hb2;have hr3:w3.cell? ⟨b,5,none⟩=some (.int .i64 1):=(aa hb3 (HB.out.lt) 5).trans (HB.out.cell 5);have qn:=Blk.new w3 9 #[.string ⟨#[109,97,99,104,105,110,101,115]⟩,.string ⟨#[115,101,101,100]⟩,.string ⟨#[121,111,117,110,103]⟩];have qk:=qn.cell 1;have hb4:=H_ (hb3.alloc hb3.size (.cells #[.string ⟨#[109,97,99,104,105,110,101,115]⟩,.string ⟨#[115,101,101,100]⟩,.string ⟨#[121,111,117,110,103]⟩] 9));have hr4:(w3.alloc (.cells #[.string ⟨#[109,97,99,104,105,110,101,115]⟩,.string ⟨#[115,101,101,100]⟩,.string ⟨#[121,111,117,110,103]⟩] 9)).cell? ⟨b,5,none⟩=some (.int .i64 1):=(aa hb4.out HB.out.lt 5).trans (HB.out.cell 5);clear qn hb3;have hq4:=hb4.out.size;obtain⟨w4,hw4⟩:=nm_ (w3.alloc (.cells #[.string ⟨#[109,97,99,104,105,110,101,115]⟩,.string ⟨#[115,101,101,100]⟩,.string ⟨#[121,111,117,110,103]⟩] 9));rw[hw4]at hb4 hr4 hq4 qk;go_upto_region 6 with fail;obtain⟨c,hcz⟩:=nm_ (w4.heap.size);obtain⟨w5,hw5⟩:=nm_ (w4.alloc (.cells #[.int .i64 1,.int .u64 0,.int .i64 0] 25));have hcs:w3.heap.size+1=c:=by rw[<-hcz,<-hw4];simp
  have HC5:=hng hw5 hcz;have HB5:=H_ (show Below w.heap.size w w5 from hw5▸hb4.out.alloc hb4.out.size _);rw[hw5]
  (try rw[hcz])
  (try rw[hcs])
  have hbc:b<c:=by have:=HB.out.lt;omega
  have HQ5:=H_ (HB.out.below HB5.out HB.out.lt);clear hw4 hw5 hb4 hr4 qk hr3;have q0:=HQ5.out.cell 0;have q1:=HQ5.out.cell 1;have q2:=HQ5.out.cell 2;have q5:=HQ5.out.cell 5;obtain⟨f0,f1,f2⟩:=HQ5.out.f3;have d0:=HC5.out.cell 0;have d1:=HC5.out.cell 1;have d2:=HC5.out.cell 2;have e0:=HC5.out.frozen 0;have e2:=HC5.out.frozen 2;go_wp2_with fail;refine(iV _ _ _ _).mono ?_;rintro e w6 ⟨rfl,b6⟩;have HL6:=H_ (((Lk.of HB5.out (F0 _)).set 1 (.int .u64 (u:Int))).trans (Lk.of (B:=B) (b:=b) b6 (F0 _)));have hq6:=(HQ5.out.set 1 (.int .u64 (u:Int))).below b6 (by have:=HQ5.out.lt;simp[World.setCell];omega);simp only[Gg,GK,GJ]at hq6;have HR6:=H_ (show RdP w6 B b {x with sd:=u} (.conf 1)from⟨hq6,HX.out.1,HX.out.2,by omega⟩);clear b6 hq6 q0 q1 q2 q5 f0 f1 f2 d0 d1 d2 e0 e2;go_wp2_with fail;go_ret;have hok:jO 1 u:=⟨λh=>absurd h (by decide),λh=>absurd h (by decide)⟩;exact⟨HL6.out,.inr ⟨u,(kI (k:=1) HV.out HL.out HT.out).1 hok,rfl,HR6.out⟩⟩
 ·by_cases hw:p=⟨#[121,111,117,110,103]⟩
  rotate_left
  ·have HN:=H_ (eu λn h=>hw (Fy (HU.out n h).1));have hne:(p.toList==[121,111,117,110,103])=false:=Fa.2 λe=>hw (ff (e.trans (FR (⟨#[121,111,117,110,103]⟩:ByteArray)).symm));clear hw;go_enter Tryz.func48,Tryz.ntmps48;go_wp2_with fail;refine HC.out.mono ?_;rintro e w1 ⟨rfl,b1⟩;go_wp2_with fail;refine(HP.out w1).mono ?_;rintro e w2 ⟨rfl,b2⟩;go_wp2_with fail;have hb2:=b1.trans (b2.mono b1.size);refine(HF.out w2 (HG.out.below hb2)).mono ?_;rintro e w3 ⟨rfl,b3⟩;have hb3:=hb2.trans (b3.mono hb2.size);clear b1 b2 b3 hb2;have hr3:w3.cell? ⟨b,5,none⟩=some (.int .i64 2):=(aa hb3 (HB.out.lt) 5).trans (HB.out.cell 5);have qn:=Blk.new w3 9 #[.string ⟨#[109,97,99,104,105,110,101,115]⟩,.string ⟨#[115,101,101,100]⟩,.string ⟨#[121,111,117,110,103]⟩];have qk:=qn.cell 2;have hb4:=H_ (hb3.alloc hb3.size (.cells #[.string ⟨#[109,97,99,104,105,110,101,115]⟩,.string ⟨#[115,101,101,100]⟩,.string ⟨#[121,111,117,110,103]⟩] 9));have hr4:(w3.alloc (.cells #[.string ⟨#[109,97,99,104,105,110,101,115]⟩,.string ⟨#[115,101,101,100]⟩,.string ⟨#[121,111,117,110,103]⟩] 9)).cell? ⟨b,5,none⟩=some (.int .i64 2):=(aa hb4.out HB.out.lt 5).trans (HB.out.cell 5);clear qn hb3;go_wp2_with fail;go_ret;exact⟨Lk.of hb4.out (F0 _),.inl ⟨HN.out,rfl,x,HR.out.below hb4.out (F0 _)⟩⟩
  subst hw;have heqw:((⟨#[121,111,117,110,103]⟩:ByteArray).toList==[121,111,117,110,103])=true:=by rw[FR];rfl
  go_enter Tryz.func48,Tryz.ntmps48;go_wp2_with fail;refine HC.out.mono ?_;rintro e w1 ⟨rfl,b1⟩;go_wp2_with fail;refine(HP.out w1).mono ?_;rintro e w2 ⟨rfl,b2⟩;go_wp2_with fail;have hb2:=b1.trans (b2.mono b1.size);refine(HF.out w2 (HG.out.below hb2)).mono ?_;rintro e w3 ⟨rfl,b3⟩;have hb3:=hb2.trans (b3.mono hb2.size);clear b1 b2 b3 hb2;have hr3:w3.cell? ⟨b,5,none⟩=some (.int .i64 2):=(aa hb3 (HB.out.lt) 5).trans (HB.out.cell 5);have qn:=Blk.new w3 9 #[.string ⟨#[109,97,99,104,105,110,101,115]⟩,.string ⟨#[115,101,101,100]⟩,.string ⟨#[121,111,117,110,103]⟩];have qk:=qn.cell 2;have hb4:=H_ (hb3.alloc hb3.size (.cells #[.string ⟨#[109,97,99,104,105,110,101,115]⟩,.string ⟨#[115,101,101,100]⟩,.string ⟨#[121,111,117,110,103]⟩] 9));have hr4:(w3.alloc (.cells #[.string ⟨#[109,97,99,104,105,110,101,115]⟩,.string ⟨#[115,101,101,100]⟩,.string ⟨#[121,111,117,110,103]⟩] 9)).cell? ⟨b,5,none⟩=some (.int .i64 2):=(aa hb4.out HB.out.lt 5).trans (HB.out.cell 5);clear qn hb3;have hq4:=hb4.out.size;obtain⟨w4,hw4⟩:=nm_ (w3.alloc (.cells #[.string ⟨#[109,97,99,104,105,110,101,115]⟩,.string ⟨#[115,101,101,100]⟩,.string ⟨#[121,111,117,110,103]⟩] 9));rw[hw4]at hb4 hr4 hq4 qk;go_upto_region 6 with fail;obtain⟨c,hcz⟩:=nm_ (w4.heap.size);obtain⟨w5,hw5⟩:=nm_ (w4.alloc (.cells #[.int .i64 1,.int .u64 0,.int .i64 0] 25));have hcs:w3.heap.size+1=c:=by rw[<-hcz,<-hw4];simp
  have HC5:=hng hw5 hcz;have HB5:=H_ (show Below w.heap.size w w5 from hw5▸hb4.out.alloc hb4.out.size _);rw[hw5]
  (try rw[hcz])
  (try rw[hcs])
  have hbc:b<c:=by have:=HB.out.lt;omega
  have HQ5:=H_ (HB.out.below HB5.out HB.out.lt);clear hw4 hw5 hb4 hr4 qk hr3;have q0:=HQ5.out.cell 0;have q1:=HQ5.out.cell 1;have q2:=HQ5.out.cell 2;have q5:=HQ5.out.cell 5;obtain⟨f0,f1,f2⟩:=HQ5.out.f3;have d0:=HC5.out.cell 0;have d1:=HC5.out.cell 1;have d2:=HC5.out.cell 2;have e0:=HC5.out.frozen 0;have e2:=HC5.out.frozen 2;go_wp2_with fail;by_cases hv:u<=1099511627776
  ·refine(iV _ _ _ _).mono ?_;rintro e w6 ⟨he,b6⟩;rw[Hn (by omega)]at he;subst he;have HL6:=H_ ((((Lk.of HB5.out (F0 _)).set 2 (.int .i64 (min (u:Int) 1099511627777))).far (p:=⟨c,2,none⟩) (by show w.heap.size<=c;omega) (.int .i64 (min (u:Int) 1099511627777))).trans (Lk.of (B:=B) (b:=b) b6 (F0 _)));have hq6:=((HQ5.out.set 2 (.int .i64 (min (u:Int) 1099511627777))).other ⟨c,2,none⟩ (.int .i64 (min (u:Int) 1099511627777)) (by show b≠c;omega)).below b6 (by have:=HQ5.out.lt;simp[World.setCell];omega);simp only[Gg,GK,GJ]at hq6;have HR6:=H_ (show RdP w6 B b {x with y:=(min (u:Int) 1099511627777)} (.conf 2)from⟨hq6,HX.out.1,HX.out.2,by omega⟩);clear b6 hq6 q0 q1 q2 q5 f0 f1 f2 d0 d1 d2 e0 e2;go_wp2_with fail;go_ret;have hok:jO 2 u:=⟨λh=>absurd h (by decide),λ_=>hv⟩;have hmin:(min (u:Int) 1099511627777)=(u:Int):=by omega
   have hr6:=HR6.out;rw[hmin]at hr6;exact⟨HL6.out,.inr ⟨u,(kI (k:=2) HV.out HL.out HT.out).1 hok,rfl,hr6⟩⟩
  ·refine(iV _ _ _ _).mono ?_;rintro e w6 ⟨he,b6⟩;rw[GU (by omega)]at he;subst he;have HL6:=H_ ((((Lk.of HB5.out (F0 _)).set 2 (.int .i64 (min (u:Int) 1099511627777))).far (p:=⟨c,2,none⟩) (by show w.heap.size<=c;omega) (.int .i64 (min (u:Int) 1099511627777))).trans (Lk.of (B:=B) (b:=b) b6 (F0 _)));have hq6:=((HQ5.out.set 2 (.int .i64 (min (u:Int) 1099511627777))).other ⟨c,2,none⟩ (.int .i64 (min (u:Int) 1099511627777)) (by show b≠c;omega)).below b6 (by have:=HQ5.out.lt;simp[World.setCell];omega);simp only[Gg,GK,GJ]at hq6;have HR6:=H_ (show RdP w6 B b {x with y:=(min (u:Int) 1099511627777)} (.conf 2)from⟨hq6,HX.out.1,HX.out.2,by omega⟩);clear b6 hq6 q0 q1 q2 q5 f0 f1 f2 d0 d1 d2 e0 e2;go_wp2_with fail;go_ret;exact⟨HL6.out,.inl ⟨(kI (k:=2) HV.out HL.out HT.out).2 λh=>hv (h.2 rfl),rfl,_,HR6.out⟩⟩
theorem rk{s:ByteArray}{k:Int}(h:isB s k=true):∀c∈s.data.toList,c≠10:=by
 have hall:s.data.toList.all fD=true:=by
  unfold isB iA ij aR at h
  split at h<;>(cases hs:s.data.toList with
   |nil=>rfl
   |cons c l=>
    rw[hs]at h;simp only[Fx]at h;exact h.2)
 intro c hc he;subst he;have:=Fu.1 hall _ hc;revert this;decide
theorem jd(n:Int):∀c∈Lib.itoa n,c≠10:=by
 intro c hc he;subst he;unfold Lib.itoa at hc;split at hc
 ·rcases Fp.1 hc with hc|hc
  ·cases hc
  ·have:=dK _ _ hc;simp at this
 ·have:=dK _ _ hc;simp at this
theorem zU{p:PD}(h:km d p=true):∀x∈bQ (dG d p),∀c∈x,c≠10:=by
 intro x hx;obtain⟨y,hy,rfl⟩:=FU.1 hx;cases p with
 |numA=>simp only[dG,Fp,Fm,FX]at hy;subst hy;exact jd _
 |numB=>simp only[dG,Fp,Fm,FX]at hy;subst hy;exact jd _
 |nam k=>simp only[dG,Fp,Fm,FX]at hy;subst hy;exact rk h
 |met k=>simp only[dG,Fp,Fm,FX]at hy;subst hy;exact rk h
 |surv=>obtain⟨z,_,rfl⟩:=FU.1 hy;exact jd _
 |rest=>obtain⟨z,_,rfl⟩:=FU.1 hy;exact jd _
theorem tm{i:Nat}{fd:FD}(h:aM[i]?=some fd):(∀c∈fd.word.data.toList,c≠10)/\∃c l,fd.word.data.toList=c::l/\c≠35:=by
 have hm:=Fi h;unfold aM at hm;simp only[Fp,Fm,FX]at hm;rcases hm with rfl|rfl|rfl|rfl|rfl|rfl|rfl|rfl|rfl|rfl|rfl|rfl|rfl|rfl|rfl|rfl<;>exact⟨by decide,_,_,rfl,by decide⟩
theorem rs(h:aS d=true):(∀c∈et d,c≠10)/\∃c l,et d=c::l/\c≠35:=by
 obtain⟨f,hf,hok⟩:=mw h;have h1:=my d f hf hok
 have h3:et d=f.word.data.toList++aq (bQ (f.pds.flatMap (dG d))):=by
  rw[<-h1,show bQ (eE d f)=f.word.data.toList::bQ (f.pds.flatMap (dG d))from rfl,Lib.join_cons,fB]
 obtain⟨f1,c,l,f2,f3⟩:=tm (gx hf);refine⟨λc hc=>?_,c,l++aq (bQ (f.pds.flatMap (dG d))),by rw[h3,f2];rfl,f3⟩;rw[h3]at hc;rcases Gf.1 hc with hc|hc
 ·exact f1 c hc
 ·obtain⟨x,hx,hc⟩:=List.mem_flatMap.1 hc;rcases Fp.1 hc with rfl|hc
  ·decide
  ·obtain⟨y,hy,rfl⟩:=FU.1 hx;obtain⟨p,hp,hy⟩:=List.mem_flatMap.1 hy;unfold ld at hok;rw[Fx]at hok;exact zU (Fu.1 hok.1 p hp) _ (FU.2 ⟨y,hy,rfl⟩) c hc
def oO(k n:Nat):ByteArray:=ba ((iv k).data.toList++32::Lib.decDigits n)
def dP(d:Ad):ByteArray:=ba (et d)
structure VSc(x:Sc):Prop where
 m1:1<=x.m
 m8:x.m<=8
 s0:0<=x.sd
 s1:x.sd<=18446744073709551615
 y0:0<=x.y
 y1:x.y<=1099511627776
 cs:vPr x.cs=true
 ac:∀d∈x.ac,aS d=true
 wf:∀d∈x.ac,WfA d
def fV(x:Sc):List ByteArray:=[oO 0 x.m.toNat,oO 1 x.sd.toNat,oO 2 x.y.toNat,mY]
def yT(x:Sc):List UInt8:=glu (fV x)++(ah (prP x.cs)++glu [gW])
def ru(x:Sc):List UInt8:=yT x++glu (x.ac.map dP)
theorem mo(a b:List ByteArray):glu (a++b)=glu a++glu b:=Gk
theorem nA(l:ByteArray)(ls:List ByteArray):glu (l::ls)=l.data.toList++bU 10 (bQ ls++[[]]):=by
 induction ls generalizing l with
 |nil=>simp[glu,bU,bQ]
 |cons m ls ih=>
  rw[show glu (l::m::ls)=(l.data.toList++[10])++glu (m::ls)from rfl,ih m];simp[bU,bQ]
theorem vO{Ls:List ByteArray}(h:∀x∈Ls,∀c∈x.data.toList,c≠10):an (ba (glu Ls))=Ls:=by
 cases Ls with
 |nil=>
  have hc:ii 10 (ba (glu []))=[⟨#[]⟩]:=by
   refine fL ?_;rw[jN];have:Lib.countB (ba (glu [])) ⟨#[10]⟩=0:=gz 10 [] [] (by simp);rw[this];rfl
  unfold an;rw[hc];rfl
 |cons l ls=>
  have hall:∀x∈l.data.toList::(bQ ls++[[]]),∀c∈x,c≠10:=λx hx=>by
   rcases Fp.1 hx with rfl|hx
   ·exact h l (by simp)
   ·rcases Gf.1 hx with hx|hx
    ·obtain⟨y,hy,rfl⟩:=FU.1 hx;exact h y (by simp[hy])
    ·rw[List.mem_singleton.1 hx];exact λc hc=>absurd hc Fm
  have hc:ii 10 (ba (glu (l::ls)))=(l::ls)++[⟨#[]⟩]:=by
   refine fL ?_;rw[jN]
   have h4:Lib.countB (ba (glu (l::ls))) ⟨#[10]⟩=(bQ ls++[[]]).length:=by
    rw[<-gz 10 _ _ hall,<-nA];rfl
   rw[h4];show Lib.splitK [10] 0 _ (glu (l::ls))=_;rw[nA,iF 10 _ _ hall];simp[bQ]
  unfold an nR;rw[hc,Ft (by rw[List.getLast?_concat]),List.dropLast_concat]
theorem xv(h:aS d=true):gt (dP d)=false:=by
 obtain⟨_,c,l,h1,h2⟩:=rs h;unfold gt;show(match et d with|[]=>true|c::_=>c==35)=false;rw[h1];simpa using h2
theorem oU:∀(ds:List Ad) (ls:List ByteArray) (n:Nat) (x:Sc),(∀d∈ds,aS d=true/\WfA d)->fR (ds.map dP++ls) n .acts x=fR ls (n+ds.length) .acts {x with ac:=x.ac++ds}
 |[],ls,n,x,_=>by simp
 |d::ds,ls,n,x,h=>by
  obtain⟨h1,h2⟩:=h d (by simp)
  have hst:bP (n+1) (dP d) .acts x= .go .acts {x with ac:=x.ac++[d]}:=by
   unfold bP;simp only;rw[Fg (by rw[xv h1];decide),show cN (bm (dP d))=some d from vG d h2 h1]
  rw[Ga,Fq,fi hst,oU ds ls (n+1) _ λy hy=>h y (by simp[hy])];simp only[EZ,Fe,List.singleton_append,Nat.add_assoc,Nat.add_comm 1]
theorem ly{n k v:Nat}(hk:k<3)(hv:U64 v)(ho:jO k v):bP n (oO k v) (.conf k) x= .go (.conf (k+1)) (x.set k v):=by
 have hs:gt (oO k v)=false:=by
  match k,hk with
  |0,_=>rfl
  |1,_=>rfl
  |2,_=>rfl
 unfold bP;simp only;rw[Fg (by rw[hs];decide),Fg (by omega),nO (n:=v) ⟨hv,rfl,ho⟩]
theorem sF(h:VSc x):∃P:List ByteArray,ah (prP x.cs)=glu P/\∀l∈P,(∀c∈l.data.toList,c≠10)/\l≠gW:=by
 obtain⟨P,h1,h2⟩:=(Dr h.cs).2.2;refine⟨P,h1,λl hl=>⟨(h2 l hl).1,λe=>(h2 l hl).2 ?_⟩⟩;rw[e];rfl
theorem qN(h:VSc x)(hl:(ah (prP x.cs)).length<=16384)(hz:lsz csz x.cs<=4000):eH (ah (prP x.cs))= .ok x.cs:=by
 obtain⟨T,h1,_,h2⟩:=sH h.cs hl;unfold eH;rw[h1];simp only;rw[h2];simp only;rw[Fg (by omega)]
theorem vR(h:VSc x)(hl:(ah (prP x.cs)).length<=16384)(hz:lsz csz x.cs<=4000){P:List ByteArray}(hP:ah (prP x.cs)=glu P)(hP2:∀l∈P,l≠gW)(ls:List ByteArray)(n:Nat):
 fR (fV x++(P++(gW::ls))) n (.conf 0) zSc=fR ls (n+(4+P.length+1)) .acts {x with ac:=[]}:=by
 have hm:=h.m1;have hm8:=h.m8;have hs0:=h.s0;have hs1:=h.s1;have hy0:=h.y0;have hy1:=h.y1;have e0:(x.m.toNat:Int)=x.m:=by omega
 have e1:(x.sd.toNat:Int)=x.sd:=by omega
 have e2:(x.y.toNat:Int)=x.y:=by omega
 unfold fV;simp only[Fq,Fs]
 rw[fi (ly (by omega) (by unfold U64;omega) ⟨λ_=>by omega,λh=>absurd h (by omega)⟩),fi (ly (by omega) (by unfold U64;omega) ⟨λh=>absurd h (by omega),λh=>absurd h (by omega)⟩),
  fi (ly (by omega) (by unfold U64;omega) ⟨λh=>absurd h (by omega),λ_=>by omega⟩)]
 have hpr:∀(m:Nat) (y:Sc),bP m mY (.conf 3) y= .go (.src [] (m+1)) y:=λm y=>by
  unfold bP;simp only;rw[Fg (by decide),Ft trivial,Ft trivial]
 rw[fi (hpr _ _),oz P (gW::ls) _ _ _ _ hP2,Fs,<-show glu P=P.flatMap (λl=>l.data.toList++[10])from rfl,<-hP]
 have hen:∀(m:Nat) (f:Nat) (y:Sc),bP m gW (.src (ah (prP x.cs)) f) y= .go .acts {y with cs:=x.cs}:=λm f y=>by
  unfold bP;simp only;rw[Ft trivial];unfold pq;rw[qN h hl hz]
 rw[fi (hen _ _ _)]
 have hx:({((zSc.set 0 x.m.toNat).set 1 x.sd.toNat).set 2 x.y.toNat with cs:=x.cs}:Sc)={x with ac:=[]}:=by
  simp only[zSc,Sc.set,e0,e1,e2]
 rw[hx]
 congr 1
 omega
theorem lz(k v:Nat):∀c∈(oO k v).data.toList,c≠10:=λc hc=>by
 rcases Gf.1 (show c∈(iv k).data.toList++32::Lib.decDigits v from hc)with hc|hc
 ·have:∀c∈(iv k).data.toList,c≠10:=by
   match k with
   |0=>decide
   |1=>decide
   |_+2=>exact(by decide:∀c∈(iv 2).data.toList,c≠10)
  exact this c hc
 ·rcases Fp.1 hc with rfl|hc
  ·decide
  ·intro e;have:=dK v c hc;rw[e]at this;simp at this
theorem vT(x:Sc):∀l∈fV x,∀c∈l.data.toList,c≠10:=λl hl=>by
 unfold fV at hl;simp only[Fp,Fm,FX]at hl;rcases hl with rfl|rfl|rfl|rfl
 ·exact lz _ _
 ·exact lz _ _
 ·exact lz _ _
 ·decide
theorem wv{ds:List Ad}(h:∀d∈ds,aS d=true):∀l∈ds.map dP,∀c∈l.data.toList,c≠10:=λl hl=>by
 obtain⟨d,hd,rfl⟩:=FU.1 hl;exact(rs (h d hd)).1
theorem rW(h:VSc x):∃P:List ByteArray,ah (prP x.cs)=glu P/\(∀l∈P,l≠gW)/\yT x=glu (fV x++(P++[gW]))/\∀l∈fV x++(P++[gW]),∀c∈l.data.toList,c≠10:=by
 obtain⟨P,h1,h2⟩:=sF h;refine⟨P,h1,λl hl=>(h2 l hl).2,by unfold yT;rw[mo,mo,h1],λl hl=>?_⟩;rcases Gf.1 hl with hl|hl
 ·exact vT x l hl
 ·rcases Gf.1 hl with hl|hl
  ·exact(h2 l hl).1
  ·rw[List.mem_singleton.1 hl];decide
theorem qE(h:VSc x)(hl:(ru x).length<=16384)(hz:lsz csz x.cs<=4000):eg (ba (ru x))= .ok x:=by
 obtain⟨P,h1,h2,h3,h4⟩:=rW h;have hP:(ah (prP x.cs)).length<=16384:=by unfold ru yT at hl;simp only[EY]at hl;omega
 have e:ru x=glu ((fV x++(P++[gW]))++x.ac.map dP):=by unfold ru;rw[mo,h3]
 unfold eg;rw[e,vO λl hl=>(Gf.1 hl).elim (h4 l) (wv h.ac l)];have:=vR h hP hz h1 h2 (x.ac.map dP++[]) 0;rw[show fV x++(P++[gW])++x.ac.map dP=fV x++(P++(gW::(x.ac.map dP++[]))) by simp,this,oU _ _ _ _ λd hd=>⟨h.ac d hd,h.wf d hd⟩];rfl
end
end Go.Proofs.YtjpbckbpeblibaaGreatDoor
