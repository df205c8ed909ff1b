/- part of a proof -/
import Derived.Test.YtjpbckbpeblibaaGreatDoorK23
namespace Go.Proofs.YtjpbckbpeblibaaGreatDoor
set_option linter.unusedVariables false
set_option linter.unusedSimpArgs false
set_option maxRecDepth 100000
set_option maxHeartbeats 64000000
section
open Go.RowKit
variable{B M c k n off:Nat}{K:Int}{W w:World}{mt s:ByteArray}{zs:List Int}
def cI(w0:ByteArray):Nat->Int
 |0=> -1
 |i+1=>if dS[i]?=some w0 then(i:Int)else cI w0 i
theorem jd(w0:ByteArray):∀i,-1<=cI w0 i/\cI w0 i<i
 |0=>⟨by simp[cI],by simp[cI]⟩
 |i+1=>by
  have:=jd w0 i;unfold cI;split<;>omega
theorem iB:dS=ax.map FD.word:=by kernel_rfl
theorem kl{q:Nat}{fd:FD}(h:ax[q]?=some fd):∀i,i<=16->cI fd.word i=if q<i then(q:Int)else-1
 |0,_=>by simp[cI]
 |i+1,hi=>by
  have ih:=kl h i (by omega);have hq:q<16:=(AH.1 h).1;unfold cI;by_cases hiq:i=q
  ·subst hiq;rw[AP (by rw[iB,Bp,h];rfl),AP (by omega)]
  ·obtain⟨fd',h1,_⟩:=fG (by omega:i<16);rw[AL,ih]
   ·by_cases h2:q<i
    ·rw[AP h2,AP (by omega)]
    ·rw[AL h2,AL (by omega)]
   ·rw[iB,Bp,h1];simp only[Option.map_some,Option.some.injEq];rcases BI i q with h2|h2
    ·exact fb h1 h h2
    ·exact(fb h h1 (by omega)).symm
theorem Row.cutK{b:Nat}{pre cs:List Value}(h:Row w B (some ⟨b,off,none⟩) (k+n) (pre++cs))(hp:pre.length=k)(hc:k+n<=c):
 Row w B (if c=k then some ⟨b,off,none⟩else some ⟨b,off+k,none⟩) n cs:=by
 have hl:cs.length=n:=by
  have:=h.1;rw[AT,hp]at this;omega
 refine⟨hl,λh0=>?_⟩;obtain⟨b',off',h1,h2,h3⟩:=h.2 (by omega);simp only[Option.some.injEq,Addr.mk.injEq,Bn]at h1;obtain⟨rfl,rfl⟩:=h1;rw[AL (by omega)];refine⟨b,off+k,rfl,h2,λj u hu=>?_⟩;rw[Df];refine h3 (k+j) u ?_;rw[BX (by omega),hp,Nat.add_sub_cancel_left];exact hu
theorem Strs.cutK{b:Nat}{pre ss:List ByteArray}(h:Strs w B (some ⟨b,off,none⟩) (k+n) (pre++ss))(hp:pre.length=k)(hc:k+n<=c):
 Strs w B (if c=k then some ⟨b,off,none⟩else some ⟨b,off+k,none⟩) n ss:=by
 unfold Strs at*
 rw[Cg]at h;exact Row.cutK h (by simpa using hp) hc
theorem Ints.cutK{b:Nat}{pre:List Int}(h:Ints w B (some ⟨b,off,Option.none⟩) (k+n) (pre++zs))(hp:pre.length=k)(hc:k+n<=c):
 Ints w B (if c=k then some ⟨b,off,Option.none⟩else some ⟨b,off+k,Option.none⟩) n zs:=by
 unfold Ints at*
 rw[Cg]at h;exact Row.cutK h (by simpa using hp) hc
def RefPost(s:ByteArray)(w:World)(e:Ending)(w':World):Prop:=
 ∃(v:Av) (a:Ad) (code:Int),e= .returned (.tuple #[.agg v.cells,.int .i64 code])/\Reads w' w'.heap.size v a/\v.n<=1000000/\v.n2<=1000000/\v.apart w.heap.size/\Below w.heap.size w w'/\
  ((code=0/\aR a=true/\dc a=s.data.toList)\/(code=3/\a=bc 0/\∀d,aR d=true->dc d=s.data.toList->False))
theorem RefPost.no(hb:Below w.heap.size w W)(hno:∀d,aR d=true->dc d=s.data.toList->False):RefPost s w (.returned (.tuple #[.agg (vOf (bc 0)).cells,.int .i64 3])) W:=
 ⟨vOf (bc 0),bc 0,3,rfl,gP rfl rfl,AM _,AM _,gQ _ _,hb,.inr ⟨rfl,rfl,hno⟩⟩
theorem RefPost.yes{R:Nat}{v:Av}{a:Ad}(hr:Reads W W.heap.size v a)(hap:v.apart M)(hRM:R<M)(hL:w.heap.size<=M)(hn:v.n<=1000000)(hn2:v.n2<=1000000)
 (hb:Below w.heap.size w (((((((W.setCell ⟨R,0,none⟩ (.int .i64 v.k)).setCell ⟨R,1,none⟩ (.int .i64 v.a)).setCell ⟨R,2,none⟩ (.int .i64 v.b)).setCell ⟨R,3,none⟩ (.string v.nm)).setCell ⟨R,4,none⟩ (.string v.mt)).setCell ⟨R,5,none⟩ (.slice v.A v.n v.c)).setCell ⟨R,6,none⟩ (.slice v.A2 v.n2 v.c2)))
 (hv:aR a=true) (hf:dc a=s.data.toList):
 RefPost s w (.returned (.tuple #[.agg v.cells,.int .i64 0])) (((((((W.setCell ⟨R,0,none⟩ (.int .i64 v.k)).setCell ⟨R,1,none⟩ (.int .i64 v.a)).setCell ⟨R,2,none⟩ (.int .i64 v.b)).setCell ⟨R,3,none⟩ (.string v.nm)).setCell ⟨R,4,none⟩ (.string v.mt)).setCell ⟨R,5,none⟩ (.slice v.A v.n v.c)).setCell ⟨R,6,none⟩ (.slice v.A2 v.n2 v.c2)):=by
 refine⟨v,a,0,rfl,?_,hn,hn2,hap.less hL,hb,.inl ⟨rfl,hv,hf⟩⟩;have h9:=hr.other hap hRM (λb hb=>mz (w:=W) (.int .i64 v.k) (.int .i64 v.a) (.int .i64 v.b) (.string v.nm) (.string v.mt) (.slice v.A v.n v.c) (.slice v.A2 v.n2 v.c2) hb);simpa using h9
def S26(P:ByteArray×ByteArray×List ByteArray)(K:Int)(M:Nat)(w3:World)(v:Value)(U:World):Prop:=
 ∃(nm mt:ByteArray) (ws:List ByteArray) (A:Option Addr) (n c:Nat),v= .slice A n c/\n<=c/\n<=1000000/\Strs U U.heap.size A n ws/\Blk U M 48 #[.int .i64 K,.int .i64 0,.int .i64 0,.string nm,.string mt,.slice none 0 0,.slice none 0 0]/\Below M w3 U/\(nm,mt,ws)=P
def E26(K:Int)(nm mt:ByteArray)(zs:List Int)(M:Nat)(w3 U:World):Prop:=
 ∃(v:Av),Blk U M 48 v.cells/\Below M w3 U/\Reads U U.heap.size v (ix K nm mt zs)/\v.n<=1000000/\v.n2<=1000000/\v.apart M/\v.nm=nm/\v.mt=mt
theorem E26.plain{a b:Int}{nm:ByteArray}{w3 U:World}(hq:Blk U M 48 #[.int .i64 K,.int .i64 a,.int .i64 b,.string nm,.string mt,.slice none 0 0,.slice none 0 0])(hb:Below M w3 U)(h:ix K nm mt zs=⟨K,a,b,nm,mt,[],[]⟩):E26 K nm mt zs M w3 U:=
 ⟨⟨K,a,b,nm,mt,none,0,0,none,0,0⟩,hq,hb,h▸⟨rfl,rfl,rfl,rfl,rfl,Ints.none _ _,Ints.none _ _⟩,AM _,AM _,⟨λb o h=>(by cases h),λb o h=>(by cases h)⟩,rfl,rfl⟩
theorem ux{wt ws:List ByteArray}{nm:ByteArray}(h:(nm,mt,ws)=jD K wt)(hz:∀x∈wt,x.size<=1000000):nm.size<=1000000/\mt.size<=1000000/\∀x∈ws,x.size<=1000000:=by
 have h0:(⟨#[]⟩:ByteArray).size<=1000000:=by decide
 have hg:∀k,(wt.getD k ⟨#[]⟩).size<=1000000:=λk=>by
  rw[Bo];cases hk:wt[k]? with
  |none=>exact h0
  |some x=>exact hz x (AJ hk)
 unfold jD at h;split at h
 ·cases h;refine⟨hg 1,hg 2,λx hx=>?_⟩;rcases AV.1 hx with rfl|hx
  ·exact hg 0
  ·exact hz x (List.mem_of_mem_drop hx)
 ·split at h
  ·cases h;exact⟨hg 0,hg 1,λx hx=>hz x (List.mem_of_mem_drop hx)⟩
  ·split at h
   ·cases h;exact⟨hg 0,h0,λx hx=>hz x (List.mem_of_mem_drop hx)⟩
   ·cases h;exact⟨h0,h0,hz⟩
theorem zV(s:ByteArray)(w:World)(hs:s.size<=100000):Calls Tryz.prog 26 #[.string s] w (RefPost s w):=by
 go_enter Tryz.func26,Tryz.ntmps26;go_upto_region 1 with fail;have hr0:=Blk.new w 48 (vOf (bc 0)).cells;have hb0:Below w.heap.size w (w.alloc (.cells (vOf (bc 0)).cells 48)):=(AC _ _).alloc (AB _) _;rw[show(#[.int .i64 0,.int .i64 0,.int .i64 0,.string ⟨#[]⟩,.string ⟨#[]⟩,.slice none 0 0,.slice none 0 0]:Array Value)=(vOf (bc 0)).cells from rfl];generalize w.alloc (.cells (vOf (bc 0)).cells 48)=W0 at hr0 hb0⊢;have hlt0:=hr0.lt;have zb0:=hb0.size;obtain⟨R,hR⟩:=nm_ (w.heap.size);rw[hR]at hr0 hlt0⊢;have HL:=H_ hR;have QR:=H_ hr0;have B0:=H_ hb0;clear hR hr0 hb0;go_wp2_with fail;refine(wN s _ hs).mono ?_;rintro e w2 ⟨A,c,rfl,hcap,hst,b2⟩
 obtain⟨w0,wt,hws⟩:∃w0 wt,aw s=w0::wt:=by
  have hwl:=gp s;cases h:aw s with
  |nil=>rw[h]at hwl;simp at hwl
  |cons a b=>exact⟨a,b,rfl⟩
 obtain⟨nw,hnw⟩:=nm_ ((aw s).length);rw[hnw]at hst hcap⊢;rw[hws]at hst;have hnw2:nw=wt.length+1:=by rw[<-hnw,hws];rfl
 obtain⟨bw,ow,rfl,_⟩:=dA hst;have HST:=H_ hst;have QR2:=H_ (QR.out.below b2 hlt0);have B2:=H_ (B0.out.trans (b2.mono zb0));have hs2:=b2.size;have HWS:=H_ (And.intro hnw hws)
 have HX:=H_ (show∀d,aR d=true->dc d=s.data.toList->cI w0 16=d.k/\jD d.k wt=(d.nm,d.mt,(eF d).map bM)/\ix d.k d.nm d.mt (eF d)=d/\∀z∈eF d,dD z from λd hv hd=>by
  obtain⟨f,hf,hok⟩:=kT hv;have h1:=mo hf hok;have h2:(⟨(dc d).toArray⟩:ByteArray)=s:=AN (by simpa using hd);rw[h2,hws]at h1;unfold dp at h1;simp only[List.cons.injEq]at h1;obtain⟨rfl,rfl⟩:=h1;refine⟨?_,uq d f hf hok⟩;have h3:=fg hf;have h4:=ev hf;rw[kl h3 16 (AB _),AP (by omega)];omega)
 clear hws hnw hst b2 QR B0;go_upto_region 3 with fail;have hm0:=Blk.new w2 48 (vOf (bc (-1))).cells;have b3:Below w2.heap.size w2 (w2.alloc (.cells (vOf (bc (-1))).cells 48)):=(AC _ _).alloc (AB _) _;rw[show(#[.int .i64 (-1),.int .i64 0,.int .i64 0,.string ⟨#[]⟩,.string ⟨#[]⟩,.slice none 0 0,.slice none 0 0]:Array Value)=(vOf (bc (-1))).cells from rfl];generalize w2.alloc (.cells (vOf (bc (-1))).cells 48)=w3 at hm0 b3⊢;have QR3:=hbl QR2 b3;have HST3:=H_ (HST.out.below b3);have B3:=htr B2 b3;have hR2:=QR2.out.lt;obtain⟨M,hM⟩:=nm_ (w2.heap.size);rw[hM]at hm0 HST3 hs2 hR2⊢;have hMw:=hm0.lt;have QM:=H_ hm0;clear b3 hm0 hM QR2 HST B2;go_wp2_with fail;go_loopw [6] (λi wr=>∃k:Nat,k<=16/\i= .int .i64 k/\Hid (Blk wr M 48 (vOf (bc (cI w0 k))).cells)/\Hid (Below M w3 wr)) (λi _=>16-(intOf i).toNat)
 case atStart=>exact⟨0,AM _,rfl,QM,H_ (AC _ _)⟩
 case round=>
  clear QM;obtain⟨k,hk,rfl,HM,HB⟩:=hrel;by_cases hlt:k<16
  ·obtain⟨x,hx⟩:∃x,dS[k]?=some x:=⟨_,AI (by show k<dS.length;exact hlt)⟩;have HXW:=H_ hx;have hk0:0<=(k:Int):=by omega
   have hk1:(k:Int)<16:=by omega
   clear hx;obtain⟨bq,hbq⟩:∃b:Bool,(x.toList==w0.toList)=b:=⟨_,rfl⟩;have HBQ:=H_ hbq;go_upto_region 6 with(refine(kD _).mono ?_;rintro e w4 ⟨rfl,hw4⟩);have b4:Below wr.heap.size wr w4:=by rw[<-hw4];exact(AC _ _).alloc (AB _) _
   have hbwM:bw<M:=(HST3.out.2 (by omega)).elim λ_ h=>by obtain⟨_,h1,h2,_⟩:=h;cases h1;exact h2
   have cw4:w4.cell? ⟨bw,ow,none⟩=some (.string w0):=by
    obtain⟨b,off,s',h1,h2,h3,h4⟩:=HST3.out.at_ (k:=0) (by omega);cases h1;cases h3;rw[a8 b4 (by have:=HM.out.lt;omega),a8 HB.out hbwM];exact h4
   have hM4:M<w4.heap.size:=AF HM.out.lt b4.size;have HM4:=hbl HM b4;have HB4:=H_ (HB.out.trans (b4.mono (Be HM.out.lt)));have hbw4:bw<w4.heap.size:=by omega
   have hnz:(0:Int)<(nw:Int):=by omega
   have hkk:Below w4.heap.size w4 w4:=AC _ _;clear hw4 b4 HM HB;go_cut [26] (λv U=>v= .bool bq/\Below w4.heap.size w4 U)
   case first=>
    go_region_with ((go_at_call 54
                     refine(kD _).mono ?_;rintro e w5 ⟨rfl,hw5⟩;have hk5:Below w4.heap.size w4 w5:=by rw[<-hw5];exact hkk.drew.alloc (AB _) _
                     have cw5:w5.cell? ⟨bw,ow,none⟩=some (.string w0):=(a8 hk5 hbw4 ow).trans cw4;have hwc:w5.cell? ⟨w4.heap.size,k,none⟩=some (.string x):=by rw[<-hw5];exact(Blk.cell (Blk.new w4.drew 9 (dS.map Value.string).toArray) k).trans (by simp[HXW.out])
                     clear hw5))
    all_goals
     go_wp2_with fail;go_meet;exact⟨rfl,hk5⟩
   case rest=>
   obtain⟨rfl,hkk2⟩:=hcut;have HMc:=H_ (HM4.out.below hkk2 hM4);have HBc:=H_ (HB4.out.trans (hkk2.mono (Be hM4)));clear hkk2 hkk HM4 HB4 cw4 hbq;cases bq with
   |true=>
    have HK:=H_ (show cI w0 (k+1)=k from by
     show(if dS[k]?=some w0 then(k:Int)else cI w0 k)=k;rw[HXW.out,cQ (eq_of_beq HBQ.out),AP rfl])
    have c0:wc.cell? ⟨M,0,none⟩=some (.int .i64 (cI w0 k)):=HMc.out.cell 0;have f0:=HMc.out.frozen 0;go_wp2_with fail;go_roundw
    case rel=>exact⟨k+1,by omega,by go_num,H_ (by rw[HK.out];exact HMc.out.set 0 (.int .i64 k)),H_ (HBc.out.setCell (p:=⟨M,0,none⟩) (AB M) (.int .i64 k))⟩
    case measure=>simp[intOf];omega
   |false=>
    have HK:=H_ (show cI w0 (k+1)=cI w0 k from by
     show(if dS[k]?=some w0 then(k:Int)else cI w0 k)=_
     rw[HXW.out,AL (λe=>by
      rw[Option.some.inj e]at HBQ;exact absurd HBQ.out (by simp))])
    go_wp2_with fail;go_roundw
    case rel=>exact⟨k+1,by omega,by go_num,H_ (by rw[HK.out];exact HMc.out),HBc⟩
    case measure=>simp[intOf];omega
  ·obtain rfl:k=16:=by omega
   rw[show((16:Nat):Int)=16 from rfl];go_wp2_with fail;refine(kD _).mono ?_;rintro e w4 ⟨rfl,hw4⟩;have b4:Below wr.heap.size wr w4:=by rw[<-hw4];exact(AC _ _).alloc (AB _) _
   have HM4:=hbl HM b4;have HB4:=H_ (HB.out.trans (b4.mono (Be HM.out.lt)));clear hw4 b4 HM HB;generalize wr.heap.size=gW;obtain⟨wr,rfl⟩:∃wr:World,wr=w4:=⟨_,rfl⟩;obtain⟨HM,rfl⟩:∃h:Hid (Blk wr M 48 (vOf (bc (cI w0 16))).cells),h=HM4:=⟨_,rfl⟩;obtain⟨HB,rfl⟩:∃h:Hid (Below M w3 wr),h=HB4:=⟨_,rfl⟩;have hkr:=jd w0 16;obtain⟨K,hK⟩:=nm_ (cI w0 16);have HX2:=H_ (show∀d,aR d=true->dc d=s.data.toList->K=d.k/\jD d.k wt=(d.nm,d.mt,(eF d).map bM)/\ix d.k d.nm d.mt (eF d)=d/\∀z∈eF d,dD z from λd h1 h2=>hK▸HX.out d h1 h2);rw[hK]at HM hkr;have hcz:(1:Int)<=(c:Int):=by omega
   have hnz:(1:Int)<=(nw:Int):=by omega
   have hnc:(nw:Int)<=(c:Int):=by omega
   have HS3:Strs w3 M (some ⟨bw,ow,none⟩) (wt.length+1) (w0::wt):=by rw[<-hnw2];exact HST3.out
   have hcut:=HS3.cut (c:=c) (by omega);unfold jo at hcut;obtain⟨A4,hA4⟩:∃A4,(if c=1 then some (⟨bw,ow,none⟩:Addr)else some ⟨bw,ow+1,none⟩)=A4:=⟨_,rfl⟩;rw[hA4]at hcut;have HST4:=H_ (hcut.below HB.out);have HWZ:=H_ (show∀x∈wt,x.size<=1000000 from λx hx=>AW (jU HWS.out.2 x hx) (by omega))
   have hwt:wt.length<=1000000:=by
    have h1:=gp s;have h2:=Lib.countB_le ⟨#[32]⟩ (by decide) s.size s (AB _);rw[HWS.out.2]at h1;simp only[AZ]at h1;omega
   have hwM:w.heap.size<=M:=by have:=HL.out;omega
   have hn1:nw-1=wt.length:=by omega
   clear hK HX hcut HS3;go_upto_region 9 with fail;clear hA4 hn1;have c0:wr.cell? ⟨M,0,none⟩=some (.int .i64 K):=HM.out.cell 0;obtain⟨c4,hc4⟩:=nm_ (c-1);rw[hc4];have hcw:wt.length<=c4:=by omega
   clear hc4 hcz hnz hnc;obtain⟨b1,hb1⟩:∃b,decide (K=11/\3<=wt.length)=b:=⟨_,rfl⟩;have HB1:=H_ hb1;clear hb1;go_cut [38,52,55] (λv x y U=>v= .bool b1/\x=undef/\y=undef/\U=wr)
   case first=>
    as_aux_lemma=>
     have hb1:=HB1.out;by_cases k11:K=11
     ·subst k11;have hg:decide ((3:Int)<=(wt.length:Int))=b1:=by rw[<-hb1];exact Cu.2 ⟨λh=>⟨rfl,by omega⟩,λh=>by have:=h.2;omega⟩
      clear hb1;go_wp2_with fail
      all_goals
       go_meet;exact⟨by first|rfl|rw[hg],rfl,rfl,rfl⟩
     ·have e11:(K==11)=false:=AD.2 k11;have hb0:b1=false:=by rw[<-hb1];exact Bg λh=>k11 h.1
      clear hb1;go_wp2_with fail;go_meet;exact⟨by rw[hb0],rfl,rfl,rfl⟩
   case rest=>
   obtain⟨rfl,rfl,rfl,hU⟩:=hcut;obtain rfl:wr=wc:=hU.symm;go_upto_if 38 with fail;go_cut [4] (λv U=>(v= .slice A4 wt.length c4/\wr=U/\¬(K=11/\3<=wt.length))\/(K=11/\S26 (jD K wt) K M w3 v U))
   case first=>
    as_aux_lemma=>
     cases b1 with
     |false=>
      have hno:=of_decide_eq_false HB1.out;go_wp2_with fail;go_meet;exact .inl ⟨rfl,rfl,hno⟩
     |true=>
      obtain⟨rfl,h3⟩:=Cz HB1.out
      obtain⟨y1,n1,n2,wt',rfl⟩:∃y1 n1 n2 wt',wt=y1::n1::n2::wt':=by
       match wt,h3 with
       |a::b::c::l,_=>exact⟨a,b,c,l,rfl⟩
      obtain⟨wt,rfl⟩:∃wt,wt=wt':=⟨_,rfl⟩;clear h3 HB1 HX2;obtain⟨b4,o4,rfl,_⟩:=dA HST4.out;have hb4:b4<M:=(HST4.out.2 (by simp)).elim λ_ h=>by obtain⟨_,h1,h2,_⟩:=h;cases h1;exact h2
      have hb4M:M≠b4:=by omega
      have cn0:wr.cell? ⟨b4,o4,none⟩=some (.string y1):=by
       obtain⟨b,off,s',h1,h2,h3,h4⟩:=HST4.out.at_ (k:=0) (by simp);cases h1;cases h3;exact h4
      have cn1:wr.cell? ⟨b4,o4+1,none⟩=some (.string n1):=by
       obtain⟨b,off,s',h1,h2,h3,h4⟩:=HST4.out.at_ (k:=1) (by simp);cases h1;cases h3;exact h4
      have cn2:wr.cell? ⟨b4,o4+2,none⟩=some (.string n2):=by
       obtain⟨b,off,s',h1,h2,h3,h4⟩:=HST4.out.at_ (k:=2) (by simp);cases h1;cases h3;exact h4
      obtain⟨n4,hn4⟩:=nm_ ((y1::n1::n2::wt).length);rw[hn4]at hcw⊢;have hwt2:wt.length<=1000000:=by simp only[AZ]at hwt;omega
      have hn4':n4=wt.length+3:=by rw[<-hn4];rfl
      have hcut:Strs wr M (if c4=3 then some ⟨b4,o4,none⟩else some ⟨b4,o4+3,none⟩) wt.length wt:=Strs.cutK (k:=3) (pre:=[y1,n1,n2]) (by have:=HST4.out;rw[hn4,hn4',Db]at this;exact this) rfl (by omega);obtain⟨A5,hA5⟩:∃A5,(if c4=3 then some (⟨b4,o4,none⟩:Addr)else some ⟨b4,o4+3,none⟩)=A5:=⟨_,rfl⟩;obtain⟨c5,hc5⟩:=nm_ (c4-3);rw[hA5]at hcut;have HS5:=H_ hcut;have hn5:n4-3=wt.length:=by omega
      have hcc5:wt.length<=c5:=by omega
      have hi1:(3:Int)<=(n4:Int):=by omega
      have hi2:(n4:Int)<=(c4:Int):=by omega
      have hi3:(3:Int)<=(c4:Int):=by omega
      have hx0:(0:Int)<(n4:Int):=by omega
      have hx1:(1:Int)<(n4:Int):=by omega
      have hx2:(2:Int)<(n4:Int):=by omega
      clear hcut hn4 hn4';have m3:wr.cell? ⟨M,3,none⟩=some (.string ⟨#[]⟩):=HM.out.cell 3;have f3:=HM.out.frozen 3;have m4:wr.cell? ⟨M,4,none⟩=some (.string ⟨#[]⟩):=HM.out.cell 4;have f4:=HM.out.frozen 4;have cy0:((wr.setCell ⟨M,3,none⟩ (.string n1)).setCell ⟨M,4,none⟩ (.string n2)).drew.cell? ⟨b4,o4,none⟩=some (.string y1):=(a8 ((((AC M wr).setCell (p:=⟨M,3,none⟩) (AB M) (.string n1)).setCell (p:=⟨M,4,none⟩) (AB M) (.string n2)).drew) hb4 o4).trans cn0;go_upto_region 10 with fail;go_cut [41,52,55] (λv a b U=>v= .string n1/\a=undef/\b=undef/\U=((wr.setCell ⟨M,3,none⟩ (.string n1)).setCell ⟨M,4,none⟩ (.string n2)).drew)
      case first=>
       go_region_with (fail)
       all_goals
        go_wp2_with fail;go_meet;exact⟨rfl,rfl,rfl,rfl⟩
      case rest=>
      obtain⟨rfl,rfl,rfl,rfl⟩:=hcut;have CY:=H_ cy0;clear cy0;have HM6:=H_ ((HM.out.set 3 (.string n1)).set 4 (.string n2)).drew;have HB6:=H_ ((HB.out.setCell (p:=⟨M,3,none⟩) (AB M) (.string n1)).setCell (p:=⟨M,4,none⟩) (AB M) (.string n2)).drew;have HST6:=H_ (HS5.out.below ((((AC M wr).setCell (p:=⟨M,3,none⟩) (AB M) (.string n1)).setCell (p:=⟨M,4,none⟩) (AB M) (.string n2)).drew));generalize((wr.setCell ⟨M,3,none⟩ (.string n1)).setCell ⟨M,4,none⟩ (.string n2)).drew=wx at CY HM6 HB6 HST6⊢;clear HM HB HST4 c0 HS5;have c0:wx.cell? ⟨M,0,none⟩=some (.int .i64 11):=HM6.out.cell 0;have cy1:=CY.out;clear CY;go_upto_region 11 with fail;obtain⟨o5,rfl⟩:∃o5,A5=some ⟨b4,o5,none⟩:=by rw[<-hA5];split<;>exact⟨_,rfl⟩
      obtain⟨i0,hi,hz0,hz1,hz2⟩:=CZ pm;have HI:=H_ (And.intro hi (And.intro hz0 (And.intro hz1 hz2)));have hMx:=HM6.out.lt;have hwt3:=hwt2;clear hi hz0 hz1 hz2 hwt2;refine js (λxs=>{tmps:= #[.string s,undef,.pointer (some ⟨R,0,none⟩),.int .i64 0,xs 9,.pointer (some ⟨M,0,none⟩),.int .i64 16,undef,undef,undef,u10,u11,u12,u13,u14,u15,u16,u17,u18,u19,u20,u21,u22,u23,u24,u25,u26,u27,u28,u29,u30,u31,u32,u33,u34,u35,u36,u37,u38,u39,u40,.string n1,u42,u43,u44,u45,u46,xs 0,xs 1,xs 2,xs 3,xs 4,xs 5,xs 6,xs 7,xs 8,u56,u57,u58,u59,u60,u61,u62,u63,u64,u65,u66,u67,u68,u69,u70,u71,u72,u73,u74,u75,u76,u77,u78,u79,u80,u81,u82,u83,u84,u85,u86,u87,u88,u89,u90,u91,u92,u93,u94,u95,u96,undef,u98,u99,u100,u101,u102,u103,u104,u105,u106,u107,u108,u109,u110,u111,undef,u113,u114,u115,undef,u117,u118,u119,u120,u121,u122,u123,u124,u125,u126,u127,undef,u129,u130,u131,u132,u133,u134,u135,u136,u137,u138,u139,u140,u141,u142,u143,u144,u145,u146,u147,u148,u149,u150,undef,u152,u153,u154,u155,u156,u157,u158,u159,u160,u161,u162,u163,u164,u165,u166,u167,u168,u169,u170],defers:=[]}) (λj=>if j=0 then u47 else if j=1 then u48 else if j=2 then u49 else if j=3 then u50 else if j=4 then u51 else if j=5 then undef else if j=6 then u53 else if j=7 then u54 else if j=8 then undef else if j=9 then .slice (some ⟨b4,o4,none⟩) n4 c4 else undef) (λxs W=>Below wx.heap.size wx W) (F11 wx.heap.size b4 o4 n4 c4 o5 wt.length c5 y1 (wt.map Value.string)) yt (by kernel_rfl) (by kernel_rfl) ?_ rfl (AC _ _).drew ?_ ?_
      ·intro k i hk hd;unfold yt at hd;simp only[Ba,CJ,CE]at hd;obtain⟨rfl,rfl|rfl⟩|⟨rfl,rfl⟩:=hd<;>kernel_rfl
      ·intro i hi xs W hJ hxi hun hd
       obtain rfl|rfl|rfl|rfl|rfl|rfl|rfl|rfl|rfl|rfl:i=0\/i=1\/i=2\/i=3\/i=4\/i=5\/i=6\/i=7\/i=8\/i=9:=by
        have:i<10:=hi;omega
       ·have hb:Below W.heap.size W (W.alloc (.cells #[] 9)):=(AC _ _).alloc (AB _) _;have ho:(W.alloc (.cells #[] 9)).ownsRow wx.heap.size 9 1 (.slice (some ⟨W.heap.size,0,none⟩) 0 0) 0 []:=World.ownsRow_made W #[] 0 hJ.size (AM _) rfl;have HB:=H_ hb;have HO:=H_ ho;clear hb ho;refine AE rfl λK hK=>?_;go_simp;exact hK _ _ ⟨.slice (some ⟨W.heap.size,0,none⟩) 0 0,rfl,hJ.alloc hJ.size _,λ_=>HO.out,λk hk _ h=>F11.aA (by decide) (by decide) HB.out _ k hk h⟩
       ·have e9:xs 9= .slice (some ⟨b4,o4,none⟩) n4 c4:=hun 9 (by kernel_rfl);refine AE rfl λK hK=>?_;go_simp;exact hK _ _ ⟨.slice (some ⟨b4,o4,none⟩) n4 c4,by rw[<-e9];rfl,hJ,rfl,λk hk _ h=>F11.aA (by decide) (by decide) (AC _ _) _ k hk h⟩
       ·have e1:xs 1= .slice (some ⟨b4,o4,none⟩) n4 c4:=hd 1;have hz2:0<n4:=by omega
        refine AE rfl λK hK=>?_;go_simp;refine hK _ _ ⟨.pointer (some ⟨b4,o4,none⟩),?_,hJ,rfl,λk hk _ h=>F11.aA (by decide) (by decide) (AC _ _) _ k hk h⟩;rw[<-e1];rfl
       ·have e2:xs 2= .pointer (some ⟨b4,o4,none⟩):=hd 2;have hc:W.cell? ⟨b4,o4,none⟩=some (.string y1):=(a8 hJ (by omega) o4).trans cy1;refine AE rfl λK hK=>?_;go_simp;exact hK _ _ ⟨.string y1,by rw[<-e2];rfl,hJ,rfl,λk hk _ h=>F11.aA (by decide) (by decide) (AC _ _) _ k hk h⟩
       ·have e3:xs 3= .string y1:=hd 3;have hb:Below W.heap.size W (W.alloc (.cells #[.string y1] 9)):=(AC _ _).alloc (AB _) _;have ho:(W.alloc (.cells #[.string y1] 9)).cell? ⟨W.heap.size,0,none⟩=some (.string y1):=(Blk.new W 9 #[.string y1]).cell 0;have HB:=H_ hb;have HO:=H_ ho;clear hb ho;refine AE rfl λK hK=>?_;go_simp;exact hK _ _ ⟨.slice (some ⟨W.heap.size,0,none⟩) 1 1,by rw[<-e3];rfl,hJ.alloc hJ.size _,λ_=>⟨W.heap.size,rfl,HO.out,by simp⟩,λk hk _ h=>F11.aA (by decide) (by decide) HB.out _ k hk h⟩
       ·have e5:xs 5=undef:=hxi;have h0:W.ownsRow wx.heap.size 9 1 (xs 0) 0 []:=hd 0 (by kernel_rfl) e5;have h4:xs 5=undef->∃g,xs 4= .slice (some ⟨g,0,none⟩) 1 1/\W.cell? ⟨g,0,none⟩=some (.string y1)/\g<W.heap.size:=hd 4;obtain⟨g,e4,hc,_⟩:=h4 e5;refine AE rfl λK hK=>?_
        refine wp_append_own _ (.tmp 47) (.tmp 51) 67 rfl wx.heap.size 9 i0 _ 1 16 Tryz.underlying67 HI.out.1 HI.out.2.1 HI.out.2.2.1 HI.out.2.2.2 rfl (by decide) (xs 0) 0 [] rfl h0 ⟨g,0,none⟩ 1 1 [.string y1] e4 rfl (λj u hu=>by
         rw[bY,By]
         match j,hu with
         |0,hu=>rw[hc];exact hu) (by simp[Value.oneCell']) (by unfold maxLen;omega) (by omega) hJ.size ?_
        intro v' w' hown hgr _;exact hK _ _ ⟨v',rfl,hJ.grown hgr hJ.size (λq hq=>(h0.lt q hq).1),⟨kJ hown,λ_=>hown⟩,λk hk hdk h=>F11.keep5 (kJ hown) k hk (λe=>by subst e;cases hdk) (λe=>by subst e;cases hdk) h⟩
       ·have e9:xs 9= .slice (some ⟨b4,o4,none⟩) n4 c4:=hun 9 (by kernel_rfl);refine AE rfl λK hK=>?_;go_simp;exact hK _ _ ⟨.slice (some ⟨b4,o4,none⟩) n4 c4,by rw[<-e9];rfl,hJ,rfl,λk hk _ h=>F11.aA (by decide) (by decide) (AC _ _) _ k hk h⟩
       ·have e6:xs 6= .slice (some ⟨b4,o4,none⟩) n4 c4:=hd 6;refine AE rfl λK hK=>?_;go_simp;exact hK _ _ ⟨.slice (some ⟨b4,o5,none⟩) wt.length c5,by rw[<-e6];rfl,hJ,rfl,λk hk _ h=>F11.aA (by decide) (by decide) (AC _ _) _ k hk h⟩
       ·have e8:xs 8=undef:=hxi;obtain⟨h5,h5'⟩:xs 5≠undef/\(xs 8=undef->W.ownsRow wx.heap.size 9 1 (xs 5) 1 [.string y1]):=hd 5;have h0:=h5' e8;have e7:xs 7= .slice (some ⟨b4,o5,none⟩) wt.length c5:=hd 7;have hnw:=Strs.news (HST6.out.below (hJ.mono (Be hMx)));refine AE rfl λK hK=>?_;refine wp_append_own _ (.tmp 52) (.tmp 54) 67 rfl wx.heap.size 9 i0 _ 1 16 Tryz.underlying67 HI.out.1 HI.out.2.1 HI.out.2.2.1 HI.out.2.2.2 rfl (by decide) (xs 5) 1 [.string y1] rfl h0 ⟨b4,o5,none⟩ wt.length c5 (wt.map Value.string) e7 (by simp) hnw (by simp[Value.oneCell']) (by unfold maxLen;omega) (by omega) hJ.size ?_;intro v' w' hown hgr _;exact hK _ _ ⟨v',rfl,hJ.grown hgr hJ.size (λq hq=>(h0.lt q hq).1),⟨kJ hown,hown⟩,λk hk hdk h=>F11.keep8 (kJ hown) h5 k hk (λe=>by subst e;cases hdk) h⟩
       ·have h8:xs 8≠undef/\W.ownsRow wx.heap.size 9 1 (xs 8) (1+wt.length) (.string y1::wt.map Value.string):=hd 8;refine AE rfl λK hK=>?_;go_simp;exact hK _ _ ⟨xs 8,rfl,hJ,h8.2,λk hk _ h=>F11.aA (by decide) (by decide) (AC _ _) _ k hk h⟩
      ·intro xs W hJ hall;have h9:W.ownsRow wx.heap.size 9 1 (xs 9) (1+wt.length) (.string y1::wt.map Value.string):=hall 9 (by decide)
       obtain⟨A6,c6,e6,hc6⟩:∃A6 c6,xs 9= .slice A6 (1+wt.length) c6/\1+wt.length<=c6:=by
        obtain⟨A,c,⟨h1,h2⟩|⟨_,h2⟩⟩:=bC h9
        ·exact⟨A,c,h1,h2⟩
        ·omega
       rw[e6]at h9
       have HST7:=H_ (show Strs W W.heap.size A6 (wt.length+1) (y1::wt)from by
        have:=Row.aL h9 (by simp;omega);rw[Db]at this;exact this)
       obtain⟨n6,hn6⟩:=nm_ ((y1::wt).length);have hn6':1+wt.length=n6:=by rw[<-hn6];simp;omega
       rw[show wt.length+1=n6 from by omega]at HST7;dsimp only;rw[e6,hn6'];have HM7:=H_ (HM6.out.below hJ hMx);have HB7:=H_ (HB6.out.trans (hJ.mono (Be hMx)))
       have hwt9:n6<=1000000:=by
        simp only[AZ]at hwt;omega
       clear hall e6 h9 hJ HM6 HB6 HST6 c0 cy1 hn6;have c0:W.cell? ⟨M,0,none⟩=some (.int .i64 11):=HM7.out.cell 0;generalize xs 0=q0;generalize xs 1=q1;generalize xs 2=q2;generalize xs 3=q3;generalize xs 4=q4;generalize xs 5=q5;generalize xs 6=q6;generalize xs 7=q7;generalize xs 8=q8;go_wp2_with fail;go_meet;exact .inr ⟨(by trivial),n1,n2,y1::wt,A6,n6,c6,rfl,by omega,hwt9,HST7.out,HM7.out,HB7.out,by simp[jD]⟩
   case rest=>
   obtain⟨wz,rfl⟩:∃wz:World,wz=wc:=⟨_,rfl⟩
   have c0:wz.cell? ⟨M,0,none⟩=some (.int .i64 K):=by
    rcases hcut with⟨_,rfl,_⟩|⟨_,_,_,_,_,_,_,_,_,_,_,hq,_⟩
    ·exact c0
    ·exact hq.cell 0
   clear HB1 b1;obtain⟨b2,hb2⟩:∃b,decide (K=12/\2<=wt.length)=b:=⟨_,rfl⟩;have HB2:=H_ hb2;have HCUT:=H_ hcut;clear hb2 hcut;go_upto_region 12 with fail;go_cut [63] (λv U=>v= .bool b2/\U=wz)
   case first=>
    as_aux_lemma=>
     have hb2:=HB2.out;by_cases k12:K=12
     ·obtain⟨rfl,rfl,_⟩:u4= .slice A4 wt.length c4/\wr=wz/\¬(K=11/\3<=wt.length):=HCUT.out.elim id (λh=>absurd (h.1.symm.trans k12) (by decide));subst k12;have hg:decide ((2:Int)<=(wt.length:Int))=b2:=by rw[<-hb2];exact Cu.2 ⟨λh=>⟨rfl,by omega⟩,λh=>by have:=h.2;omega⟩
      clear hb2 HCUT;go_wp2_with fail
      all_goals
       go_meet;exact⟨by first|rfl|rw[hg],rfl⟩
     ·have e12:(K==12)=false:=AD.2 k12;have hb0:b2=false:=by rw[<-hb2];exact Bg λh=>k12 h.1
      clear hb2 HCUT;go_wp2_with fail;go_meet;exact⟨by rw[hb0],rfl⟩
   case rest=>
   obtain⟨rfl,hU⟩:=hcut;obtain rfl:wz=wc:=hU.symm;go_upto_if 63 with fail;go_cut [4] (λv U=>(v= .slice A4 wt.length c4/\wr=U/\¬(K=11/\3<=wt.length)/\¬(K=12/\2<=wt.length))\/(K≠13/\S26 (jD K wt) K M w3 v U))
   case first=>
    as_aux_lemma=>
     cases b2 with
     |false=>
      have hno:=of_decide_eq_false HB2.out;have hcut:=HCUT.out;go_wp2_with fail;go_meet;rcases hcut with⟨h1,h2,h3⟩|⟨h1,h2⟩
      ·exact .inl ⟨h1,h2,h3,hno⟩
      ·exact .inr ⟨by rw[h1];decide,h2⟩
     |true=>
      obtain⟨rfl,h3⟩:=Cz HB2.out;obtain⟨rfl,rfl,_⟩:u4= .slice A4 wt.length c4/\wr=wz/\¬((12:Int)=11/\3<=wt.length):=HCUT.out.elim id (λh=>absurd h.1 (by decide))
      obtain⟨n1,n2,wt',rfl⟩:∃n1 n2 wt',wt=n1::n2::wt':=by
       match wt,h3 with
       |a::b::l,_=>exact⟨a,b,l,rfl⟩
      obtain⟨wt,rfl⟩:∃wt,wt=wt':=⟨_,rfl⟩;clear h3 HB2 HX2 HCUT;obtain⟨b4,o4,rfl,_⟩:=dA HST4.out;have hb4:b4<M:=(HST4.out.2 (by simp)).elim λ_ h=>by obtain⟨_,h1,h2,_⟩:=h;cases h1;exact h2
      have hb4M:M≠b4:=by omega
      have cn0:wr.cell? ⟨b4,o4,none⟩=some (.string n1):=by
       obtain⟨b,off,s',h1,h2,h3,h4⟩:=HST4.out.at_ (k:=0) (by simp);cases h1;cases h3;exact h4
      have cn1:wr.cell? ⟨b4,o4+1,none⟩=some (.string n2):=by
       obtain⟨b,off,s',h1,h2,h3,h4⟩:=HST4.out.at_ (k:=1) (by simp);cases h1;cases h3;exact h4
      obtain⟨n4,hn4⟩:=nm_ ((n1::n2::wt).length);rw[hn4]at hcw⊢;have hwt2:wt.length<=1000000:=by simp only[AZ]at hwt;omega
      have hn4':n4=wt.length+2:=by rw[<-hn4];rfl
      have hcut:Strs wr M (if c4=2 then some ⟨b4,o4,none⟩else some ⟨b4,o4+2,none⟩) wt.length wt:=Strs.cutK (k:=2) (pre:=[n1,n2]) (by have:=HST4.out;rw[hn4,hn4',Db]at this;exact this) rfl (by omega);obtain⟨A5,hA5⟩:∃A5,(if c4=2 then some (⟨b4,o4,none⟩:Addr)else some ⟨b4,o4+2,none⟩)=A5:=⟨_,rfl⟩;obtain⟨c5,hc5⟩:=nm_ (c4-2);rw[hA5]at hcut;have HS5:=H_ hcut;have hn5:n4-2=wt.length:=by omega
      have hcc5:wt.length<=c5:=by omega
      have hi1:(2:Int)<=(n4:Int):=by omega
      have hi2:(n4:Int)<=(c4:Int):=by omega
      have hi3:(2:Int)<=(c4:Int):=by omega
      have hx0:(0:Int)<(n4:Int):=by omega
      have hx1:(1:Int)<(n4:Int):=by omega
      clear hcut hn4 hn4';have m3:wr.cell? ⟨M,3,none⟩=some (.string ⟨#[]⟩):=HM.out.cell 3;have f3:=HM.out.frozen 3;have m4:wr.cell? ⟨M,4,none⟩=some (.string ⟨#[]⟩):=HM.out.cell 4;have f4:=HM.out.frozen 4;go_upto_region 13 with fail;go_cut [66] (λv U=>v= .string n1/\U=((wr.setCell ⟨M,3,none⟩ (.string n1)).setCell ⟨M,4,none⟩ (.string n2)).drew)
      case first=>
       go_region_with (fail)
       all_goals
        go_wp2_with fail;go_meet;exact⟨rfl,rfl⟩
      case rest=>
      obtain⟨rfl,rfl⟩:=hcut;have HM6:=H_ ((HM.out.set 3 (.string n1)).set 4 (.string n2)).drew;have HB6:=H_ ((HB.out.setCell (p:=⟨M,3,none⟩) (AB M) (.string n1)).setCell (p:=⟨M,4,none⟩) (AB M) (.string n2)).drew;have HST6:=H_ (HS5.out.below ((((AC M wr).setCell (p:=⟨M,3,none⟩) (AB M) (.string n1)).setCell (p:=⟨M,4,none⟩) (AB M) (.string n2)).drew));generalize((wr.setCell ⟨M,3,none⟩ (.string n1)).setCell ⟨M,4,none⟩ (.string n2)).drew=wx at HM6 HB6 HST6⊢;clear HM HB HST4 c0 HS5;go_wp2_with fail;go_meet;exact .inr ⟨by decide,n1,n2,wt,A5,wt.length,c5,rfl,by omega,by omega,HST6.out.more (Be HM6.out.lt),HM6.out,HB6.out,by simp[jD]⟩
   case rest=>
   obtain⟨wy,rfl⟩:∃wy:World,wy=wc:=⟨_,rfl⟩;clear c0
   have c0:wy.cell? ⟨M,0,none⟩=some (.int .i64 K):=by
    rcases hcut with⟨_,rfl,_⟩|⟨_,_,_,_,_,_,_,_,_,_,_,hq,_⟩
    ·exact HM.out.cell 0
    ·exact hq.cell 0
   clear HB2 b2 HCUT;obtain⟨b3,hb3⟩:∃b,decide (K=13/\1<=wt.length)=b:=⟨_,rfl⟩;have HB3:=H_ hb3;have HCUT:=H_ hcut;clear hb3 hcut;go_upto_region 15 with fail;go_cut [81] (λv U=>v= .bool b3/\U=wy)
   case first=>
    as_aux_lemma=>
     have hb3:=HB3.out;by_cases k13:K=13
     ·obtain⟨rfl,rfl,_⟩:u4= .slice A4 wt.length c4/\wr=wy/\¬(K=11/\3<=wt.length)/\¬(K=12/\2<=wt.length):=HCUT.out.elim id (λh=>absurd k13 h.1);subst k13;have hg:decide ((1:Int)<=(wt.length:Int))=b3:=by rw[<-hb3];exact Cu.2 ⟨λh=>⟨rfl,by omega⟩,λh=>by have:=h.2;omega⟩
      clear hb3 HCUT;go_wp2_with fail
      all_goals
       go_meet;exact⟨by first|rfl|rw[hg],rfl⟩
     ·have e13:(K==13)=false:=AD.2 k13;have hb0:b3=false:=by rw[<-hb3];exact Bg λh=>k13 h.1
      clear hb3 HCUT;go_wp2_with fail;go_meet;exact⟨by rw[hb0],rfl⟩
   case rest=>
   obtain⟨rfl,hU⟩:=hcut;obtain rfl:wy=wc:=hU.symm;go_upto_if 81 with fail;go_cut [4] (λv U=>S26 (jD K wt) K M w3 v U)
   case first=>
    as_aux_lemma=>
     cases b3 with
     |false=>
      have hno:=of_decide_eq_false HB3.out;have hcut:=HCUT.out;go_wp2_with fail;go_meet;rcases hcut with⟨rfl,rfl,h3,h4⟩|⟨h1,h2⟩
      ·exact⟨⟨#[]⟩,⟨#[]⟩,wt,A4,wt.length,c4,rfl,hcw,hwt,HST4.out.more (Be HM.out.lt),HM.out,HB.out,by unfold jD;rw[AL h3,AL h4,AL hno]⟩
      ·exact h2
     |true=>
      obtain⟨rfl,h3⟩:=Cz HB3.out;obtain⟨rfl,rfl,_⟩:u4= .slice A4 wt.length c4/\wr=wy/\¬((13:Int)=11/\3<=wt.length)/\¬((13:Int)=12/\2<=wt.length):=HCUT.out.elim id (λh=>absurd rfl h.1)
      obtain⟨n1,wt',rfl⟩:∃n1 wt',wt=n1::wt':=by
       match wt,h3 with
       |a::l,_=>exact⟨a,l,rfl⟩
      obtain⟨wt,rfl⟩:∃wt,wt=wt':=⟨_,rfl⟩;clear h3 HB3 HX2 HCUT;obtain⟨b4,o4,rfl,_⟩:=dA HST4.out;have hb4:b4<M:=(HST4.out.2 (by simp)).elim λ_ h=>by obtain⟨_,h1,h2,_⟩:=h;cases h1;exact h2
      have hb4M:M≠b4:=by omega
      have cn0:wr.cell? ⟨b4,o4,none⟩=some (.string n1):=by
       obtain⟨b,off,s',h1,h2,h3,h4⟩:=HST4.out.at_ (k:=0) (by simp);cases h1;cases h3;exact h4
      obtain⟨n4,hn4⟩:=nm_ ((n1::wt).length);rw[hn4]at hcw⊢;have hwt2:wt.length<=1000000:=by simp only[AZ]at hwt;omega
      have hn4':n4=wt.length+1:=by rw[<-hn4];rfl
      have hcut:Strs wr M (if c4=1 then some ⟨b4,o4,none⟩else some ⟨b4,o4+1,none⟩) wt.length wt:=Strs.cutK (k:=1) (pre:=[n1]) (by have:=HST4.out;rw[hn4,hn4',Db]at this;exact this) rfl (by omega);obtain⟨A5,hA5⟩:∃A5,(if c4=1 then some (⟨b4,o4,none⟩:Addr)else some ⟨b4,o4+1,none⟩)=A5:=⟨_,rfl⟩;obtain⟨c5,hc5⟩:=nm_ (c4-1);rw[hA5]at hcut;have HS5:=H_ hcut;have hn5:n4-1=wt.length:=by omega
      have hcc5:wt.length<=c5:=by omega
      have hi1:(1:Int)<=(n4:Int):=by omega
      have hi2:(n4:Int)<=(c4:Int):=by omega
      have hi3:(1:Int)<=(c4:Int):=by omega
      have hx0:(0:Int)<(n4:Int):=by omega
      clear hcut hn4 hn4';have m3:wr.cell? ⟨M,3,none⟩=some (.string ⟨#[]⟩):=HM.out.cell 3;have f3:=HM.out.frozen 3;have HM6:=H_ (HM.out.set 3 (.string n1));have HB6:=H_ (HB.out.setCell (p:=⟨M,3,none⟩) (AB M) (.string n1));have HST6:=H_ (HS5.out.below ((AC M wr).setCell (p:=⟨M,3,none⟩) (AB M) (.string n1)));go_wp2_with fail;go_meet;exact⟨n1,⟨#[]⟩,wt,A5,wt.length,c5,rfl,by omega,by omega,HST6.out.more (Be HM6.out.lt),HM6.out,HB6.out,by simp[jD]⟩
   case rest=>
   clear HB3 b3 HCUT c0;obtain⟨nm,mt,ws,A6,n6,c6,rfl,hc6,hn6,hst6,hq6,hb6,hP⟩:=hcut;obtain⟨wx,rfl⟩:∃wx:World,wx=wc:=⟨_,rfl⟩;obtain⟨hnmz,hmtz,hwsz⟩:=ux hP HWZ.out;have HNM:=H_ (And.intro hnmz hmtz);have hwl:ws.length<=1000000:=by have:=hst6.len;omega
   have HREST:=H_ (show∀d,aR d=true->dc d=s.data.toList->K=d.k/\ws=(eF d).map bM/\(∀z∈eF d,dD z)/\ix K nm mt (eF d)=d from λd h1 h2=>by
    obtain⟨g1,g2,g3,g4⟩:=HX2.out d h1 h2;rw[<-g1,<-hP]at g2;rw[<-g1]at g3;simp only[Prod.mk.injEq]at g2;exact⟨g1,g2.2.2,g4,by rw[g2.1,g2.2.1];exact g3⟩)
   have HC:=H_ (qP A6 n6 c6 ws wx hst6 hn6 hwsz);have HM6:=H_ hq6;have HB6:=H_ hb6;clear hP hst6 hq6 hb6 hnmz hmtz hwsz HX2 HM HB HST4;go_wp2_with fail;refine HC.out.mono ?_;rintro e w5 ⟨A7,c7,zs,ok,rfl,hc7,hz,hzI,hzl,hfr,hzx,b5⟩;have hMr:=HM6.out.lt;have HM5:=H_ (HM6.out.below b5 hMr);have HB5:=H_ (HB6.out.trans (b5.mono (Be hMr)));have hs5:=b5.size;have HZ:=H_ hz;have HFR:=H_ (show∀b o,A7=some ⟨b,o,none⟩->M<b from λb o e=>by have:=hfr b o e;omega)
   have HZX:=H_ (show∀d,aR d=true->dc d=s.data.toList->ok=true/\ix K nm mt zs=d from λd h1 h2=>by
    obtain⟨g1,g2,g3,g4⟩:=HREST.out d h1 h2;obtain⟨g5,g6⟩:=hzx (eF d) g3 g2;exact⟨g5,by rw[g6];exact g4⟩)
   clear hz hfr hzx b5 HC HREST HM6 HB6;cases ok with
   |false=>
    have HNO:=H_ (show∀d,aR d=true->dc d=s.data.toList->False from λd h1 h2=>absurd (HZX.out d h1 h2).1 (by decide));have QR5:=H_ (QR3.out.below HB5.out hR2);have B5:=H_ (B3.out.trans (HB5.out.mono hwM));obtain⟨r0,r1,r2,r3,r4,r5,r6⟩:=QR5.out.c7;obtain⟨f0,f1,f2,f3,f4,f5,f6⟩:=QR5.out.f7;go_wp2_with fail
    (try simp only[Exit.inBlock,Exit.then])
    refine AO (ab rfl _ _ R 48 _ _ rfl (Blk.set7 QR5.out) Tryz.underlying48 rfl (by kernel_rfl)) rfl ?_;exact RefPost.no (cJ B5.out (by have:=HL.out;omega) _ _ _ _ _ _ _) HNO.out
   |true=>
    have c0:w5.cell? ⟨M,0,none⟩=some (.int .i64 K):=HM5.out.cell 0;have HZL:=H_ (show zs.length<=1000000 by omega);clear hzl;go_upto_block 2 with fail;go_cut [7] (λ_ U=>E26 K nm mt zs M w3 U)
    case first=>
     as_aux_lemma=>
      have m1:w5.cell? ⟨M,1,none⟩=some (.int .i64 0):=HM5.out.cell 1;have m2:w5.cell? ⟨M,2,none⟩=some (.int .i64 0):=HM5.out.cell 2;have m5:w5.cell? ⟨M,5,none⟩=some (.slice none 0 0):=HM5.out.cell 5;obtain⟨f0,f1,f2,f3,f4,f5,f6⟩:=HM5.out.f7;clear f0 f3 f4 f6;by_cases k12:K=12
      ·subst k12;go_wp2_with fail;go_meet;have hz9:Ints (w5.setCell ⟨M,5,none⟩ (.slice A7 zs.length c7)) w5.heap.size A7 zs.length zs:=Row.other HZ.out HFR.out (λb hb=>AG _ _ _ b hb);exact⟨⟨12,0,0,nm,mt,A7,zs.length,c7,none,0,0⟩,HM5.out.set 5 (.slice A7 zs.length c7),HB5.out.setCell (p:=⟨M,5,none⟩) (AB M) _,⟨rfl,rfl,rfl,rfl,rfl,by simpa[ix]using hz9,Ints.none _ _⟩,HZL.out,AM _,⟨HFR.out,λb o h=>(by cases h)⟩,rfl,rfl⟩
      ·have e12:(K==12)=false:=AD.2 k12;have HK12:=H_ k12;clear k12;by_cases k7:K=7
       ·subst k7;clear m1 m2 m5 f1 f2 f5 e12 HK12;have hMB:M<w5.heap.size:=HM5.out.lt;obtain⟨i0,hi,hz0,hz1,hz2⟩:=CZ yp;have HI:=H_ (And.intro hi (And.intro hz0 (And.intro hz1 hz2)));clear hi hz0 hz1 hz2;go_wp2_with fail;go_loopw [9] (λi wr=>∃(q:Nat) (u:Value),q<=zs.length/\i= .int .i64 q/\Hid (wr.ownsRow w5.heap.size 3 1 u (q-1) (((zs.drop 1).take (q-1)).map (Value.int .i64)))/\Hid (Blk wr M 48 #[.int .i64 7,.int .i64 (if q=0 then 0 else zs.getD 0 0),.int .i64 0,.string nm,.string mt,.slice none 0 0,u])/\Hid (Below M w5 wr)/\Hid (∀b,b<w5.heap.size->b≠M->wr.heap[b]?=w5.heap[b]?)/\w5.heap.size<=wr.heap.size) (λi _=>zs.length-(intOf i).toNat)
        case atStart=>exact⟨0,.slice none 0 0,AM _,rfl,H_ (Cy _ _ _ _),H_ HM5.out,H_ (AC _ _),H_ (λ_ _ _=>rfl),AB _⟩
        case round=>
         obtain⟨q,u,hq,rfl,HO,HQ,HBQ,HH,hsw⟩:=hrel;clear c0;by_cases hlt:q<zs.length
         ·obtain⟨b7,o7,z,rfl,hb7,hz,hcz⟩:=HZ.out.at_ hlt;have hbM:b7≠M:=by have:=HFR.out b7 o7 rfl;omega
          have hbM':M≠b7:=hbM.symm
          have hc:wr.cell? ⟨b7,o7+q,none⟩=some (.int .i64 z):=by
           rw[<-hcz];simp only[World.cell?,HH.out b7 hb7 hbM]
          have hk0:0<=(q:Int):=by omega
          have hk1:(q:Int)<(zs.length:Int):=by omega
          have HZQ:=H_ hz;clear hcz hz;by_cases hq0:q=0
          ·subst hq0;have hc':wr.cell? ⟨b7,o7,none⟩=some (.int .i64 z):=by simpa using hc
           have m1:wr.cell? ⟨M,1,none⟩=some (.int .i64 0):=HQ.out.cell 1;have f1:=HQ.out.frozen 1;have hz0:zs.getD 0 0=z:=by rw[Bo,HZQ.out];rfl
           have HE:=H_ (show(wr.setCell ⟨M,1,none⟩ (.int .i64 z)).ownsRow w5.heap.size 3 1 u (1-1) (((zs.drop 1).take (1-1)).map (Value.int .i64))/\Blk (wr.setCell ⟨M,1,none⟩ (.int .i64 z)) M 48 #[.int .i64 7,.int .i64 (if 1=0 then 0 else zs.getD 0 0),.int .i64 0,.string nm,.string mt,.slice none 0 0,u]/\Below M w5 (wr.setCell ⟨M,1,none⟩ (.int .i64 z))/\(∀b,b<w5.heap.size->b≠M->(wr.setCell ⟨M,1,none⟩ (.int .i64 z)).heap[b]?=w5.heap[b]?)/\w5.heap.size<=(wr.setCell ⟨M,1,none⟩ (.int .i64 z)).heap.size from
            ⟨iS HO.out (λg hg=>AG _ _ _ g (λe=>by have:=(HO.out.lt g hg).1;simp at e;omega)),by rw[hz0];exact HQ.out.set 1 (.int .i64 z),HBQ.out.setCell (p:=⟨M,1,none⟩) (AB M) _,λb hb hbm=>(AG _ _ _ b hbm).trans (HH.out b hb hbm),by simpa using hsw⟩)
           clear hz0;go_wp2_with fail;go_roundw
           case rel=>exact⟨1,u,by omega,by go_num,H_ HE.out.1,H_ HE.out.2.1,H_ HE.out.2.2.1,H_ HE.out.2.2.2.1,HE.out.2.2.2.2⟩
           case measure=>simp[intOf];omega
          ·have hq1:((q:Int)==0)=false:=AD.2 (by omega);have hzb:=HZL.out;go_upto_region 37 with fail;have hO1:=HO.out;have hQ1:=HQ.out;have HQ1:=H_ hQ1;refine dR (λ(xs:Nat->Option Value)=>{tmps:= #[.string s,undef,.pointer (some ⟨R,0,none⟩),.int .i64 0,.slice A6 n6 c6,.pointer (some ⟨M,0,none⟩),.int .i64 16,.slice (some ⟨b7,o7,none⟩) zs.length c7,.bool true,.int .i64 ↑q,u10,u11,u12,u13,u14,u15,u16,u17,u18,u19,u20,u21,u22,u23,u24,u25,u26,u27,u28,u29,u30,u31,u32,u33,u34,u35,u36,u37,u38,u39,u40,u41,u42,u43,u44,u45,u46,u47,u48,u49,u50,u51,u52,u53,u54,u55,u56,u57,u58,u59,u60,u61,u62,u63,u64,u65,u66,u67,u68,u69,u70,u71,u72,u73,u74,u75,u76,u77,u78,u79,u80,u81,u82,u83,u84,u85,u86,u87,.tuple #[.slice (some ⟨b7,o7,none⟩) zs.length c7,.bool true],.slice A6 n6 c6,.tuple #[.slice (some ⟨b7,o7,none⟩) zs.length c7,.bool true],.slice (some ⟨b7,o7,none⟩) zs.length c7,.bool true,.bool true,.bool false,u95,.pointer (some ⟨M,0,none⟩),.int .i64 7,u98,u99,u100,u101,u102,u103,u104,u105,u106,u107,u108,u109,u110,u111,.bool false,.bool false,u114,u115,.bool false,.bool false,u118,u119,u120,u121,u122,u123,u124,u125,u126,u127,.bool true,.bool true,.int .i64 ↑q,.slice (some ⟨b7,o7,none⟩) zs.length c7,.int .i64 ↑zs.length,.bool true,u134,u135,.int .i64 ↑q,.bool false,u138,u139,u140,u141,((xs 0).getD u142),((xs 1).getD u143),((xs 2).getD u144),((xs 3).getD u145),((xs 4).getD u146),((xs 5).getD u147),((xs 6).getD u148),((xs 7).getD u149),((xs 8).getD u150),undef,u152,u153,u154,u155,u156,u157,u158,u159,u160,u161,u162,u163,u164,u165,u166,u167,u168,u169,u170],defers:=[]}) (λ_=>none) (J37 w5.heap.size M (q-1) u (((zs.drop 1).take (q-1)).map (Value.int .i64)) ((#[.int .i64 7,.int .i64 (if q=0 then 0 else zs.getD 0 0),.int .i64 0,.string nm,.string mt,.slice none 0 0,u]:Array Value)) wr) (F37 w5.heap.size M b7 o7 zs.length c7 q (q-1) u z (((zs.drop 1).take (q-1)).map (Value.int .i64)) ((#[.int .i64 7,.int .i64 (if q=0 then 0 else zs.getD 0 0),.int .i64 0,.string nm,.string mt,.slice none 0 0,u]:Array Value)) (λk=>if k=0 then u142 else if k=1 then u143 else if k=2 then u144 else if k=3 then u145 else if k=4 then u146 else if k=5 then u147 else if k=6 then u148 else if k=7 then u149 else if k=8 then u150 else undef)) yr (by kernel_rfl) (by kernel_rfl) ?_ rfl ⟨λ_ _ _=>rfl,hsw,(AC _ _).drew,λ_=>hO1,λ_=>hQ1⟩ ?_ ?_
           ·intro k i hk hd;unfold yr at hd;simp only[Ba,CE]at hd;obtain⟨rfl,rfl⟩:=hd;kernel_rfl
           ·clear hO1 hQ1;intro i hi xs W hJ hxi hun hd;have hMW:M<W.heap.size:=AF hMB hJ.2.1
            obtain rfl|rfl|rfl|rfl|rfl|rfl|rfl|rfl|rfl|rfl:i=0\/i=1\/i=2\/i=3\/i=4\/i=5\/i=6\/i=7\/i=8\/i=9:=by
             have:i<10:=hi;omega
            ·refine AE rfl λK hK=>?_;go_simp;exact hK _ _ ⟨some (.pointer (some ⟨M,6,none⟩)),by first|rfl|simp[au],J37.aA hJ hMB (by decide) (by decide) (AC _ _) _,rfl,λk hk _ h=>F37.aA (by decide) (by decide) hMW (AC _ _) _ k hk h⟩
            ·have e0:(xs 0).getD u142= .pointer (some ⟨M,6,none⟩):=hd 0;have e9:xs 9=none:=hun 9 (by kernel_rfl);have r6:W.cell? ⟨M,6,none⟩=some u:=(hJ.2.2.2.2 e9).cell 6;refine AE rfl λK hK=>?_;go_simp;exact hK _ _ ⟨some (u),by first|rfl|simp[au,e0],J37.aA hJ hMB (by decide) (by decide) (AC _ _) _,rfl,λk hk _ h=>F37.aA (by decide) (by decide) hMW (AC _ _) _ k hk h⟩
            ·refine AE rfl λK hK=>?_;go_simp;exact hK _ _ ⟨some (.slice (some ⟨b7,o7,none⟩) zs.length c7),by first|rfl|simp[au],J37.aA hJ hMB (by decide) (by decide) (AC _ _) _,rfl,λk hk _ h=>F37.aA (by decide) (by decide) hMW (AC _ _) _ k hk h⟩
            ·refine AE rfl λK hK=>?_;go_simp;exact hK _ _ ⟨some (.int .i64 q),by first|rfl|simp[au],J37.aA hJ hMB (by decide) (by decide) (AC _ _) _,rfl,λk hk _ h=>F37.aA (by decide) (by decide) hMW (AC _ _) _ k hk h⟩
            ·have e2:(xs 2).getD u144= .slice (some ⟨b7,o7,none⟩) zs.length c7:=hd 2;have e3:(xs 3).getD u145= .int .i64 q:=hd 3;refine AE rfl λK hK=>?_;go_simp;exact hK _ _ ⟨some (.pointer (some ⟨b7,o7+q,none⟩)),by first|rfl|simp[au,e2,e3],J37.aA hJ hMB (by decide) (by decide) (AC _ _) _,rfl,λk hk _ h=>F37.aA (by decide) (by decide) hMW (AC _ _) _ k hk h⟩
            ·have e4:(xs 4).getD u146= .pointer (some ⟨b7,o7+q,none⟩):=hd 4
             have hcW:W.cell? ⟨b7,o7+q,none⟩=some (.int .i64 z):=by
              rw[<-hc];simp only[World.cell?,hJ.1 b7 hb7 hbM]
             refine AE rfl λK hK=>?_;go_simp;exact hK _ _ ⟨some (.int .i64 z),by first|rfl|simp[au,e4],J37.aA hJ hMB (by decide) (by decide) (AC _ _) _,rfl,λk hk _ h=>F37.aA (by decide) (by decide) hMW (AC _ _) _ k hk h⟩
            ·have e5:(xs 5).getD u147= .int .i64 z:=hd 5;have hb:Below W.heap.size W (W.alloc (.cells #[.int .i64 z] 3)):=(AC _ _).alloc (AB _) _;have ho:(W.alloc (.cells #[.int .i64 z] 3)).cell? ⟨W.heap.size,0,none⟩=some (.int .i64 z):=(Blk.new W 3 #[.int .i64 z]).cell 0;have HB:=H_ hb;have HO:=H_ ho;clear hb ho;refine AE rfl λK hK=>?_;go_simp;exact hK _ _ ⟨some (.slice (some ⟨W.heap.size,0,none⟩) 1 1),by first|rfl|simp[au,e5],J37.aA hJ hMB (by decide) (by decide) HB.out _,λ_=>⟨W.heap.size,rfl,HO.out,by simp⟩,λk hk _ h=>F37.aA (by decide) (by decide) hMW HB.out _ k hk h⟩
            ·have e1:(xs 1).getD u143=u:=hd 1;have e7:xs 7=none:=hxi;have e9:xs 9=none:=hun 9 (by kernel_rfl);have h6:xs 7=none->∃g,(xs 6).getD u148= .slice (some ⟨g,0,none⟩) 1 1/\W.cell? ⟨g,0,none⟩=some (.int .i64 z)/\g<W.heap.size:=hd 6;obtain⟨g,e6,hcg,_⟩:=h6 e7;obtain⟨j1,j2,j3,j4,j5⟩:=hJ;have h0:=j4 e7;refine AE rfl λK hK=>?_
             refine wp_append_own _ (.tmp 143) (.tmp 148) 46 rfl w5.heap.size 3 i0 _ 1 8 Tryz.underlying46 HI.out.1 HI.out.2.1 HI.out.2.2.1 HI.out.2.2.2 rfl (by decide) u (q-1) (((zs.drop 1).take (q-1)).map (Value.int .i64)) e1 h0 ⟨g,0,none⟩ 1 1 [.int .i64 z] e6 rfl (λj v hv=>by
              rw[bY,By]
              match j,hv with
              |0,hv=>rw[hcg];exact hv) (by simp[Value.oneCell']) (by unfold maxLen;omega) (by omega) j2 ?_
             intro v' w' hown hgr _;have hne:∀b,b<w5.heap.size->some b≠u.ownBlock:=λb hb e=>by have:=(h0.lt b e.symm).1;omega
             refine hK _ _ ⟨some v',rfl,⟨λb hb hbm=>(hgr.block b (by omega) (hne b hb)).trans (j1 b hb hbm),AW j2 hgr.size,j3.grown hgr (Be hMW) (λr hr=>by have:=(h0.lt r hr).1;omega),λh=>?_,λh=>(hgr.block M hMW (hne M hMB)).trans (j5 e9)⟩,⟨?_,λ_=>hown⟩,λk hk hdk h=>F37.keep7 k hk (λe=>by subst e;cases hdk) h⟩
             ·rw[bO]at h;cases h
             ·rw[bO];exact λh=>by cases h
            ·refine AE rfl λK hK=>?_;go_simp;exact hK _ _ ⟨some (.pointer (some ⟨M,6,none⟩)),by first|rfl|simp[au],J37.aA hJ hMB (by decide) (by decide) (AC _ _) _,rfl,λk hk _ h=>F37.aA (by decide) (by decide) hMW (AC _ _) _ k hk h⟩
            ·have e8:(xs 8).getD u150= .pointer (some ⟨M,6,none⟩):=hd 8;obtain⟨h7,h7'⟩:xs 7≠none/\(xs 9=none->W.ownsRow w5.heap.size 3 1 ((xs 7).getD u149) (q-1+1) ((((zs.drop 1).take (q-1)).map (Value.int .i64))++[Value.int .i64 z])):=hd 7;have e9:xs 9=none:=hxi;have h0:=h7' e9;obtain⟨j1,j2,j3,j4,j5⟩:=hJ;have hbk:=j5 e9;have r6:W.cell? ⟨M,6,none⟩=some u:=hbk.cell 6;have f6:=hbk.frozen 6;have HJ:=H_ (And.intro j1 (And.intro j2 (And.intro j3 hbk)));have HN:=H_ (And.intro h7 h0)
             obtain⟨A7',c7',e7⟩:∃A7' c7',(xs 7).getD u149= .slice A7' (q-1+1) c7':=by
              obtain⟨A,c,⟨h1,_⟩|⟨h1,h2⟩⟩:=bC h0
              ·exact⟨A,c,h1⟩
              ·omega
             clear j1 j2 j3 j4 j5 hbk h7 h7' h0 e9 hxi;refine AE rfl λK hK=>?_;go_simp;refine hK _ _ ⟨some (.bool true),?_,⟨λb hb hbm=>(AG _ _ _ b hbm).trans (HJ.out.1 b hb hbm),by simpa using HJ.out.2.1,HJ.out.2.2.1.setCell (p:=⟨M,6,none⟩) (AB M) _,λh=>?_,λh=>?_⟩,⟨?_,?_⟩,λk hk _ h=>F37.keep9 HN.out.1 k hk h⟩
             ·simp[au,e8,e7]
             ·exact absurd h HN.out.1
             ·rw[bO]at h;cases h
             ·show Blk _ M 48 (((#[.int .i64 7,.int .i64 (if q=0 then 0 else zs.getD 0 0),.int .i64 0,.string nm,.string mt,.slice none 0 0,u]:Array Value)).setIfInBounds 6 ((xs 7).getD u149));rw[e7];exact HJ.out.2.2.2.set 6 _
             ·exact iS HN.out.2 (λg hg=>AG _ _ _ g (λe=>by have:=(HN.out.2.lt g hg).1;simp at e;omega))
           ·clear hO1 hQ1;intro xs W hJ hall;obtain⟨hbk,hown⟩:Blk W M 48 (((#[.int .i64 7,.int .i64 (if q=0 then 0 else zs.getD 0 0),.int .i64 0,.string nm,.string mt,.slice none 0 0,u]:Array Value)).setIfInBounds 6 ((xs 7).getD u149))/\W.ownsRow w5.heap.size 3 1 ((xs 7).getD u149) (q-1+1) ((((zs.drop 1).take (q-1)).map (Value.int .i64))++[Value.int .i64 z]):=hall 9 (by decide);obtain⟨j1,j2,j3,_,_⟩:=hJ;dsimp only;generalize(xs 0).getD u142=q0;generalize(xs 1).getD u143=q1;generalize(xs 2).getD u144=q2;generalize(xs 3).getD u145=q3;generalize(xs 4).getD u146=q4;generalize(xs 5).getD u147=q5;generalize(xs 6).getD u148=q6;generalize(xs 7).getD u149=q7 at hbk hown⊢;generalize(xs 8).getD u150=q8
            have hL:(((zs.drop 1).take (q-1)).map (Value.int .i64))++[Value.int .i64 z]=((zs.drop 1).take (q+1-1)).map (Value.int .i64):=by
             obtain⟨p,rfl⟩:∃p,q=p+1:=⟨q-1,by omega⟩;rw[Nat.add_sub_cancel,Nat.add_sub_cancel,BT,CS,Db 1 p,HZQ.out];simp
            rw[hL,show q-1+1=q+1-1 from by omega]at hown
            have hbk2:Blk W M 48 #[.int .i64 7,.int .i64 (if q+1=0 then 0 else zs.getD 0 0),.int .i64 0,.string nm,.string mt,.slice none 0 0,q7]:=by
             have h:=hbk;rw[AL hq0]at h;rw[AL (Nat.succ_ne_zero q)];exact h
            have HE:=H_ (And.intro hown (And.intro hbk2 (And.intro (HBQ.out.trans j3) (And.intro (show∀b,b<w5.heap.size->b≠M->W.heap[b]?=w5.heap[b]? from λb hb hbm=>(j1 b hb hbm).trans (HH.out b hb hbm)) j2))));clear hall hbk hown j1 j2 j3 hL hbk2 HO HQ HBQ HH hc;go_wp2_with fail;go_roundw
            case rel=>exact⟨q+1,q7,by omega,by go_num,H_ HE.out.1,H_ HE.out.2.1,H_ HE.out.2.2.1,H_ HE.out.2.2.2.1,HE.out.2.2.2.2⟩
            case measure=>simp[intOf];omega
         ·obtain rfl:q=zs.length:=by omega
          obtain⟨A9,c9,rfl⟩:∃A9 c9,u= .slice A9 (zs.length-1) c9:=by
           obtain⟨A,c,⟨h1,_⟩|⟨h1,h2⟩⟩:=bC HO.out
           ·exact⟨A,c,h1⟩
           ·exact⟨none,0,by rw[h1,h2]⟩
          have HZ9:=H_ (show Ints wr wr.heap.size A9 (zs.length-1) (zs.drop 1)from by
           have h:=HO.out;rw[AK (by simp)]at h;exact Row.aL h (by simp))
          have HAP9:=H_ (show∀b o,A9=some ⟨b,o,none⟩->M<b from λb o e=>by
           have:=(HO.out.lt b (by rw[e];rfl)).1;omega)
          have HMq:=H_ (show Blk wr M 48 #[.int .i64 7,.int .i64 (zs.getD 0 0),.int .i64 0,.string nm,.string mt,.slice none 0 0,.slice A9 (zs.length-1) c9]from by
           have h:=HQ.out
           have e:(if zs.length=0 then 0 else zs.getD 0 0)=zs.getD 0 0:=by
            split
            ·rename_i h0;rw[Bc h0];rfl
            ·rfl
           rw[e]at h;exact h)
          have HBq:=H_ (HB5.out.trans HBQ.out);have hMw5:=HM5.out;clear HO HQ HBQ HH hMw5;go_wp2_with fail;go_meet;exact⟨⟨7,zs.getD 0 0,0,nm,mt,none,0,0,A9,zs.length-1,c9⟩,HMq.out,HBq.out,⟨rfl,rfl,rfl,rfl,rfl,Ints.none _ _,HZ9.out⟩,AM _,AW (Nat.sub_le _ _) HZL.out,⟨λb o h=>(by cases h),HAP9.out⟩,rfl,rfl⟩
       ·have e7:(K==7)=false:=AD.2 k7;have HK7:=H_ k7;clear k7;cases zs with
        |nil=>
         by_cases k11:K=11
         ·subst k11;go_wp2_with fail;go_meet;exact E26.plain HM5.out HB5.out rfl
         ·have e11:(K==11)=false:=AD.2 k11;by_cases k15:K=15
          ·subst k15;go_wp2_with fail;go_meet;exact E26.plain HM5.out HB5.out rfl
          ·have e15:(K==15)=false:=AD.2 k15;have HF:=H_ (show ix K nm mt []=⟨K,0,0,nm,mt,[],[]⟩ by unfold ix;rw[AL HK12.out,AL k11,AL HK7.out,AL k15];rfl);clear k11 k15;go_wp2_with fail;go_meet;exact E26.plain HM5.out HB5.out HF.out
        |cons z1 zr=>
         obtain⟨b7,o7,z1',rfl,hb7,hz1',hc71⟩:=HZ.out.at_ (k:=0) (by simp);simp only[Bt,Option.some.injEq]at hz1';subst hz1';have hc71':w5.cell? ⟨b7,o7,none⟩=some (.int .i64 z1):=by simpa using hc71
         have hb7M:M≠b7:=by have:=HFR.out b7 o7 rfl;omega
         have hzl:=HZL.out;by_cases k11:K=11
         ·subst k11;clear m2 f2 e12 e7 HK12 HK7;obtain⟨n8,hn8⟩:=nm_ ((z1::zr).length);have hn9:n8=zr.length+1:=by rw[<-hn8];rfl
          have hzr:zr.length<=1000000:=by simp only[AZ]at hzl;omega
          rw[hn8]at hc7⊢;obtain⟨o8,hA8⟩:∃o8,(if c7=1 then some (⟨b7,o7,none⟩:Addr)else some ⟨b7,o7+1,none⟩)=some ⟨b7,o8,none⟩:=by split<;>exact⟨_,rfl⟩
          have hz8:Ints w5 w5.heap.size (some ⟨b7,o8,none⟩) zr.length zr:=by
           rw[<-hA8];refine Ints.cutK (k:=1) (pre:=[z1]) ?_ rfl (by omega);rw[Db];exact HZ.out
          have HZ8:=H_ hz8;have HB7M:=H_ (HFR.out b7 o7 rfl);obtain⟨c8,hc8⟩:=nm_ (c7-1);have hn8':n8-1=zr.length:=by omega
          have hj0:(0:Int)<(n8:Int):=by omega
          have hj1:(1:Int)<=(n8:Int):=by omega
          have hj2:(n8:Int)<=(c7:Int):=by omega
          have hj3:(1:Int)<=(c7:Int):=by omega
          clear hz8 hn8 hn9 hzl;go_upto_region 30 with fail;go_region_with (fail)
          all_goals
           go_wp2_with fail;go_meet;have hz9:Ints ((w5.setCell ⟨M,1,none⟩ (.int .i64 z1)).setCell ⟨M,5,none⟩ (.slice (some ⟨b7,o8,none⟩) zr.length c8)).drew w5.heap.size (some ⟨b7,o8,none⟩) zr.length zr:=Row.other (R:=M) HZ8.out (λb o h=>by cases h;exact HB7M.out) (λb hb=>(AG _ _ _ b hb).trans (AG _ _ _ b hb));exact⟨⟨11,z1,0,nm,mt,some ⟨b7,o8,none⟩,zr.length,c8,none,0,0⟩,((HM5.out.set 1 (.int .i64 z1)).set 5 (.slice (some ⟨b7,o8,none⟩) zr.length c8)).drew,((HB5.out.setCell (p:=⟨M,1,none⟩) (AB M) (.int .i64 z1)).setCell (p:=⟨M,5,none⟩) (AB M) (.slice (some ⟨b7,o8,none⟩) zr.length c8)).drew,⟨rfl,rfl,rfl,rfl,rfl,by simpa[ix]using hz9,Ints.none _ _⟩,hzr,AM _,⟨λb o h=>(by cases h;exact HB7M.out),λb o h=>(by cases h)⟩,rfl,rfl⟩
         ·have e11:(K==11)=false:=AD.2 k11;by_cases k15:K=15
          ·subst k15;go_wp2_with fail;go_meet;exact E26.plain (HM5.out.set 2 (.int .i64 z1)) (HB5.out.setCell (p:=⟨M,2,none⟩) (AB M) (.int .i64 z1)) rfl
          ·have e15:(K==15)=false:=AD.2 k15;have HF:=H_ (show ix K nm mt (z1::zr)=⟨K,z1,zr.getD 0 0,nm,mt,[],[]⟩ by unfold ix;rw[AL HK12.out,AL k11,AL HK7.out,AL k15];rfl);clear k11 k15;cases zr with
           |nil=>
            go_wp2_with fail;go_meet;exact E26.plain (HM5.out.set 1 (.int .i64 z1)) (HB5.out.setCell (p:=⟨M,1,none⟩) (AB M) (.int .i64 z1)) HF.out
           |cons z2 zr=>
            obtain⟨b7',o7',z2',hA7,hb7',hz2',hc72⟩:=HZ.out.at_ (k:=1) (by simp);simp only[Option.some.injEq,Addr.mk.injEq,Bn]at hA7;obtain⟨rfl,rfl⟩:=hA7;simp only[CG,Bt,Option.some.injEq]at hz2';subst hz2';go_wp2_with fail;go_meet;exact E26.plain ((HM5.out.set 1 (.int .i64 z1)).set 2 (.int .i64 z2)) ((HB5.out.setCell (p:=⟨M,1,none⟩) (AB M) (.int .i64 z1)).setCell (p:=⟨M,2,none⟩) (AB M) (.int .i64 z2)) HF.out
    case rest=>
    obtain⟨vF,qf,bf,rf,hvn,hvn2,hap,hvnm,hvmt⟩:=hcut;obtain⟨wF,rfl⟩:∃wF:World,wF=wc:=⟨_,rfl⟩;obtain⟨aF,haF⟩:=nm_ (ix K nm mt zs);rw[haF]at rf;have HDD:=H_ (show∀d,aR d=true->dc d=s.data.toList->aF=d from λd h1 h2=>by rw[<-haF];exact(HZX.out d h1 h2).2);have HNZ:=H_ (show vF.nm.size<=1000000/\vF.mt.size<=1000000 by rw[hvnm,hvmt];exact HNM.out);clear haF hvnm hvmt c0;have QF:=H_ qf;have RF:=H_ rf;have BF:=H_ (B3.out.trans (bf.mono hwM));have QRF:=H_ (QR3.out.below bf hR2);have hMF:=qf.lt;have HAP:=H_ hap;have H9:=H_ (pP vF aF wF rf hvn hvn2 HNZ.out.1 HNZ.out.2);clear qf bf rf hap HM5 HB5 HZ;obtain⟨c0,c1,c2,c3,c4,c5,c6⟩:=QF.out.v7;go_wp2_with fail;refine H9.out.mono ?_;rintro e w8 ⟨rfl,b8⟩;have QF8:=H_ (QF.out.below b8 hMF);have QR8:=hbl QRF b8;have B8:=htr BF b8;have RF8:=H_ ((RF.out.below b8).more b8.size);have hM8:=QF8.out.lt;clear b8 H9 c0 c1 c2 c3 c4 c5 c6 QF QRF BF RF;cases hv:aR aF with
    |false=>
     have HNO:=H_ (show∀d,aR d=true->dc d=s.data.toList->False from λd h1 h2=>by
      have:=HDD.out d h1 h2;rw[this,h1]at hv;cases hv)
     clear hv;obtain⟨r0,r1,r2,r3,r4,r5,r6⟩:=QR8.out.c7;obtain⟨f0,f1,f2,f3,f4,f5,f6⟩:=QR8.out.f7;go_wp2_with fail
     (try simp only[Exit.inBlock,Exit.then])
     refine AO (ab rfl _ _ R 48 _ _ rfl (Blk.set7 QR8.out) Tryz.underlying48 rfl (by kernel_rfl)) rfl ?_;exact RefPost.no (cJ B8.out (by have:=HL.out;omega) _ _ _ _ _ _ _) HNO.out
    |true=>
     obtain⟨hwf,hz1,hz2,hz3,hz4⟩:=kS hv;have H7:=H_ (Au vF aF w8 RF8.out (by rw[<-RF8.out.args.len];omega) (by rw[<-RF8.out.surv.len];omega) (by rw[RF8.out.nm];omega) (by rw[RF8.out.mt];omega) hwf);obtain⟨S,hS⟩:∃S:ByteArray,⟨(dc aF).toArray⟩=S:=⟨_,rfl⟩;rw[hS]at H7;have HS:=H_ hS;have HV:=H_ hv;clear hwf hz1 hz2 hz3 hz4 hS hv;obtain⟨c0,c1,c2,c3,c4,c5,c6⟩:=QF8.out.v7;go_wp2_with fail;refine H7.out.mono ?_;rintro e w9 ⟨rfl,b9⟩;have QF9:=H_ (QF8.out.below b9 hM8);have QR9:=hbl QR8 b9;have B9:=htr B8 b9;have RF9:=H_ ((RF8.out.below b9).more b9.size);clear b9 H7 c0 c1 c2 c3 c4 c5 c6 QF8 QR8 B8 RF8;by_cases hSs:S=s
     ·have hss:(S.toList==s.toList)=true:=by rw[hSs];exact Ch _
      have HOK:=H_ (show dc aF=s.data.toList from by rw[<-hSs,<-HS.out]);clear hSs;obtain⟨r0,r1,r2,r3,r4,r5,r6⟩:=QR9.out.c7;obtain⟨f0,f1,f2,f3,f4,f5,f6⟩:=QR9.out.f7;obtain⟨c0,c1,c2,c3,c4,c5,c6⟩:=QF9.out.v7;go_wp2_with fail
      (try simp only[Exit.inBlock,Exit.then])
      refine AO (ab rfl _ _ R 48 _ _ rfl (Blk.set7 QR9.out) Tryz.underlying48 rfl (by kernel_rfl)) rfl ?_;exact RefPost.yes RF9.out HAP.out (by omega) hwM hvn hvn2 (cJ B9.out (by have:=HL.out;omega) _ _ _ _ _ _ _) HV.out HOK.out
     ·have hss:(S.toList==s.toList)=false:=AD.2 λe=>hSs (cQ e)
      have HNO:=H_ (show∀d,aR d=true->dc d=s.data.toList->False from λd h1 h2=>by
       have h3:=HDD.out d h1 h2;refine hSs ?_;rw[<-HS.out,h3];exact AN (by simpa using h2))
      clear hSs;obtain⟨r0,r1,r2,r3,r4,r5,r6⟩:=QR9.out.c7;obtain⟨f0,f1,f2,f3,f4,f5,f6⟩:=QR9.out.f7;go_wp2_with fail
      (try simp only[Exit.inBlock,Exit.then])
      refine AO (ab rfl _ _ R 48 _ _ rfl (Blk.set7 QR9.out) Tryz.underlying48 rfl (by kernel_rfl)) rfl ?_;exact RefPost.no (cJ B9.out (by have:=HL.out;omega) _ _ _ _ _ _ _) HNO.out
end
end Go.Proofs.YtjpbckbpeblibaaGreatDoor
