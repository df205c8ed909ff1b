/- part of a proof -/
import Derived.Test.YtjpbckbpeblibaaGreatDoorK19
namespace Go.Proofs.YtjpbckbpeblibaaGreatDoor
set_option linter.unusedVariables false
set_option linter.unusedSimpArgs false
set_option maxRecDepth 100000
set_option maxHeartbeats 64000000
section
open Go.RowKit
variable{B:Nat}{G:Nat->Prop}{d:Ad}{w w':World}{x:Sc}
theorem cE{s:ByteArray}{lo hi:Int}(h:aR s lo hi=true):s.data.toList.length<=31:=by
 have hz:s.size=s.data.toList.length:=rfl;unfold aR at h;split at h
 ·exact absurd h (by simp)
 ·simp only[Fx,FI]at h;omega
theorem gp(r:Nat)(e:Ex):(tIn r e).length<=(tE e).length+2:=by
 rw[mK];split<;>simp
theorem kW(l:List Ex)(h:∀a∈l,(tE a).length+10<=60*esz a):(bD l).length<=60*lsz esz l:=by
 have h2:∀l:List Ex,(∀a∈l,(tE a).length+10<=60*esz a)->(l.flatMap λb=>44::32::tE b).length<=60*lsz esz l:=by
  intro l;induction l with
  |nil=>intro _;simp
  |cons a l ih=>
   intro h;have h1:=ih λx hx=>h x (FL _ hx);have h0:=h a List.mem_cons_self;rw[aW,FS,EY,EZ,EZ];omega
 cases l with
 |nil=>simp[bD]
 |cons a l=>
  have h1:=h2 l λx hx=>h x (FL _ hx);have h0:=h a List.mem_cons_self;rw[aW,bD,EY];omega
theorem BZ:∀(n:Nat) (e:Ex),esz e<=n->vE e=true->(tE e).length+10<=60*esz e:=by
 intro n;induction n with
 |zero=>intro e hn;have:=bJ e;omega
 |succ n ih=>
  intro e hn hv;rcases db hv with⟨z,rfl,h0,h1⟩|rfl|rfl|⟨s,rfl,hs⟩|⟨s,a,rfl,hs,hva⟩|⟨s,l,rfl,hs,hl⟩|⟨s,l,a,rfl,hs,hl,hva⟩|⟨k,a,hk,rfl,hva⟩|⟨o,a,b,ho,rfl,hva,hvb⟩
  ·rw[sg,pT];have:=bM (n:=z) (by unfold I64;omega);omega
  ·rw[sc,iR];simp
  ·rw[pi,iR];simp
  ·rw[pj,iR];have:=cE hs;omega
  ·have h:=cU 4 0 0 s false [a];rw[show aU s a= .mk 4 0 0 s false [a]from rfl]at hn;rw[h,aW,cX]at hn;rw[mM,show aU s a= .mk 4 0 0 s false [a]from rfl,h,aW,cX,EY,EZ];have h1:=cE hs;have h2:=gp 8 a;have h3:=ih a (by omega) hva;omega
  ·have h:=cU 5 0 0 s false l;rw[h]at hn;rw[se,h];have h1:=cE hs
   have h2:=kW l λa ha=>by
    obtain⟨k,hk⟩:=FY ha;exact ih a (by have:=bq esz hk;omega) (co hl a ha)
   simp only[iw,EY,EZ,F1];omega
  ·have h:=cU 5 0 0 s true (l++[a]);rw[kq]at h;rw[h]at hn;rw[mL,h];have h1:=cE hs
   have h2:=kW l λa ha=>by
    obtain⟨k,hk⟩:=FY ha;exact ih a (by have:=bq esz hk;omega) (co hl a ha)
   have h3:=ih a (by omega) hva;have h4:=gp 7 a;simp only[iw,sAt,EY,EZ,F1];omega
  ·rw[tr]at hn⊢;have h3:=ih a (by omega) hva;have h4:=gp 7 a;have h5:=gp 3 a;rcases hk with rfl|rfl|rfl|rfl
   ·rw[ph];simp only[EY,EZ,F1];omega
   ·rw[sh];simp only[EY,EZ,F1];omega
   ·rw[sf];simp only[EY,EZ,F1];omega
   ·rw[s9];simp only[EY,EZ,F1];omega
  ·have h:=cU 10 (o:Int) 0 ⟨#[]⟩ false [a,b];rw[aW,aW,cX]at h;rw[show cA o a b= .mk 10 (o:Int) 0 ⟨#[]⟩ false [a,b]from rfl,h]at hn;rw[pl,show cA o a b= .mk 10 (o:Int) 0 ⟨#[]⟩ false [a,b]from rfl,h];have h1:=ih a (by omega) hva;have h2:=ih b (by omega) hvb;have h3:=gp (if av (o:Int)=4 then 5 else av o) a;have h4:=gp (av (o:Int)+1) b
   have h5:(bc o).data.toList.length<=3:=by
    have ho':o=0\/o=1\/o=2\/o=3\/o=4\/o=5\/o=6\/o=7\/o=8\/o=9\/o=10\/o=11\/o=12:=by omega
    rcases ho' with rfl|rfl|rfl|rfl|rfl|rfl|rfl|rfl|rfl|rfl|rfl|rfl|rfl<;>simp[bc,kj]
   simp only[EY,EZ,F1];omega
theorem tEl{e:Ex}(h:vE e=true):(tE e).length+10<=60*esz e:=BZ _ e (F0 _) h
theorem tZ(d:Nat)(l:List St)(h:∀a∈l,(tS a d).length<=9000*ssz a):(tSs l d).length<=9000*lsz ssz l:=by
 induction l with
 |nil=>simp[iX]
 |cons a l ih=>
  have h1:=ih λx hx=>h x (FL _ hx);have h0:=h a List.mem_cons_self;rw[iD,aW,EY];omega
theorem BX:∀(n:Nat) (s:St) (d:Nat),ssz s<=n->d+ssz s<=1000->vS s=true->(tS s d).length<=9000*ssz s:=by
 intro n;induction n with
 |zero=>intro s d hn;have:=ma s;omega
 |succ n ih=>
  intro s d hn hd hv
  have hb:∀b:List St,vSs b=true->1+lsz ssz b<=ssz s->(tSs b (d+1)).length<=9000*lsz ssz b:=λb hvb hle=>
   tZ (d+1) b λa ha=>by
    obtain⟨k,hk⟩:=FY ha;have:=bq ssz hk;exact ih a (d+1) (by omega) (by omega) (dq hvb a ha)
  rcases fP hv with⟨nm,x,rfl,hs,hx⟩|⟨nm,x,rfl,hs,hx⟩|⟨nm,x,y,rfl,hs,hx,hy⟩|⟨x,b,f,rfl,hx,hvb,hvf⟩|⟨x,b,rfl,hx,hvb⟩|⟨nm,x,l,rfl,hs,hx,hl⟩|⟨x,rfl,hx⟩|⟨x,y,rfl,hx,hy⟩|⟨nm,x,y,rfl,hs,hx,hy⟩|rfl
  ·have h:=dC 0 nm [x] [] [];simp only[aW,cX]at h;rw[show stE 0 nm [x]= .mk 0 nm [x] [] []from rfl,h]at hd⊢;rw[<-show stE 0 nm [x]= .mk 0 nm [x] [] []from rfl,rY,bu];have h1:=cE hs;have h2:=tEl hx;simp only[ct,sEq,EY,EZ,F1];omega
  ·have h:=dC 1 nm [x] [] [];simp only[aW,cX]at h;rw[show stE 1 nm [x]= .mk 1 nm [x] [] []from rfl,h]at hd⊢;rw[<-show stE 1 nm [x]= .mk 1 nm [x] [] []from rfl,kU,bu];have h1:=cE hs;have h2:=tEl hx;simp only[ct,sEq,EY,EZ,F1];omega
  ·have h:=dC 2 nm [x,y] [] [];simp only[aW,cX]at h;rw[show stE 2 nm [x,y]= .mk 2 nm [x,y] [] []from rfl,h]at hd⊢;rw[<-show stE 2 nm [x,y]= .mk 2 nm [x,y] [] []from rfl,mG,bu];have h1:=cE hs;have h2:=tEl hx;have h3:=tEl hy;have h4:=gp 9 x;simp only[ct,sEq,EY,EZ,F1];omega
  ·have h:=dC 3 ⟨#[]⟩ [x] b f;simp only[aW,cX]at h;have h1:=hb b hvb (by omega);have h2:=hb f hvf (by omega);rw[h]at hd⊢;have h3:=tEl hx;rw[wZ,EY,EY,EY,bu,bu];split
   ·simp only[sIf,sBr,EY,EZ,F1];omega
   ·have he:(tLn d gu++tSs f (d+1)).length=(2*d+gu.length+1)+(tSs f (d+1)).length:=by rw[EY,bu]
    rw[he];simp only[sIf,sBr,gu,EY,EZ,F1];omega
  ·have h:=dC 4 ⟨#[]⟩ [x] b [];simp only[aW,cX]at h;have h1:=hb b hvb (by omega);rw[h]at hd⊢;have h3:=tEl hx;rw[mE,EY,EY,bu,bu];simp only[jF,sBr,EY,EZ,F1];omega
  ·have h:=dC 5 nm (x::l) [] [];simp only[aW,cX]at h;rw[show stE 5 nm (x::l)= .mk 5 nm (x::l) [] []from rfl,h]at hd⊢;rw[<-show stE 5 nm (x::l)= .mk 5 nm (x::l) [] []from rfl,pb,bu];have h1:=cE hs;have h2:=tEl hx;have h3:=gp 8 x;have h4:=kW l λa ha=>tEl (co hl a ha);simp only[aZ,EY,EZ,F1];omega
  ·have h:=dC 6 ⟨#[]⟩ [x] [] [];simp only[aW,cX]at h;rw[show stE 6 ⟨#[]⟩ [x]= .mk 6 ⟨#[]⟩ [x] [] []from rfl,h]at hd⊢;rw[<-show stE 6 ⟨#[]⟩ [x]= .mk 6 ⟨#[]⟩ [x] [] []from rfl,mH,bu];have h2:=tEl hx;simp only[az,EY,EZ,F1];omega
  ·have h:=dC 7 ⟨#[]⟩ [x,y] [] [];simp only[aW,cX]at h;rw[show stE 7 ⟨#[]⟩ [x,y]= .mk 7 ⟨#[]⟩ [x,y] [] []from rfl,h]at hd⊢;rw[<-show stE 7 ⟨#[]⟩ [x,y]= .mk 7 ⟨#[]⟩ [x,y] [] []from rfl,pe,bu];have h2:=tEl hx;have h3:=tEl hy;simp only[bp,sTo,EY,EZ,F1];omega
  ·have h:=dC 8 nm [x,y] [] [];simp only[aW,cX]at h;rw[show stE 8 nm [x,y]= .mk 8 nm [x,y] [] []from rfl,h]at hd⊢;rw[<-show stE 8 nm [x,y]= .mk 8 nm [x,y] [] []from rfl,mF,bu];have h1:=cE hs;have h2:=tEl hx;have h3:=tEl hy;simp only[ay,sBy,EY,EZ,F1];omega
  ·have h:=dC 9 ⟨#[]⟩ [] [] [];simp only[cX]at h;rw[show stE 9 ⟨#[]⟩ []= .mk 9 ⟨#[]⟩ [] [] []from rfl,h]at hd⊢;rw[<-show stE 9 ⟨#[]⟩ []= .mk 9 ⟨#[]⟩ [] [] []from rfl,kT,bu];simp only[am,EY,EZ,F1];omega
theorem rZ(l:List ByteArray)(h:vNm l=true):(aY l).length<=40*l.length:=by
 have h0:∀a∈l,a.data.toList.length<=31:=λa ha=>cE (Fu.mp h a ha)
 have h2:∀l:List ByteArray,(∀a∈l,a.data.toList.length<=31)->(l.flatMap λb=>44::32::b.data.toList).length<=40*l.length:=by
  intro l;induction l with
  |nil=>intro _;simp
  |cons a l ih=>
   intro h;have h1:=ih λx hx=>h x (FL _ hx);have h0:=h a List.mem_cons_self;rw[FS,EY,EZ,EZ,EZ];omega
 cases l with
 |nil=>simp[aY]
 |cons a l=>
  have h1:=h2 l λx hx=>h0 x (FL _ hx);have h3:=h0 a List.mem_cons_self;rw[aY,EY,EZ];omega
theorem Ae{m:Me}(hv:vMe m=true)(hm:msz m<=900):(tMe m).length<=9000*msz m:=by
 obtain⟨h1,hv⟩:=Fw.1 hv;obtain⟨h2,h3⟩:=Fw.1 hv;have e1:=cE h1;have e2:=rZ _ h2;unfold msz at hm⊢
 have e3:=tZ 2 m.body λa ha=>by
  obtain⟨k,hk⟩:=FY ha;have:=bq ssz hk;exact BX _ a 2 (F0 _) (by omega) (dq h3 a ha)
 unfold tMe;rw[EY,EY,bu,bu];simp only[sOn,EY,EZ,F1];omega
theorem kB{α:Type}(f:α->List UInt8)(sz:α->Nat):∀l:List α,(∀a∈l,(f a).length<=9000*sz a)->(l.flatMap f).length<=9000*lsz sz l
 |[],_=>by simp
 |a::l,h=>by
  have h1:=kB f sz l λx hx=>h x (FL _ hx);have h0:=h a List.mem_cons_self;rw[FS,EY,aW];omega
theorem Af{c:Cl}(hv:vCl c=true)(hm:csz c<=900):(tCl c).length<=9000*csz c:=by
 obtain⟨h1,hv⟩:=Fw.1 hv;obtain⟨h2,hv⟩:=Fw.1 hv;obtain⟨_,h3⟩:=Fw.1 hv;have e1:=cE h1;unfold csz at hm⊢
 have e2:=kB tFd bO c.fields λa ha=>by
  have:=cE (Fu.mp h2 a ha);unfold tFd bO;rw[bu];simp only[kc,EY,EZ,F1];omega
 rw[uo]at e2
 have e3:=kB tMe msz c.methods λa ha=>by
  obtain⟨k,hk⟩:=FY ha;have:=bq msz hk;exact Ae (Fu.mp h3 a ha) (by omega)
 unfold tCl;rw[EY,EY,EY,bu,bu];have hw:(if c.actor=true then jG else ia).length<=7:=by split<;>simp[jG,ia]
 simp only[sBr,EY,EZ,F1];omega
theorem pg{l:List Cl}(hv:vPr l=true)(hm:lsz csz l<=900):(tPr l).length<=9000*lsz csz l:=
 kB tCl csz l λa ha=>by
  obtain⟨k,hk⟩:=FY ha;have:=bq csz hk;exact Af (Fu.mp hv a ha) (by omega)
theorem At.e7{b off k:Nat}{v0 v1 v2 v3 v4 v5 v6:Value}(h:At w b (off+7*k) [v0,v1,v2,v3,v4,v5,v6]):w.cell? ⟨b,off+k*7,none⟩=some v0/\w.cell? ⟨b,off+k*7+1,none⟩=some v1/\w.cell? ⟨b,off+k*7+2,none⟩=some v2/\
 w.cell? ⟨b,off+k*7+3,none⟩=some v3/\w.cell? ⟨b,off+k*7+4,none⟩=some v4/\w.cell? ⟨b,off+k*7+5,none⟩=some v5/\w.cell? ⟨b,off+k*7+6,none⟩=some v6:=by
 rw[FG]at h;exact⟨h 0 _ rfl,h 1 _ rfl,h 2 _ rfl,h 3 _ rfl,h 4 _ rfl,h 5 _ rfl,h 6 _ rfl⟩
theorem uz{zs:List Int}{A:Option Addr}{n:Nat}(h:Sl lX w G zs A n)(hG:∀b,G b->b<w.heap.size):Ints w w.heap.size A n zs:=by
 refine⟨by simpa using h.1,λh0=>?_⟩;obtain⟨b,off,h1,h2,h3⟩:=h.2.2 h0;refine⟨b,off,h1,hG b h2,λj v hv=>?_⟩;rw[FN]at hv;obtain⟨z,hz,rfl⟩:=FQ.1 hv;obtain⟨cs,h4,h5⟩:=h3 j z hz;have h6:cs=[.int .i64 z]:=h4;subst h6;have:=h5 0 _ rfl;rwa[show lX.sz=1 from rfl,FV]at this
theorem kx{cs:List Value}(h:kAd.rd w G d cs)(hG:∀b,G b->b<w.heap.size):∃v:Av,cs=v.cells.toList/\Reads w w.heap.size v d/\v.n<=1152921504606846976/\v.n2<=1152921504606846976/\v.n=d.args.length/\v.n2=d.surv.length:=by
 obtain⟨A,n,c,A2,n2,c2,rfl,hs1,hs2⟩:=h;exact⟨⟨d.k,d.a,d.b,d.nm,d.mt,A,n,c,A2,n2,c2⟩,rfl,⟨rfl,rfl,rfl,rfl,rfl,uz hs1 hG,uz hs2 hG⟩,hs1.2.1,hs2.2.1,hs1.1.symm,hs2.1.symm⟩
def nS(x:Sc):Bool:=decide (1<=x.m/\x.m<=8/\0<=x.y/\x.y<=1099511627776)
def fO(x:Sc):Bool:=x.ac.all aS&&(nS x&&vPr x.cs)
theorem VSc.of(h:fO x=true)(h0:0<=x.sd)(h1:x.sd<=18446744073709551615):VSc x:=by
 obtain⟨ha,h⟩:=Fw.1 h;obtain⟨hc,hp⟩:=Fw.1 h;obtain⟨c1,c2,c3,c4⟩:=FP hc;have hv:=λd hd=>Fu.1 ha d hd;exact⟨c1,c2,h0,h1,c3,c4,hp,hv,λd hd=>(gJ (hv d hd)).1⟩
theorem zX(x:Sc)(A:Option Addr)(n c:Nat)(A2:Option Addr)(n2 c2:Nat)(w:World)(G:Nat->Prop)(hs:Sl eM w G x.cs A n)(hs2:Sl kAd w G x.ac A2 n2)(hG:∀b,G b->b<w.heap.size)(hg:Gl w)(hf:GlF w):
 Calls Tryz.prog 30 #[.agg #[.int .i64 x.m,.int .u64 x.sd,.int .i64 x.y,.slice A n c,.slice A2 n2 c2]] w λr w'=>r= .returned (.bool (fO x))/\Below w.heap.size w w':=by
 have hbig:=hg.big;obtain⟨g,hz⟩:=nm_ (w.heap.size);obtain⟨W0,hW0⟩:=nm_ (w.alloc (.cells #[.int .i64 x.m,.int .u64 x.sd,.int .i64 x.y,.slice A n c,.slice A2 n2 c2] 31));have HQ:=hng hW0 hz;have HB0:=hba hW0;have hs0:W0.heap.size=g+1:=by rw[<-hW0,Fc,hz]
 have HBZ:Hid (Below g w W0):=H_ (hz▸HB0.out);have HGl:=H_ (hg.below HB0.out);have HF:=H_ (hf.below HB0.out hbig);have HS:=H_ (hs.aA (G':=G) (w':=W0) (λb hb=>⟨hb,HB0.out.block b (hG b hb)⟩));have HS2:=H_ (hs2.aA (G':=G) (w':=W0) (λb hb=>⟨hb,HB0.out.block b (hG b hb)⟩));have HG:=H_ (show∀b,G b->b<W0.heap.size from λb hb=>by have:=hG b hb;omega);have hnb:n2<=1152921504606846976:=hs2.2.1;have hln:x.ac.length=n2:=hs2.1;have HW:=H_ hW0;have hvs:fO x=(x.ac.all aS&&(nS x&&vPr x.cs)):=rfl;have HVS:=H_ hvs;obtain⟨m,hm⟩:=nm_ (x.m);obtain⟨sd,hsd⟩:∃m,x.sd=m:=⟨_,rfl⟩;obtain⟨y,hy⟩:∃m,x.y=m:=⟨_,rfl⟩;have hcf:nS x=decide (1<=m/\m<=8/\0<=y/\y<=1099511627776):=by unfold nS;rw[hm,hy]
 rw[hm,hsd,hy]at HQ HW⊢;have HC1:Hid (∀W,Calls Tryz.prog 61 #[.agg #[.int .i64 m,.int .u64 sd,.int .i64 y]] W λe w'=>e= .returned (.bool (nS x))/\Below W.heap.size W w'):=H_ λW=>by rw[hcf];exact iV m sd y W
 have HC2:Hid (∀W,Below W0.heap.size W0 W->Calls Tryz.prog 62 #[.agg #[.slice A n c]] W λr w'=>r= .returned (.bool (vPr x.cs))/\Below W.heap.size W w'):=H_ λW hW=>
  tU x.cs A n c W G (HS.out.aA λb hb=>⟨hb,hW.block b (HG.out b hb)⟩) (λb hb=>by have:=HG.out b hb;have:=hW.size;omega) (HGl.out.below hW) (HF.out.below hW (by omega))
 generalize nS x=vc at*
 generalize vPr x.cs=vp at*
 generalize fO x=vb at*
 obtain⟨q0,q1,q2,q3,q4⟩:=HQ.out.c5;clear hs hs2 hG hW0 HB0 hg hf hcf hvs hm hsd hy;go_enter Tryz.func30,Tryz.ntmps30;rw[hz];go_upto_region 1 with fail;rw[HW.out];go_wp2_with fail;go_loopw [10] (λi wr=>∃k:Nat,k<=n2/\i= .int .i64 k/\Hid (Below W0.heap.size W0 wr)/\Hid ((x.ac.take k).all aS=true)) (λi _=>n2-(intOf i).toNat)
 case atStart=>exact⟨0,Fl _,rfl,H_ (Fb _ _),H_ rfl⟩
 case round=>
  obtain⟨k,hk,rfl,HB,HV⟩:=hrel;have hsr:=HB.out.size;obtain⟨q0,q1,q2,q3,q4⟩:=(HQ.out.below HB.out (by omega)).c5;by_cases hkm:k<n2
  ·have hkz:(k:Int)<(n2:Int):=by omega
   have hS2:=HS2.out.aA (G':=G) (w':=wr) (λb hb'=>⟨hb',HB.out.block b (HG.out b hb')⟩);obtain⟨b,off,d,cs,rfl,hgb,hx,hrd,hat⟩:=hS2.at_ hkm;obtain⟨v,rfl,hrv,hvn,hvn2,-,-⟩:=kx hrd (λq hq=>by have:=HG.out q hq;omega);have HX:=H_ hx;obtain⟨d0,d1,d2,d3,d4,d5,d6⟩:=At.e7 hat
   obtain⟨p,hp⟩:=nm_ (wr.heap.size);obtain⟨w3,hw3⟩:=nm_ (wr.alloc (.cells v.cells 48));have HA:=hng hw3 hp;have hs3:w3.heap.size=p+1:=by rw[<-hw3,Fc,hp]
   have HB3:=H_ (HB.out.trans ((bal hw3).mono (by omega)));have HC:=H_ (nE v d w3 ((hrv.below (bal hw3)).more (by omega)) (HGl.out.below HB3.out) hvn hvn2);obtain⟨x0,x1,x2,x3,x4,x5,x6⟩:=HA.out.v7;have HW3:=H_ hw3;clear hx hat hS2 hrd hrv hgb hw3 HB;unfold Av.cells at*
   go_upto_region 4 with fail;rw[HW3.out];go_wp2_with fail;refine HC.out.mono ?_;rintro r w4 ⟨fk,fw,fA,fn,fc,rfl,b4,_⟩;have HB4:=htr HB3 b4;have hs4:=HB4.out.size;have hok:=eW d;obtain⟨bd,hbd⟩:=nm_ (okD d);have HVD:=H_ (show aS d=bd by rw[<-hbd,eW]);rw[hbd];obtain⟨w5,hw5⟩:=nm_ (w4.alloc (.cells #[.int .i64 fk,.string fw,.slice fA fn fc] 92));have HB5:=H_ (HB4.out.trans ((bal hw5).mono (by omega)));have HW5:=H_ hw5;clear b4 HC HB4 hok hbd hw5;go_upto_region 5 with fail;rw[HW5.out];cases bd with
   |false=>
    have HE:=H_ (HBZ.out.trans (HB5.out.mono (by omega)));go_wp2_with fail;go_ret;exact⟨ab (by rw[HVS.out,br HX.out HVD.out,Bool.false_and]),HE.out⟩
   |true=>
    go_wp2_with fail;go_roundw
    case rel=>exact⟨k+1,by omega,by go_num,HB5,H_ (by rw[bH HX.out,HV.out,HVD.out];rfl)⟩
    case measure=>simp[intOf];omega
  ·obtain rfl:k=n2:=by omega
   rw[Fd (by omega)]at HV;have HA:Hid (vb=(vc&&vp)):=H_ (by rw[HVS.out,HV.out,GO]);clear HV HVS
   go_wp2_with (first
    |(go_at_call 61;refine(HC1.out _).mono ?_;rintro r w3 ⟨rfl,b3⟩;have HB:=htr HB b3;clear b3;have hsz:=HB.out.size;obtain⟨q0,q1,q2,q3,q4⟩:=(HQ.out.below HB.out (by omega)).c5)
    |(go_at_call 62;refine(HC2.out _ HB.out).mono ?_;rintro r w3 ⟨rfl,b3⟩;have HB:=htr HB b3;clear b3;have hsz:=HB.out.size;obtain⟨q0,q1,q2,q3,q4⟩:=(HQ.out.below HB.out (by omega)).c5))
   all_goals
    go_ret;refine⟨ab ?_,HBZ.out.trans (HB.out.mono (by omega))⟩;rw[HA.out];simp[*]
def ce:List UInt8:=[109,97,99,104,105,110,101,115,32]
def cI:List UInt8:=[115,101,101,100,32]
def cr:List UInt8:=[121,111,117,110,103,32]
def fj:List UInt8:=[10,112,114,111,103,114,97,109,10]
def lT:List UInt8:=[101,110,100,10]
def fE(x:Sc):List UInt8:=ce++Lib.itoa x.m++[10]++(cI++Lib.decDigits x.sd.toNat++[10])++(cr++Lib.itoa x.y++fj)++(tPr x.cs++lT)
def tAc(l:List Ad):List UInt8:=l.flatMap λd=>et d++[10]
theorem rg(n:Nat):Lib.itoa (n:Int)=Lib.decDigits n:=by unfold Lib.itoa;rw[Fg (by omega)];rfl
theorem x9(h:VSc x):ru x=fE x++tAc x.ac:=by
 obtain⟨M,hM⟩:=Fz (show 0<=x.m by have:=h.m1;omega);obtain⟨Y,hY⟩:=Fz h.y0
 have h1:∀l:List Ad,glu (l.map dP)=tAc l:=by
  intro l;induction l with
  |nil=>rfl
  |cons a l ih=>
   rw[Ga];show glu ([dP a]++l.map dP)=_;rw[mo,ih];show(ba (et a)).data.toList++[10]++[]++tAc l=(et a++[10])++tAc l;rw[FJ];rfl
 unfold ru yT fE;rw[h1,rH,hM,hY,rg,rg];unfold fV;rw[hM,hY];simp only[Gu];show(((ba ((iv 0).data.toList++32::Lib.decDigits M)).data.toList++[10])++(((ba ((iv 1).data.toList++32::Lib.decDigits x.sd.toNat)).data.toList++[10])++(((ba ((iv 2).data.toList++32::Lib.decDigits Y)).data.toList++[10])++((mY.data.toList++[10])++[]))))++(tPr x.cs++((gW.data.toList++[10])++[]))++tAc x.ac=_;simp[ce,cI,cr,fj,lT,iv,mY,gW,ba]
theorem mO:∀ws:List (List UInt8),(∀x∈ws,x.length<=31)->(aq ws).length<=32*ws.length
 |[],_=>by simp[aq]
 |a::l,h=>by
  have h1:=mO l λx hx=>h x (FL _ hx);have h0:=h a List.mem_cons_self;unfold aq at h1⊢;rw[FS,EY,EZ,EZ];omega
theorem yX(hw:WfA d)(h1:d.nm.size<=31)(h2:d.mt.size<=31):(jp d).length<=3/\∀x∈jp d,x.length<=31:=by
 have ha:=bM hw.a;have hb:=bM hw.b;have h1':d.nm.data.toList.length<=31:=h1;have h2':d.mt.data.toList.length<=31:=h2;unfold jp;split
 all_goals
  refine⟨by simp,λx hx=>?_⟩;simp only[Fp,Fm,FX]at hx;rcases hx with rfl|rfl|rfl<;>omega
theorem nH(hv:aS d=true):(et d).length<=2000:=by
 obtain⟨hw,h1,h2,h3,h4⟩:=gJ hv;obtain⟨f1,f2⟩:=yX hw h1 h2
 have hwd:(ek d.k.toNat).length<=10:=by
  unfold ek;rw[FH];cases hq:jw[d.k.toNat]? with
  |none=>simp
  |some s=>exact ol hq
 have ht:∀x∈ir d,x.length<=31:=λx hx=>by
  unfold ir ip at hx;rcases Gf.1 hx with hx|hx
  ·rcases Gf.1 hx with hx|hx
   ·exact f2 x hx
   ·obtain⟨z,hz,rfl⟩:=FU.1 hx;have:=bM (hw.args z hz);omega
  ·obtain⟨z,hz,rfl⟩:=FU.1 hx;have:=bM (hw.surv z hz);omega
 have hl:=mO _ ht;have hn:(ir d).length=(jp d).length+d.args.length+d.surv.length:=by unfold ir ip;simp;omega
 unfold et;rw[Ft hv,EY];omega
theorem pm:∀l:List Ad,(∀d∈l,aS d=true)->(tAc l).length<=2001*l.length
 |[],_=>by simp[tAc]
 |a::l,h=>by
  have h1:=pm l λx hx=>h x (FL _ hx);have h0:=nH (h a List.mem_cons_self);unfold tAc at h1⊢;rw[FS];simp only[EY,EZ,F1];omega
theorem qy{l:List Ad}{k:Nat}(h:l[k]?=some d):tAc (l.take (k+1))=tAc (l.take k)++(et d++[10]):=by
 rw[Gh,h];simp[tAc]
theorem nN{u:Nat}(h:u<=18446744073709551615):(Lib.decDigits u).length<=21:=by
 have h1:∀(k u:Nat),u<10^(k+1)->(Lib.decDigits u).length<=k+1:=by
  intro k;induction k with
  |zero=>intro u hu;rw[cq (by omega)];simp
  |succ k ih=>
   intro u hu;by_cases h10:u<10
   ·rw[cq h10];simp
   ·rw[eK (by omega),EY,GT];have:=ih (u/10) (by rw[Nat.div_lt_iff_lt_mul (by omega)];rw[Nat.pow_succ]at hu;exact hu);omega
 exact h1 20 u (by omega)
theorem oq(h:VSc x)(hz:lsz csz x.cs<=900):(fE x).length<=9000000:=by
 have h1:=pg h.cs hz;have h2:=bM (n:=x.m) (by have:=h.m1;have:=h.m8;unfold I64;omega);have h3:=bM (n:=x.y) (by have:=h.y0;have:=h.y1;unfold I64;omega);have h4:=nN (u:=x.sd.toNat) (by have:=h.s0;have:=h.s1;omega);unfold fE;simp only[ce,cI,cr,fj,lT,EY,EZ,F1];omega
structure BW(w:World)(B p:Nat)(s:List UInt8):Prop where
 ex:∃sa sv,Blk w p 58 #[sa,sv]/\(sa= .pointer none\/sa= .pointer (some ⟨p,0,none⟩))/\w.ownsRow B 5 1 sv s.length (Lib.byteCells s)
 lt:p<B
 le:B<=w.heap.size
theorem CN:tM 58 2 0:=⟨by kernel_rfl,by decide⟩
theorem BW.below{p:Nat}{s:List UInt8}(h:BW w B p s)(hb:Below w.heap.size w w'):BW w' B p s:=by
 obtain⟨sa,sv,h1,h2,h3⟩:=h.ex;exact⟨⟨sa,sv,h1.below hb h1.lt,h2,eG h3 λk _ hk _=>hb.block k hk⟩,h.lt,FA h.le hb.size⟩
theorem BW.write{p:Nat}{s:List UInt8}(h:BW w B p s)(x:ByteArray)(hlen:s.length+x.size<=1000000000):
 Calls Tryz.prog 31 #[.pointer (some ⟨p,0,none⟩),.string x] w λe w'=>e= .returned (.tuple #[.int .i64 x.size,.nilIface])/\Lk B p w w'/\BW w' B p (s++x.data.toList):=by
 obtain⟨sa,sv,h1,h2,h3⟩:=h.ex;have e0:(#[sa,sv]:Array Value)[0]?=some sa:=rfl;have e1:(#[sa,sv]:Array Value)[0+1]?=some sv:=rfl;have hl:tM 58 (#[sa,sv]:Array Value).size 0:=CN;refine(Dx (o:=0) (Lib.byteCells s) x w hl h1 e0 e1 h2 h3 h.lt h.le hlen).mono ?_;rintro e w' ⟨rfl,l1,sv',q1,o1⟩;refine⟨rfl,l1,⟨⟨_,sv',q1,.inr rfl,?_⟩,h.lt,FA h.le l1.size⟩⟩;have e1:(s++x.data.toList).length=s.length+x.size:=EY;have e2:Lib.byteCells (s++x.data.toList)=Lib.byteCells s++Lib.strCells x:=by simp[Lib.byteCells,Lib.strCells]
 rw[e1,e2];exact o1
theorem BW.wr{p:Nat}{s:List UInt8}(h:BW w B p s)(X:List UInt8)(hlen:s.length+X.length<=1000000000):
 Hid (Calls Tryz.prog 31 #[.pointer (some ⟨p,0,none⟩),.string (ba X)] w λe w'=>e= .returned (.tuple #[.int .i64 X.length,.nilIface])/\Lk B p w w'/\BW w' B p (s++X)):=by
 have hz:(ba X).size=X.length:=by simp[ba,ByteArray.size]
 have h1:=h.write (ba X) (by omega);rw[hz]at h1;exact H_ h1
theorem BW.str{p:Nat}{s:List UInt8}(h:BW w B p s)(hne:s≠[])(hlen:s.length<=1000000000):
 Calls Tryz.prog 35 #[.pointer (some ⟨p,0,none⟩)] w λe w'=>e= .returned (.string (ba s))/\Lk B p w w':=by
 obtain⟨sa,sv,h1,h2,h3⟩:=h.ex;have e1:(#[sa,sv]:Array Value)[0+1]?=some sv:=rfl;exact xi (o:=0) s w h1 e1 h3 (λe=>absurd e hne) h.lt hlen
def fmT(x:Sc):List UInt8:=if fO x=true then fE x++tAc x.ac else[]
theorem BE(n:Int)(w:World)(hn:I64 n)(hg:Gl w):Hid (Calls Tryz.prog 32 #[.int .i64 n] w λe w'=>e= .returned (.string (ba (Lib.itoa n)))/\Below w.heap.size w w'):=H_ (pK n w hn hg)
theorem Ec(u:Nat)(w:World)(hn:U64 u)(hg:Gl w):Hid (Calls Tryz.prog 33 #[.int .u64 u,.int .i64 10] w λe w'=>e= .returned (.string (ba (Lib.decDigits u)))/\Below w.heap.size w w'):=H_ (ro u hn w hg)
theorem x8(x:Sc)(l:List UInt8):fE x++l≠[]:=by unfold fE ce;simp
theorem yS(x:Sc)(A:Option Addr)(n c:Nat)(A2:Option Addr)(n2 c2:Nat)(w:World)(N:Nat)(hs:Sl eM w (λb=>b<N) x.cs A n)(hs2:Sl kAd w (λb=>b<N) x.ac A2 n2)(hN:N<=w.heap.size)(hg:Gl w)(hf:GlF w)(hcap:Cap w N)
 (h0:0<=x.sd) (h1:x.sd<=18446744073709551615) (hz:fO x=true->lsz csz x.cs<=900/\x.ac.length<=1000):
 Calls Tryz.prog 13 #[.agg #[.int .i64 x.m,.int .u64 x.sd,.int .i64 x.y,.slice A n c,.slice A2 n2 c2]] w λe w'=>e= .returned (.string (ba (fmT x)))/\Below w.heap.size w w':=by
 have hbig:=hg.big;obtain⟨g,hgz⟩:=nm_ (w.heap.size);obtain⟨W1,hW1⟩:=nm_ (w.alloc (.cells #[.int .i64 x.m,.int .u64 x.sd,.int .i64 x.y,.slice A n c,.slice A2 n2 c2] 31));have HT:=hng hW1 hgz;have HB1:=hba hW1;have hs1:W1.heap.size=g+1:=by rw[<-hW1,Fc,hgz]
 have HGl:=H_ (hg.below HB1.out);have HF:=H_ (hf.below HB1.out hbig);have HS1:Hid (Sl eM W1 (λb=>b<N) x.cs A n):=H_ (hs.aA λb hb=>⟨hb,HB1.out.block b (by omega)⟩);have HS2:Hid (Sl kAd W1 (λb=>b<N) x.ac A2 n2):=H_ (hs2.aA λb hb=>⟨hb,HB1.out.block b (by omega)⟩);have HCP:Hid (Cap W1 N):=H_ (hcap.aA λb hb=>HB1.out.block b (by omega));have HV:=H_ (zX x A n c A2 n2 c2 W1 _ HS1.out HS2.out (λb hb=>by omega) HGl.out HF.out);have hln:x.ac.length=n2:=hs2.1;have hnb:n2<=1152921504606846976:=hs2.2.1;have HW:=H_ hW1;obtain⟨vb,hvb⟩:=nm_ (fO x);have hft:fmT x=if vb=true then fE x++tAc x.ac else[]:=by rw[<-hvb];rfl
 have HFT:=H_ hft;have HVB:=H_ hvb;have HZ:=H_ hz;rw[hvb]at HV;have HSD:=H_ (And.intro h0 h1);obtain⟨u,hu⟩:=Fz h0;have HU:=H_ hu;obtain⟨m,hm⟩:=nm_ (x.m);obtain⟨y,hy⟩:∃m,x.y=m:=⟨_,rfl⟩;have HM:=H_ (And.intro hm hy);rw[hm,hy,hu]at HT HW HV⊢;obtain⟨q0,q1,q2,q3,q4⟩:=HT.out.c5;clear hs hs2 hg hf hcap h0 h1 hz hvb hft hW1 hm hy hu;go_enter Tryz.func13,Tryz.ntmps13;rw[hgz];go_upto_region 1 with fail;rw[HW.out];go_wp2_with fail;refine HV.out.mono ?_;rintro r w2 ⟨rfl,b2⟩;have hs2:=b2.size;have HB2:=H_ (HB1.out.trans (b2.mono (by omega)));have HT2:=hbl HT b2;have HS1':Hid (Sl eM w2 (λb=>b<N) x.cs A n):=H_ (HS1.out.aA λb hb=>⟨hb,b2.block b (by omega)⟩);have HS2':Hid (Sl kAd w2 (λb=>b<N) x.ac A2 n2):=H_ (HS2.out.aA λb hb=>⟨hb,b2.block b (by omega)⟩);have HCP2:Hid (Cap w2 N):=H_ (HCP.out.aA λb hb=>b2.block b (by omega));have HGl2:=H_ (HGl.out.below b2);have HF2:=H_ (HF.out.below b2 (by omega));clear b2 HV q0 q1 q2 q3 q4 HB1 HS1 HS2 HCP HGl HF;cases vb with
 |false=>
  rw[Fg (by decide)]at HFT;go_wp2_with fail;go_ret;exact⟨by rw[HFT.out];rfl,hgz▸HB2.out⟩
 |true=>
  rw[Ft rfl]at HFT;have hv:=VSc.of HVB.out HSD.out.1 HSD.out.2;obtain⟨hcz,hacl⟩:=HZ.out HVB.out;have hth:=oq hv hcz;have hta:=pm x.ac hv.ac;have htp:=pg hv.cs hcz
  have hle1:(ce++Lib.itoa m++[10]).length<=60:=by
   have:=bM (n:=m) (by have:=hv.m1;have:=hv.m8;have:=HM.out.1;unfold I64;omega);simp[ce];omega
  have hle2:(cI++Lib.decDigits u++[10]).length<=60:=by
   have:=nN (u:=u) (by have:=HSD.out.2;have:=HU.out;omega);simp[cI];omega
  have hle3:(cr++Lib.itoa y++fj).length<=60:=by
   have:=bM (n:=y) (by have:=hv.y0;have:=hv.y1;have:=HM.out.2;unfold I64;omega);simp[cr,fj];omega
  have hI1:I64 m:=by have:=hv.m1;have:=hv.m8;have:=HM.out.1;unfold I64;omega
  have hI2:I64 y:=by have:=hv.y0;have:=hv.y1;have:=HM.out.2;unfold I64;omega
  have hU:U64 u:=by have:=HSD.out.2;have:=HU.out;unfold U64;omega
  have hTH:fE x=ce++Lib.itoa m++[10]++(cI++Lib.decDigits u++[10])++(cr++Lib.itoa y++fj)++(tPr x.cs++lT):=by unfold fE;rw[HM.out.1,HM.out.2,HU.out];rfl
  have HTH:=H_ hTH;have HVS:=H_ hv;obtain⟨p,hp⟩:=nm_ (w2.heap.size);obtain⟨W3,hW3⟩:=nm_ (w2.alloc (.cells #[.pointer none,.slice none 0 0] 58));have HP3:=hng hW3 hp;have HB3:=hba hW3;have hs3:W3.heap.size=p+1:=by rw[<-hW3,Fc,hp]
  have HPW:Hid (BW W3 (p+1) p []):=H_ ⟨⟨_,_,HP3.out,.inl rfl,GA _ _ _ _⟩,by omega,by omega⟩;have HT3:=H_ (HT2.out.al hW3);have HS3:Hid (Sl eM W3 (GB (p+1) p N) x.cs A n):=H_ (HS1'.out.aA λb hb=>⟨⟨by omega,by omega,hb⟩,HB3.out.block b (by omega)⟩);have HA3:Hid (Sl kAd W3 (GB (p+1) p N) x.ac A2 n2):=H_ (HS2'.out.aA λb hb=>⟨⟨by omega,by omega,hb⟩,HB3.out.block b (by omega)⟩);have HG3:Hid (GP W3 p N):=H_ ⟨GlB.below (hp▸HGl2.out) (hp▸HB3.out),HF2.out.below HB3.out (by omega),by omega,HCP2.out.aA λb hb=>HB3.out.block b (by omega)⟩;have HW3:=H_ hW3;have hgp:g≠p:=by omega
  obtain⟨q0,q1,q2,q3,q4⟩:=HT3.out.c5;have C1:=BE m W3 hI1 HG3.out.g.gl;have a1:=aw ⟨#[109,97,99,104,105,110,101,115,32]⟩ (ba (Lib.itoa m)) ce (Lib.itoa m) rfl rfl (by simp only[EY]at hle1;omega);have a2:=aw (ba (ce++Lib.itoa m)) ⟨#[10]⟩ (ce++Lib.itoa m) [10] rfl rfl (by rw[<-EY];omega);clear hW3 hTH hv HP3;go_upto_region 4 with fail;rw[HW3.out];go_wp2_with fail;refine C1.out.mono ?_;rintro r w4 ⟨rfl,b4⟩;have HL4:Hid (Lk (p+1) p W3 w4):=H_ (Lk.al b4);have CW:=(HPW.out.below b4).wr (ce++Lib.itoa m++[10]) (by simp only[F1];omega);clear b4 C1;go_wp2_with fail;refine CW.out.mono ?_;rintro r w5 ⟨rfl,l5,p5⟩;have HL5:=H_ (HL4.out.trans l5);have HP5:=H_ p5;have hs5:=HL5.out.size;obtain⟨q0,q1,q2,q3,q4⟩:=(HT3.out.lk HL5.out hgp).c5;have C2:=Ec u w5 hU (HG3.out.lk HL5.out (by omega)).g.gl;have a1:=aw ⟨#[115,101,101,100,32]⟩ (ba (Lib.decDigits u)) cI (Lib.decDigits u) rfl rfl (by simp only[EY]at hle2;omega);have a2:=aw (ba (cI++Lib.decDigits u)) ⟨#[10]⟩ (cI++Lib.decDigits u) [10] rfl rfl (by rw[<-EY];omega);clear l5 p5 CW HL4;go_wp2_with fail;refine C2.out.mono ?_;rintro r w6 ⟨rfl,b6⟩;have HL6:=H_ (HL5.out.trans (Lk.al b6));have CW:=(HP5.out.below b6).wr (cI++Lib.decDigits u++[10]) (by rw[Fs];omega);clear b6 C2;go_wp2_with fail;refine CW.out.mono ?_;rintro r w7 ⟨rfl,l7,p7⟩;have HL7:=H_ (HL6.out.trans l7);have HP7:=H_ p7;have hs7:=HL7.out.size;obtain⟨q0,q1,q2,q3,q4⟩:=(HT3.out.lk HL7.out hgp).c5;have C3:=BE y w7 hI2 (HG3.out.lk HL7.out (by omega)).g.gl;have a1:=aw ⟨#[121,111,117,110,103,32]⟩ (ba (Lib.itoa y)) cr (Lib.itoa y) rfl rfl (by simp only[EY]at hle3;omega);have a2:=aw (ba (cr++Lib.itoa y)) ⟨#[10,112,114,111,103,114,97,109,10]⟩ (cr++Lib.itoa y) fj rfl rfl (by rw[<-EY];omega);clear l7 p7 CW HL6 HL5 HP5;go_wp2_with fail;refine C3.out.mono ?_;rintro r w8 ⟨rfl,b8⟩;have HL8:=H_ (HL7.out.trans (Lk.al b8));have CW:=(HP7.out.below b8).wr (cr++Lib.itoa y++fj) (by rw[Fs,EY];omega);clear b8 C3;go_wp2_with fail;refine CW.out.mono ?_;rintro r w9 ⟨rfl,l9,p9⟩;have HL9:=H_ (HL8.out.trans l9);have HP9:=H_ p9;have hs9:=HL9.out.size;obtain⟨q0,q1,q2,q3,q4⟩:=(HT3.out.lk HL9.out hgp).c5;have hG9:=HG3.out.lk HL9.out (by omega)
  have C4:Hid (Calls Tryz.prog 34 #[.agg #[.slice A n c]] w9 λe w'=>e= .returned (.string (ba (tPr x.cs)))/\Below w9.heap.size w9 w'):=by
   have h1:=Cr x.cs A n c w9 N ((HS3.out.lk HL9.out (by omega)).aA λb hb=>⟨hb.2.2,rfl⟩) (by omega) hG9.g.gl hG9.f hG9.cap (λcl hc=>by
    obtain⟨k,hk⟩:=FY hc;have:=bq csz hk;omega) (λ_=>by rw[dp];omega)
   unfold pgT at h1;rw[Ft HVS.out.cs]at h1;exact H_ h1
  have a1:=aw (ba (tPr x.cs)) ⟨#[101,110,100,10]⟩ (tPr x.cs) lT rfl rfl (by simp[lT];omega);obtain⟨P,hP⟩:=nm_ (tPr x.cs);rw[hP]at C4 a1 htp HTH;clear l9 p9 CW HL8 HL7 HP7 a2 hG9 hP;go_wp2_with fail;refine C4.out.mono ?_;rintro r w10 ⟨rfl,b10⟩;have HL10:=H_ (HL9.out.trans (Lk.al b10))
  have CW:=(HP9.out.below b10).wr (P++lT) (by
   have he:(P++lT).length=P.length+4:=by simp[lT]
   rw[Fs,EY,EY];omega)
  rw[Fs]at CW;have HTHs:=HTH;rw[<-HTH.out]at CW;clear b10 C4;go_wp2_with fail;refine CW.out.mono ?_;rintro r w11 ⟨rfl,l11,p11⟩;have HL11:=H_ (HL10.out.trans l11);have HP11:=H_ p11;have hs11:=HL11.out.size;obtain⟨q0,q1,q2,q3,q4⟩:=(HT3.out.lk HL11.out hgp).c5;clear l11 p11 CW HL10 HL9 HP9 a1 HTHs HTH;go_wp2_with fail;clear q0 q1 q2 q3 q4;go_loopw [38] (λi wr=>∃k:Nat,k<=n2/\i= .int .i64 k/\Hid (Lk (p+1) p W3 wr)/\Hid (BW wr (p+1) p (fE x++tAc (x.ac.take k)))) (λi _=>n2-(intOf i).toNat)
  case atStart=>exact⟨0,Fl _,rfl,HL11,H_ (by simpa[tAc]using HP11.out)⟩
  case round=>
   clear HL11 HP11;obtain⟨k,hk,rfl,HL,HP⟩:=hrel;have hsr:=HL.out.size;by_cases hkm:k<n2
   ·have hkz:(k:Int)<(n2:Int):=by omega
    obtain⟨b,off,d,cs,rfl,hgb,ha,hrd,hat⟩:=(HA3.out.lk HL.out (by omega)).at_ hkm;obtain⟨v,rfl,hrv,-,-,hvn,hvn2⟩:=kx hrd (λq hq=>by have:=hq.1;omega);have hvd:=HVS.out.ac d (Fi ha);obtain⟨hwf,w1,w2',w3',w4'⟩:=gJ hvd;have hfl:=nH hvd;have htk:=qy ha;have hmono:(tAc (x.ac.take k)).length<=(tAc x.ac).length:=dN _ _ _;have HTK:=H_ htk;obtain⟨d0,d1,d2,d3,d4,d5,d6⟩:=At.e7 hat
    obtain⟨r,hr⟩:=nm_ (wr.heap.size);obtain⟨w3,hw3⟩:=nm_ (wr.alloc (.cells v.cells 48));have HA:=hng hw3 hr;have hs3':w3.heap.size=r+1:=by rw[<-hw3,Fc,hr]
    have HL3:=H_ (HL.out.trans (Lk.al (bal hw3)));have HP3:=H_ (HP.out.below (bal hw3));have hnm:v.nm=d.nm:=hrv.nm;have hmt:v.mt=d.mt:=hrv.mt
    have HC:Hid (Calls Tryz.prog 17 #[.agg v.cells] w3 λe w'=>e= .returned (.string (ba (et d)))/\Below w3.heap.size w3 w'):=
     H_ (uE v d w3 ((hrv.below (bal hw3)).more (by omega)) (HG3.out.lk HL3.out (by omega)).g.gl (by omega) (by omega) (by rw[hnm];omega) (by rw[hmt];omega) hwf)
    obtain⟨x0,x1,x2,x3,x4,x5,x6⟩:=HA.out.v7;obtain⟨E,hE⟩:=nm_ (et d);obtain⟨Q,hQ⟩:=nm_ (tAc (x.ac.take k));rw[hE]at HC hfl HTK;rw[hQ]at HP3 HTK hmono;have a1:=aw (ba E) ⟨#[10]⟩ E [10] rfl rfl (by simp;omega);have HW3:=H_ hw3;clear ha hat hrd hrv hgb hw3 htk HP HL hvd hwf hnm hmt hE hQ hvn hvn2;unfold Av.cells at*
    go_upto_region 11 with fail;rw[HW3.out];go_wp2_with fail;refine HC.out.mono ?_;rintro e w4 ⟨rfl,b4⟩;have HL4:=H_ (HL3.out.trans (Lk.al b4));have CW:=(HP3.out.below b4).wr (E++[10]) (by simp only[EY,EZ,F1];omega);clear b4 HC HL3 HP3;go_wp2_with fail;refine CW.out.mono ?_;rintro e w5 ⟨rfl,l5,p5⟩;have HL5:=H_ (HL4.out.trans l5);have HP5:=H_ p5;clear l5 p5 CW HL4;go_wp2_with fail;go_roundw
    case rel=>exact⟨k+1,by omega,by go_num,HL5,H_ (by rw[HTK.out,<-Fe];exact HP5.out)⟩
    case measure=>simp[intOf];omega
   ·obtain rfl:k=n2:=by omega
    rw[Fd (by omega)]at HP;have HC:=H_ (HP.out.str (x8 x _) (by rw[EY];omega));have HLB:=H_ HL.out;clear HP HL;go_wp2_with fail;refine HC.out.mono ?_;rintro e w4 ⟨rfl,l4⟩;have HE:Hid (Below g w w4):=H_ (hgz▸(HB2.out.trans ((HB3.out.mono (by omega)).trans ((HLB.out.trans l4).below (by omega) (by omega) (by omega)))));clear l4 HC;go_wp2_with fail;go_ret;exact⟨by rw[HFT.out];rfl,HE.out⟩
theorem zl(m sd y:Int)(w:World):Calls Tryz.prog 41 #[.agg #[.int .i64 m,.int .u64 sd,.int .i64 y]] w λe w'=>e= .returned (.bool (decide (1<=m/\m<=8/\0<=y/\y<=1099511627776)))/\Below w.heap.size w w':=by
 obtain⟨g,hz⟩:=nm_ (w.heap.size);obtain⟨W0,hW0⟩:=nm_ (w.alloc (.cells #[.int .i64 m,.int .u64 sd,.int .i64 y] 25));have HQ:=hng hW0 hz;have HB0:Hid (Below g w W0):=H_ (hz▸(hba hW0).out)
 have HA:Hid (decide (1<=m/\m<=8/\0<=y/\y<=1099511627776)=(bG m&&countB y)):=H_ (by
  unfold bG countB;rw[Bool.eq_iff_iff];simp[and_assoc])
 have HC1:Hid (∀W,Calls Tryz.prog 71 #[.int .i64 m] W λe w'=>e= .returned (.bool (bG m))/\W=w'):=H_ (ll m);have HC2:Hid (∀W,Calls Tryz.prog 72 #[.int .i64 y] W λe w'=>e= .returned (.bool (countB y))/\W=w'):=H_ (mq y);generalize bG m=vm at*
 generalize countB y=vy at*
 obtain⟨q0,q1,q2⟩:=HQ.out.c3;have HW:=H_ hW0;clear hW0;go_enter Tryz.func41,Tryz.ntmps41;rw[hz];go_upto_region 1 with fail;rw[HW.out]
 go_wp2_with (first
  |(go_at_call 71;refine(HC1.out _).mono ?_;rintro r w3 ⟨rfl,rfl⟩)
  |(go_at_call 72;refine(HC2.out _).mono ?_;rintro r w3 ⟨rfl,rfl⟩))
 all_goals
  go_ret;refine⟨ab ?_,HB0.out⟩;rw[HA.out];simp[*]
theorem tW(x:Sc)(A:Option Addr)(n c:Nat)(A2:Option Addr)(n2 c2:Nat)(w:World)(G:Nat->Prop)(hs:Sl eM w G x.cs A n)(hs2:Sl kAd w G x.ac A2 n2)(hG:∀b,G b->b<w.heap.size):
 Calls Tryz.prog 16 #[.agg #[.int .i64 x.m,.int .u64 x.sd,.int .i64 x.y,.slice A n c,.slice A2 n2 c2]] w λr w'=>r= .returned (.bool (fO x))/\Below w.heap.size w w':=by
 obtain⟨g,hz⟩:=nm_ (w.heap.size);obtain⟨W0,hW0⟩:=nm_ (w.alloc (.cells #[.int .i64 x.m,.int .u64 x.sd,.int .i64 x.y,.slice A n c,.slice A2 n2 c2] 35));have HQ:=hng hW0 hz;have HB0:=hba hW0;have hs0:W0.heap.size=g+1:=by rw[<-hW0,Fc,hz]
 have HBZ:Hid (Below g w W0):=H_ (hz▸HB0.out);have HS:=H_ (hs.aA (G':=G) (w':=W0) (λb hb=>⟨hb,HB0.out.block b (hG b hb)⟩));have HS2:=H_ (hs2.aA (G':=G) (w':=W0) (λb hb=>⟨hb,HB0.out.block b (hG b hb)⟩));have HG:=H_ (show∀b,G b->b<W0.heap.size from λb hb=>by have:=hG b hb;omega);have hnb:n2<=1152921504606846976:=hs2.2.1;have hln:x.ac.length=n2:=hs2.1;have HW:=H_ hW0;have hvs:fO x=(x.ac.all aS&&(nS x&&vPr x.cs)):=rfl;have HVS:=H_ hvs;obtain⟨m,hm⟩:=nm_ (x.m);obtain⟨sd,hsd⟩:∃m,x.sd=m:=⟨_,rfl⟩;obtain⟨y,hy⟩:∃m,x.y=m:=⟨_,rfl⟩;have hcf:nS x=decide (1<=m/\m<=8/\0<=y/\y<=1099511627776):=by unfold nS;rw[hm,hy]
 rw[hm,hsd,hy]at HQ HW⊢;have HC1:Hid (∀W,Calls Tryz.prog 41 #[.agg #[.int .i64 m,.int .u64 sd,.int .i64 y]] W λe w'=>e= .returned (.bool (nS x))/\Below W.heap.size W w'):=H_ λW=>by rw[hcf];exact zl m sd y W
 have HC2:Hid (∀W,Below W0.heap.size W0 W->Calls Tryz.prog 42 #[.agg #[.slice A n c]] W λr w'=>r= .returned (.bool (vPr x.cs))/\Below W.heap.size W w'):=H_ λW hW=>
  tV x.cs A n c W G (HS.out.aA λb hb=>⟨hb,hW.block b (HG.out b hb)⟩) (λb hb=>by have:=HG.out b hb;have:=hW.size;omega)
 generalize nS x=vc at*
 generalize vPr x.cs=vp at*
 generalize fO x=vb at*
 clear hs hs2 hG hW0 HB0 hcf hvs hm hsd hy;go_enter Tryz.func16,Tryz.ntmps16;rw[hz];go_upto_region 1 with fail;rw[HW.out];go_wp2_with fail;go_loopw [3] (λi wr=>∃k:Nat,k<=n2/\i= .int .i64 k/\Hid (Below W0.heap.size W0 wr)/\Hid ((x.ac.take k).all aS=true)) (λi _=>n2-(intOf i).toNat)
 case atStart=>exact⟨0,Fl _,rfl,H_ (Fb _ _),H_ rfl⟩
 case round=>
  obtain⟨k,hk,rfl,HB,HV⟩:=hrel;have hsr:=HB.out.size;obtain⟨q0,q1,q2,q3,q4⟩:=(HQ.out.below HB.out (by omega)).c5;by_cases hkm:k<n2
  ·have hkz:(k:Int)<(n2:Int):=by omega
   have hS2:=HS2.out.aA (G':=G) (w':=wr) (λb hb'=>⟨hb',HB.out.block b (HG.out b hb')⟩);obtain⟨b,off,d,cs,rfl,hgb,hx,hrd,hat⟩:=hS2.at_ hkm;obtain⟨v,rfl,hrv,hvn,hvn2,-,-⟩:=kx hrd (λq hq=>by have:=HG.out q hq;omega);have HX:=H_ hx;obtain⟨d0,d1,d2,d3,d4,d5,d6⟩:=At.e7 hat
   have HC:=H_ (rP v d wr hrv hvn hvn2);obtain⟨bd,hbd⟩:=nm_ (aS d);rw[hbd]at HC;have HVD:=H_ hbd;clear hx hat hS2 hrd hrv hgb hbd;unfold Av.cells at*
   go_wp2_with fail;refine HC.out.mono ?_;rintro r w4 ⟨rfl,b4⟩;have HB4:=htr HB b4;clear b4 HC HB;cases bd with
   |false=>
    have HE:=H_ (HBZ.out.trans (HB4.out.mono (by omega)));go_wp2_with fail;go_ret;exact⟨ab (by rw[HVS.out,br HX.out HVD.out,Bool.false_and]),HE.out⟩
   |true=>
    go_wp2_with fail;go_roundw
    case rel=>exact⟨k+1,by omega,by go_num,HB4,H_ (by rw[bH HX.out,HV.out,HVD.out];rfl)⟩
    case measure=>simp[intOf];omega
  ·obtain rfl:k=n2:=by omega
   rw[Fd (by omega)]at HV;have HA:Hid (vb=(vc&&vp)):=H_ (by rw[HVS.out,HV.out,GO]);clear HV HVS
   go_wp2_with (first
    |(go_at_call 41;refine(HC1.out _).mono ?_;rintro r w3 ⟨rfl,b3⟩;have HB:=htr HB b3;clear b3;have hsz:=HB.out.size;obtain⟨q0,q1,q2,q3,q4⟩:=(HQ.out.below HB.out (by omega)).c5)
    |(go_at_call 42;refine(HC2.out _ HB.out).mono ?_;rintro r w3 ⟨rfl,b3⟩;have HB:=htr HB b3;clear b3;have hsz:=HB.out.size;obtain⟨q0,q1,q2,q3,q4⟩:=(HQ.out.below HB.out (by omega)).c5))
   all_goals
    go_ret;refine⟨ab ?_,HBZ.out.trans (HB.out.mono (by omega))⟩;rw[HA.out];simp[*]
theorem yR(x:Sc)(A:Option Addr)(n c:Nat)(A2:Option Addr)(n2 c2:Nat)(w:World)(G:Nat->Prop)(hs:Sl eM w G x.cs A n)(hs2:Sl kAd w G x.ac A2 n2)(hG:∀b,G b->b<w.heap.size)(hcg:CapG w G)
 (h0:0<=x.sd) (h1:x.sd<=18446744073709551615) (hz:fO x=true->lsz csz x.cs<=900/\x.ac.length<=1000):
 Calls Tryz.prog 15 #[.agg #[.int .i64 x.m,.int .u64 x.sd,.int .i64 x.y,.slice A n c,.slice A2 n2 c2]] w λe w'=>e= .returned (.string (ba (fmT x)))/\Below w.heap.size w w':=by
 obtain⟨g,hgz⟩:=nm_ (w.heap.size);obtain⟨W1,hW1⟩:=nm_ (w.alloc (.cells #[.int .i64 x.m,.int .u64 x.sd,.int .i64 x.y,.slice A n c,.slice A2 n2 c2] 35));have HT:=hng hW1 hgz;have HB1:=hba hW1;have hs1:W1.heap.size=g+1:=by rw[<-hW1,Fc,hgz]
 have HG:=H_ (show∀b,G b->b<g from λb hb=>by have:=hG b hb;omega);have HS1:Hid (Sl eM W1 G x.cs A n):=H_ (hs.aA λb hb=>⟨hb,HB1.out.block b (hG b hb)⟩);have HS2:Hid (Sl kAd W1 G x.ac A2 n2):=H_ (hs2.aA λb hb=>⟨hb,HB1.out.block b (hG b hb)⟩);have HCG:Hid (CapG W1 G):=H_ (hcg.aA λq hq=>HB1.out.block q (hG q hq));have HV:=H_ (tW x A n c A2 n2 c2 W1 G HS1.out HS2.out (λb hb=>by have:=HG.out b hb;omega));have hln:x.ac.length=n2:=hs2.1;have hnb:n2<=1152921504606846976:=hs2.2.1;have HW:=H_ hW1;obtain⟨vb,hvb⟩:=nm_ (fO x);have hft:fmT x=if vb=true then fE x++tAc x.ac else[]:=by rw[<-hvb];rfl
 have HFT:=H_ hft;have HVB:=H_ hvb;have HZ:=H_ hz;rw[hvb]at HV;have HSD:=H_ (And.intro h0 h1);obtain⟨u,hu⟩:=Fz h0;have HU:=H_ hu;obtain⟨m,hm⟩:=nm_ (x.m);obtain⟨y,hy⟩:∃m,x.y=m:=⟨_,rfl⟩;have HM:=H_ (And.intro hm hy);rw[hm,hy,hu]at HT HW HV⊢;obtain⟨q0,q1,q2,q3,q4⟩:=HT.out.c5;clear hs hs2 hG hcg h0 h1 hz hvb hft hW1 hm hy hu;go_enter Tryz.func15,Tryz.ntmps15;rw[hgz];go_upto_region 1 with fail;rw[HW.out];go_wp2_with fail;refine HV.out.mono ?_;rintro r w2 ⟨rfl,b2⟩;have hs2:=b2.size;have HBW:=H_ (HB1.out.trans (b2.mono (by omega)));have HT2:=hbl HT b2;have HB2:=H_ b2;clear b2 HV q0 q1 q2 q3 q4;cases vb with
 |false=>
  rw[Fg (by decide)]at HFT;go_wp2_with fail;go_ret;exact⟨by rw[HFT.out];rfl,hgz▸HBW.out⟩
 |true=>
  rw[Ft rfl]at HFT;have hv:=VSc.of HVB.out HSD.out.1 HSD.out.2;obtain⟨hcz,hacl⟩:=HZ.out HVB.out;have hth:=oq hv hcz;have hta:=pm x.ac hv.ac;have htp:=pg hv.cs hcz;have hI1:I64 m:=by have:=hv.m1;have:=hv.m8;have:=HM.out.1;unfold I64;omega
  have hI2:I64 y:=by have:=hv.y0;have:=hv.y1;have:=HM.out.2;unfold I64;omega
  have hU:U64 u:=by have:=HSD.out.2;have:=HU.out;unfold U64;omega
  have hl1:=bM hI1;have hl2:=bM hI2;have hl3:=nN (u:=u) (by unfold U64 at hU;omega);have hTH:fE x=ce++Lib.itoa m++(10::cI)++Lib.decDigits u++(10::cr)++Lib.itoa y++fj++tPr x.cs++lT:=by unfold fE;rw[HM.out.1,HM.out.2,HU.out];simp
  have HVS:=H_ hv;obtain⟨T,f,hne,C⟩:=Cls.mk' (w:=W1) HB2.out (λb hb=>by have:=HG.out b hb;omega) HCG.out;have C1:Hid (∀z,Calls Tryz.prog 36 #[.int .i64 m] (f z) λe w''=>e= .returned (.string (ba (Lib.itoa m)))/\∃z',w''=f z'):=C.all λz=>ji m (f z) hI1;have C2:Hid (∀z,Calls Tryz.prog 37 #[.int .u64 u] (f z) λe w''=>e= .returned (.string (ba (Lib.decDigits u)))/\∃z',w''=f z'):=C.all λz=>nM u (f z) hU;have C3:Hid (∀z,Calls Tryz.prog 36 #[.int .i64 y] (f z) λe w''=>e= .returned (.string (ba (Lib.itoa y)))/\∃z',w''=f z'):=C.all λz=>ji y (f z) hI2
  have C4:Hid (∀z,Calls Tryz.prog 38 #[.agg #[.slice A n c]] (f z) λe w''=>e= .returned (.string (ba (tPr x.cs)))/\∃z',w''=f z'):=C.all λz=>by
   have h1:=Cq x.cs A n c (f z) G (HS1.out.aA (C.aA z)) (C.lt z) (C.cap z) (λcl hc=>by
    obtain⟨k,hk⟩:=FY hc;have:=bq csz hk;omega) (λ_=>by rw[dp];omega)
   unfold pgT at h1;rwa[Ft HVS.out.cs]at h1
  have e0:=λz=>(HT.out.below (C.fr0 z) (by omega)).k0;have e1:=λz=>(HT.out.below (C.fr0 z) (by omega)).k1;have e2:=λz=>(HT.out.below (C.fr0 z) (by omega)).k2;have e3:=λz=>(HT.out.below (C.fr0 z) (by omega)).k3;have HFR:=H_ C.fr0;have HCOV:=H_ C.cov;obtain⟨D1,hD1⟩:∃D,Lib.itoa m=D:=⟨_,rfl⟩;obtain⟨D2,hD2⟩:∃D,Lib.decDigits u=D:=⟨_,rfl⟩;obtain⟨D3,hD3⟩:∃D,Lib.itoa y=D:=⟨_,rfl⟩;obtain⟨P,hP⟩:=nm_ (tPr x.cs);rw[hD1,hD2,hD3,hP]at hTH;rw[hD1]at C1 hl1;rw[hD2]at C2 hl3;rw[hD3]at C3 hl2;rw[hP]at C4 htp;have HTH:=H_ hTH;have a1:=aw ⟨#[109,97,99,104,105,110,101,115,32]⟩ (ba D1) ce D1 rfl rfl (by simp[ce];omega);have a2:=aw (ba (ce++D1)) ⟨#[10,115,101,101,100,32]⟩ (ce++D1) (10::cI) rfl rfl (by simp[ce,cI];omega);have a3:=aw (ba (ce++D1++(10::cI))) (ba D2) (ce++D1++(10::cI)) D2 rfl rfl (by simp[ce,cI];omega);have a4:=aw (ba (ce++D1++(10::cI)++D2)) ⟨#[10,121,111,117,110,103,32]⟩ (ce++D1++(10::cI)++D2) (10::cr) rfl rfl (by simp[ce,cI,cr];omega);have a5:=aw (ba (ce++D1++(10::cI)++D2++(10::cr))) (ba D3) (ce++D1++(10::cI)++D2++(10::cr)) D3 rfl rfl (by simp[ce,cI,cr];omega);have a6:=aw (ba (ce++D1++(10::cI)++D2++(10::cr)++D3)) ⟨#[10,112,114,111,103,114,97,109,10]⟩ (ce++D1++(10::cI)++D2++(10::cr)++D3) fj rfl rfl (by simp[ce,cI,cr,fj];omega);have a7:=aw (ba (ce++D1++(10::cI)++D2++(10::cr)++D3++fj)) (ba P) (ce++D1++(10::cI)++D2++(10::cr)++D3++fj) P rfl rfl (by simp[ce,cI,cr,fj];omega);have a8:=aw (ba (ce++D1++(10::cI)++D2++(10::cr)++D3++fj++P)) ⟨#[101,110,100,10]⟩ (ce++D1++(10::cI)++D2++(10::cr)++D3++fj++P) lT rfl rfl (by simp[ce,cI,cr,fj,lT];omega);have hTH2:=hTH;simp only[Fe,Fq,Fs]at a1 a2 a3 a4 a5 a6 a7 a8 hTH2;rw[<-hTH2]at a8;clear C hTH hTH2 hD1 hD2 hD3 hP hv hI1 hI2 hU;go_upto_region 3 with fail;refine ai f (by kernel_rfl) (by kernel_rfl) (HCOV.out _ (Fb _ _).drew) ?_;repeat (go_big_quiet_step (first|(go_at_call_of 36 (Value.int .i64 m);exact C1.out _)|(go_at_call_of 36 (Value.int .i64 y);exact C3.out _)|(go_at_call 37;exact C2.out _)|(go_at_call 38;exact C4.out _)))
  refine FO ?_;rintro _ ⟨z,rfl⟩;have HB3:=H_ (HFR.out z);generalize f z=w3 at*
  clear a1 a2 a3 a4 a5 a6 a7 a8 e0 e1 e2 e3 HFR HCOV C1 C2 C3 C4;go_wp2_with fail;go_loopw [3,4] (λs i wr=>∃k:Nat,k<=n2/\i= .int .i64 k/\s= .string (ba (fE x++tAc (x.ac.take k)))/\Hid (Below W1.heap.size W1 wr)) (λ_ i _=>n2-(intOf i).toNat)
  case atStart=>exact⟨0,Fl _,rfl,by simp[tAc],HB3⟩
  case round=>
   clear HB3;obtain⟨k,hk,rfl,rfl,HB⟩:=hrel;have hsr:=HB.out.size;have q4:=(HT.out.below HB.out (by omega)).k4;by_cases hkm:k<n2
   ·have hkz:(k:Int)<(n2:Int):=by omega
    obtain⟨b,off,d,cs,rfl,hgb,ha,hrd,hat⟩:=(HS2.out.aA (G':=G) (w':=wr) λq hq=>⟨hq,HB.out.block q (by have:=HG.out q hq;omega)⟩).at_ hkm;obtain⟨v,rfl,hrv,-,-,hvn,hvn2⟩:=kx hrd (λq hq=>by have:=HG.out q hq;omega);have hvd:=HVS.out.ac d (Fi ha);obtain⟨hwf,w1,w2',w3',w4'⟩:=gJ hvd;have hfl:=nH hvd;have htk:=qy ha;have hmono:(tAc (x.ac.take k)).length<=(tAc x.ac).length:=dN _ _ _;have HTK:=H_ htk;obtain⟨d0,d1,d2,d3,d4,d5,d6⟩:=At.e7 hat
    have hnm:v.nm=d.nm:=hrv.nm;have hmt:v.mt=d.mt:=hrv.mt
    have HC:Hid (Calls Tryz.prog 39 #[.agg v.cells] wr λe w'=>e= .returned (.string (ba (et d)))/\Below wr.heap.size wr w'):=
     H_ (EI v d wr hrv (by omega) (by omega) (by rw[hnm];omega) (by rw[hmt];omega) hwf)
    obtain⟨E,hE⟩:=nm_ (et d);obtain⟨Q,hQ⟩:=nm_ (tAc (x.ac.take k));obtain⟨H,hH⟩:=nm_ (fE x);rw[hE]at HC hfl HTK;rw[hQ]at HTK hmono⊢;rw[hH]at hth⊢;have a1:=aw (ba (H++Q)) (ba E) (H++Q) E rfl rfl (by simp;omega);have a2:=aw (ba (H++Q++E)) ⟨#[10]⟩ (H++Q++E) [10] rfl rfl (by simp;omega);simp only[Fe,Fq,Fs]at a1 a2;clear ha hat hrd hrv hgb htk hvd hwf hnm hmt hE hQ hH hvn hvn2;unfold Av.cells at*
    go_wp2_with fail;refine HC.out.mono ?_;rintro e w4 ⟨rfl,b4⟩;have HB4:=htr HB b4;clear b4 HC HB;go_wp2_with fail;go_roundw
    case rel=>exact⟨k+1,by omega,by go_num,by rw[HTK.out],HB4⟩
    case measure=>simp[intOf];omega
   ·obtain rfl:k=n2:=by omega
    rw[Fd (by omega)];have HE:Hid (Below g w wr):=H_ (hgz▸HB1.out.trans (HB.out.mono (by omega)));go_wp2_with fail;go_ret;exact⟨by rw[HFT.out];rfl,hgz▸HE.out⟩
def gZ(N:Int)(s:Nat)(w:World)(r:Ending)(w':World):Prop:=∃z:Int,r= .returned (.int .i64 z)/\ -2305843009213693952<=z/\z<=N/\(0<=z->(s:Int)+z<=N)/\Below w.heap.size w w'
theorem CR:∀(m:Nat) (e:Ex) (cs:List Value) (w:World) (G:Nat->Prop) (N:Int),esz e<=m->ExK w G e cs->(∀b,G b->b<w.heap.size)->0<=N->N<=1000->
 Calls Tryz.prog 96 #[.agg cs.toArray,.int .i64 N] w (gZ N (esz e) w):=by
 intro m;induction m with
 |zero=>intro e cs w G N hm;have:=bJ e;omega
 |succ m ih=>
  intro e cs w G N hm hr hG hN0 hN1;obtain⟨xk,xo,xz,xn,xa,args⟩:=e;obtain⟨A,n,c,rfl,hs⟩:=ExK.inv hr;rw[cU]at hm⊢;have hln:=hs.1;have hnb:n<=1152921504606846976:=hs.2.1;obtain⟨g,hz⟩:=nm_ (w.heap.size);obtain⟨W0,hW0⟩:=nm_ (w.alloc (.cells #[.int .i64 xk,.int .i64 xo,.int .i64 xz,.string xn,.bool xa,.slice A n c] 172));have HQ:=hng hW0 hz;have HB0:=hba hW0;have hs0:W0.heap.size=g+1:=by rw[<-hW0,Fc,hz]
  have HS:=H_ (hs.aA (G':=G) (w':=W0) (λb hb=>⟨hb,HB0.out.block b (hG b hb)⟩));have HG:=H_ (show∀b,G b->b<W0.heap.size from λb hb=>by have:=hG b hb;omega);have HBZ:Hid (Below g w W0):=H_ (hz▸HB0.out);have HIH:=H_ ih;have HW:=H_ hW0;obtain⟨q0,q1,q2,q3,q4,q5⟩:=HQ.out.c6;clear ih hs hG hr hW0 HB0;unfold gZ;go_enter Tryz.func96,Tryz.ntmps96;rw[hz];go_upto_region 1 with fail;rw[HW.out];by_cases h40:(40:Int)<(xn.size:Int)
  ·go_wp2_with fail;go_ret;exact⟨-1,rfl,by omega,by omega,λh=>by omega,HBZ.out⟩
  ·go_wp2_with fail;go_loopw [1,5] (λu i wr=>∃(k:Nat) (z:Int),k<=n/\i= .int .i64 k/\u= .int .i64 z/\ -2305843009213693952<=z/\z<=N-1/\(0<=z->((1+lsz esz (args.take k):Nat):Int)+z<=N)/\Hid (Below W0.heap.size W0 wr)) (λ_ i _=>n-(intOf i).toNat)
   case atStart=>exact⟨0,N-1,Fl _,rfl,rfl,by omega,by omega,λh=>by simp[lsz];omega,H_ (Fb _ _)⟩
   case round=>
    obtain⟨k,z,hk,rfl,rfl,hz0,hz1,hz2,HB⟩:=hrel;have hsr:=HB.out.size;obtain⟨q0,q1,q2,q3,q4,q5⟩:=(HQ.out.below HB.out (by omega)).c6;by_cases hkm:k<n/\0<=z
    ·obtain⟨hkm,hzz⟩:=hkm;have hkz:(k:Int)<(n:Int):=by omega
     have hS2:=HS.out.aA (G':=G) (w':=wr) (λb hb'=>⟨hb',HB.out.block b (HG.out b hb')⟩);obtain⟨b,off,x,cs,rfl,hgb,hx,hrd,hat⟩:=hS2.at_ hkm;have hsz:=bq esz hx;have htk:=ec esz args hx;have HC:=H_ (HIH.out x _ wr G z (by omega) hrd (λq hq=>by have:=HG.out q hq;omega) hzz (by omega));unfold gZ at HC;obtain⟨yk,yo,yz,yn,ya,args2⟩:=x;obtain⟨A2,n2,c2,rfl,hsa⟩:=ExK.inv hrd;obtain⟨d0,d1,d2,d3,d4,d5⟩:=At.e6 hat
     generalize esz (.mk yk yo yz yn ya args2)=sx at*
     clear hat hrd hsa hS2 hx hgb q0 q1 q2 q3 q4;go_wp2_with fail;refine HC.out.mono ?_;rintro r w1 ⟨z',rfl,hz3,hz4,hz5,b1⟩;have B1:=htr HB b1;have HTK:=H_ htk;clear b1 HB HC htk;go_wp2_with fail;go_roundw
     case rel=>exact⟨k+1,z',by omega,by go_num,rfl,hz3,by omega,λh=>by have:=hz5 h;have:=hz2 hzz;have:=HTK.out;omega,B1⟩
     case measure=>simp[intOf];omega
    ·have HE:Hid (Below g w wr):=H_ (HBZ.out.trans (HB.out.mono (by omega)))
     have hfin:0<=z->((1+lsz esz args:Nat):Int)+z<=N:=λh=>by
      have h1:k=n:=by omega
      have h2:=hz2 h;rwa[Fd (by omega)]at h2
     have HFIN:=H_ hfin
     clear hfin hz2;by_cases hkm2:k<n
     ·have hkz:(k:Int)<(n:Int):=by omega
      have hzz:¬(0:Int)<=z:=by omega
      go_wp2_with fail;go_ret;exact⟨z,rfl,hz0,by omega,HFIN.out,HE.out⟩
     ·have hkz:¬(k:Int)<(n:Int):=by omega
      go_wp2_with fail;go_ret;exact⟨z,rfl,hz0,by omega,HFIN.out,HE.out⟩
theorem CU:∀(m:Nat) (xs:List St) (A:Option Addr) (n c:Nat) (w:World) (G:Nat->Prop) (N:Int),lsz ssz xs<m->Sl gj w G xs A n->(∀b,G b->b<w.heap.size)->0<=N->N<=1000->
 Calls Tryz.prog 60 #[.slice A n c,.int .i64 N] w (gZ N (lsz ssz xs) w):=by
 intro m;induction m with
 |zero=>intro xs A n c w G N hm;omega
 |succ m ih=>
  intro xs A n c w G N hm hs hG hN0 hN1;have hln:=hs.1;have hnb:n<=1152921504606846976:=hs.2.1;have HS:=H_ hs;have HG:=H_ hG;have HIH:=H_ ih;clear ih hs hG;unfold gZ;go_enter Tryz.func60,Tryz.ntmps60;go_wp2_with fail;go_loopw [1,5] (λu i wr=>∃(k:Nat) (z:Int),k<=n/\i= .int .i64 k/\u= .int .i64 z/\ -2305843009213693952<=z/\z<=N/\(0<=z->((lsz ssz (xs.take k):Nat):Int)+z<=N)/\Hid (Below w.heap.size w wr)) (λ_ i _=>n-(intOf i).toNat)
  case atStart=>exact⟨0,N,Fl _,rfl,rfl,by omega,by omega,λh=>by simp[lsz],H_ (Fb _ _)⟩
  case round=>
   obtain⟨k,z,hk,rfl,rfl,hz0,hz1,hz2,HB⟩:=hrel;have hsr:=HB.out.size;by_cases hkm:k<n/\0<=z
   ·obtain⟨hkm,hzz⟩:=hkm;have hkz:(k:Int)<(n:Int):=by omega
    have hS2:=HS.out.aA (G':=G) (w':=wr) (λb hb'=>⟨hb',HB.out.block b (HG.out b hb')⟩);obtain⟨b,off,x,cs,rfl,hgb,hx,hrd,hat⟩:=hS2.at_ hkm;have hsz:=bq ssz hx;have htk:=ec ssz xs hx;have hz2':=hz2 hzz;obtain⟨yk,yn,ex,bo,el⟩:=x;obtain⟨A1,n1,c1,A2,n2,c2,A3,n3,c3,rfl,hs1,hs2,hs3⟩:=StK.inv hrd;have hnb1:n1<=1152921504606846976:=hs1.2.1;have hln1:ex.length=n1:=hs1.1;obtain⟨d0,d1,d2,d3,d4⟩:=At.e5 hat
    rw[dC]at hsz htk;have hbl:b<wr.heap.size:=by have:=HG.out b hgb;omega
    have HGr:=H_ (show∀q,G q->q<wr.heap.size from λq hq=>by have:=HG.out q hq;omega);have HS1:=H_ hs1;have HS2:=H_ hs2;have HS3:=H_ hs3;have HD:=H_ (And.intro d2 (And.intro d3 d4));have HTK:=H_ htk;obtain⟨P,hP⟩:=nm_ (lsz ssz (xs.take k));rw[hP]at HTK hz2';clear hat hrd hs1 hs2 hs3 hS2 hx hgb d0 hz2 htk hP;by_cases h40:(40:Int)<(yn.size:Int)
    ·clear d2 d3 d4;go_wp2_with fail;go_ret;exact⟨-1,rfl,by omega,by omega,λh=>by omega,HB.out⟩
    ·obtain⟨wa,rfl⟩:∃wa,wa=wr:=⟨_,rfl⟩;go_wp2_with fail;clear d1 d2 d3 d4;go_loopw [1,6] (λu i wy=>∃(r:Nat) (v:Int),r<=n1/\i= .int .i64 r/\u= .int .i64 v/\ -2305843009213693952<=v/\v<=z-1/\(0<=v->((lsz esz (ex.take r):Nat):Int)+v<=z-1)/\Hid (Below wa.heap.size wa wy)) (λ_ i _=>n1-(intOf i).toNat)
     case atStart=>exact⟨0,z-1,Fl _,rfl,rfl,by omega,by omega,λh=>by simp[lsz],H_ (Fb _ _)⟩
     case round=>
      obtain⟨r,v,hr,rfl,rfl,hv0,hv1,hv2,HBi⟩:=hrel;have hsi:=HBi.out.size;have d2:=(aa HBi.out hbl _).trans HD.out.1;by_cases hrm:r<n1/\0<=v
      ·obtain⟨hrm,hvv⟩:=hrm;have hrz:(r:Int)<(n1:Int):=by omega
       have hv2':=hv2 hvv;have hS3:=HS1.out.aA (G':=G) (w':=wr) (λb hb'=>⟨hb',HBi.out.block b (HGr.out b hb')⟩);obtain⟨b',off',x',cs',rfl,hgb',hx',hrd',hat'⟩:=hS3.at_ hrm;have htk2:=ec esz ex hx';have HC:=H_ (CR _ x' _ wr G v (F0 _) hrd' (λq hq=>by have:=HGr.out q hq;omega) hvv (by omega));unfold gZ at HC;obtain⟨zk,zo,zz,zn,za,args2⟩:=x';obtain⟨A5,n5,c5,rfl,hsa⟩:=ExK.inv hrd';obtain⟨e0,e1,e2,e3,e4,e5⟩:=At.e6 hat';generalize esz (.mk zk zo zz zn za args2)=sx at*
       have HTK2:=H_ htk2;clear hat' hrd' hsa hS3 hx' hgb' hv2 htk2;go_wp2_with fail;refine HC.out.mono ?_;rintro e w1 ⟨v',rfl,hv3,hv4,hv5,b1⟩;have B1:=htr HBi b1;clear b1 HBi HC;go_wp2_with fail;go_roundw
       case rel=>exact⟨r+1,v',by omega,by go_num,rfl,hv3,by omega,λh=>by have:=hv5 h;have:=HTK2.out;omega,B1⟩
       case measure=>simp[intOf];omega
      ·have hfin:0<=v->((lsz esz ex:Nat):Int)+v<=z-1:=λh=>by
        have h2:=hv2 h;rwa[Fd (by omega)]at h2
       have HFIN:=H_ hfin
       have HB3:Hid (Below w.heap.size w wr):=H_ (HB.out.trans (HBi.out.mono hsr));clear hfin hv2
       have hkc:∀P:Prop,((r:Int)<(n1:Int)->¬(0:Int)<=v->P)->(¬(r:Int)<(n1:Int)->P)->P:=λP h1 h2=>by
        by_cases h:(r:Int)<(n1:Int)
        ·exact h1 h (by omega)
        ·exact h2 h
       by_cases hvv:0<=v
       ·have hrz:¬(r:Int)<(n1:Int):=by omega
        have hf:=HFIN.out hvv;have d3:=(aa HBi.out hbl _).trans HD.out.2.1;have HC:=H_ (HIH.out bo A2 n2 c2 wr G v (by omega) (HS2.out.aA λq hq=>⟨hq,HBi.out.block q (HGr.out q hq)⟩) (λq hq=>by have:=HGr.out q hq;omega) hvv (by omega));unfold gZ at HC;go_wp2_with fail;refine HC.out.mono ?_;rintro e w1 ⟨v',rfl,hv3,hv4,hv5,b1⟩;have HB4:=htr HB3 b1;have HB5:=htr HBi b1;have hs5:=HB5.out.size;clear b1 HC HB3 HBi d2 d3;by_cases hvw:0<=v'
        ·have hv5':=hv5 hvw;have d4:=(aa HB5.out hbl _).trans HD.out.2.2;have HC:=H_ (HIH.out el A3 n3 c3 w1 G v' (by omega) (HS3.out.aA λq hq=>⟨hq,HB5.out.block q (HGr.out q hq)⟩) (λq hq=>by have:=HGr.out q hq;omega) hvw (by omega));unfold gZ at HC;go_wp2_with fail;refine HC.out.mono ?_;rintro e w2 ⟨v2,rfl,hv6,hv7,hv8,b2⟩;have HB6:=htr HB4 b2;clear b2 HC HB4 HB5 d4;go_wp2_with fail;go_roundw
         case rel=>exact⟨k+1,v2,by omega,by go_num,rfl,hv6,by omega,λh=>by have:=hv8 h;have:=HTK.out;omega,HB6⟩
         case measure=>simp[intOf];omega
        ·have hvn:¬(0:Int)<=v':=hvw;go_wp2_with fail;go_roundw
         case rel=>exact⟨k+1,v',by omega,by go_num,rfl,hv3,by omega,λh=>absurd h (by omega),HB4⟩
         case measure=>simp[intOf];omega
       ·have hvn:¬(0:Int)<=v:=hvv;refine hkc _ (λh1 h2=>?_) (λh1=>?_)
        all_goals
         go_wp2_with fail;go_roundw
         case rel=>exact⟨k+1,v,by omega,by go_num,rfl,hv0,by omega,λh=>absurd h (by omega),HB3⟩
         case measure=>simp[intOf];omega
   ·have hfin:0<=z->((lsz ssz xs:Nat):Int)+z<=N:=λh=>by
     have h2:=hz2 h;rwa[Fd (by omega)]at h2
    have HFIN:=H_ hfin
    clear hfin hz2;by_cases hkm2:k<n
    ·have hkz:(k:Int)<(n:Int):=by omega
     have hzz:¬(0:Int)<=z:=by omega
     go_wp2_with fail;go_ret;exact⟨z,rfl,hz0,by omega,HFIN.out,HB.out⟩
    ·have hkz:¬(k:Int)<(n:Int):=by omega
     go_wp2_with fail;go_ret;exact⟨z,rfl,hz0,by omega,HFIN.out,HB.out⟩
theorem uc(xs:List ByteArray)(A:Option Addr)(n c:Nat)(w:World)(G:Nat->Prop)(N:Int)(hs:Sl dF w G xs A n)(h0: -1<=N)(h1:N<=1000):
 Calls Tryz.prog 59 #[.slice A n c,.int .i64 N] w (gZ N xs.length w):=by
 have hln:=hs.1;have hnb:n<=1152921504606846976:=hs.2.1;have HS:=H_ hs;clear hs;unfold gZ;go_enter Tryz.func59,Tryz.ntmps59;go_wp2_with fail;go_loopw [5] (λi wr=>∃k:Nat,k<=n/\i= .int .i64 k/\wr=w) (λi _=>n-(intOf i).toNat)
 case atStart=>exact⟨0,Fl _,rfl,rfl⟩
 case round=>
  obtain⟨k,hk,rfl,rfl⟩:=hrel;by_cases hkm:k<n
  ·have hkz:(k:Int)<(n:Int):=by omega
   obtain⟨b,off,x,cs,rfl,hgb,hx,hrd,hat⟩:=HS.out.at_ hkm;obtain rfl:cs=[.string x]:=hrd;have d0:=At.e1 hat
   clear hat hx hgb;by_cases h40:(40:Int)<(x.size:Int)
   ·go_wp2_with fail;go_ret;exact⟨-1,rfl,by omega,by omega,λh=>by omega,Fb _ _⟩
   ·go_wp2_with fail;go_roundw
    case rel=>exact⟨k+1,by omega,by go_num,trivial⟩
    case measure=>simp[intOf];omega
  ·obtain rfl:k=n:=by omega
   go_wp2_with fail;go_ret;exact⟨N-k,rfl,by omega,by omega,λh=>by omega,Fb _ _⟩
def FewP(P:Prop)(w:World)(r:Ending)(w':World):Prop:=∃b:Bool,r= .returned (.bool b)/\(b=true->P)/\Below w.heap.size w w'
theorem FewP.mk{P:Prop}{r:Ending}(b:Bool)(h1:r= .returned (.bool b))(h2:b=true->P)(h3:Below w.heap.size w w'):FewP P w r w':=⟨b,h1,h2,h3⟩
theorem Ef(cl:List Cl)(A:Option Addr)(n c:Nat)(w:World)(G:Nat->Prop)(N:Int)(hs:Sl eM w G cl A n)(hG:∀b,G b->b<w.heap.size)(h0:0<=N)(h1:N<=1000):
 Calls Tryz.prog 29 #[.agg #[.slice A n c],.int .i64 N] w (FewP ((lsz csz cl:Int)<=N) w):=by
 have hln:=hs.1;have hnb:n<=1152921504606846976:=hs.2.1;obtain⟨g,hz⟩:=nm_ (w.heap.size);obtain⟨W0,hW0⟩:=nm_ (w.alloc (.cells #[.slice A n c] 28));have HQ:=hng hW0 hz;have HB0:=hba hW0;have hs0:W0.heap.size=g+1:=by rw[<-hW0,Fc,hz]
 have HBZ:Hid (Below g w W0):=H_ (hz▸HB0.out);have HS:=H_ (hs.aA (G':=G) (w':=W0) (λb hb=>⟨hb,HB0.out.block b (hG b hb)⟩));have HG:=H_ (show∀b,G b->b<W0.heap.size from λb hb=>by have:=hG b hb;omega);have HW:=H_ hW0;clear hs hG hW0 HB0;go_enter Tryz.func29,Tryz.ntmps29;go_upto_region 1 with fail;rw[HW.out];go_wp2_with fail;go_loopw [1,5] (λu i wr=>∃(k:Nat) (z:Int),k<=n/\i= .int .i64 k/\u= .int .i64 z/\ -2305843009213693952<=z/\z<=N/\(0<=z->((lsz csz (cl.take k):Nat):Int)+z<=N)/\Hid (Below W0.heap.size W0 wr)) (λ_ i _=>n-(intOf i).toNat)
 case atStart=>exact⟨0,N,Fl _,rfl,rfl,by omega,by omega,λh=>by simp[lsz],H_ (Fb _ _)⟩
 case round=>
  obtain⟨k,z,hk,rfl,rfl,hz0,hz1,hz2,HB⟩:=hrel;have hsr:=HB.out.size;have q0:=(HQ.out.below HB.out (by omega)).k0;by_cases hkm:k<n/\0<=z
  ·obtain⟨hkm,hzz⟩:=hkm;have hkz:(k:Int)<(n:Int):=by omega
   have hS2:=HS.out.aA (G':=G) (w':=wr) (λb hb'=>⟨hb',HB.out.block b (HG.out b hb')⟩);obtain⟨b,off,x,cs,rfl,hgb,hx,hrd,hat⟩:=hS2.at_ hkm;have htk:=ec csz cl hx;have hz2':=hz2 hzz;obtain⟨nm,ac,fs,ms⟩:=x;obtain⟨A1,n1,c1,A2,n2,c2,rfl,hs1,hs2⟩:=ClK.inv hrd;have hnb2:n2<=1152921504606846976:=hs2.2.1;have hln1:fs.length=n1:=hs1.1;have hln2:ms.length=n2:=hs2.1;obtain⟨d0,d1,d2,d3⟩:=At.e4 hat
   rw[show csz ⟨nm,ac,fs,ms⟩=1+fs.length+lsz msz ms from rfl]at htk;have HTK:=H_ htk;obtain⟨P,hP⟩:=nm_ (lsz csz (cl.take k));rw[hP]at HTK hz2';obtain⟨p,hp⟩:=nm_ (wr.heap.size);obtain⟨w3,hw3⟩:=nm_ (wr.alloc (.cells #[.string nm,.bool ac,.slice A1 n1 c1,.slice A2 n2 c2] 117));have HC:=hng hw3 hp;have hs3:w3.heap.size=p+1:=by rw[<-hw3,Fc,hp]
   have HB3:=H_ (HB.out.trans ((bal hw3).mono hsr));have HS1:=H_ (hs1.aA (G':=G) (w':=w3) (λq hq=>⟨hq,(bal hw3).block q (by have:=HG.out q hq;omega)⟩));have HS2:=H_ (hs2.aA (G':=G) (w':=w3) (λq hq=>⟨hq,(bal hw3).block q (by have:=HG.out q hq;omega)⟩));have HG3:=H_ (show∀b,G b->b<w3.heap.size from λb hb=>by have:=HG.out b hb;omega);obtain⟨x0,x1,x2,x3⟩:=HC.out.c4;have HW3:=H_ hw3;clear hx hat hgb hs1 hs2 hS2 hw3 hz2 htk hP HB;go_upto_region 5 with fail;rw[HW3.out];clear q0 d0 d1 d2 d3;by_cases h40:(40:Int)<(nm.size:Int)
   ·have HE:Hid (Below g w w3):=H_ (HBZ.out.trans (HB3.out.mono (by omega)));go_wp2_with fail;go_ret;exact FewP.mk false rfl (λh=>absurd h (by simp)) (hz▸HE.out)
   ·have HC59:=H_ (uc fs A1 n1 c1 w3 G (z-1) HS1.out (by omega) (by omega));unfold gZ at HC59;rw[hln1]at HC59;go_wp2_with fail;refine HC59.out.mono ?_;rintro r w4 ⟨z1,rfl,hy0,hy1,hy2,b4⟩;have HB4:=H_ b4;have hs4:=b4.size;obtain⟨x0,x1,x2,x3⟩:=(HC.out.below HB4.out HC.out.lt).c4;clear b4 HC59;go_wp2_with fail;go_loopw [1,7] (λu i wy=>∃(r:Nat) (v:Int),r<=n2/\i= .int .i64 r/\u= .int .i64 v/\ -2305843009213693952<=v/\v<=z1/\(0<=v->((lsz msz (ms.take r):Nat):Int)+v<=z1)/\Hid (Below w3.heap.size w3 wy)) (λ_ i _=>n2-(intOf i).toNat)
    case atStart=>exact⟨0,z1,Fl _,rfl,rfl,by omega,by omega,λh=>by simp[lsz],HB4⟩
    case round=>
     clear HB4;obtain⟨r,v,hr,rfl,rfl,hv0,hv1,hv2,HBi⟩:=hrel;have hsi:=HBi.out.size;have x3:=(HC.out.below HBi.out HC.out.lt).k3;by_cases hrm:r<n2/\0<=v
     ·obtain⟨hrm,hvv⟩:=hrm;have hrz:(r:Int)<(n2:Int):=by omega
      have hv2':=hv2 hvv;have hS3:=HS2.out.aA (G':=G) (w':=wr) (λb hb'=>⟨hb',HBi.out.block b (HG3.out b hb')⟩);obtain⟨b',off',y,cs',rfl,hgb',hy,hrd',hat'⟩:=hS3.at_ hrm;have htk2:=ec msz ms hy;obtain⟨mn,ps,bd⟩:=y;obtain⟨A3,n3,c3,A4,n4,c4,rfl,ht1,ht2⟩:=MeK.inv hrd';have hln3:ps.length=n3:=ht1.1;rw[show msz ⟨mn,ps,bd⟩=1+ps.length+lsz ssz bd from rfl]at htk2;obtain⟨e0,e1,e2⟩:=At.e3 hat';have hbl:b'<wr.heap.size:=by have:=HG3.out b' hgb';omega
      have HTK2:=H_ htk2;have HT2:=H_ ht2;have HC59:=H_ (uc ps A3 n3 c3 wr G (v-1) ht1 (by omega) (by omega));unfold gZ at HC59;rw[hln3]at HC59;clear hy hat' hgb' ht1 ht2 hS3 hv2 htk2;by_cases h40:(40:Int)<(mn.size:Int)
      ·have HE:Hid (Below g w wr):=H_ (HBZ.out.trans ((HB3.out.trans (HBi.out.mono (by omega))).mono (by omega)));go_wp2_with fail;go_ret;exact FewP.mk false rfl (λh=>absurd h (by simp)) (hz▸HE.out)
      ·go_wp2_with fail;refine HC59.out.mono ?_;rintro e w5 ⟨v',rfl,hv3,hv4,hv5,b5⟩;have HB5:=htr HBi b5;have hs5:=HB5.out.size;have x3:=(HC.out.below HB5.out HC.out.lt).k3;have e2:=(aa b5 hbl _).trans e2;have HT3:=H_ (HT2.out.aA (G':=G) (w':=w5) (λq hq=>⟨hq,b5.block q (by have:=HG3.out q hq;omega)⟩));clear b5 HC59 HBi HT2;by_cases hvw:0<=v'
       ·have hv5':=hv5 hvw;have HC60:=H_ (CU _ bd A4 n4 c4 w5 G v' (Nat.lt_succ_self _) HT3.out (λq hq=>by have:=HG3.out q hq;omega) hvw (by omega));unfold gZ at HC60;go_wp2_with fail;refine HC60.out.mono ?_;rintro e w6 ⟨v2,rfl,hv6,hv7,hv8,b6⟩;have HB6:=htr HB5 b6;clear b6 HC60 HB5 e2;go_wp2_with fail;go_roundw
        case rel=>exact⟨r+1,v2,by omega,by go_num,rfl,hv6,by omega,λh=>by have:=hv8 h;have:=HTK2.out;omega,HB6⟩
        case measure=>simp[intOf];omega
       ·have hvn:¬(0:Int)<=v':=hvw;go_wp2_with fail;go_roundw
        case rel=>exact⟨r+1,v',by omega,by go_num,rfl,hv3,by omega,λh=>absurd h (by omega),HB5⟩
        case measure=>simp[intOf];omega
     ·have hfin:0<=v->((lsz msz ms:Nat):Int)+v<=z1:=λh=>by
       have h2:=hv2 h;rwa[Fd (by omega)]at h2
      have HFIN:=H_ hfin
      have HE:=H_ (HB3.out.trans (HBi.out.mono (by omega)))
      have hkc:∀P:Prop,((r:Int)<(n2:Int)->¬(0:Int)<=v->P)->(¬(r:Int)<(n2:Int)->P)->P:=λP h1 h2=>by
       by_cases h:(r:Int)<(n2:Int)
       ·exact h1 h (by omega)
       ·exact h2 h
      clear hfin hv2;refine hkc _ (λh1 h2=>?_) (λh1=>?_)
      all_goals
       go_wp2_with fail;go_roundw
       case rel=>exact⟨k+1,v,by omega,by go_num,rfl,hv0,by omega,λh=>by have:=HFIN.out h;have:=HTK.out;omega,HE⟩
       case measure=>simp[intOf];omega
  ·have hfin:0<=z->((lsz csz cl:Nat):Int)+z<=N:=λh=>by
    have h2:=hz2 h;rwa[Fd (by omega)]at h2
   have HFIN:=H_ hfin
   have HE:Hid (Below g w wr):=H_ (HBZ.out.trans (HB.out.mono (by omega)))
   have hkc:∀P:Prop,((k:Int)<(n:Int)->¬(0:Int)<=z->P)->(¬(k:Int)<(n:Int)->P)->P:=λP h1 h2=>by
    by_cases h:(k:Int)<(n:Int)
    ·exact h1 h (by omega)
    ·exact h2 h
   clear hfin hz2;refine hkc _ (λh1 h2=>?_) (λh1=>?_)
   all_goals
    go_wp2_with fail;go_ret;exact FewP.mk (decide (0<=z)) (by first|rfl|simp[*]) (λh=>by have h2:=FP h;have:=HFIN.out h2;omega) (hz▸HE.out)
end
end Go.Proofs.YtjpbckbpeblibaaGreatDoor
