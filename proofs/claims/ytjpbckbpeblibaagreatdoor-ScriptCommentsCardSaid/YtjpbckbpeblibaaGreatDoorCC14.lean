/- part of a proof -/
import Derived.Test.YtjpbckbpeblibaaGreatDoorCC13
namespace Go.Proofs.YtjpbckbpeblibaaGreatDoor
set_option linter.unusedVariables false
set_option linter.unusedSimpArgs false
set_option maxRecDepth 100000
set_option maxHeartbeats 64000000
section
open Go.RowKit
variable{a:List Pc}{cs:List Cl}{d i:Nat}{l:List ByteArray}{m:Me}{x:List UInt8}
section
variable{T:List Tk}
theorem dW{ex:Nat->Nat->R Ex}{st:Nat->R St}{j:Nat}{s:St}(hi:isT T kIf i=false)(hw:isT T dD i=false)(hs:aV T ex i= .ok s j)(h:t3 T j=(5,aN,0)):dJ T ex st i= .ok s (j+1):=by
 unfold dJ;rw[DS (by rw[hi];decide),DS (by rw[hw];decide),hs];simp only;rw[bu (by rw[h];kernel_rfl)]
theorem vU{n d:Nat}:∀(l:List St) (K:Nat) (ss:List St) (i:Nat),(∀s∈l,vS s=true/\∀i,AtT T i (tks (plS s d))->isT T ey (i+(plS s d).length)=false->S T n i= .ok s (i+(plS s d).length))->T.length+1<=K+i->
 AtT T i (tks (bX l d))->t3 T (i+(bX l d).length)=(5,ci,0)->cX T (S T n) K ss i= .ok (ss++l) (i+(bX l d).length+1)
 |[],K,ss,i,_,hK,_,h=>by
  have h0:t3 T i=(5,ci,0):=h;have hlt:=fK h0 (by decide);obtain⟨K,rfl⟩:∃K',K=K'+1:=⟨K-1,by omega⟩;unfold cX;rw[Ed (aj h0 (by kernel_rfl)),Eo];rfl
 |s::l,K,ss,i,hl,hK,h,h2=>by
  obtain⟨hv,hs⟩:=hl s (by simp);rw[bX]at h h2⊢;obtain⟨a1,a2⟩:=AtT.app' h;have hb:=nD d hv;have hf:=a1.hd (ow s d);have hlen:i+(plS s d++bX l d).length=i+(plS s d).length+(bX l d).length:=by simp;omega
  rw[hlen]at h2⊢
  have hlt:i<T.length:=by
   rcases ES i T.length with h|h
   ·exact h
   ·have hge:∀j,i<=j->t3 T j=(0,⟨#[]⟩,0):=λj hj=>by
     unfold t3 tk;rw[Es,Fw (by omega)];rfl
    have:=hge (i+(plS s d).length+(bX l d).length) (by omega);rw[h2]at this;exact absurd (Fo (·.1) this) (by decide)
  obtain⟨K,rfl⟩:∃K',K=K'+1:=⟨K-1,by omega⟩
  have hnx:isT T ey (i+(plS s d).length)=false:=by
   cases l with
   |nil=>exact aj (show t3 T (i+(plS s d).length)=(5,ci,0)from h2) (by kernel_rfl)
   |cons s' l=>
    have hv':=(hl s' (by simp)).1;rw[bX]at a2;have:=(AtT.app' a2).1.hd (ow s' d);rw[cN,this];exact(nD d hv').2
  have hpos:0<(plS s d).length:=List.length_pos_iff.2 (ow s d);unfold cX;rw[DS (by rw[cN,hf,hb.1];decide),hs i a1 hnx];simp only;rw[vU l K (ss++[s]) (i+(plS s d).length) (λb hb=>hl b (by simp[hb])) (by omega) a2 h2];simp
theorem iv{n:Nat}{l:List St}(hl:∀s∈l,vS s=true/\∀i,AtT T i (tks (plS s d))->isT T ey (i+(plS s d).length)=false->S T n i= .ok s (i+(plS s d).length))(h0:t3 T i=(5,cu,0))
 (h1:AtT T (i+1) (tks (bX l d))) (h2:t3 T (i+1+(bX l d).length)=(5,ci,0)):d9 T (S T n) i= .ok l (i+1+(bX l d).length+1):=by
 unfold d9;rw[bu (by rw[h0];kernel_rfl)];simp only;rw[vU l (T.length+1) [] (i+1) hl (by omega) h1 h2];rfl
theorem ec:∀{l:List St},vSs l=true->∀s∈l,vS s=true
 |[],_,s,h=>by cases h
 |b::l,h,a,ha=>by
  rw[vSs]at h;simp at h;rcases DY.1 ha with rfl|ha
  ·exact h.1
  ·exact ec h.2 a ha
theorem mo{d:Nat}:∀{l:List St} {s:St},s∈l->(plS s d).length<=(bX l d).length
 |b::l,s,h=>by
  rw[bX];simp only[DJ];rcases DY.1 h with rfl|h
  ·omega
  ·have:=mo (d:=d) h;omega
theorem Ax:∀m,Dk T m
 |0,n,d,s,i,hm,_,_,_,_=>by have:=i8 s;omega
 |m+1,n,d,s,i,hm,hn,hv,h,hel=>by
  obtain⟨n,rfl⟩:∃n',n=n'+1:=⟨n-1,by have:=List.length_pos_iff.2 (ow s d);omega⟩
  have sub:∀l:List St,vSs l=true->eN l<=m->(bX l (d+1)).length<=n->∀s∈l,vS s=true/\∀i,AtT T i (tks (plS s (d+1)))->isT T ey (i+(plS s (d+1)).length)=false->S T n i= .ok s (i+(plS s (d+1)).length):=
   λl hv h1 h2 s hs=>⟨ec hv s hs,λi a b=>Ax m n (d+1) s i (by have:=fe hs;omega) (by have:=mo (d:=d+1) hs;omega) (ec hv s hs) a b⟩
  show dJ T (E T (n+1)) (S T n) i=_;rcases gn hv with⟨nm,x,rfl,_,hx⟩|⟨nm,x,rfl,_,hx⟩|⟨nm,x,y,rfl,_,hx,hy⟩|⟨x,b,e,rfl,hx,hb,he⟩|⟨x,b,rfl,hx,hb⟩|⟨nm,x,l,rfl,_,hx,hl⟩|⟨x,rfl,hx⟩|⟨x,y,rfl,hx,hy⟩|⟨nm,x,y,rfl,_,hx,hy⟩|rfl
  ·--let
   have hz:ssz (stE 0 nm [x])=1+esz x:=by simp[stE,ssz,cm,eN]
   have hP:plS (stE 0 nm [x]) d=ln d (pk gW::(sp [pn nm]++(sp [py bL]++(sp (exP 1 x)++[py aN])))):=rfl;rw[hP]at h hn⊢;simp only[DL,DJ,DO,an,bn]at hn;rw[bn];have h:=h.ln';have h0:t3 T i=(4,gW,0):=h.1;have h1:t3 T (i+1)=(2,nm,0):=h.2.1;have h2:t3 T (i+1+1)=(5,bL,0):=h.2.2.1;obtain⟨a1,a2⟩:=AtT.app' (T:=T) (i:=i+1+1+1) (a:=sp (exP 1 x)) (b:=[py aN]) h.2.2.2;rw[an]at a2;have h3:t3 T (i+1+1+1+(exP 1 x).length)=(5,aN,0):=a2.1;have hr:=dR (n:=n) (r:=0) (by show(exP 1 x).length<=n+1;omega) hx (by omega) a1.sp' (by rw[h3];kernel_rfl);rw[show i+(pk gW::(sp [pn nm]++(sp [py bL]++(sp (exP 1 x)++[py aN])))).length=i+1+1+1+(exP 1 x).length+1 by simp[an];omega];refine dW (aj h0 (by kernel_rfl)) (aj h0 (by kernel_rfl)) ?_ h3;unfold aV dm;rw[Ed (aj h0 (by kernel_rfl)),cw h1];simp only;rw[bu (by rw[h2];kernel_rfl)];simp only;rw[hr]
  ·--assign
   have hz:ssz (stE 1 nm [x])=1+esz x:=by simp[stE,ssz,cm,eN]
   have hP:plS (stE 1 nm [x]) d=ln d (pn nm::(sp [py bL]++(sp (exP 1 x)++[py aN]))):=rfl;rw[hP]at h hn⊢;simp only[DL,DJ,DO,an,bn]at hn;rw[bn];have h:=h.ln';have h1:t3 T i=(2,nm,0):=h.1;have h2:t3 T (i+1)=(5,bL,0):=h.2.1;obtain⟨a1,a2⟩:=AtT.app' (T:=T) (i:=i+1+1) (a:=sp (exP 1 x)) (b:=[py aN]) h.2.2;rw[an]at a2;have h3:t3 T (i+1+1+(exP 1 x).length)=(5,aN,0):=a2.1;have hr:=dR (n:=n) (r:=0) (by show(exP 1 x).length<=n+1;omega) hx (by omega) a1.sp' (by rw[h3];kernel_rfl);have kn:∀y:ByteArray,isT T y i=false:=λy=>aj h1 (by unfold isK;simp);rw[show i+(pn nm::(sp [py bL]++(sp (exP 1 x)++[py aN]))).length=i+1+1+(exP 1 x).length+1 by simp[an];omega];refine dW (kn _) (kn _) ?_ h3;unfold aV dm
   rw[DS (by rw[kn];decide),DS (by rw[kn];decide),DS (by rw[kn];decide),DS (by rw[kn];decide),DS (by rw[kn];decide),DS (by rw[kn];decide),
    Ed ⟨(cJ h1).1,(cJ h2).1,(cJ h2).2.1⟩,cw h1]
   simp only;rw[bu (by rw[h2];kernel_rfl)];simp only;rw[hr]
  ·--store
   have hz:ssz (stE 2 nm [x,y])=1+(esz x+esz y):=by simp[stE,ssz,cm,eN]
   have hP:plS (stE 2 nm [x,y]) d=ln d (exP 9 x++(py DOT::pn nm::(sp [py bL]++(sp (exP 1 y)++[py aN])))):=rfl;rw[hP]at h hn⊢;simp only[DL,DJ,DO,an,bn]at hn;rw[bn];obtain⟨a1,a2⟩:=AtT.app' h.ln';have hhd:=a1.hd (eH (cE x));have hbg:=Beg.in_ 9 hx;have h0:t3 T (i+(exP 9 x).length)=(5,DOT,0):=a2.1;have h1:t3 T (i+(exP 9 x).length+1)=(2,nm,0):=a2.2.1;have h2:t3 T (i+(exP 9 x).length+1+1)=(5,bL,0):=a2.2.2.1;obtain⟨a3,a4⟩:=AtT.app' (T:=T) (i:=i+(exP 9 x).length+1+1+1) (a:=sp (exP 1 y)) (b:=[py aN]) a2.2.2.2;rw[an]at a4;have h3:t3 T (i+(exP 9 x).length+1+1+1+(exP 1 y).length)=(5,aN,0):=a4.1;have hr1:=dR (n:=n) (r:=8) (by show(exP 9 x).length<=n+1;omega) hx (by omega) a1 (by rw[h0];kernel_rfl);have hr2:=dR (n:=n) (r:=0) (by show(exP 1 y).length<=n+1;omega) hy (by omega) a3.sp' (by rw[h3];kernel_rfl);have kn:∀z:ByteArray,([gJ,ew,dx,ca,dT,dE,bK,cG].all λy=> !decide (y=z))=true->isT T z i=false:=λz hz=>by rw[cN,hhd];exact hbg.not hz
   have hno:¬((tk T i).1=2/\(tk T (i+1)).1=5/\(tk T (i+1)).2.1=bL):=λ⟨e1,e2,e3⟩=>by
    obtain⟨s,hs⟩:=rM hx (by rw[<-hhd];exact e1);rw[hs]at h0;have:=(cJ (show t3 T (i+1)=(5,DOT,0)from h0)).2.1;rw[e3]at this;exact absurd this (by intro h;have:=Fo (λb:ByteArray=>b.data.toList) h;exact absurd this (by decide))
   rw[show i+(exP 9 x++(py DOT::pn nm::(sp [py bL]++(sp (exP 1 y)++[py aN])))).length=i+(exP 9 x).length+1+1+1+(exP 1 y).length+1 by simp[an];omega];refine dW (kn _ (by kernel_rfl)) (kn _ (by kernel_rfl)) ?_ h3;unfold aV fq
   rw[DS (by rw[kn _ (by kernel_rfl)];decide),DS (by rw[kn _ (by kernel_rfl)];decide),DS (by rw[kn _ (by kernel_rfl)];decide),DS (by rw[kn _ (by kernel_rfl)];decide),DS (by rw[kn _ (by kernel_rfl)];decide),
    DS (by rw[kn _ (by kernel_rfl)];decide),DS hno,hr1]
   simp only;rw[bu (by rw[h0];kernel_rfl)];simp only;rw[cw h1];simp only;rw[bu (by rw[h2];kernel_rfl)];simp only;rw[hr2]
  ·--if
   have hz:ssz (.mk 3 ⟨#[]⟩ [x] b e)=1+esz x+eN b+eN e:=by simp[ssz,cm]
   have hP:plS (.mk 3 ⟨#[]⟩ [x] b e) d=ln d (pk kIf::(sp (exP 1 x)++sp [py cu]))++(bX b (d+1)++((if e.isEmpty=true then[]else ln d (py ci::(sp [pk ey]++sp [py cu]))++bX e (d+1))++ln d [py ci])):=by rw[plS];rfl
   rw[hP]at h hel hn⊢;simp only[DL,DJ,DO,an,bn]at hn;obtain⟨a1,a2⟩:=AtT.app' h;rw[bn]at a2;have a1:=a1.ln';have h0:t3 T i=(4,kIf,0):=a1.1;obtain⟨a3,a4⟩:=AtT.app' (T:=T) (i:=i+1) (a:=sp (exP 1 x)) (b:=sp [py cu]) a1.2;rw[an]at a4;have h1:t3 T (i+1+(exP 1 x).length)=(5,cu,0):=a4.1;rw[show i+(pk kIf::(sp (exP 1 x)++sp [py cu])).length=i+1+(exP 1 x).length+1 by simp[an];omega]at a2;obtain⟨a5,a6⟩:=AtT.app' a2;have hr:=dR (n:=n) (r:=0) (by show(exP 1 x).length<=n+1;omega) hx (by omega) a3.sp' (by rw[h1];kernel_rfl);unfold dJ ifT;rw[Ed (aj h0 (by kernel_rfl)),hr];simp only;cases e with
   |nil=>
    simp only[List.isEmpty_nil,FZ,DO]at hn;have h2:t3 T (i+1+(exP 1 x).length+1+(bX b (d+1)).length)=(5,ci,0):=(show AtT T _ (tks (ln d [py ci]))from a6).ln'.1;have hbl:=iv (sub b hb (by omega) (by omega)) h1 a5 h2;rw[show i+(ln d (pk kIf::(sp (exP 1 x)++sp [py cu]))++(bX b (d+1)++((if([]:List St).isEmpty=true then[]else ln d (py ci::(sp [pk ey]++sp [py cu]))++bX [] (d+1))++ln d [py ci]))).length=i+1+(exP 1 x).length+1+(bX b (d+1)).length+1 by simp[an,bn];omega]at hel⊢;rw[hbl];simp only;rw[DS (by rw[hel];decide)]
   |cons s e=>
    simp only[List.isEmpty_cons,FP,if_false,DL,DJ,DO,an,bn]at hn;obtain⟨a7,a8⟩:=AtT.app' (show AtT T _ (tks ((ln d (py ci::(sp [pk ey]++sp [py cu]))++bX (s::e) (d+1))++ln d [py ci]))from a6);obtain⟨a9,a10⟩:=AtT.app' a7;rw[bn]at a10;have a9:=a9.ln';have h2:t3 T (i+1+(exP 1 x).length+1+(bX b (d+1)).length)=(5,ci,0):=a9.1;have h3:t3 T (i+1+(exP 1 x).length+1+(bX b (d+1)).length+1)=(4,ey,0):=a9.2.1;have h4:t3 T (i+1+(exP 1 x).length+1+(bX b (d+1)).length+1+1)=(5,cu,0):=a9.2.2.1;have hbl:=iv (sub b hb (by omega) (by omega)) h1 a5 h2
    have h5:t3 T (i+1+(exP 1 x).length+1+(bX b (d+1)).length+1+1+1+(bX (s::e) (d+1)).length)=(5,ci,0):=by
     have:=a8.ln'.1;rw[show i+1+(exP 1 x).length+1+(bX b (d+1)).length+(ln d (py ci::(sp [pk ey]++sp [py cu]))++bX (s::e) (d+1)).length=i+1+(exP 1 x).length+1+(bX b (d+1)).length+1+1+1+(bX (s::e) (d+1)).length by simp[an,bn];omega]at this;exact this
    have hbe:=iv (sub (s::e) he (by omega) (by omega)) h4 a10 h5;rw[hbl];simp only;rw[Ed (aj h3 (by kernel_rfl)),hbe];simp only
    congr 1
    simp[an,bn];omega
  ·--while
   have hz:ssz (.mk 4 ⟨#[]⟩ [x] b [])=1+esz x+eN b:=by simp[ssz,cm,eN]
   have hP:plS (.mk 4 ⟨#[]⟩ [x] b []) d=ln d (pk dD::(sp (exP 1 x)++sp [py cu]))++(bX b (d+1)++ln d [py ci]):=by rw[plS];rfl
   rw[hP]at h hn⊢;simp only[DL,DJ,DO,an,bn]at hn;obtain⟨a1,a2⟩:=AtT.app' h;rw[bn]at a2;have a1:=a1.ln';have h0:t3 T i=(4,dD,0):=a1.1;obtain⟨a3,a4⟩:=AtT.app' (T:=T) (i:=i+1) (a:=sp (exP 1 x)) (b:=sp [py cu]) a1.2;rw[an]at a4;have h1:t3 T (i+1+(exP 1 x).length)=(5,cu,0):=a4.1;rw[show i+(pk dD::(sp (exP 1 x)++sp [py cu])).length=i+1+(exP 1 x).length+1 by simp[an];omega]at a2;obtain⟨a5,a6⟩:=AtT.app' a2;have h2:t3 T (i+1+(exP 1 x).length+1+(bX b (d+1)).length)=(5,ci,0):=a6.ln'.1;have hr:=dR (n:=n) (r:=0) (by show(exP 1 x).length<=n+1;omega) hx (by omega) a3.sp' (by rw[h1];kernel_rfl);have hbl:=iv (sub b hb (by omega) (by omega)) h1 a5 h2;rw[show i+(ln d (pk dD::(sp (exP 1 x)++sp [py cu]))++(bX b (d+1)++ln d [py ci])).length=i+1+(exP 1 x).length+1+(bX b (d+1)).length+1 by simp[an,bn];omega];unfold dJ iX;rw[DS (by rw[aj h0 (show _=false by kernel_rfl)];decide),Ed (aj h0 (by kernel_rfl)),hr];simp only;rw[hbl]
  ·--send
   have hz:ssz (stE 5 nm (x::l))=1+(esz x+cm l):=by simp[stE,ssz,cm,eN]
   have hP:plS (stE 5 nm (x::l)) d=ln d (pk fa::(sp (exP 8 x)++(py DOT::pn nm::(aq (plL l)++[py aN])))):=rfl;rw[hP]at h hn⊢;simp only[DL,DJ,DO,an,bn]at hn;rw[bn];have h:=h.ln';have h0:t3 T i=(4,fa,0):=h.1;obtain⟨a1,a2⟩:=AtT.app' (T:=T) (i:=i+1) (a:=sp (exP 8 x)) (b:=py DOT::pn nm::(aq (plL l)++[py aN])) h.2;rw[an]at a2;have h1:t3 T (i+1+(exP 8 x).length)=(5,DOT,0):=a2.1;have h2:t3 T (i+1+(exP 8 x).length+1)=(2,nm,0):=a2.2.1;obtain⟨a3,a4⟩:=AtT.app' (T:=T) (i:=i+1+(exP 8 x).length+1+1) (a:=aq (plL l)) (b:=[py aN]) a2.2.2;have h3:t3 T (i+1+(exP 8 x).length+1+1+(aq (plL l)).length)=(5,aN,0):=a4.1;obtain⟨K,hK,hr⟩:=m9 (T:=T) (n:=n) (esz x) x (DK _) (by omega) hx (i+1) a1.sp' h1;have hlt:=fK h1 (by decide);obtain⟨K,rfl⟩:∃K',K=K'+1:=⟨K-1,by omega⟩;have hls:=oE (good m) (n:=n) (l:=l) (i:=i+1+(exP 8 x).length+1+1) (λa ha=>⟨by have:=iI ha;omega,by have:=jK ha;omega,cI hl a ha⟩) a3
   have hlp:isT T cG (i+1+(exP 8 x).length+1+1)=true:=by
    rw[cN,a3.hd (by cases l<;>simp[plL,aq])];cases l<;>exact(by kernel_rfl:isK cG (5,cG,0)=true)
   rw[show i+(pk fa::(sp (exP 8 x)++(py DOT::pn nm::(aq (plL l)++[py aN])))).length=i+1+(exP 8 x).length+1+1+(aq (plL l)).length+1 by simp[an];omega];refine dW (aj h0 (by kernel_rfl)) (aj h0 (by kernel_rfl)) ?_ h3;unfold aV;rw[DS (by rw[aj h0 (show _=false by kernel_rfl)];decide),Ed (aj h0 (by kernel_rfl)),hr];show(match bj T DOT (i+1+(exP 8 x).length)with| .bad j=>_| .ok _ j=>_)=_;rw[bu (by rw[h1];kernel_rfl)];simp only;rw[cw h2];simp only;rw[Ed hlp,hls]
  ·--print
   have hz:ssz (stE 6 ⟨#[]⟩ [x])=1+esz x:=by simp[stE,ssz,cm,eN]
   have hP:plS (stE 6 ⟨#[]⟩ [x]) d=ln d (pk dS::(sp (exP 1 x)++[py aN])):=rfl;rw[hP]at h hn⊢;simp only[DL,DJ,DO,an,bn]at hn;rw[bn];have h:=h.ln';have h0:t3 T i=(4,dS,0):=h.1;obtain⟨a1,a2⟩:=AtT.app' (T:=T) (i:=i+1) (a:=sp (exP 1 x)) (b:=[py aN]) h.2;rw[an]at a2;have h3:t3 T (i+1+(exP 1 x).length)=(5,aN,0):=a2.1;have hr:=dR (n:=n) (r:=0) (by show(exP 1 x).length<=n+1;omega) hx (by omega) a1.sp' (by rw[h3];kernel_rfl);rw[show i+(pk dS::(sp (exP 1 x)++[py aN])).length=i+1+(exP 1 x).length+1 by simp[an];omega];refine dW (aj h0 (by kernel_rfl)) (aj h0 (by kernel_rfl)) ?_ h3;unfold aV;rw[DS (by rw[aj h0 (show _=false by kernel_rfl)];decide),DS (by rw[aj h0 (show _=false by kernel_rfl)];decide),Ed (aj h0 (by kernel_rfl)),hr]
  ·--move
   have hz:ssz (stE 7 ⟨#[]⟩ [x,y])=1+(esz x+esz y):=by simp[stE,ssz,cm,eN]
   have hP:plS (stE 7 ⟨#[]⟩ [x,y]) d=ln d (pk fM::(sp (exP 1 x)++(sp [pk kTo]++(sp (exP 1 y)++[py aN])))):=rfl;rw[hP]at h hn⊢;simp only[DL,DJ,DO,an,bn]at hn;rw[bn];have h:=h.ln';have h0:t3 T i=(4,fM,0):=h.1;obtain⟨a1,a2⟩:=AtT.app' (T:=T) (i:=i+1) (a:=sp (exP 1 x)) (b:=sp [pk kTo]++(sp (exP 1 y)++[py aN])) h.2;rw[an]at a2;have h1:t3 T (i+1+(exP 1 x).length)=(4,kTo,0):=a2.1;obtain⟨a3,a4⟩:=AtT.app' (T:=T) (i:=i+1+(exP 1 x).length+1) (a:=sp (exP 1 y)) (b:=[py aN]) a2.2;rw[an]at a4;have h3:t3 T (i+1+(exP 1 x).length+1+(exP 1 y).length)=(5,aN,0):=a4.1;have hr1:=dR (n:=n) (r:=0) (by show(exP 1 x).length<=n+1;omega) hx (by omega) a1.sp' (by rw[h1];kernel_rfl);have hr2:=dR (n:=n) (r:=0) (by show(exP 1 y).length<=n+1;omega) hy (by omega) a3.sp' (by rw[h3];kernel_rfl);rw[show i+(pk fM::(sp (exP 1 x)++(sp [pk kTo]++(sp (exP 1 y)++[py aN])))).length=i+1+(exP 1 x).length+1+(exP 1 y).length+1 by simp[an];omega];refine dW (aj h0 (by kernel_rfl)) (aj h0 (by kernel_rfl)) ?_ h3;unfold aV jI;rw[DS (by rw[aj h0 (show _=false by kernel_rfl)];decide),DS (by rw[aj h0 (show _=false by kernel_rfl)];decide),DS (by rw[aj h0 (show _=false by kernel_rfl)];decide),Ed (aj h0 (by kernel_rfl)),hr1];simp only;rw[bu (by rw[h1];kernel_rfl)];simp only;rw[hr2]
  ·--watch
   have hz:ssz (stE 8 nm [x,y])=1+(esz x+esz y):=by simp[stE,ssz,cm,eN]
   have hP:plS (stE 8 nm [x,y]) d=ln d (pk eE::(sp (exP 1 x)++(sp [pk kBy]++(sp [pn nm]++(py cG::(plE y++[py da])++[py aN]))))):=rfl;have hY:exP 1 y=plE y:=by unfold exP inP;rw[DS (by have:=tg y;omega)]
   have hYl:(exP 1 y).length=(plE y).length:=by rw[hY]
   rw[hP]at h hn⊢;simp only[DL,DJ,DO,an,bn]at hn;rw[bn];have h:=h.ln';have h0:t3 T i=(4,eE,0):=h.1;obtain⟨a1,a2⟩:=AtT.app' (T:=T) (i:=i+1) (a:=sp (exP 1 x)) (b:=sp [pk kBy]++(sp [pn nm]++(py cG::(plE y++[py da])++[py aN]))) h.2;rw[an]at a2;have h1:t3 T (i+1+(exP 1 x).length)=(4,kBy,0):=a2.1;have h2:t3 T (i+1+(exP 1 x).length+1)=(2,nm,0):=a2.2.1;have h3:t3 T (i+1+(exP 1 x).length+1+1)=(5,cG,0):=a2.2.2.1;obtain⟨a3,a4⟩:=AtT.app' (T:=T) (i:=i+1+(exP 1 x).length+1+1+1) (a:=exP 1 y) (b:=[py da,py aN]) (by rw[hY,show plE y++[py da,py aN]=(plE y++[py da])++[py aN] by simp];exact a2.2.2.2);have h4:t3 T (i+1+(exP 1 x).length+1+1+1+(exP 1 y).length)=(5,da,0):=a4.1;have h5:t3 T (i+1+(exP 1 x).length+1+1+1+(exP 1 y).length+1)=(5,aN,0):=a4.2.1;have hr1:=dR (n:=n) (r:=0) (by show(exP 1 x).length<=n+1;omega) hx (by omega) a1.sp' (by rw[h1];kernel_rfl);have hr2:=dR (n:=n) (r:=0) (by show(exP 1 y).length<=n+1;omega) hy (by omega) a3 (by rw[h4];kernel_rfl);rw[show i+(pk eE::(sp (exP 1 x)++(sp [pk kBy]++(sp [pn nm]++(py cG::(plE y++[py da])++[py aN]))))).length=i+1+(exP 1 x).length+1+1+1+(exP 1 y).length+1+1 by rw[hY];simp[an];omega];refine dW (aj h0 (by kernel_rfl)) (aj h0 (by kernel_rfl)) ?_ h5;unfold aV eT;rw[DS (by rw[aj h0 (show _=false by kernel_rfl)];decide),DS (by rw[aj h0 (show _=false by kernel_rfl)];decide),DS (by rw[aj h0 (show _=false by kernel_rfl)];decide),DS (by rw[aj h0 (show _=false by kernel_rfl)];decide),Ed (aj h0 (by kernel_rfl)),hr1];simp only;rw[bu (by rw[h1];kernel_rfl)];simp only;rw[cw h2];simp only;rw[bu (by rw[h3];kernel_rfl)];simp only;rw[hr2];simp only;rw[bu (by rw[h4];kernel_rfl)]
  ·--return
   have hP:plS (stE 9 ⟨#[]⟩ []) d=ln d [pk dQ,py aN]:=rfl;rw[hP]at h hn⊢;simp only[DL,DJ,DO,an,bn]at hn;rw[bn];have h:=h.ln';have h0:t3 T i=(4,dQ,0):=h.1;have h3:t3 T (i+1)=(5,aN,0):=h.2.1;refine dW (j:=i+1) (aj h0 (by kernel_rfl)) (aj h0 (by kernel_rfl)) ?_ h3;unfold aV
   rw[DS (by rw[aj h0 (show _=false by kernel_rfl)];decide),DS (by rw[aj h0 (show _=false by kernel_rfl)];decide),DS (by rw[aj h0 (show _=false by kernel_rfl)];decide),DS (by rw[aj h0 (show _=false by kernel_rfl)];decide),
    DS (by rw[aj h0 (show _=false by kernel_rfl)];decide),Ed (aj h0 (by kernel_rfl))]
end
def nmX(s:ByteArray):Nat×List Pc:=(9,[pn s])
def fdP(f:ByteArray):List Pc:=ln 1 (pk ql::(sp [pn f]++[py aN]))
def gy:List ByteArray->List Pc
 |[]=>[]
 |f::l=>fdP f++gy l
def meP(m:Me):List Pc:=ln 1 (pk kOn::(sp [pn m.nm]++(aq (m.params.map nmX)++sp [py cu])))++(bX m.body 2++ln 1 [py ci])
def fY:List Me->List Pc
 |[]=>[]
 |m::l=>meP m++fY l
def clP(c:Cl):List Pc:=ln 0 (pk (if c.actor=true then eF else et)::(sp [pc c.nm]++sp [py cu]))++(gy c.fields++(fY c.methods++ln 0 [py ci]))
def prP:List Cl->List Pc
 |[]=>[]
 |c::l=>clP c++prP l
def vNm(l:List ByteArray):Bool:=l.all λs=>aO s 97 122
def vMe(m:Me):Bool:=aO m.nm 97 122&&(vNm m.params&&vSs m.body)
def vCl(c:Cl):Bool:=aO c.nm 65 90&&(vNm c.fields&&((c.actor||c.methods.isEmpty)&&c.methods.all vMe))
def vPr(l:List Cl):Bool:=l.all vCl
section
variable{T:List Tk}
theorem pq:∀(l xs:List ByteArray) (K i:Nat),T.length+1<=K+i->AtT T i (tks (dA (l.map nmX)))->dt T (bO T 2) K xs i= .ok (xs++l) (i+(dA (l.map nmX)).length)
 |[],xs,K,i,hK,h=>by
  have h0:t3 T i=(5,da,0):=h.1;have hlt:=fK h0 (by decide);obtain⟨K,rfl⟩:∃K',K=K'+1:=⟨K-1,by omega⟩;unfold dt;rw[DS (by rw[aj h0 (show _=false by kernel_rfl)];decide),bu (by rw[h0];kernel_rfl),Eo];rfl
 |a::l,xs,K,i,hK,h=>by
  have h0:t3 T i=(5,iw,0):=h.1;have h1:t3 T (i+1)=(2,a,0):=h.2.1;have hlt:=fK h0 (by decide);obtain⟨K,rfl⟩:∃K',K=K'+1:=⟨K-1,by omega⟩;unfold dt;rw[Ed (aj h0 (by kernel_rfl)),cw h1];simp only;rw[pq l (xs++[a]) K (i+1+1) (by omega) h.2.2];simp[dA,nmX,sp];omega
theorem vj(h:AtT T i (tks (aq (l.map nmX)))):bZ T (bO T 2) i= .ok l (i+(aq (l.map nmX)).length):=by
 cases l with
 |nil=>
  have h0:t3 T i=(5,cG,0):=h.1;have h1:t3 T (i+1)=(5,da,0):=h.2.1;unfold bZ;rw[bu (by rw[h0];kernel_rfl)];simp only;rw[Ed (aj h1 (by kernel_rfl))];rfl
 |cons a l=>
  have h0:t3 T i=(5,cG,0):=h.1;have h1:t3 T (i+1)=(2,a,0):=h.2.1;unfold bZ;rw[bu (by rw[h0];kernel_rfl)];simp only;rw[DS (by rw[aj h1 (show isK da (2,a,0)=false by unfold isK;simp)];decide),cw h1];simp only;rw[pq l [a] (T.length+1) (i+1+1) (by omega) h.2.2];simp[aq,nmX];omega
theorem sJ:∀(l fs:List ByteArray) (K i:Nat),T.length+1<=K+i->AtT T i (tks (gy l))->i+(gy l).length<T.length->isT T ql (i+(gy l).length)=false->bP T K fs i= .ok (fs++l) (i+(gy l).length)
 |[],fs,K,i,hK,h,hl,hn=>by
  have hl:i+0<T.length:=hl;obtain⟨K,rfl⟩:∃K',K=K'+1:=⟨K-1,by omega⟩;unfold bP;rw[DS (by rw[show isT T ql i=false from hn];decide),Eo];rfl
 |a::l,fs,K,i,hK,h,hl,hn=>by
  have hlen:i+(gy (a::l)).length=i+1+1+1+(gy l).length:=by rw[gy];simp[fdP,bn,an];omega
  rw[hlen]at hl hn⊢;obtain⟨a1,a2⟩:=AtT.app' (a:=fdP a) h;have a1:=a1.ln';have h0:t3 T i=(4,ql,0):=a1.1;have h1:t3 T (i+1)=(2,a,0):=a1.2.1;have h2:t3 T (i+1+1)=(5,aN,0):=a1.2.2.1;rw[show i+(fdP a).length=i+1+1+1 by simp[fdP,bn,an]<;>omega]at a2;obtain⟨K,rfl⟩:∃K',K=K'+1:=⟨K-1,by omega⟩;unfold bP;rw[Ed (aj h0 (by kernel_rfl)),cw h1];simp only;rw[bu (by rw[h2];kernel_rfl)];simp only;rw[sJ l (fs++[a]) K (i+1+1+1) (by omega) a2 hl hn];simp
theorem nQ{n:Nat}(hv:vMe m=true)(hn:(meP m).length<=n)(h:AtT T i (tks (meP m))):t3 T i=(4,kOn,0)/\ff T n (i+1)= .ok m (i+(meP m).length):=by
 unfold vMe at hv;simp only[Ee]at hv;obtain⟨v1,v2,v3⟩:=hv;obtain⟨a1,a2⟩:=AtT.app' h;rw[bn]at a2;have a1:=a1.ln';have h0:t3 T i=(4,kOn,0):=a1.1;have h1:t3 T (i+1)=(2,m.nm,0):=a1.2.1;obtain⟨a3,a4⟩:=AtT.app' (T:=T) (i:=i+1+1) (a:=aq (m.params.map nmX)) (b:=sp [py cu]) a1.2.2;have h2:t3 T (i+1+1+(aq (m.params.map nmX)).length)=(5,cu,0):=a4.1;rw[show i+(pk kOn::(sp [pn m.nm]++(aq (m.params.map nmX)++sp [py cu]))).length=i+1+1+(aq (m.params.map nmX)).length+1 by simp[an];omega]at a2;obtain⟨a5,a6⟩:=AtT.app' a2;have h3:t3 T (i+1+1+(aq (m.params.map nmX)).length+1+(bX m.body 2).length)=(5,ci,0):=a6.ln'.1;have hlen:(meP m).length=1+1+(aq (m.params.map nmX)).length+1+(bX m.body 2).length+1:=by simp[meP,bn,an];omega
 have hbl:=iv (T:=T) (n:=n) (d:=2) (l:=m.body) (λs hs=>⟨ec v3 s hs,λi a b=>Ax (ssz s) n 2 s i (DK _) (by have:=mo (d:=2) hs;omega) (ec v3 s hs) a b⟩) h2 a5 h3;refine⟨h0,?_⟩;unfold ff;rw[cw h1];simp only;rw[vj a3];simp only;rw[hbl,hlen];simp only
 congr 1
 omega
theorem Br(m:Me):meP m≠[]:=λh=>qh (d:=1) (by simp) (List.append_eq_nil_iff.1 h).1
theorem mu{n:Nat}:∀(l ms:List Me) (K i:Nat),(∀m∈l,vMe m=true)->(fY l).length<=n->T.length+1<=K+i->AtT T i (tks (fY l))->i+(fY l).length<T.length->isT T kOn (i+(fY l).length)=false->
 aM T n K ms i= .ok (ms++l) (i+(fY l).length)
 |[],ms,K,i,_,_,hK,h,hl,hn=>by
  have hl:i+0<T.length:=hl;obtain⟨K,rfl⟩:∃K',K=K'+1:=⟨K-1,by omega⟩;unfold aM;rw[DS (by rw[show isT T kOn i=false from hn];decide),Eo];rfl
 |m::l,ms,K,i,hv,hN,hK,h,hl,hn=>by
  have hlen:i+(fY (m::l)).length=i+(meP m).length+(fY l).length:=by rw[fY];simp;omega
  have hle:(fY (m::l)).length=(meP m).length+(fY l).length:=by rw[fY];simp
  have hpos:1<=(meP m).length:=List.length_pos_iff.2 (Br m);rw[hlen]at hl hn⊢;obtain⟨a1,a2⟩:=AtT.app' (a:=meP m) h;obtain⟨h0,h1⟩:=nQ (n:=n) (hv m (by simp)) (by omega) a1;obtain⟨K,rfl⟩:∃K',K=K'+1:=⟨K-1,by omega⟩;unfold aM;rw[Ed (aj h0 (by kernel_rfl)),h1];simp only;rw[mu l (ms++[m]) K (i+(meP m).length) (λb hb=>hv b (by simp[hb])) (by omega) (by omega) a2 hl hn];simp
theorem yh{n:Nat}{c:Cl}(hv:vCl c=true)(hn:(clP c).length<=n)(h:AtT T i (tks (clP c))):t3 T i=(4,if c.actor=true then eF else et,0)/\cZ T n c.actor (i+1)= .ok c (i+(clP c).length):=by
 unfold vCl at hv;simp only[Ee,EY,List.isEmpty_iff,Ec]at hv;obtain⟨v1,v2,v3,v4⟩:=hv;obtain⟨a1,a2⟩:=AtT.app' h;rw[bn]at a2;have a1:=a1.ln';have h0:t3 T i=(4,if c.actor=true then eF else et,0):=a1.1;have h1:t3 T (i+1)=(3,c.nm,0):=a1.2.1;have h2:t3 T (i+1+1)=(5,cu,0):=a1.2.2.1;rw[show i+(pk (if c.actor=true then eF else et)::(sp [pc c.nm]++sp [py cu])).length=i+1+1+1 by simp[an]<;>omega]at a2;obtain⟨a3,a4⟩:=AtT.app' a2;obtain⟨a5,a6⟩:=AtT.app' a4;have h3:t3 T (i+1+1+1+(gy c.fields).length+(fY c.methods).length)=(5,ci,0):=a6.ln'.1;have hlt:=fK h3 (by decide);have hlen:(clP c).length=1+1+1+(gy c.fields).length+(fY c.methods).length+1:=by simp[clP,bn,an];omega
 have hnv:isT T ql (i+1+1+1+(gy c.fields).length)=false:=by
  cases hm:c.methods with
  |nil=>rw[hm]at h3;exact aj h3 (by kernel_rfl)
  |cons m l=>
   rw[hm]at a5;have:=(nQ (n:=(meP m).length) (v4 m (by simp[hm])) (DK _) (AtT.app' (a:=meP m) a5).1).1;exact aj this (by kernel_rfl)
 have hno:isT T kOn (i+1+1+1+(gy c.fields).length+(fY c.methods).length)=false:=aj h3 (by kernel_rfl);refine⟨h0,?_⟩;unfold cZ;rw[cw h1];simp only;rw[bu (by rw[h2];kernel_rfl)];simp only;rw[sJ c.fields [] (T.length+1) (i+1+1+1) (by omega) a3 (by omega) hnv];simp only
 have hms:(if c.actor=true then aM T n (T.length+1) [] (i+1+1+1+(gy c.fields).length)else .ok [] (i+1+1+1+(gy c.fields).length))= .ok c.methods (i+1+1+1+(gy c.fields).length+(fY c.methods).length):=by
  by_cases ha:c.actor=true
  ·rw[Ed ha,mu c.methods [] (T.length+1) _ v4 (by omega) (by omega) a5 hlt hno];simp
  ·have hm:=v3.resolve_left ha;rw[DS ha,hm];rfl
 rw[hms];simp only;rw[bu (by rw[h3];kernel_rfl)];simp only;rw[hlen];obtain⟨a,b,c',d⟩:=c;simp only[EG]
 congr 1
 omega
theorem Ca(c:Cl):clP c≠[]:=λh=>qh (d:=0) (by simp) (List.append_eq_nil_iff.1 h).1
theorem mV{n:Nat}:∀(l cs:List Cl) (K i:Nat),(∀c∈l,vCl c=true)->(prP l).length<=n->T.length+1<=K+i->AtT T i (tks (prP l))->i+(prP l).length<T.length->t3 T (i+(prP l).length)=(0,⟨#[]⟩,0)->
 cr T n K cs i= .ok (cs++l) (i+(prP l).length)
 |[],cs,K,i,_,_,hK,h,hl,hn=>by
  have hl:i+0<T.length:=hl;have hn:t3 T i=(0,⟨#[]⟩,0):=hn;obtain⟨K,rfl⟩:∃K',K=K'+1:=⟨K-1,by omega⟩;unfold cr;rw[DS (by rw[aj hn (show _=false by kernel_rfl)];decide),DS (by rw[aj hn (show _=false by kernel_rfl)];decide),Ed (cJ hn).1,Eo];rfl
 |c::l,cs,K,i,hv,hN,hK,h,hl,hn=>by
  have hlen:i+(prP (c::l)).length=i+(clP c).length+(prP l).length:=by rw[prP];simp;omega
  have hle:(prP (c::l)).length=(clP c).length+(prP l).length:=by rw[prP];simp
  have hpos:1<=(clP c).length:=List.length_pos_iff.2 (Ca c);rw[hlen]at hl hn⊢;obtain⟨a1,a2⟩:=AtT.app' (a:=clP c) h;obtain⟨h0,h1⟩:=yh (n:=n) (hv c (by simp)) (by omega) a1;obtain⟨K,rfl⟩:∃K',K=K'+1:=⟨K-1,by omega⟩;have ih:=mV (n:=n) l (cs++[c]) K (i+(clP c).length) (λb hb=>hv b (by simp[hb])) (by omega) (by omega) a2 hl hn;unfold cr;by_cases ha:c.actor=true
  ·rw[Ed ha]at h0;rw[ha]at h1;rw[Ed (aj h0 (by kernel_rfl)),h1];simp only;rw[ih];simp
  ·rw[DS ha]at h0;rw[Bool.not_eq_true]at ha;rw[ha]at h1;rw[DS (by rw[aj h0 (show _=false by kernel_rfl)];decide),Ed (aj h0 (by kernel_rfl)),h1];simp only;rw[ih];simp
theorem rs(hv:vPr cs=true)(h:AtT T 0 (tks (prP cs)))(hl:T.length=(prP cs).length+1)(he:t3 T (prP cs).length=(0,⟨#[]⟩,0)):dr T= .ok cs (prP cs).length:=by
 unfold dr;have:=mV (T:=T) (n:=T.length+1) cs [] (T.length+1) 0 (by unfold vPr at hv;simpa using hv) (by omega) (by omega) h (by omega) (by rw[ET];exact he);rw[this];simp
end
def ic(k:Int)(r:List UInt8):Bool:=r.head?.all λc=>if k=5 then c !=61 else !fS c
def zC:Int:=2305843009213693951
def okT(t:TK):Prop:=(∃z:Int,t=(1,⟨(Lib.itoa z).toArray⟩,z)/\0<=z/\z<=zC)\/(∃s,t=(2,s,0)/\aO s 97 122=true)\/(∃s,t=(3,s,0)/\aO s 65 90=true)\/(∃s,t=(4,s,0)/\s∈kwL)\/∃s,t=(5,s,0)/\s∈bC
theorem ve(c:UInt8):fS c=eY c:=by
 unfold fS eV ea eY
 have e:(c==95)=decide ((c.toNat:Int)=95):=by
  by_cases h:c=95
  ·subst h;decide
  ·have:c.toNat≠95:=λhe=>h (UInt8.toNat_inj.1 he);rw[DM.2 h,Fy (by omega)]
 rw[e];rw[Bool.eq_iff_iff];simp only[EY,Ee,Ep];omega
theorem tw{p:UInt8->Bool}:∀{s r:List UInt8},s.all p=true->(r.head?.all λc=> !p c)=true->(s++r).takeWhile p=s/\(s++r).dropWhile p=r
 |[],[],_,_=>⟨rfl,rfl⟩
 |[],c::r,_,h=>by
  simp at h;simp[List.takeWhile,List.dropWhile,h]
 |a::s,r,h,h2=>by
  simp only[List.all_cons,Ee]at h;obtain⟨h3,h4⟩:=tw (s:=s) (r:=r) h.2 h2;simp[List.takeWhile,List.dropWhile,h.1,h3,h4]
theorem rV{s:ByteArray}(h:s∈l):inB l s=true:=by
 unfold inB;rw[Fs];exact⟨s,h,by simp⟩
theorem lL{s:ByteArray}(h:inB l s=true):s∈l:=by
 unfold inB at h;rw[Fs]at h;obtain⟨x,hx,he⟩:=h;rw[FG,EN,EN]at he
 have:x=s:=by
  obtain⟨⟨a⟩⟩:=x;obtain⟨⟨b⟩⟩:=s;simp at he;rw[he]
 rwa[<-this]
theorem jZ(s:ByteArray):ba s.data.toList=s:=by obtain⟨⟨l⟩⟩:=s;rfl
theorem lO{s:ByteArray}{r:List UInt8}{c:UInt8}{l:List UInt8}(hs:s.data.toList=c::l)(hc:eV c=true)(hw:s.data.toList.all fS=true)(hl:s.data.toList.length<=31)(hr:ic 4 r=true):
 eB (s.data.toList++r)= .tok (if inB kwL s=true then 4 else if c.toNat<=90 then 3 else 2) s.data.toList 0:=by
 have hr':(r.head?.all λc=> !fS c)=true:=hr;obtain⟨t1,_⟩:=tw (r:=r) hw hr'
 have e:eB (s.data.toList++r)=nP (s.data.toList++r):=by
  rw[hs];unfold eB;show(if eV c=true then nP (c::(l++r))else _)=_;rw[Ed hc];rfl
 rw[e];unfold nP;simp only;rw[t1,DS (by omega),jZ,hs];simp
theorem fy{s:ByteArray}{lo hi:Int}(h:aO s lo hi=true):∃c l,s.data.toList=c::l/\lo<=(c.toNat:Int)/\(c.toNat:Int)<=hi/\inB kwL s=false/\s.data.toList.all fS=true/\s.data.toList.length<=31:=by
 unfold aO at h;cases hs:s.data.toList with
 |nil=>rw[hs]at h;cases h
 |cons c l=>
  rw[hs]at h;simp only[Ee,Ep,FE]at h;obtain⟨⟨⟨⟨h1,h2⟩,h3⟩,h4⟩,h5⟩:=h;refine⟨c,l,rfl,h2,h3,h4,?_,?_⟩
  ·rw[<-h5];congr 1;exact funext λc=>ve c
  ·rw[<-hs];exact h1
theorem vu(n:Nat):iM (Lib.decDigits n)=n:=by
 induction n using Nat.strongRecOn with
 |_ n ih=>
  by_cases h:n<10
  ·have e:(UInt8.ofNat (48+n)).toNat=48+n:=by simp;omega
   rw[cH h];unfold iM;simp only[List.foldl,e];omega
  ·have e:(UInt8.ofNat (48+n%10)).toNat=48+n%10:=by simp;omega
   have:=ih (n/10) (by omega);rw[fC (by omega)];unfold iM at this⊢;rw[List.foldl_append,this];simp only[List.foldl,e];omega
theorem xZ(n:Nat):10<=n->(Lib.decDigits n).head?≠some 48:=by
 induction n using Nat.strongRecOn with
 |_ n ih=>
  intro h;rw[fC h];obtain⟨c,l,hc,h1,h2⟩:=iu (n/10);rw[hc];show some c≠some 48;by_cases h10:n/10<10
  ·rw[cH h10]at hc;have e:(UInt8.ofNat (48+n/10)).toNat=48+n/10:=by simp;omega
   intro he;injection he with he;subst he;injection hc with hc;have:=Fo UInt8.toNat hc;rw[e]at this;have:48+n/10=48:=this;omega
  ·have:=ih (n/10) (by omega) (by omega);rw[hc]at this;exact this
theorem zY(n:Nat):(Lib.decDigits n).all ea=true:=by
 rw[Ec];intro c hc;have:=dv n c hc;unfold ea;simp[this]
theorem oT{c:UInt8}(h:fS c=false):ea c=false/\eV c=false/\(c==95)=false:=by
 unfold fS at h;simp only[Bool.or_eq_false_iff]at h;exact⟨h.1.2,h.1.1,h.2⟩
theorem zt{z:Int}{r:List UInt8}(h0:0<=z)(h1:z<=zC)(hr:ic 1 r=true):eB (Lib.itoa z++r)= .tok 1 (Lib.itoa z) z:=by
 obtain⟨n,rfl⟩:=Ei h0;rw[show Lib.itoa (n:Int)=Lib.decDigits n from by unfold Lib.itoa;rw[DS (by omega)];rfl]
 have hr':(r.head?.all λc=> !ea c)=true:=by
  cases r with
  |nil=>rfl
  |cons c r=>
   have:(!fS c)=true:=hr;rw[FE]at this;show(!ea c)=true;rw[(oT this).1];rfl
 obtain⟨t1,t2⟩:=tw (r:=r) (zY n) hr';obtain⟨c,l,hc,d1,d2⟩:=iu n;have hcl:eV c=false:=by unfold eV;simp;omega
 have hcd:ea c=true:=by unfold ea;simp[d1,d2]
 have e:eB (Lib.decDigits n++r)=ku (Lib.decDigits n++r):=by
  rw[hc];unfold eB;show(if eV c=true then _ else if ea c=true then ku (c::(l++r))else _)=_;rw[DS (by rw[hcl];decide),Ed hcd];rfl
 rw[e];unfold ku;simp only;rw[t1,t2,DS,vu,DS (by unfold zC at h1;omega)];rintro(⟨h2,h3⟩|h2)
 ·by_cases hn:n<10
  ·rw[cH hn]at h2;simp at h2
  ·exact xZ n (by omega) h3
 ·cases r with
  |nil=>cases h2
  |cons c r=>
   have:(!fS c)=true:=hr;rw[FE]at this;have h3:(eV c||c==95)=true:=h2;rw[(oT this).2.1,(oT this).2.2]at h3;cases h3
theorem yW:(bC.all λx=>match x.data.toList with|[a]=> !eV a&& !ea a&& !ib a&&a !=35&&a !=95|[a,b]=> !eV a&& !ea a&& !ib a&&a !=35&&a !=95&&b==61|_=>false)=true:=by kernel_rfl
theorem gp{s:ByteArray}(h:s∈bC):∃a,eV a=false/\ea a=false/\ib a=false/\a≠35/\a≠95/\(s.data.toList=[a]\/s.data.toList=[a,61]):=by
 have:=Ec.1 yW s h
 match hs:s.data.toList with
 |[]=>rw[hs]at this;cases this
 |[a]=>
  rw[hs]at this;simp at this;exact⟨a,this.1.1.1.1,this.1.1.1.2,this.1.1.2,this.1.2,this.2,.inl rfl⟩
 |[a,b]=>
  rw[hs]at this;simp at this;obtain⟨h1,h2⟩:=this;subst h2;exact⟨a,h1.1.1.1.1,h1.1.1.1.2,h1.1.1.2,h1.1.2,h1.2,.inr rfl⟩
 |_::_::_::_=>rw[hs]at this;cases this
theorem yV{s:ByteArray}{r:List UInt8}(h:s∈bC)(hr:ic 5 r=true):eB (s.data.toList++r)= .tok 5 s.data.toList 0:=by
 obtain⟨a,h1,h2,_,_,_,hs⟩:=gp h
 have e:∀l,eB (a::l)=fL (a::l):=λl=>by
  unfold eB;show(if eV a=true then _ else if ea a=true then _ else fL (a::l))=_;rw[DS (by rw[h1];decide),DS (by rw[h2];decide)]
 have hb:=jZ s;rcases hs with hs|hs
 ·rw[hs]at hb⊢;show eB (a::r)=_;rw[e];unfold fL;rw[DS,Ed (by show inB bC (ba [a])=true;rw[hb];exact rV h)]
  ·rfl
  ·rintro⟨h3,h4⟩;cases r with
   |nil=>simp at h3
   |cons c r=>
    have h4:=lL (show inB bC (ba [a,c])=true from h4);obtain⟨a',_,_,_,_,_,h5⟩:=gp h4;rcases h5 with h5|h5
    ·cases h5
    ·have:[a,c]=[a',61]:=h5;injection this with _ h6;injection h6 with h6;have h7:(c !=61)=true:=hr;rw[h6]at h7;cases h7
 ·rw[hs]at hb⊢;show eB (a::61::r)=_;rw[e];unfold fL;rw[Ed ⟨by simp,by show inB bC (ba [a,61])=true;rw[hb];exact rV h⟩];rfl
theorem xF:(kwL.all λx=>match x.data.toList with|a::l=>eV a&&(a::l).all fS&&decide ((a::l).length<=31)|_=>false)=true:=by kernel_rfl
theorem nG{k:Int}(h:k≠5){r:List UInt8}(hr:ic k r=true):ic 4 r=true:=by
 unfold ic at*
 simpa[h]using hr
theorem qX{t:TK}{r:List UInt8}(h:okT t)(hr:ic t.1 r=true):eB (t.2.1.data.toList++r)= .tok t.1 t.2.1.data.toList t.2.2/\∃c l,t.2.1.data.toList=c::l/\ib c=false/\c≠35:=by
 have lsp:∀c:UInt8,48<=c.toNat->ib c=false/\c≠35:=λc hc=>by
  have hne:∀k:UInt8,k.toNat<48->(c==k)=false:=λk hk=>DM.2 λe=>by rw[e]at hc;omega
  unfold ib;rw[hne 32 (by decide),hne 9 (by decide),hne 10 (by decide),hne 13 (by decide)];exact⟨rfl,λe=>by have:=hne 35 (by decide);rw[e]at this;cases this⟩
 rcases h with⟨z,rfl,h0,h1⟩|⟨s,rfl,hs⟩|⟨s,rfl,hs⟩|⟨s,rfl,hs⟩|⟨s,rfl,hs⟩
 ·refine⟨zt h0 h1 hr,?_⟩;obtain⟨n,rfl⟩:=Ei h0;obtain⟨c,l,hc,d1,d2⟩:=iu n;refine⟨c,l,?_,lsp c (by omega)⟩;show Lib.itoa (n:Int)=_;rw[show Lib.itoa (n:Int)=Lib.decDigits n from by unfold Lib.itoa;rw[DS (by omega)];rfl];exact hc
 ·obtain⟨c,l,hc,h1,h2,h3,h4,h5⟩:=fy hs;have:=lO (r:=r) hc (by unfold eV;simp;omega) h4 h5 (nG (show(2:Int)≠5 by decide) hr);rw[h3,DS (by decide),DS (by omega)]at this;exact⟨this,c,l,hc,lsp c (by omega)⟩
 ·obtain⟨c,l,hc,h1,h2,h3,h4,h5⟩:=fy hs;have:=lO (r:=r) hc (by unfold eV;simp;omega) h4 h5 (nG (show(3:Int)≠5 by decide) hr);rw[h3,DS (by decide),Ed (by omega)]at this;exact⟨this,c,l,hc,lsp c (by omega)⟩
 ·have hk:=Ec.1 xF s hs;cases hc:s.data.toList with
  |nil=>rw[hc]at hk;cases hk
  |cons c l=>
   rw[hc]at hk;simp only[Ee,Ep]at hk;obtain⟨⟨k1,k2⟩,k3⟩:=hk;have:=lO (s:=s) (r:=r) hc k1 (by rw[hc];exact k2) (by rw[hc];exact k3) hr;rw[rV hs,Ed rfl,hc]at this;refine⟨this,c,l,rfl,lsp c ?_⟩;unfold eV at k1;simp at k1;omega
 ·obtain⟨a,_,_,h3,h4,_,h5⟩:=gp hs;refine⟨yV hs hr,?_⟩;rcases h5 with h5|h5
  ·exact⟨a,[],h5,h3,h4⟩
  ·exact⟨a,[61],h5,h3,h4⟩
def ah(l:List Pc):List UInt8:=l.flatMap λp=>p.pre++(p.t.2.1.data.toList++p.post)
def spcs(l:List UInt8):Prop:=∀c∈l,c=32\/c=10
def Adj(p q:Pc):Prop:=p.post++q.pre≠[]\/((p.t.1=5\/q.t.1=5)/\q.t.2.1.data.toList.head?≠some 61)
def Chn:List Pc->Prop
 |[]=>True
 |[_]=>True
 |p::q::l=>Adj p q/\Chn (q::l)
def OkP(p:Pc):Prop:=okT p.t/\spcs p.pre/\spcs p.post
theorem spcs.app{a b:List UInt8}(h:spcs a)(h2:spcs b):spcs (a++b):=λc hc=>by(rcases EC.1 hc with hc|hc)<;>first|exact h c hc|exact h2 c hc
theorem spcs.nil:spcs []:=λ_ h=>by cases h
theorem kl:∀{x:List UInt8} (r:List UInt8),spcs x->bp false (x++r)=bp false r
 |[],r,_=>rfl
 |c::x,r,h=>by
  have hc:ib c=true:=by rcases h c (by simp)with rfl|rfl<;>rfl
  show bp false (c::(x++r))=_;rw[bp,Ed hc,kl r λd hd=>h d (by simp[hd])]
theorem nH{k:Int}{r:List UInt8}(h:spcs x)(hx:x≠[]):ic k (x++r)=true:=by
 cases x with
 |nil=>exact absurd rfl hx
 |cons c x=>
  unfold ic;show(if k=5 then c !=61 else !fS c)=true;rcases h c (by simp)with rfl|rfl<;>(split<;>decide)
theorem ug{p:Pc}{l:List Pc}(hp:OkP p)(hl:∀q∈l,OkP q)(hc:Chn (p::l)):ic p.t.1 (p.post++ah l)=true:=by
 cases l with
 |nil=>
  by_cases h:p.post=[]
  ·rw[h];rfl
  ·exact nH hp.2.2 h
 |cons q l=>
  have hq:=hl q (by simp);show ic p.t.1 (p.post++((q.pre++(q.t.2.1.data.toList++q.post))++ah l))=true;rw[Eb,<-Eb];by_cases h:p.post++q.pre=[]
  ·rw[h];rcases hc.1 with h'|⟨h1,h2⟩
   ·exact absurd h h'
   ·obtain⟨_,c,r,hs,_,_⟩:=qX (t:=q.t) (r:=[]) hq.1 rfl;rw[hs]at h2⊢;show(if p.t.1=5 then c !=61 else !fS c)=true;by_cases h5:p.t.1=5
    ·rw[Ed h5,bne_iff_ne];exact λe=>h2 (by rw[e];rfl)
    ·rw[DS h5];have h5:=h1.resolve_left h5;rcases hq.1 with⟨z,e,_⟩|⟨s,e,_⟩|⟨s,e,_⟩|⟨s,e,_⟩|⟨s,e,he⟩
     ·rw[e]at h5;exact absurd h5 (show ¬(1:Int)=5 by decide)
     ·rw[e]at h5;exact absurd h5 (show ¬(2:Int)=5 by decide)
     ·rw[e]at h5;exact absurd h5 (show ¬(3:Int)=5 by decide)
     ·rw[e]at h5;exact absurd h5 (show ¬(4:Int)=5 by decide)
     ·rw[e]at hs;obtain⟨a,a1,a2,_,_,a5,a6⟩:=gp he
      have:a=c:=by
       have hs:s.data.toList=c::r:=hs;rcases a6 with a6|a6<;>(rw[a6]at hs;injection hs)
      subst this;unfold fS;rw[a1,a2,DM.2 a5];rfl
  ·exact nH (hp.2.2.app hq.2.1) h
theorem kX(N:Nat):∀(l:List Pc) (x:List UInt8) (k:Nat) (ts:List Tk),(∀p∈l,OkP p)->Chn l->spcs x->l.length<k->
 ∃Ts,cV N k (x++ah l) ts= .toks (ts++Ts)/\Ts.map (λt=>((t.1,t.2.1,t.2.2.1):TK))=tks l++[(0,⟨#[]⟩,0)]
 |[],x,k,ts,_,_,hx,hk=>by
  obtain⟨k,rfl⟩:∃k',k=k'+1:=⟨k-1,by have:0<k:=hk;omega⟩;unfold cV;rw[kl _ hx];exact⟨_,rfl,rfl⟩
 |p::l,x,k,ts,hl,hc,hx,hk=>by
  obtain⟨k,rfl⟩:∃k',k=k'+1:=⟨k-1,by have:(l.length+1)<k:=hk;omega⟩;have hp:=hl p (by simp);have hl':∀q∈l,OkP q:=λq hq=>hl q (by simp[hq]);obtain⟨h1,c,r,hs,h2,h3⟩:=qX hp.1 (ug hp hl' hc)
  have hc':Chn l:=by
   cases l with
   |nil=>trivial
   |cons q l=>exact hc.2
  obtain⟨Ts,e1,e2⟩:=kX N l p.post k (ts++[(p.t.1,p.t.2.1,p.t.2.2,((N-(p.t.2.1.data.toList++(p.post++ah l)).length:Nat):Int))]) hl' hc' hp.2.2 (by have:l.length+1<k+1:=hk;omega);refine⟨(p.t.1,p.t.2.1,p.t.2.2,((N-(p.t.2.1.data.toList++(p.post++ah l)).length:Nat):Int))::Ts,?_,?_⟩
  ·have e:x++ah (p::l)=x++p.pre++(p.t.2.1.data.toList++(p.post++ah l)):=by simp[ah]
   have e3:bp false (p.t.2.1.data.toList++(p.post++ah l))=c::(r++(p.post++ah l)):=by
    rw[hs];show bp false (c::(r++(p.post++ah l)))=_;unfold bp;rw[DS (by rw[h2];decide),DS h3]
   have e4:c::(r++(p.post++ah l))=p.t.2.1.data.toList++(p.post++ah l):=by rw[hs];rfl
   unfold cV;rw[e,kl _ (hx.app hp.2.1),e3];simp only;rw[e4,h1];simp only;rw[List.drop_left,jZ,e1];simp
  ·rw[EE,e2];rfl
def OkQ(p:Pc):Prop:=okT p.t/\(∀c∈p.pre,c=32)/\p.post=[]
theorem OkQ.p{p:Pc}(h:OkQ p):OkP p:=⟨h.1,λc hc=> .inl (h.2.1 c hc),by rw[h.2.2];exact spcs.nil⟩
def J(l:List Pc):Prop:=(∀p∈l,OkQ p)/\Chn l
def Soft(b:List Pc):Prop:=∀p q r,b=q::r->Adj p q
def H61(b:List Pc):Prop:=∀p q r,p.t.1=5->b=q::r->Adj p q
theorem J.nil:J []:=⟨λ_ h=>absurd h DX,trivial⟩
theorem J.cons{p:Pc}{b:List Pc}(hp:OkQ p)(hb:J b)(hs:∀q r,b=q::r->Adj p q):J (p::b):=
 And.intro (λq hq=>(DY.1 hq).elim (λh=>h▸hp) (hb.1 q)) (by
  cases b with
  |nil=>trivial
  |cons q r=>exact⟨hs q r rfl,hb.2⟩)
theorem J.app{b:List Pc}(hb:J b)(hs:Soft b):∀{a:List Pc},J a->J (a++b)
 |[],_=>hb
 |p::a,ha=>by
  have ha':J a:=And.intro (λq hq=>ha.1 q (by simp[hq])) (by
   cases a with
   |nil=>trivial
   |cons q r=>exact ha.2.2)
  refine J.cons (ha.1 p (by simp)) (J.app hb hs ha') λq r e=>?_;cases a with
  |nil=>exact hs p q r e
  |cons q' r'=>
   injection e with e1 e2;exact e1▸ha.2.1
theorem J.sp{b:List Pc}(hb:J b):J (sp b):=by
 cases b with
 |nil=>exact hb
 |cons q r=>
  have hq:=hb.1 q (by simp);refine⟨λp hp=>?_,?_⟩
  ·rcases DY.1 hp with rfl|hp
   ·exact⟨hq.1,λc hc=>(DY.1 hc).elim id (hq.2.1 c),hq.2.2⟩
   ·exact hb.1 p (by simp[hp])
  ·cases r with
   |nil=>trivial
   |cons q' r=>exact hb.2
theorem Soft.sp(b:List Pc):Soft (sp b):=λp q r e=>by
 cases b with
 |nil=>cases e
 |cons q' r'=>
  injection e with e1 e2;exact .inl (by rw[<-e1];simp)
theorem Soft.app(b:List Pc)(h:Soft a)(hne:a≠[]):Soft (a++b):=λp q r e=>by
 cases a with
 |nil=>exact absurd rfl hne
 |cons q' r'=>
  injection e with e1 e2;exact e1▸h p q' r' rfl
theorem Soft.y{s:ByteArray}(b:List Pc)(h:s.data.toList.head?≠some 61):Soft (py s::b):=λp q r e=>by
 injection e with e1 e2;exact .inr ⟨.inr (by rw[<-e1];rfl),by rw[<-e1];exact h⟩
theorem Soft.h{b:List Pc}(h:Soft b):H61 b:=λp q r _ e=>h p q r e
theorem H61.app(b:List Pc)(h:H61 a)(hne:a≠[]):H61 (a++b):=λp q r h5 e=>by
 cases a with
 |nil=>exact absurd rfl hne
 |cons q' r'=>
  injection e with e1 e2;exact e1▸h p q' r' h5 rfl
theorem H61.of{b:List Pc}(h:(hdP b).2.1.data.toList.head?≠some 61):H61 b:=λp q r h5 e=> .inr ⟨.inl h5,by rw[e]at h;exact h⟩
theorem OkQ.y{s:ByteArray}(h:s∈bC):OkQ (py s):=⟨.inr (.inr (.inr (.inr ⟨s,rfl,h⟩))),λ_ h=>absurd h DX,rfl⟩
theorem OkQ.k{s:ByteArray}(h:s∈kwL):OkQ (pk s):=⟨.inr (.inr (.inr (.inl ⟨s,rfl,h⟩))),λ_ h=>absurd h DX,rfl⟩
theorem OkQ.n{s:ByteArray}(h:aO s 97 122=true):OkQ (pn s):=⟨.inr (.inl ⟨s,rfl,h⟩),λ_ h=>absurd h DX,rfl⟩
theorem OkQ.c{s:ByteArray}(h:aO s 65 90=true):OkQ (pc s):=⟨.inr (.inr (.inl ⟨s,rfl,h⟩)),λ_ h=>absurd h DX,rfl⟩
theorem OkQ.z{z:Int}(h0:0<=z)(h1:z<=zC):OkQ (pz z):=⟨.inl ⟨z,rfl,h0,h1⟩,λ_ h=>absurd h DX,rfl⟩
theorem J.one{p:Pc}(h:OkQ p):J [p]:=J.cons h J.nil λ_ _ e=>by cases e
theorem J.y{s:ByteArray}{b:List Pc}(h:s∈bC)(hb:J b)(hh:H61 b):J (py s::b):=J.cons (OkQ.y h) hb λq r e=>hh _ q r rfl e
theorem J.s{p:Pc}{b:List Pc}(h:OkQ p)(hb:J b)(hs:Soft b):J (p::b):=J.cons h hb λq r e=>hs _ q r e
theorem aP{s:ByteArray}(h:inB l s=true):s∈l:=lL h
theorem kv{s:ByteArray}(h:(s.data.toList.head?==some 61)=false):s.data.toList.head?≠some 61:=λe=>by rw[e]at h;exact absurd h (by decide)
theorem LB{b:List Pc}:Soft (py cG::b):=Soft.y b (kv (by kernel_rfl))
theorem RB{b:List Pc}:Soft (py da::b):=Soft.y b (kv (by kernel_rfl))
theorem CB{b:List Pc}:Soft (py iw::b):=Soft.y b (kv (by kernel_rfl))
theorem DB{b:List Pc}:Soft (py DOT::b):=Soft.y b (kv (by kernel_rfl))
theorem SB'{b:List Pc}:Soft (py aN::b):=Soft.y b (kv (by kernel_rfl))
def JX(x:Nat×List Pc):Prop:=J x.2/\H61 x.2/\x.2≠[]
theorem JX.in_{r:Nat}{x:Nat×List Pc}(h:JX x):J (inP r x)/\H61 (inP r x):=by
 unfold inP;split
 ·exact⟨J.y (aP (by kernel_rfl)) (J.app (J.one (OkQ.y (aP (by kernel_rfl)))) RB h.1) (h.2.1.app _ h.2.2),LB.h⟩
 ·exact⟨h.1,h.2.1⟩
theorem yE:∀{l:List (Nat×List Pc)},(∀x∈l,JX x)->J (dA l)/\Soft (dA l)
 |[],_=>⟨J.one (OkQ.y (aP (by kernel_rfl))),RB⟩
 |x::l,h=>by
  obtain⟨h1,h2⟩:=yE (l:=l) λy hy=>h y (by simp[hy]);have hx:=h x (by simp);exact⟨J.s (OkQ.y (aP (by kernel_rfl))) (J.app h1 h2 hx.1.sp) ((Soft.sp _).app _ (by have:=hx.2.2;revert this;cases x.2<;>simp[sp])),CB⟩
theorem pg{l:List (Nat×List Pc)}(h:∀x∈l,JX x):J (aq l)/\Soft (aq l):=by
 cases l with
 |nil=>exact⟨J.y (aP (by kernel_rfl)) (J.one (OkQ.y (aP (by kernel_rfl)))) RB.h,LB⟩
 |cons x l=>
  obtain⟨h1,h2⟩:=yE (l:=l) λy hy=>h y (by simp[hy]);have hx:=h x (by simp);exact⟨J.y (aP (by kernel_rfl)) (J.app h1 h2 hx.1) (hx.2.1.app _ hx.2.2),LB⟩
theorem pN(h:a≠[]):sp a≠[]:=by cases a with|nil=>exact absurd rfl h|cons=>simp[sp]
theorem Bl:((List.range 13).all λo=>if o=11\/o=12 then inB kwL (bH o)else inB bC (bH o))=true:=by kernel_rfl
theorem CJ{o:Nat}(ho:o<=12):OkQ (opP (o:Int)):=by
 have:=Ec.1 Bl o (by simp;omega);unfold opP;by_cases h:o=11\/o=12
 ·rw[Ed h]at this;rw[Ed (by omega)];exact OkQ.k (lL this)
 ·rw[DS h]at this;rw[DS (by omega)];exact OkQ.y (lL this)
theorem wZ{s:ByteArray}(h:aO s 97 122=true):H61 [pn s]:=H61.of λe=>by
 obtain⟨c,l,hc,h1,h2,_⟩:=fy h;rw[show(hdP [pn s]).2.1.data.toList=c::l from hc]at e;injection e with e;rw[e]at h1;exact absurd h1 (by decide)
theorem yD:∀(m:Nat) (e:Ex),esz e<=m->vE e=true->JX (lvl e,plE e)
 |0,e,hm,_=>by have:=bE e;omega
 |m+1,e,hm,hv=>by
  have ih:∀a,esz a<=m->vE a=true->JX (lvl a,plE a):=yD m
  have ihl:∀l,vEs l=true->cm l<=m->∀x∈plL l,JX x:=λl hl hs x hx=>by
   rw[mq]at hx;obtain⟨a,ha,rfl⟩:=EB.1 hx;exact ih a (by have:=iI ha;omega) (cI hl a ha)
  rcases dc hv with⟨z,rfl,h0,h1⟩|rfl|rfl|⟨s,rfl,hs⟩|⟨s,a,rfl,hs,ha⟩|⟨s,xs,rfl,hs,hxs⟩|⟨s,xs,a,rfl,hs,hxs,ha⟩|⟨k,a,hk,rfl,ha⟩|⟨o,a,b,ho,rfl,ha,hb⟩
  ·refine⟨J.one (OkQ.z h0 h1),H61.of ?_,List.cons_ne_nil _ _⟩;obtain⟨n,rfl⟩:=Ei h0;obtain⟨c,l,hc,d1,d2⟩:=iu n;show(Lib.itoa (n:Int)).head?≠some 61;rw[show Lib.itoa (n:Int)=Lib.decDigits n from by unfold Lib.itoa;rw[DS (by omega)];rfl,hc];intro e;injection e with e;rw[e]at d2;exact absurd d2 (by decide)
  ·exact⟨J.one (OkQ.k (aP (by kernel_rfl))),H61.of (kv (by kernel_rfl)),List.cons_ne_nil _ _⟩
  ·exact⟨J.one (OkQ.k (aP (by kernel_rfl))),H61.of (kv (by kernel_rfl)),List.cons_ne_nil _ _⟩
  ·exact⟨J.one (OkQ.n hs),wZ hs,List.cons_ne_nil _ _⟩
  ·have hz:esz (aR s a)=1+esz a:=by simp[aR,esz,cm]
   have hx:=ih a (by omega) ha;have hi:=hx.in_ (r:=8);have hne:inP 8 (lvl a,plE a)≠[]:=eH hx.2.2;refine⟨?_,?_,cE _⟩
   ·show J (inP 8 (lvl a,plE a)++(py DOT::[pn s]));exact J.app (J.y (aP (by kernel_rfl)) (J.one (OkQ.n hs)) (wZ hs)) DB hi.1
   ·show H61 (inP 8 (lvl a,plE a)++[py DOT,pn s]);exact hi.2.app _ hne
  ·have hz:esz (.mk 5 0 0 s false xs)=1+cm xs:=by rw[esz]
   obtain⟨l1,l2⟩:=pg (ihl xs hxs (by omega));refine⟨?_,H61.of ?_,cE _⟩
   ·show J (pk dx::(sp [pc s]++aq (plL xs)));exact J.s (OkQ.k (aP (by kernel_rfl))) (J.app l1 l2 (J.one (OkQ.c hs)).sp) ((Soft.sp _).app _ (pN (List.cons_ne_nil _ _)))
   ·show dx.data.toList.head?≠some 61;exact kv (by kernel_rfl)
  ·have hz:esz (.mk 5 0 0 s true (xs++[a]))=1+(cm xs+esz a):=by rw[esz,mS]
   have hP:plE (.mk 5 0 0 s true (xs++[a]))=pk dx::(sp [pc s]++(aq (plL xs)++(sp [pk kAt]++sp (inP 7 (lvl a,plE a))))):=by
    rw[plE,ox];show pk dx::(sp [pc s]++(aq (plL xs++[(lvl a,plE a)]).dropLast++(sp [pk kAt]++sp (inP 7 ((plL xs++[(lvl a,plE a)]).getLastD dX)))))=_;rw[List.dropLast_concat];simp
   obtain⟨l1,l2⟩:=pg (ihl xs hxs (by omega));have hi:=(ih a (by omega) ha).in_ (r:=7);refine⟨?_,H61.of ?_,cE _⟩
   ·show J (plE _);rw[hP];refine J.s (OkQ.k (aP (by kernel_rfl))) (J.app (J.app ?_ ((Soft.sp _).app _ (pN (List.cons_ne_nil _ _))) l1) (l2.app _ (by cases plL xs<;>simp[aq])) (J.one (OkQ.c hs)).sp) ((Soft.sp _).app _ (pN (List.cons_ne_nil _ _)));exact J.app hi.1.sp (Soft.sp _) (J.one (OkQ.k (aP (by kernel_rfl)))).sp
   ·show(hdP (plE _)).2.1.data.toList.head?≠some 61;rw[hP];show dx.data.toList.head?≠some 61;exact kv (by kernel_rfl)
  ·have hz:esz (eUn k a)=1+esz a:=by simp[eUn,esz,cm]
   have hx:=ih a (by omega) ha;have hi:=hx.in_ (r:=7);have hi3:=hx.in_ (r:=3);rcases hk with rfl|rfl|rfl|rfl
   ·exact⟨J.s (OkQ.k (aP (by kernel_rfl))) hi.1.sp (Soft.sp _),H61.of (show ca.data.toList.head?≠some 61 from kv (by kernel_rfl)),cE _⟩
   ·exact⟨J.s (OkQ.k (aP (by kernel_rfl))) hi.1.sp (Soft.sp _),H61.of (show dT.data.toList.head?≠some 61 from kv (by kernel_rfl)),cE _⟩
   ·exact⟨J.y (aP (by kernel_rfl)) hi.1 hi.2,H61.of (show bK.data.toList.head?≠some 61 from kv (by kernel_rfl)),cE _⟩
   ·exact⟨J.s (OkQ.k (aP (by kernel_rfl))) hi3.1.sp (Soft.sp _),H61.of (show dE.data.toList.head?≠some 61 from kv (by kernel_rfl)),cE _⟩
  ·have hz:esz (cx o a b)=1+(esz a+esz b):=by simp[cx,esz,cm]
   have hx:=ih a (by omega) ha;have hi:=hx.in_ (r:=if ap (o:Int)=4 then 5 else ap o);have hi2:=(ih b (by omega) hb).in_ (r:=ap (o:Int)+1);have hne:inP (if ap (o:Int)=4 then 5 else ap o) (lvl a,plE a)≠[]:=eH hx.2.2;refine⟨?_,?_,cE _⟩
   ·show J (inP (if ap (o:Int)=4 then 5 else ap o) (lvl a,plE a)++(sp [opP o]++sp (inP (ap (o:Int)+1) (lvl b,plE b))));exact J.app (J.app hi2.1.sp (Soft.sp _) (J.one (CJ ho)).sp) ((Soft.sp _).app _ (pN (List.cons_ne_nil _ _))) hi.1
   ·show H61 (inP (if ap (o:Int)=4 then 5 else ap o) (lvl a,plE a)++(sp [opP o]++sp (inP (ap (o:Int)+1) (lvl b,plE b))));exact hi.2.app _ hne
def glu(ls:List ByteArray):List UInt8:=ls.flatMap λl=>l.data.toList++[10]
def NL(s:List UInt8):Prop:=∃Ls:List ByteArray,s=glu Ls/\∀x∈Ls,(∀c∈x.data.toList,c≠10)/\x.data.toList.getLast?≠some 100
theorem NL.app{a b:List UInt8}(ha:NL a)(hb:NL b):NL (a++b):=by
 obtain⟨A,rfl,h1⟩:=ha;obtain⟨B,rfl,h2⟩:=hb;exact⟨A++B,by unfold glu;rw[EX],λx hx=>(EC.1 hx).elim (h1 x) (h2 x)⟩
theorem ag(a b:List Pc):ah (a++b)=ah a++ah b:=EX
def JL(l:List Pc):Prop:=(∀p∈l,OkP p)/\(∀r,Chn r->Chn (l++r))/\NL (ah l)
theorem JL.app{b:List Pc}(ha:JL a)(hb:JL b):JL (a++b):=
 ⟨λp hp=>(EC.1 hp).elim (ha.1 p) (hb.1 p),λr hr=>by rw[Eb];exact ha.2.1 _ (hb.2.1 r hr),by rw[ag];exact ha.2.2.app hb.2.2⟩
theorem JL.nil:JL []:=⟨λ_ h=>absurd h DX,λr hr=>hr,[],rfl,λ_ h=>absurd h DX⟩
theorem z8:spcs [10]:=λc hc=> .inr (by simpa using hc)
theorem zb(d:Nat):spcs (bi d):=λc hc=> .inl (List.eq_of_mem_replicate hc)
theorem ta:∀{l:List Pc},(∀p∈l,OkQ p)->∀p∈eP [10] l,OkP p
 |[],_,p,hp=>absurd hp DX
 |[q],h,p,hp=>by
  have hq:=h q (by simp);rw[eP]at hp;rcases DY.1 hp with rfl|hp
  ·exact⟨hq.1,hq.p.2.1,hq.p.2.2.app z8⟩
  ·exact absurd hp DX
 |q::q'::l,h,p,hp=>by
  rw[eP]at hp;rcases DY.1 hp with rfl|hp
  ·exact(h p (by simp)).p
  ·exact ta (λx hx=>h x (Et _ hx)) p hp
theorem Bn{l:List Pc}(h:∀p∈l,OkP p):∀p∈uu (bi d) l,OkP p:=λp hp=>by
 cases l with
 |nil=>exact absurd hp DX
 |cons q l=>
  have hq:=h q (by simp);rcases DY.1 hp with rfl|hp
  ·exact⟨hq.1,(zb d).app hq.2.1,hq.2.2⟩
  ·exact h p (by simp[hp])
theorem qJ:∀{l r:List Pc},Chn l->Chn r->Chn (eP [10] l++r)
 |[],r,_,hr=>hr
 |[p],[],_,_=>trivial
 |[p],q::r,_,hr=>⟨.inl (by simp),hr⟩
 |p::q::l,r,hl,hr=>by
  have ih:=qJ (l:=q::l) hl.2 hr;rw[eP];cases l with
  |nil=>exact⟨hl.1,ih⟩
  |cons q' l=>exact⟨hl.1,ih⟩
theorem Ag{l:List Pc}(h:Chn l):Chn (uu x l):=by
 cases l with
 |nil=>exact h
 |cons p l=>cases l with
  |nil=>trivial
  |cons q l=>exact h
theorem nW{l:List Pc}(h:l≠[]):ah (uu x l)=x++ah l:=by
 cases l with
 |nil=>exact absurd rfl h
 |cons p l=>simp[uu,ah]
theorem jn{x:List UInt8}:∀{l:List Pc},l≠[]->ah (eP x l)=ah l++x
 |[],h=>absurd rfl h
 |[p],_=>by simp[eP,ah]
 |p::q::l,_=>by
  have ih:=jn (x:=x) (l:=q::l) (by simp);rw[eP,show ah (p::eP x (q::l))=(p.pre++(p.t.2.1.data.toList++p.post))++ah (eP x (q::l))from rfl,ih,show ah (p::q::l)=(p.pre++(p.t.2.1.data.toList++p.post))++ah (q::l)from rfl,Eb (p.pre++_)]
def Lst(l:List Pc):Prop:=∃a p,l=a++[p]/\(p.t=(5,aN,0)\/p.t=(5,cu,0)\/p.t=(5,ci,0))
theorem Lst.app(a:List Pc){b:List Pc}(h:Lst b):Lst (a++b):=by
 obtain⟨c,p,rfl,h⟩:=h;exact⟨a++c,p,by simp,h⟩
theorem Lst.cons(q:Pc){b:List Pc}(h:Lst b):Lst (q::b):=Lst.app [q] h
theorem Lst.s:Lst [py aN]:=⟨[],_,rfl,.inl rfl⟩
theorem Lst.b:Lst (sp [py cu]):=⟨[],_,rfl,.inr (.inl rfl)⟩
theorem Lst.r:Lst [py ci]:=⟨[],_,rfl,.inr (.inr rfl)⟩
theorem AL{t:TK}(h:okT t):∀c∈t.2.1.data.toList,c≠10:=by
 have key:∀l:List UInt8,l.all fS=true->∀c∈l,c≠10:=λl hl c hc e=>by
  have:=Ec.1 hl c hc;rw[e]at this;exact absurd this (by decide)
 rcases h with⟨z,rfl,h0,h1⟩|⟨s,rfl,hs⟩|⟨s,rfl,hs⟩|⟨s,rfl,hs⟩|⟨s,rfl,hs⟩
 ·obtain⟨n,rfl⟩:=Ei h0;intro c hc e;have hc:c∈Lib.itoa (n:Int):=hc;rw[show Lib.itoa (n:Int)=Lib.decDigits n from by unfold Lib.itoa;rw[DS (by omega)];rfl]at hc;have:=dv n c hc;rw[e]at this;exact absurd this (by decide)
 ·obtain⟨_,_,_,_,_,_,h4,_⟩:=fy hs;exact key _ h4
 ·obtain⟨_,_,_,_,_,_,h4,_⟩:=fy hs;exact key _ h4
 ·have hk:=Ec.1 xF s hs;cases hc:s.data.toList with
  |nil=>rw[hc]at hk;cases hk
  |cons c l=>
   rw[hc]at hk;simp only[Ee,Ep]at hk;exact key _ hk.1.2
 ·obtain⟨a,_,_,h3,h4,_,h5⟩:=gp hs;have ha:a≠10:=λe=>by rw[e]at h3;exact absurd h3 (by decide)
  show∀c∈s.data.toList,c≠10;rcases h5 with h5|h5<;>(rw[h5];intro c hc;simp at hc)
  ·rw[hc];exact ha
  ·rcases hc with rfl|rfl
   ·exact ha
   ·decide
theorem JL.ln{l:List Pc}(d:Nat)(h:J l)(he:Lst l:=by repeat first|exact Lst.s|exact Lst.b|exact Lst.r|refine Lst.app _ ?_|refine Lst.cons _ ?_):JL (ln d l):=by
 have hne:l≠[]:=λe=>by obtain⟨a,p,rfl,_⟩:=he;simp at e
 refine⟨Bn (ta h.1),λr hr=>?_,?_⟩
 ·have:=Ag (x:=bi d) (qJ h.2 hr);unfold Go.Proofs.YtjpbckbpeblibaaGreatDoor.ln;cases l with
  |nil=>exact hr
  |cons p l=>cases l with
   |nil=>exact this
   |cons q l=>exact this
 ·have e:ah (Go.Proofs.YtjpbckbpeblibaaGreatDoor.ln d l)=(bi d++ah l)++[10]:=by
   unfold Go.Proofs.YtjpbckbpeblibaaGreatDoor.ln;rw[nW (by cases l with|nil=>exact absurd rfl hne|cons p l=>cases l<;>simp[eP]),jn hne,Eb]
  refine⟨[⟨(bi d++ah l).toArray⟩],by rw[e];simp[glu],λx hx=>?_⟩;rw[List.mem_singleton.1 hx];refine⟨λc hc=>?_,?_⟩
  ·rcases EC.1 (show c∈bi d++ah l from hc)with hc|hc
   ·rw[List.eq_of_mem_replicate hc];decide
   ·obtain⟨p,hp,hc⟩:=List.mem_flatMap.1 hc;have hq:=h.1 p hp;rw[hq.2.2,Eo]at hc;rcases EC.1 hc with hc|hc
    ·rw[hq.2.1 c hc];decide
    ·exact AL hq.1 c hc
  ·obtain⟨a,p,rfl,hp⟩:=he;have hq:=h.1 p (by simp);show(bi d++ah (a++[p])).getLast?≠some 100;rw[ag,show ah [p]=p.pre++(p.t.2.1.data.toList++p.post) by simp[ah],hq.2.2,Eo,<-Eb,<-Eb];rcases hp with hp|hp|hp<;>rw[hp]
   ·rw[show((5,aN,0):TK).2.1.data.toList=[59]from rfl];simp
   ·rw[show((5,cu,0):TK).2.1.data.toList=[123]from rfl];simp
   ·rw[show((5,ci,0):TK).2.1.data.toList=[125]from rfl];simp
theorem fp{r:List Pc}(h:a≠[]):Soft (sp a++r):=(Soft.sp a).app r (pN h)
theorem gz{e:Ex}(r:Nat)(hv:vE e=true):J (exP r e)/\H61 (exP r e)/\exP r e≠[]:=
 have h:=yD _ e (DK _) hv
 ⟨h.in_.1,h.in_.2,eH h.2.2⟩
theorem xy{l:List Ex}(hl:vEs l=true):J (aq (plL l))/\Soft (aq (plL l)):=pg λx hx=>by
 rw[mq]at hx;obtain⟨a,ha,rfl⟩:=EB.1 hx;exact yD _ a (DK _) (cI hl a ha)
theorem ma:J [py aN]:=J.one (OkQ.y (aP (by kernel_rfl)))
theorem AA:∀(m:Nat) (s:St) (d:Nat),ssz s<=m->vS s=true->JL (plS s d)
 |0,s,d,hm,_=>by have:=i8 s;omega
 |m+1,s,d,hm,hv=>by
  have aE:∀l:List St,vSs l=true->eN l<=m->JL (bX l (d+1)):=λl=>by
   induction l with
   |nil=>intro _ _;exact JL.nil
   |cons a l ih=>
    intro hl hs;rw[vSs]at hl;obtain⟨h1,h2⟩:=Eg.1 hl;unfold eN at hs;rw[bX];exact(AA m a (d+1) (by omega) h1).app (ih h2 (by omega))
  have eq1:J (sp [py bL]):=(J.one (OkQ.y (aP (by kernel_rfl)))).sp;have lb1:J (sp [py cu]):=(J.one (OkQ.y (aP (by kernel_rfl)))).sp
  have tail:∀{x:Ex},vE x=true->J (sp (exP 1 x)++[py aN])/\Soft (sp (exP 1 x)++[py aN]):=λhx=>
   ⟨J.app ma SB' (gz 1 hx).1.sp,fp (gz 1 hx).2.2⟩
  have eqt:∀{x:Ex},vE x=true->J (sp [py bL]++(sp (exP 1 x)++[py aN]))/\Soft (sp [py bL]++(sp (exP 1 x)++[py aN])):=λhx=>
   ⟨J.app (tail hx).1 (tail hx).2 eq1,fp (by simp)⟩
  rcases gn hv with⟨nm,x,rfl,hnm,hx⟩|⟨nm,x,rfl,hnm,hx⟩|⟨nm,x,y,rfl,hnm,hx,hy⟩|⟨x,b,e,rfl,hx,hb,he⟩|⟨x,b,rfl,hx,hb⟩|⟨nm,x,l,rfl,hnm,hx,hl⟩|⟨x,rfl,hx⟩|⟨x,y,rfl,hx,hy⟩|⟨nm,x,y,rfl,hnm,hx,hy⟩|rfl
  ·show JL (ln d (pk gW::(sp [pn nm]++(sp [py bL]++(sp (exP 1 x)++[py aN])))));exact JL.ln d (J.s (OkQ.k (aP (by kernel_rfl))) (J.app (eqt hx).1 (eqt hx).2 (J.one (OkQ.n hnm)).sp) (fp (by simp)))
  ·show JL (ln d (pn nm::(sp [py bL]++(sp (exP 1 x)++[py aN]))));exact JL.ln d (J.s (OkQ.n hnm) (eqt hx).1 (eqt hx).2)
  ·show JL (ln d (exP 9 x++(py DOT::pn nm::(sp [py bL]++(sp (exP 1 y)++[py aN])))));exact JL.ln d (J.app (J.y (aP (by kernel_rfl)) (J.s (OkQ.n hnm) (eqt hy).1 (eqt hy).2) ((wZ hnm).app _ (by simp))) DB (gz 9 hx).1)
  ·have hz:ssz (.mk 3 ⟨#[]⟩ [x] b e)=1+esz x+eN b+eN e:=by simp[ssz,cm]
   have hP:plS (.mk 3 ⟨#[]⟩ [x] b e) d=ln d (pk kIf::(sp (exP 1 x)++sp [py cu]))++(bX b (d+1)++((if e.isEmpty=true then[]else ln d (py ci::(sp [pk ey]++sp [py cu]))++bX e (d+1))++ln d [py ci])):=by rw[plS];rfl
   rw[hP];refine(JL.ln d (J.s (OkQ.k (aP (by kernel_rfl))) (J.app lb1 (Soft.sp _) (gz 1 hx).1.sp) (fp (gz 1 hx).2.2))).app ((aE b hb (by omega)).app (JL.app ?_ (JL.ln d (J.one (OkQ.y (aP (by kernel_rfl)))))));split
   ·exact JL.nil
   ·exact(JL.ln d (J.y (aP (by kernel_rfl)) (J.app lb1 (Soft.sp _) (J.one (OkQ.k (aP (by kernel_rfl)))).sp) (fp (by simp)).h)).app (aE e he (by omega))
  ·have hz:ssz (.mk 4 ⟨#[]⟩ [x] b [])=1+esz x+eN b:=by simp[ssz,cm,eN]
   have hP:plS (.mk 4 ⟨#[]⟩ [x] b []) d=ln d (pk dD::(sp (exP 1 x)++sp [py cu]))++(bX b (d+1)++ln d [py ci]):=by rw[plS];rfl
   rw[hP];exact(JL.ln d (J.s (OkQ.k (aP (by kernel_rfl))) (J.app lb1 (Soft.sp _) (gz 1 hx).1.sp) (fp (gz 1 hx).2.2))).app ((aE b hb (by omega)).app (JL.ln d (J.one (OkQ.y (aP (by kernel_rfl))))))
  ·show JL (ln d (pk fa::(sp (exP 8 x)++(py DOT::pn nm::(aq (plL l)++[py aN])))));exact JL.ln d (J.s (OkQ.k (aP (by kernel_rfl))) (J.app (J.y (aP (by kernel_rfl)) (J.s (OkQ.n hnm) (J.app ma SB' (xy hl).1) ((xy hl).2.app _ (by cases plL l<;>simp[aq]))) ((wZ hnm).app _ (by simp))) DB (gz 8 hx).1.sp) (fp (gz 8 hx).2.2))
  ·show JL (ln d (pk dS::(sp (exP 1 x)++[py aN])));exact JL.ln d (J.s (OkQ.k (aP (by kernel_rfl))) (tail hx).1 (tail hx).2)
  ·show JL (ln d (pk fM::(sp (exP 1 x)++(sp [pk kTo]++(sp (exP 1 y)++[py aN])))));exact JL.ln d (J.s (OkQ.k (aP (by kernel_rfl))) (J.app (J.app (tail hy).1 (tail hy).2 (J.one (OkQ.k (aP (by kernel_rfl)))).sp) (fp (by simp)) (gz 1 hx).1.sp) (fp (gz 1 hx).2.2))
  ·show JL (ln d (pk eE::(sp (exP 1 x)++(sp [pk kBy]++(sp [pn nm]++(aq (plL [y])++[py aN]))))));have hl:=xy (l:=[y]) (by rw[vEs,hy];rfl);exact JL.ln d (J.s (OkQ.k (aP (by kernel_rfl))) (J.app (J.app (J.app (J.app ma SB' hl.1) (hl.2.app _ (by simp[plL,aq])) (J.one (OkQ.n hnm)).sp) (fp (by simp)) (J.one (OkQ.k (aP (by kernel_rfl)))).sp) (fp (by simp)) (gz 1 hx).1.sp) (fp (gz 1 hx).2.2))
  ·show JL (ln d [pk dQ,py aN]);exact JL.ln d (J.s (OkQ.k (aP (by kernel_rfl))) ma SB')
theorem yC(d:Nat):∀{l:List St},vSs l=true->JL (bX l d)
 |[],_=>JL.nil
 |a::l,h=>by
  rw[vSs]at h;obtain⟨h1,h2⟩:=Eg.1 h;rw[bX];exact(AA _ a d (DK _) h1).app (yC d h2)
theorem AD:∀{l:List ByteArray},vNm l=true->JL (gy l)
 |[],_=>JL.nil
 |a::l,h=>by
  unfold vNm at h;rw[List.all_cons]at h;obtain⟨h1,h2⟩:=Eg.1 h;rw[gy];exact(JL.ln 1 (J.s (OkQ.k (aP (by kernel_rfl))) (J.app ma SB' (J.one (OkQ.n h1)).sp) (fp (by simp)))).app (AD h2)
theorem DI(h:vMe m=true):JL (meP m):=by
 unfold vMe at h;obtain⟨h1,h2⟩:=Eg.1 h;obtain⟨h2,h3⟩:=Eg.1 h2
 have hl:=pg (l:=m.params.map nmX) λx hx=>by
  obtain⟨s,hs,rfl⟩:=EB.1 hx;have:=Ec.1 h2 s hs;exact⟨J.one (OkQ.n this),wZ this,by simp[nmX]⟩
 exact(JL.ln 1 (J.s (OkQ.k (aP (by kernel_rfl))) (J.app (J.app (J.one (OkQ.y (aP (by kernel_rfl)))).sp (Soft.sp _) hl.1) (hl.2.app _ (by cases m.params<;>simp[aq])) (J.one (OkQ.n h1)).sp) (fp (by simp)))).app ((yC 2 h3).app (JL.ln 1 (J.one (OkQ.y (aP (by kernel_rfl))))))
theorem AB:∀{l:List Me},l.all vMe=true->JL (fY l)
 |[],_=>JL.nil
 |a::l,h=>by
  rw[List.all_cons]at h;obtain⟨h1,h2⟩:=Eg.1 h;rw[fY];exact(DI h1).app (AB h2)
theorem Ch:∀{l:List Cl},vPr l=true->JL (prP l)
 |[],_=>JL.nil
 |c::l,h=>by
  unfold vPr at h;rw[List.all_cons]at h;obtain⟨h1,h2⟩:=Eg.1 h;unfold vCl at h1;obtain⟨c1,h1⟩:=Eg.1 h1;obtain⟨c2,h1⟩:=Eg.1 h1;obtain⟨_,c3⟩:=Eg.1 h1;rw[prP];have hk:OkQ (pk (if c.actor=true then eF else et)):=by split<;>exact OkQ.k (aP (by kernel_rfl))
  exact((JL.ln 0 (J.s hk (J.app (J.one (OkQ.y (aP (by kernel_rfl)))).sp (Soft.sp _) (J.one (OkQ.c c1)).sp) (fp (by simp)))).app ((AD c2).app ((AB c3).app (JL.ln 0 (J.one (OkQ.y (aP (by kernel_rfl)))))))).app (Ch h2)
theorem sF{T:List Tk}:∀(l m:List TK) (i:Nat),(T.map λt=>((t.1,t.2.1,t.2.2.1):TK)).drop i=l++m->AtT T i l
 |[],_,_,_=>trivial
 |t::l,m,i,h=>by
  refine⟨?_,sF l m (i+1) ?_⟩
  ·have hl:i<T.length:=by
    rcases ES i T.length with hl|hl
    ·exact hl
    ·rw[FI (by simpa using hl)]at h;cases h
   rw[Fu (by simpa using hl)]at h;injection h with h1 h2;unfold t3 tk;rw[Es,DT hl];rw[List.getElem_map]at h1;exact h1
  ·rw[<-List.drop_drop,h];rfl
theorem ry(hv:vPr cs=true)(hl:(ah (prP cs)).length<=16384):∃Ts,dK (ah (prP cs))= .toks Ts/\Ts.length=(prP cs).length+1/\dr Ts= .ok cs (prP cs).length:=by
 have hJ:=Ch hv
 have hlen:(prP cs).length<=(ah (prP cs)).length:=by
  have:∀l:List Pc,(∀p∈l,OkP p)->l.length<=(ah l).length:=λl=>by
   induction l with
   |nil=>intro _;exact Ea _
   |cons p l ih=>
    intro h;obtain⟨_,c,r,hs,_,_⟩:=qX (t:=p.t) (r:=[]) (h p (by simp)).1 rfl;have:=ih λq hq=>h q (by simp[hq]);rw[show ah (p::l)=(p.pre++(p.t.2.1.data.toList++p.post))++ah l from rfl,hs];simp only[DJ,DL];omega
  exact this _ hJ.1
 obtain⟨Ts,h1,h2⟩:=kX (ah (prP cs)).length (prP cs) [] ((ah (prP cs)).length+1) [] hJ.1 (by have:=hJ.2.1 [] trivial;simpa using this) spcs.nil (by omega)
 have h3:Ts.length=(prP cs).length+1:=by
  have:=Fo List.length h2;simp[iy]at this;exact this
 refine⟨Ts,?_,h3,?_⟩
 ·unfold dK;rw[DS (by omega)];simpa using h1
 ·refine rs hv (sF _ _ 0 (by simpa using h2)) h3 ?_;have:=sF (T:=Ts) [(0,⟨#[]⟩,0)] [] (prP cs).length (by rw[h2,List.drop_append_of_le_length (by rw[iy];exact DK _),FI (by rw[iy];exact DK _)];rfl);exact this.1
end
end Go.Proofs.YtjpbckbpeblibaaGreatDoor
