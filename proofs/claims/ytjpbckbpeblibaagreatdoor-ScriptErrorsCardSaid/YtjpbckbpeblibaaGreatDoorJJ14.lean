/- part of a proof -/
import Derived.Test.YtjpbckbpeblibaaGreatDoorJJ13
namespace Go.Proofs.YtjpbckbpeblibaaGreatDoor
set_option linter.unusedVariables false
set_option linter.unusedSimpArgs false
set_option maxRecDepth 100000
set_option maxHeartbeats 64000000
section
open Go.RowKit
variable{a:List Pc}{cs:List Cl}{d i:Nat}{l:List ByteArray}{m:Me}{x:List UInt8}
section
variable{T:List Tk}
theorem dS{ex:Nat->Nat->R Ex}{st:Nat->R St}{j:Nat}{s:St}(hi:isT T kIf i=false)(hw:isT T dz i=false)(hs:aU T ex i= .ok s j)(h:t3 T j=(5,ay,0)):dD T ex st i= .ok s (j+1):=by
 unfold dD;rw[Dg (by rw[hi];decide),Dg (by rw[hw];decide),hs];simp only;rw[br (by rw[h];kernel_rfl)]
theorem vo{n d:Nat}:∀(l:List St) (K:Nat) (ss:List St) (i:Nat),(∀s∈l,vS s=true/\∀i,AtT T i (tks (plS s d))->isT T eu (i+(plS s d).length)=false->S T n i= .ok s (i+(plS s d).length))->T.length+1<=K+i->
 AtT T i (tks (bU l d))->t3 T (i+(bU l d).length)=(5,cd,0)->cV T (S T n) K ss i= .ok (ss++l) (i+(bU l d).length+1)
 |[],K,ss,i,_,hK,_,h=>by
  have h0:t3 T i=(5,cd,0):=h;have hlt:=fD h0 (by decide);obtain⟨K,rfl⟩:∃K',K=K'+1:=⟨K-1,by omega⟩;unfold cV;rw[Dq (ai h0 (by kernel_rfl)),DC];rfl
 |s::l,K,ss,i,hl,hK,h,h2=>by
  obtain⟨hv,hs⟩:=hl s (by simp);rw[bU]at h h2⊢;obtain⟨a1,a2⟩:=AtT.app' h;have hb:=ni d hv;have hf:=a1.hd (o8 s d);have hlen:i+(plS s d++bU l d).length=i+(plS s d).length+(bU l d).length:=by simp;omega
  rw[hlen]at h2⊢
  have hlt:i<T.length:=by
   rcases Et i T.length with h|h
   ·exact h
   ·have hge:∀j,i<=j->t3 T j=(0,⟨#[]⟩,0):=λj hj=>by
     unfold t3 tk;rw[DD,List.getElem?_eq_none (by omega)];rfl
    have:=hge (i+(plS s d).length+(bU l d).length) (by omega);rw[h2]at this;exact absurd (Ev (·.1) this) (by decide)
  obtain⟨K,rfl⟩:∃K',K=K'+1:=⟨K-1,by omega⟩
  have hnx:isT T eu (i+(plS s d).length)=false:=by
   cases l with
   |nil=>exact ai (show t3 T (i+(plS s d).length)=(5,cd,0)from h2) (by kernel_rfl)
   |cons s' l=>
    have hv':=(hl s' (by simp)).1;rw[bU]at a2;have:=(AtT.app' a2).1.hd (o8 s' d);rw[cL,this];exact(ni d hv').2
  have hpos:0<(plS s d).length:=List.length_pos_iff.2 (o8 s d);unfold cV;rw[Dg (by rw[cL,hf,hb.1];decide),hs i a1 hnx];simp only;rw[vo l K (ss++[s]) (i+(plS s d).length) (λb hb=>hl b (by simp[hb])) (by omega) a2 h2];simp
theorem ik{n:Nat}{l:List St}(hl:∀s∈l,vS s=true/\∀i,AtT T i (tks (plS s d))->isT T eu (i+(plS s d).length)=false->S T n i= .ok s (i+(plS s d).length))(h0:t3 T i=(5,cq,0))
 (h1:AtT T (i+1) (tks (bU l d))) (h2:t3 T (i+1+(bU l d).length)=(5,cd,0)):cY T (S T n) i= .ok l (i+1+(bU l d).length+1):=by
 unfold cY;rw[br (by rw[h0];kernel_rfl)];simp only;rw[vo l (T.length+1) [] (i+1) hl (by omega) h1 h2];rfl
theorem dY:∀{l:List St},vSs l=true->∀s∈l,vS s=true
 |[],_,s,h=>by cases h
 |b::l,h,a,ha=>by
  rw[vSs]at h;simp at h;rcases Dm.1 ha with rfl|ha
  ·exact h.1
  ·exact dY h.2 a ha
theorem m5{d:Nat}:∀{l:List St} {s:St},s∈l->(plS s d).length<=(bU l d).length
 |b::l,s,h=>by
  rw[bU];simp only[D7];rcases Dm.1 h with rfl|h
  ·omega
  ·have:=m5 (d:=d) h;omega
theorem zP:∀m,Cy T m
 |0,n,d,s,i,hm,_,_,_,_=>by have:=gW s;omega
 |m+1,n,d,s,i,hm,hn,hv,h,hel=>by
  obtain⟨n,rfl⟩:∃n',n=n'+1:=⟨n-1,by have:=List.length_pos_iff.2 (o8 s d);omega⟩
  have sub:∀l:List St,vSs l=true->eH l<=m->(bU l (d+1)).length<=n->∀s∈l,vS s=true/\∀i,AtT T i (tks (plS s (d+1)))->isT T eu (i+(plS s (d+1)).length)=false->S T n i= .ok s (i+(plS s (d+1)).length):=
   λl hv h1 h2 s hs=>⟨dY hv s hs,λi a b=>zP m n (d+1) s i (by have:=eW hs;omega) (by have:=m5 (d:=d+1) hs;omega) (dY hv s hs) a b⟩
  show dD T (E T (n+1)) (S T n) i=_;rcases fU hv with⟨nm,x,rfl,_,hx⟩|⟨nm,x,rfl,_,hx⟩|⟨nm,x,y,rfl,_,hx,hy⟩|⟨x,b,e,rfl,hx,hb,he⟩|⟨x,b,rfl,hx,hb⟩|⟨nm,x,l,rfl,_,hx,hl⟩|⟨x,rfl,hx⟩|⟨x,y,rfl,hx,hy⟩|⟨nm,x,y,rfl,_,hx,hy⟩|rfl
  ·--let
   have hz:ssz (stE 0 nm [x])=1+esz x:=by simp[stE,ssz,ci,eH]
   have hP:plS (stE 0 nm [x]) d=ln d (pk gP::(sp [pn nm]++(sp [py bH]++(sp (exP 1 x)++[py ay])))):=rfl;rw[hP]at h hn⊢;simp only[Da,D7,Dc,an,bj]at hn;rw[bj];have h:=h.ln';have h0:t3 T i=(4,gP,0):=h.1;have h1:t3 T (i+1)=(2,nm,0):=h.2.1;have h2:t3 T (i+1+1)=(5,bH,0):=h.2.2.1;obtain⟨a1,a2⟩:=AtT.app' (T:=T) (i:=i+1+1+1) (a:=sp (exP 1 x)) (b:=[py ay]) h.2.2.2;rw[an]at a2;have h3:t3 T (i+1+1+1+(exP 1 x).length)=(5,ay,0):=a2.1;have hr:=dM (n:=n) (r:=0) (by show(exP 1 x).length<=n+1;omega) hx (by omega) a1.sp' (by rw[h3];kernel_rfl);rw[show i+(pk gP::(sp [pn nm]++(sp [py bH]++(sp (exP 1 x)++[py ay])))).length=i+1+1+1+(exP 1 x).length+1 by simp[an];omega];refine dS (ai h0 (by kernel_rfl)) (ai h0 (by kernel_rfl)) ?_ h3;unfold aU dh;rw[Dq (ai h0 (by kernel_rfl)),cu h1];simp only;rw[br (by rw[h2];kernel_rfl)];simp only;rw[hr]
  ·--assign
   have hz:ssz (stE 1 nm [x])=1+esz x:=by simp[stE,ssz,ci,eH]
   have hP:plS (stE 1 nm [x]) d=ln d (pn nm::(sp [py bH]++(sp (exP 1 x)++[py ay]))):=rfl;rw[hP]at h hn⊢;simp only[Da,D7,Dc,an,bj]at hn;rw[bj];have h:=h.ln';have h1:t3 T i=(2,nm,0):=h.1;have h2:t3 T (i+1)=(5,bH,0):=h.2.1;obtain⟨a1,a2⟩:=AtT.app' (T:=T) (i:=i+1+1) (a:=sp (exP 1 x)) (b:=[py ay]) h.2.2;rw[an]at a2;have h3:t3 T (i+1+1+(exP 1 x).length)=(5,ay,0):=a2.1;have hr:=dM (n:=n) (r:=0) (by show(exP 1 x).length<=n+1;omega) hx (by omega) a1.sp' (by rw[h3];kernel_rfl);have kn:∀y:ByteArray,isT T y i=false:=λy=>ai h1 (by unfold isK;simp);rw[show i+(pn nm::(sp [py bH]++(sp (exP 1 x)++[py ay]))).length=i+1+1+(exP 1 x).length+1 by simp[an];omega];refine dS (kn _) (kn _) ?_ h3;unfold aU dh
   rw[Dg (by rw[kn];decide),Dg (by rw[kn];decide),Dg (by rw[kn];decide),Dg (by rw[kn];decide),Dg (by rw[kn];decide),Dg (by rw[kn];decide),
    Dq ⟨(cH h1).1,(cH h2).1,(cH h2).2.1⟩,cu h1]
   simp only;rw[br (by rw[h2];kernel_rfl)];simp only;rw[hr]
  ·--store
   have hz:ssz (stE 2 nm [x,y])=1+(esz x+esz y):=by simp[stE,ssz,ci,eH]
   have hP:plS (stE 2 nm [x,y]) d=ln d (exP 9 x++(py DOT::pn nm::(sp [py bH]++(sp (exP 1 y)++[py ay])))):=rfl;rw[hP]at h hn⊢;simp only[Da,D7,Dc,an,bj]at hn;rw[bj];obtain⟨a1,a2⟩:=AtT.app' h.ln';have hhd:=a1.hd (eC (cD x));have hbg:=Beg.in_ 9 hx;have h0:t3 T (i+(exP 9 x).length)=(5,DOT,0):=a2.1;have h1:t3 T (i+(exP 9 x).length+1)=(2,nm,0):=a2.2.1;have h2:t3 T (i+(exP 9 x).length+1+1)=(5,bH,0):=a2.2.2.1;obtain⟨a3,a4⟩:=AtT.app' (T:=T) (i:=i+(exP 9 x).length+1+1+1) (a:=sp (exP 1 y)) (b:=[py ay]) a2.2.2.2;rw[an]at a4;have h3:t3 T (i+(exP 9 x).length+1+1+1+(exP 1 y).length)=(5,ay,0):=a4.1;have hr1:=dM (n:=n) (r:=8) (by show(exP 9 x).length<=n+1;omega) hx (by omega) a1 (by rw[h0];kernel_rfl);have hr2:=dM (n:=n) (r:=0) (by show(exP 1 y).length<=n+1;omega) hy (by omega) a3.sp' (by rw[h3];kernel_rfl);have kn:∀z:ByteArray,([gy,et,du,bX,dO,dA,bG,cE].all λy=> !decide (y=z))=true->isT T z i=false:=λz hz=>by rw[cL,hhd];exact hbg.not hz
   have hno:¬((tk T i).1=2/\(tk T (i+1)).1=5/\(tk T (i+1)).2.1=bH):=λ⟨e1,e2,e3⟩=>by
    obtain⟨s,hs⟩:=rk hx (by rw[<-hhd];exact e1);rw[hs]at h0;have:=(cH (show t3 T (i+1)=(5,DOT,0)from h0)).2.1;rw[e3]at this;exact absurd this (by intro h;have:=Ev (λb:ByteArray=>b.data.toList) h;exact absurd this (by decide))
   rw[show i+(exP 9 x++(py DOT::pn nm::(sp [py bH]++(sp (exP 1 y)++[py ay])))).length=i+(exP 9 x).length+1+1+1+(exP 1 y).length+1 by simp[an];omega];refine dS (kn _ (by kernel_rfl)) (kn _ (by kernel_rfl)) ?_ h3;unfold aU fg
   rw[Dg (by rw[kn _ (by kernel_rfl)];decide),Dg (by rw[kn _ (by kernel_rfl)];decide),Dg (by rw[kn _ (by kernel_rfl)];decide),Dg (by rw[kn _ (by kernel_rfl)];decide),Dg (by rw[kn _ (by kernel_rfl)];decide),
    Dg (by rw[kn _ (by kernel_rfl)];decide),Dg hno,hr1]
   simp only;rw[br (by rw[h0];kernel_rfl)];simp only;rw[cu h1];simp only;rw[br (by rw[h2];kernel_rfl)];simp only;rw[hr2]
  ·--if
   have hz:ssz (.mk 3 ⟨#[]⟩ [x] b e)=1+esz x+eH b+eH e:=by simp[ssz,ci]
   have hP:plS (.mk 3 ⟨#[]⟩ [x] b e) d=ln d (pk kIf::(sp (exP 1 x)++sp [py cq]))++(bU b (d+1)++((if e.isEmpty=true then[]else ln d (py cd::(sp [pk eu]++sp [py cq]))++bU e (d+1))++ln d [py cd])):=by rw[plS];rfl
   rw[hP]at h hel hn⊢;simp only[Da,D7,Dc,an,bj]at hn;obtain⟨a1,a2⟩:=AtT.app' h;rw[bj]at a2;have a1:=a1.ln';have h0:t3 T i=(4,kIf,0):=a1.1;obtain⟨a3,a4⟩:=AtT.app' (T:=T) (i:=i+1) (a:=sp (exP 1 x)) (b:=sp [py cq]) a1.2;rw[an]at a4;have h1:t3 T (i+1+(exP 1 x).length)=(5,cq,0):=a4.1;rw[show i+(pk kIf::(sp (exP 1 x)++sp [py cq])).length=i+1+(exP 1 x).length+1 by simp[an];omega]at a2;obtain⟨a5,a6⟩:=AtT.app' a2;have hr:=dM (n:=n) (r:=0) (by show(exP 1 x).length<=n+1;omega) hx (by omega) a3.sp' (by rw[h1];kernel_rfl);unfold dD ifT;rw[Dq (ai h0 (by kernel_rfl)),hr];simp only;cases e with
   |nil=>
    simp only[List.isEmpty_nil,Fe,Dc]at hn;have h2:t3 T (i+1+(exP 1 x).length+1+(bU b (d+1)).length)=(5,cd,0):=(show AtT T _ (tks (ln d [py cd]))from a6).ln'.1;have hbl:=ik (sub b hb (by omega) (by omega)) h1 a5 h2;rw[show i+(ln d (pk kIf::(sp (exP 1 x)++sp [py cq]))++(bU b (d+1)++((if([]:List St).isEmpty=true then[]else ln d (py cd::(sp [pk eu]++sp [py cq]))++bU [] (d+1))++ln d [py cd]))).length=i+1+(exP 1 x).length+1+(bU b (d+1)).length+1 by simp[an,bj];omega]at hel⊢;rw[hbl];simp only;rw[Dg (by rw[hel];decide)]
   |cons s e=>
    simp only[List.isEmpty_cons,EY,if_false,Da,D7,Dc,an,bj]at hn;obtain⟨a7,a8⟩:=AtT.app' (show AtT T _ (tks ((ln d (py cd::(sp [pk eu]++sp [py cq]))++bU (s::e) (d+1))++ln d [py cd]))from a6);obtain⟨a9,a10⟩:=AtT.app' a7;rw[bj]at a10;have a9:=a9.ln';have h2:t3 T (i+1+(exP 1 x).length+1+(bU b (d+1)).length)=(5,cd,0):=a9.1;have h3:t3 T (i+1+(exP 1 x).length+1+(bU b (d+1)).length+1)=(4,eu,0):=a9.2.1;have h4:t3 T (i+1+(exP 1 x).length+1+(bU b (d+1)).length+1+1)=(5,cq,0):=a9.2.2.1;have hbl:=ik (sub b hb (by omega) (by omega)) h1 a5 h2
    have h5:t3 T (i+1+(exP 1 x).length+1+(bU b (d+1)).length+1+1+1+(bU (s::e) (d+1)).length)=(5,cd,0):=by
     have:=a8.ln'.1;rw[show i+1+(exP 1 x).length+1+(bU b (d+1)).length+(ln d (py cd::(sp [pk eu]++sp [py cq]))++bU (s::e) (d+1)).length=i+1+(exP 1 x).length+1+(bU b (d+1)).length+1+1+1+(bU (s::e) (d+1)).length by simp[an,bj];omega]at this;exact this
    have hbe:=ik (sub (s::e) he (by omega) (by omega)) h4 a10 h5;rw[hbl];simp only;rw[Dq (ai h3 (by kernel_rfl)),hbe];simp only
    congr 1
    simp[an,bj];omega
  ·--while
   have hz:ssz (.mk 4 ⟨#[]⟩ [x] b [])=1+esz x+eH b:=by simp[ssz,ci,eH]
   have hP:plS (.mk 4 ⟨#[]⟩ [x] b []) d=ln d (pk dz::(sp (exP 1 x)++sp [py cq]))++(bU b (d+1)++ln d [py cd]):=by rw[plS];rfl
   rw[hP]at h hn⊢;simp only[Da,D7,Dc,an,bj]at hn;obtain⟨a1,a2⟩:=AtT.app' h;rw[bj]at a2;have a1:=a1.ln';have h0:t3 T i=(4,dz,0):=a1.1;obtain⟨a3,a4⟩:=AtT.app' (T:=T) (i:=i+1) (a:=sp (exP 1 x)) (b:=sp [py cq]) a1.2;rw[an]at a4;have h1:t3 T (i+1+(exP 1 x).length)=(5,cq,0):=a4.1;rw[show i+(pk dz::(sp (exP 1 x)++sp [py cq])).length=i+1+(exP 1 x).length+1 by simp[an];omega]at a2;obtain⟨a5,a6⟩:=AtT.app' a2;have h2:t3 T (i+1+(exP 1 x).length+1+(bU b (d+1)).length)=(5,cd,0):=a6.ln'.1;have hr:=dM (n:=n) (r:=0) (by show(exP 1 x).length<=n+1;omega) hx (by omega) a3.sp' (by rw[h1];kernel_rfl);have hbl:=ik (sub b hb (by omega) (by omega)) h1 a5 h2;rw[show i+(ln d (pk dz::(sp (exP 1 x)++sp [py cq]))++(bU b (d+1)++ln d [py cd])).length=i+1+(exP 1 x).length+1+(bU b (d+1)).length+1 by simp[an,bj];omega];unfold dD iS;rw[Dg (by rw[ai h0 (show _=false by kernel_rfl)];decide),Dq (ai h0 (by kernel_rfl)),hr];simp only;rw[hbl]
  ·--send
   have hz:ssz (stE 5 nm (x::l))=1+(esz x+ci l):=by simp[stE,ssz,ci,eH]
   have hP:plS (stE 5 nm (x::l)) d=ln d (pk eU::(sp (exP 8 x)++(py DOT::pn nm::(aq (plL l)++[py ay])))):=rfl;rw[hP]at h hn⊢;simp only[Da,D7,Dc,an,bj]at hn;rw[bj];have h:=h.ln';have h0:t3 T i=(4,eU,0):=h.1;obtain⟨a1,a2⟩:=AtT.app' (T:=T) (i:=i+1) (a:=sp (exP 8 x)) (b:=py DOT::pn nm::(aq (plL l)++[py ay])) h.2;rw[an]at a2;have h1:t3 T (i+1+(exP 8 x).length)=(5,DOT,0):=a2.1;have h2:t3 T (i+1+(exP 8 x).length+1)=(2,nm,0):=a2.2.1;obtain⟨a3,a4⟩:=AtT.app' (T:=T) (i:=i+1+(exP 8 x).length+1+1) (a:=aq (plL l)) (b:=[py ay]) a2.2.2;have h3:t3 T (i+1+(exP 8 x).length+1+1+(aq (plL l)).length)=(5,ay,0):=a4.1;obtain⟨K,hK,hr⟩:=lR (T:=T) (n:=n) (esz x) x (D8 _) (by omega) hx (i+1) a1.sp' h1;have hlt:=fD h1 (by decide);obtain⟨K,rfl⟩:∃K',K=K'+1:=⟨K-1,by omega⟩;have hls:=oi (good m) (n:=n) (l:=l) (i:=i+1+(exP 8 x).length+1+1) (λa ha=>⟨by have:=iC ha;omega,by have:=jG ha;omega,cG hl a ha⟩) a3
   have hlp:isT T cE (i+1+(exP 8 x).length+1+1)=true:=by
    rw[cL,a3.hd (by cases l<;>simp[plL,aq])];cases l<;>exact(by kernel_rfl:isK cE (5,cE,0)=true)
   rw[show i+(pk eU::(sp (exP 8 x)++(py DOT::pn nm::(aq (plL l)++[py ay])))).length=i+1+(exP 8 x).length+1+1+(aq (plL l)).length+1 by simp[an];omega];refine dS (ai h0 (by kernel_rfl)) (ai h0 (by kernel_rfl)) ?_ h3;unfold aU;rw[Dg (by rw[ai h0 (show _=false by kernel_rfl)];decide),Dq (ai h0 (by kernel_rfl)),hr];show(match bh T DOT (i+1+(exP 8 x).length)with| .bad j=>_| .ok _ j=>_)=_;rw[br (by rw[h1];kernel_rfl)];simp only;rw[cu h2];simp only;rw[Dq hlp,hls]
  ·--print
   have hz:ssz (stE 6 ⟨#[]⟩ [x])=1+esz x:=by simp[stE,ssz,ci,eH]
   have hP:plS (stE 6 ⟨#[]⟩ [x]) d=ln d (pk dN::(sp (exP 1 x)++[py ay])):=rfl;rw[hP]at h hn⊢;simp only[Da,D7,Dc,an,bj]at hn;rw[bj];have h:=h.ln';have h0:t3 T i=(4,dN,0):=h.1;obtain⟨a1,a2⟩:=AtT.app' (T:=T) (i:=i+1) (a:=sp (exP 1 x)) (b:=[py ay]) h.2;rw[an]at a2;have h3:t3 T (i+1+(exP 1 x).length)=(5,ay,0):=a2.1;have hr:=dM (n:=n) (r:=0) (by show(exP 1 x).length<=n+1;omega) hx (by omega) a1.sp' (by rw[h3];kernel_rfl);rw[show i+(pk dN::(sp (exP 1 x)++[py ay])).length=i+1+(exP 1 x).length+1 by simp[an];omega];refine dS (ai h0 (by kernel_rfl)) (ai h0 (by kernel_rfl)) ?_ h3;unfold aU;rw[Dg (by rw[ai h0 (show _=false by kernel_rfl)];decide),Dg (by rw[ai h0 (show _=false by kernel_rfl)];decide),Dq (ai h0 (by kernel_rfl)),hr]
  ·--move
   have hz:ssz (stE 7 ⟨#[]⟩ [x,y])=1+(esz x+esz y):=by simp[stE,ssz,ci,eH]
   have hP:plS (stE 7 ⟨#[]⟩ [x,y]) d=ln d (pk fG::(sp (exP 1 x)++(sp [pk kTo]++(sp (exP 1 y)++[py ay])))):=rfl;rw[hP]at h hn⊢;simp only[Da,D7,Dc,an,bj]at hn;rw[bj];have h:=h.ln';have h0:t3 T i=(4,fG,0):=h.1;obtain⟨a1,a2⟩:=AtT.app' (T:=T) (i:=i+1) (a:=sp (exP 1 x)) (b:=sp [pk kTo]++(sp (exP 1 y)++[py ay])) h.2;rw[an]at a2;have h1:t3 T (i+1+(exP 1 x).length)=(4,kTo,0):=a2.1;obtain⟨a3,a4⟩:=AtT.app' (T:=T) (i:=i+1+(exP 1 x).length+1) (a:=sp (exP 1 y)) (b:=[py ay]) a2.2;rw[an]at a4;have h3:t3 T (i+1+(exP 1 x).length+1+(exP 1 y).length)=(5,ay,0):=a4.1;have hr1:=dM (n:=n) (r:=0) (by show(exP 1 x).length<=n+1;omega) hx (by omega) a1.sp' (by rw[h1];kernel_rfl);have hr2:=dM (n:=n) (r:=0) (by show(exP 1 y).length<=n+1;omega) hy (by omega) a3.sp' (by rw[h3];kernel_rfl);rw[show i+(pk fG::(sp (exP 1 x)++(sp [pk kTo]++(sp (exP 1 y)++[py ay])))).length=i+1+(exP 1 x).length+1+(exP 1 y).length+1 by simp[an];omega];refine dS (ai h0 (by kernel_rfl)) (ai h0 (by kernel_rfl)) ?_ h3;unfold aU jE;rw[Dg (by rw[ai h0 (show _=false by kernel_rfl)];decide),Dg (by rw[ai h0 (show _=false by kernel_rfl)];decide),Dg (by rw[ai h0 (show _=false by kernel_rfl)];decide),Dq (ai h0 (by kernel_rfl)),hr1];simp only;rw[br (by rw[h1];kernel_rfl)];simp only;rw[hr2]
  ·--watch
   have hz:ssz (stE 8 nm [x,y])=1+(esz x+esz y):=by simp[stE,ssz,ci,eH]
   have hP:plS (stE 8 nm [x,y]) d=ln d (pk ez::(sp (exP 1 x)++(sp [pk kBy]++(sp [pn nm]++(py cE::(plE y++[py cZ])++[py ay]))))):=rfl;have hY:exP 1 y=plE y:=by unfold exP inP;rw[Dg (by have:=sJ y;omega)]
   have hYl:(exP 1 y).length=(plE y).length:=by rw[hY]
   rw[hP]at h hn⊢;simp only[Da,D7,Dc,an,bj]at hn;rw[bj];have h:=h.ln';have h0:t3 T i=(4,ez,0):=h.1;obtain⟨a1,a2⟩:=AtT.app' (T:=T) (i:=i+1) (a:=sp (exP 1 x)) (b:=sp [pk kBy]++(sp [pn nm]++(py cE::(plE y++[py cZ])++[py ay]))) h.2;rw[an]at a2;have h1:t3 T (i+1+(exP 1 x).length)=(4,kBy,0):=a2.1;have h2:t3 T (i+1+(exP 1 x).length+1)=(2,nm,0):=a2.2.1;have h3:t3 T (i+1+(exP 1 x).length+1+1)=(5,cE,0):=a2.2.2.1;obtain⟨a3,a4⟩:=AtT.app' (T:=T) (i:=i+1+(exP 1 x).length+1+1+1) (a:=exP 1 y) (b:=[py cZ,py ay]) (by rw[hY,show plE y++[py cZ,py ay]=(plE y++[py cZ])++[py ay] by simp];exact a2.2.2.2);have h4:t3 T (i+1+(exP 1 x).length+1+1+1+(exP 1 y).length)=(5,cZ,0):=a4.1;have h5:t3 T (i+1+(exP 1 x).length+1+1+1+(exP 1 y).length+1)=(5,ay,0):=a4.2.1;have hr1:=dM (n:=n) (r:=0) (by show(exP 1 x).length<=n+1;omega) hx (by omega) a1.sp' (by rw[h1];kernel_rfl);have hr2:=dM (n:=n) (r:=0) (by show(exP 1 y).length<=n+1;omega) hy (by omega) a3 (by rw[h4];kernel_rfl);rw[show i+(pk ez::(sp (exP 1 x)++(sp [pk kBy]++(sp [pn nm]++(py cE::(plE y++[py cZ])++[py ay]))))).length=i+1+(exP 1 x).length+1+1+1+(exP 1 y).length+1+1 by rw[hY];simp[an];omega];refine dS (ai h0 (by kernel_rfl)) (ai h0 (by kernel_rfl)) ?_ h5;unfold aU eO;rw[Dg (by rw[ai h0 (show _=false by kernel_rfl)];decide),Dg (by rw[ai h0 (show _=false by kernel_rfl)];decide),Dg (by rw[ai h0 (show _=false by kernel_rfl)];decide),Dg (by rw[ai h0 (show _=false by kernel_rfl)];decide),Dq (ai h0 (by kernel_rfl)),hr1];simp only;rw[br (by rw[h1];kernel_rfl)];simp only;rw[cu h2];simp only;rw[br (by rw[h3];kernel_rfl)];simp only;rw[hr2];simp only;rw[br (by rw[h4];kernel_rfl)]
  ·--return
   have hP:plS (stE 9 ⟨#[]⟩ []) d=ln d [pk dL,py ay]:=rfl;rw[hP]at h hn⊢;simp only[Da,D7,Dc,an,bj]at hn;rw[bj];have h:=h.ln';have h0:t3 T i=(4,dL,0):=h.1;have h3:t3 T (i+1)=(5,ay,0):=h.2.1;refine dS (j:=i+1) (ai h0 (by kernel_rfl)) (ai h0 (by kernel_rfl)) ?_ h3;unfold aU
   rw[Dg (by rw[ai h0 (show _=false by kernel_rfl)];decide),Dg (by rw[ai h0 (show _=false by kernel_rfl)];decide),Dg (by rw[ai h0 (show _=false by kernel_rfl)];decide),Dg (by rw[ai h0 (show _=false by kernel_rfl)];decide),
    Dg (by rw[ai h0 (show _=false by kernel_rfl)];decide),Dq (ai h0 (by kernel_rfl))]
end
def nmX(s:ByteArray):Nat×List Pc:=(9,[pn s])
def fdP(f:ByteArray):List Pc:=ln 1 (pk pR::(sp [pn f]++[py ay]))
def gj:List ByteArray->List Pc
 |[]=>[]
 |f::l=>fdP f++gj l
def meP(m:Me):List Pc:=ln 1 (pk kOn::(sp [pn m.nm]++(aq (m.params.map nmX)++sp [py cq])))++(bU m.body 2++ln 1 [py cd])
def fQ:List Me->List Pc
 |[]=>[]
 |m::l=>meP m++fQ l
def clP(c:Cl):List Pc:=ln 0 (pk (if c.actor=true then eA else ei)::(sp [pc c.nm]++sp [py cq]))++(gj c.fields++(fQ c.methods++ln 0 [py cd]))
def prP:List Cl->List Pc
 |[]=>[]
 |c::l=>clP c++prP l
def vNm(l:List ByteArray):Bool:=l.all λs=>az s 97 122
def vMe(m:Me):Bool:=az m.nm 97 122&&(vNm m.params&&vSs m.body)
def vCl(c:Cl):Bool:=az c.nm 65 90&&(vNm c.fields&&((c.actor||c.methods.isEmpty)&&c.methods.all vMe))
def vPr(l:List Cl):Bool:=l.all vCl
section
variable{T:List Tk}
theorem oS:∀(l xs:List ByteArray) (K i:Nat),T.length+1<=K+i->AtT T i (tks (dw (l.map nmX)))->dq T (bK T 2) K xs i= .ok (xs++l) (i+(dw (l.map nmX)).length)
 |[],xs,K,i,hK,h=>by
  have h0:t3 T i=(5,cZ,0):=h.1;have hlt:=fD h0 (by decide);obtain⟨K,rfl⟩:∃K',K=K'+1:=⟨K-1,by omega⟩;unfold dq;rw[Dg (by rw[ai h0 (show _=false by kernel_rfl)];decide),br (by rw[h0];kernel_rfl),DC];rfl
 |a::l,xs,K,i,hK,h=>by
  have h0:t3 T i=(5,il,0):=h.1;have h1:t3 T (i+1)=(2,a,0):=h.2.1;have hlt:=fD h0 (by decide);obtain⟨K,rfl⟩:∃K',K=K'+1:=⟨K-1,by omega⟩;unfold dq;rw[Dq (ai h0 (by kernel_rfl)),cu h1];simp only;rw[oS l (xs++[a]) K (i+1+1) (by omega) h.2.2];simp[dw,nmX,sp];omega
theorem uF(h:AtT T i (tks (aq (l.map nmX)))):bW T (bK T 2) i= .ok l (i+(aq (l.map nmX)).length):=by
 cases l with
 |nil=>
  have h0:t3 T i=(5,cE,0):=h.1;have h1:t3 T (i+1)=(5,cZ,0):=h.2.1;unfold bW;rw[br (by rw[h0];kernel_rfl)];simp only;rw[Dq (ai h1 (by kernel_rfl))];rfl
 |cons a l=>
  have h0:t3 T i=(5,cE,0):=h.1;have h1:t3 T (i+1)=(2,a,0):=h.2.1;unfold bW;rw[br (by rw[h0];kernel_rfl)];simp only;rw[Dg (by rw[ai h1 (show isK cZ (2,a,0)=false by unfold isK;simp)];decide),cu h1];simp only;rw[oS l [a] (T.length+1) (i+1+1) (by omega) h.2.2];simp[aq,nmX];omega
theorem s8:∀(l fs:List ByteArray) (K i:Nat),T.length+1<=K+i->AtT T i (tks (gj l))->i+(gj l).length<T.length->isT T pR (i+(gj l).length)=false->bL T K fs i= .ok (fs++l) (i+(gj l).length)
 |[],fs,K,i,hK,h,hl,hn=>by
  have hl:i+0<T.length:=hl;obtain⟨K,rfl⟩:∃K',K=K'+1:=⟨K-1,by omega⟩;unfold bL;rw[Dg (by rw[show isT T pR i=false from hn];decide),DC];rfl
 |a::l,fs,K,i,hK,h,hl,hn=>by
  have hlen:i+(gj (a::l)).length=i+1+1+1+(gj l).length:=by rw[gj];simp[fdP,bj,an];omega
  rw[hlen]at hl hn⊢;obtain⟨a1,a2⟩:=AtT.app' (a:=fdP a) h;have a1:=a1.ln';have h0:t3 T i=(4,pR,0):=a1.1;have h1:t3 T (i+1)=(2,a,0):=a1.2.1;have h2:t3 T (i+1+1)=(5,ay,0):=a1.2.2.1;rw[show i+(fdP a).length=i+1+1+1 by simp[fdP,bj,an]<;>omega]at a2;obtain⟨K,rfl⟩:∃K',K=K'+1:=⟨K-1,by omega⟩;unfold bL;rw[Dq (ai h0 (by kernel_rfl)),cu h1];simp only;rw[br (by rw[h2];kernel_rfl)];simp only;rw[s8 l (fs++[a]) K (i+1+1+1) (by omega) a2 hl hn];simp
theorem nB{n:Nat}(hv:vMe m=true)(hn:(meP m).length<=n)(h:AtT T i (tks (meP m))):t3 T i=(4,kOn,0)/\eX T n (i+1)= .ok m (i+(meP m).length):=by
 unfold vMe at hv;simp only[Ds]at hv;obtain⟨v1,v2,v3⟩:=hv;obtain⟨a1,a2⟩:=AtT.app' h;rw[bj]at a2;have a1:=a1.ln';have h0:t3 T i=(4,kOn,0):=a1.1;have h1:t3 T (i+1)=(2,m.nm,0):=a1.2.1;obtain⟨a3,a4⟩:=AtT.app' (T:=T) (i:=i+1+1) (a:=aq (m.params.map nmX)) (b:=sp [py cq]) a1.2.2;have h2:t3 T (i+1+1+(aq (m.params.map nmX)).length)=(5,cq,0):=a4.1;rw[show i+(pk kOn::(sp [pn m.nm]++(aq (m.params.map nmX)++sp [py cq]))).length=i+1+1+(aq (m.params.map nmX)).length+1 by simp[an];omega]at a2;obtain⟨a5,a6⟩:=AtT.app' a2;have h3:t3 T (i+1+1+(aq (m.params.map nmX)).length+1+(bU m.body 2).length)=(5,cd,0):=a6.ln'.1;have hlen:(meP m).length=1+1+(aq (m.params.map nmX)).length+1+(bU m.body 2).length+1:=by simp[meP,bj,an];omega
 have hbl:=ik (T:=T) (n:=n) (d:=2) (l:=m.body) (λs hs=>⟨dY v3 s hs,λi a b=>zP (ssz s) n 2 s i (D8 _) (by have:=m5 (d:=2) hs;omega) (dY v3 s hs) a b⟩) h2 a5 h3;refine⟨h0,?_⟩;unfold eX;rw[cu h1];simp only;rw[uF a3];simp only;rw[hbl,hlen];simp only
 congr 1
 omega
theorem AD(m:Me):meP m≠[]:=λh=>pN (d:=1) (by simp) (List.append_eq_nil_iff.1 h).1
theorem m9{n:Nat}:∀(l ms:List Me) (K i:Nat),(∀m∈l,vMe m=true)->(fQ l).length<=n->T.length+1<=K+i->AtT T i (tks (fQ l))->i+(fQ l).length<T.length->isT T kOn (i+(fQ l).length)=false->
 ax T n K ms i= .ok (ms++l) (i+(fQ l).length)
 |[],ms,K,i,_,_,hK,h,hl,hn=>by
  have hl:i+0<T.length:=hl;obtain⟨K,rfl⟩:∃K',K=K'+1:=⟨K-1,by omega⟩;unfold ax;rw[Dg (by rw[show isT T kOn i=false from hn];decide),DC];rfl
 |m::l,ms,K,i,hv,hN,hK,h,hl,hn=>by
  have hlen:i+(fQ (m::l)).length=i+(meP m).length+(fQ l).length:=by rw[fQ];simp;omega
  have hle:(fQ (m::l)).length=(meP m).length+(fQ l).length:=by rw[fQ];simp
  have hpos:1<=(meP m).length:=List.length_pos_iff.2 (AD m);rw[hlen]at hl hn⊢;obtain⟨a1,a2⟩:=AtT.app' (a:=meP m) h;obtain⟨h0,h1⟩:=nB (n:=n) (hv m (by simp)) (by omega) a1;obtain⟨K,rfl⟩:∃K',K=K'+1:=⟨K-1,by omega⟩;unfold ax;rw[Dq (ai h0 (by kernel_rfl)),h1];simp only;rw[m9 l (ms++[m]) K (i+(meP m).length) (λb hb=>hv b (by simp[hb])) (by omega) (by omega) a2 hl hn];simp
theorem xD{n:Nat}{c:Cl}(hv:vCl c=true)(hn:(clP c).length<=n)(h:AtT T i (tks (clP c))):t3 T i=(4,if c.actor=true then eA else ei,0)/\cX T n c.actor (i+1)= .ok c (i+(clP c).length):=by
 unfold vCl at hv;simp only[Ds,Em,List.isEmpty_iff,Dr]at hv;obtain⟨v1,v2,v3,v4⟩:=hv;obtain⟨a1,a2⟩:=AtT.app' h;rw[bj]at a2;have a1:=a1.ln';have h0:t3 T i=(4,if c.actor=true then eA else ei,0):=a1.1;have h1:t3 T (i+1)=(3,c.nm,0):=a1.2.1;have h2:t3 T (i+1+1)=(5,cq,0):=a1.2.2.1;rw[show i+(pk (if c.actor=true then eA else ei)::(sp [pc c.nm]++sp [py cq])).length=i+1+1+1 by simp[an]<;>omega]at a2;obtain⟨a3,a4⟩:=AtT.app' a2;obtain⟨a5,a6⟩:=AtT.app' a4;have h3:t3 T (i+1+1+1+(gj c.fields).length+(fQ c.methods).length)=(5,cd,0):=a6.ln'.1;have hlt:=fD h3 (by decide);have hlen:(clP c).length=1+1+1+(gj c.fields).length+(fQ c.methods).length+1:=by simp[clP,bj,an];omega
 have hnv:isT T pR (i+1+1+1+(gj c.fields).length)=false:=by
  cases hm:c.methods with
  |nil=>rw[hm]at h3;exact ai h3 (by kernel_rfl)
  |cons m l=>
   rw[hm]at a5;have:=(nB (n:=(meP m).length) (v4 m (by simp[hm])) (D8 _) (AtT.app' (a:=meP m) a5).1).1;exact ai this (by kernel_rfl)
 have hno:isT T kOn (i+1+1+1+(gj c.fields).length+(fQ c.methods).length)=false:=ai h3 (by kernel_rfl);refine⟨h0,?_⟩;unfold cX;rw[cu h1];simp only;rw[br (by rw[h2];kernel_rfl)];simp only;rw[s8 c.fields [] (T.length+1) (i+1+1+1) (by omega) a3 (by omega) hnv];simp only
 have hms:(if c.actor=true then ax T n (T.length+1) [] (i+1+1+1+(gj c.fields).length)else .ok [] (i+1+1+1+(gj c.fields).length))= .ok c.methods (i+1+1+1+(gj c.fields).length+(fQ c.methods).length):=by
  by_cases ha:c.actor=true
  ·rw[Dq ha,m9 c.methods [] (T.length+1) _ v4 (by omega) (by omega) a5 hlt hno];simp
  ·have hm:=v3.resolve_left ha;rw[Dg ha,hm];rfl
 rw[hms];simp only;rw[br (by rw[h3];kernel_rfl)];simp only;rw[hlen];obtain⟨a,b,c',d⟩:=c;simp only[DY]
 congr 1
 omega
theorem Bj(c:Cl):clP c≠[]:=λh=>pN (d:=0) (by simp) (List.append_eq_nil_iff.1 h).1
theorem mH{n:Nat}:∀(l cs:List Cl) (K i:Nat),(∀c∈l,vCl c=true)->(prP l).length<=n->T.length+1<=K+i->AtT T i (tks (prP l))->i+(prP l).length<T.length->t3 T (i+(prP l).length)=(0,⟨#[]⟩,0)->
 cn T n K cs i= .ok (cs++l) (i+(prP l).length)
 |[],cs,K,i,_,_,hK,h,hl,hn=>by
  have hl:i+0<T.length:=hl;have hn:t3 T i=(0,⟨#[]⟩,0):=hn;obtain⟨K,rfl⟩:∃K',K=K'+1:=⟨K-1,by omega⟩;unfold cn;rw[Dg (by rw[ai hn (show _=false by kernel_rfl)];decide),Dg (by rw[ai hn (show _=false by kernel_rfl)];decide),Dq (cH hn).1,DC];rfl
 |c::l,cs,K,i,hv,hN,hK,h,hl,hn=>by
  have hlen:i+(prP (c::l)).length=i+(clP c).length+(prP l).length:=by rw[prP];simp;omega
  have hle:(prP (c::l)).length=(clP c).length+(prP l).length:=by rw[prP];simp
  have hpos:1<=(clP c).length:=List.length_pos_iff.2 (Bj c);rw[hlen]at hl hn⊢;obtain⟨a1,a2⟩:=AtT.app' (a:=clP c) h;obtain⟨h0,h1⟩:=xD (n:=n) (hv c (by simp)) (by omega) a1;obtain⟨K,rfl⟩:∃K',K=K'+1:=⟨K-1,by omega⟩;have ih:=mH (n:=n) l (cs++[c]) K (i+(clP c).length) (λb hb=>hv b (by simp[hb])) (by omega) (by omega) a2 hl hn;unfold cn;by_cases ha:c.actor=true
  ·rw[Dq ha]at h0;rw[ha]at h1;rw[Dq (ai h0 (by kernel_rfl)),h1];simp only;rw[ih];simp
  ·rw[Dg ha]at h0;rw[Bool.not_eq_true]at ha;rw[ha]at h1;rw[Dg (by rw[ai h0 (show _=false by kernel_rfl)];decide),Dq (ai h0 (by kernel_rfl)),h1];simp only;rw[ih];simp
theorem qT(hv:vPr cs=true)(h:AtT T 0 (tks (prP cs)))(hl:T.length=(prP cs).length+1)(he:t3 T (prP cs).length=(0,⟨#[]⟩,0)):dp T= .ok cs (prP cs).length:=by
 unfold dp;have:=mH (T:=T) (n:=T.length+1) cs [] (T.length+1) 0 (by unfold vPr at hv;simpa using hv) (by omega) (by omega) h (by omega) (by rw[Ep];exact he);rw[this];simp
end
def gZ(k:Int)(r:List UInt8):Bool:=r.head?.all λc=>if k=5 then c !=61 else !fL c
def yP:Int:=2305843009213693951
def okT(t:TK):Prop:=(∃z:Int,t=(1,⟨(Lib.itoa z).toArray⟩,z)/\0<=z/\z<=yP)\/(∃s,t=(2,s,0)/\az s 97 122=true)\/(∃s,t=(3,s,0)/\az s 65 90=true)\/(∃s,t=(4,s,0)/\s∈kwL)\/∃s,t=(5,s,0)/\s∈bA
theorem uB(c:UInt8):fL c=eS c:=by
 unfold fL eQ dV eS
 have e:(c==95)=decide ((c.toNat:Int)=95):=by
  by_cases h:c=95
  ·subst h;decide
  ·have:c.toNat≠95:=λhe=>h (ET.1 he);rw[D9.2 h,EH (by omega)]
 rw[e];rw[Bool.eq_iff_iff];simp only[Em,Ds,DE];omega
theorem tw{p:UInt8->Bool}:∀{s r:List UInt8},s.all p=true->(r.head?.all λc=> !p c)=true->(s++r).takeWhile p=s/\(s++r).dropWhile p=r
 |[],[],_,_=>⟨rfl,rfl⟩
 |[],c::r,_,h=>by
  simp at h;simp[List.takeWhile,List.dropWhile,h]
 |a::s,r,h,h2=>by
  simp only[List.all_cons,Ds]at h;obtain⟨h3,h4⟩:=tw (s:=s) (r:=r) h.2 h2;simp[List.takeWhile,List.dropWhile,h.1,h3,h4]
theorem ry{s:ByteArray}(h:s∈l):inB l s=true:=by
 unfold inB;rw[EA];exact⟨s,h,by simp⟩
theorem ly{s:ByteArray}(h:inB l s=true):s∈l:=by
 unfold inB at h;rw[EA]at h;obtain⟨x,hx,he⟩:=h;rw[EU,DZ,DZ]at he
 have:x=s:=by
  obtain⟨⟨a⟩⟩:=x;obtain⟨⟨b⟩⟩:=s;simp at he;rw[he]
 rwa[<-this]
theorem lB(s:ByteArray):ba s.data.toList=s:=by obtain⟨⟨l⟩⟩:=s;rfl
theorem lC{s:ByteArray}{r:List UInt8}{c:UInt8}{l:List UInt8}(hs:s.data.toList=c::l)(hc:eQ c=true)(hw:s.data.toList.all fL=true)(hl:s.data.toList.length<=31)(hr:gZ 4 r=true):
 ew (s.data.toList++r)= .tok (if inB kwL s=true then 4 else if c.toNat<=90 then 3 else 2) s.data.toList 0:=by
 have hr':(r.head?.all λc=> !fL c)=true:=hr;obtain⟨t1,_⟩:=tw (r:=r) hw hr'
 have e:ew (s.data.toList++r)=nA (s.data.toList++r):=by
  rw[hs];unfold ew;show(if eQ c=true then nA (c::(l++r))else _)=_;rw[Dq hc];rfl
 rw[e];unfold nA;simp only;rw[t1,Dg (by omega),lB,hs];simp
theorem fj{s:ByteArray}{lo hi:Int}(h:az s lo hi=true):∃c l,s.data.toList=c::l/\lo<=(c.toNat:Int)/\(c.toNat:Int)<=hi/\inB kwL s=false/\s.data.toList.all fL=true/\s.data.toList.length<=31:=by
 unfold az at h;cases hs:s.data.toList with
 |nil=>rw[hs]at h;cases h
 |cons c l=>
  rw[hs]at h;simp only[Ds,DE,EN]at h;obtain⟨⟨⟨⟨h1,h2⟩,h3⟩,h4⟩,h5⟩:=h;refine⟨c,l,rfl,h2,h3,h4,?_,?_⟩
  ·rw[<-h5];congr 1;exact funext λc=>uB c
  ·rw[<-hs];exact h1
theorem uK(n:Nat):iG (Lib.decDigits n)=n:=by
 induction n using Nat.strongRecOn with
 |_ n ih=>
  by_cases h:n<10
  ·have e:(UInt8.ofNat (48+n)).toNat=48+n:=by simp;omega
   rw[cF h];unfold iG;simp only[List.foldl,e];omega
  ·have e:(UInt8.ofNat (48+n%10)).toNat=48+n%10:=by simp;omega
   have:=ih (n/10) (by omega);rw[fp (by omega)];unfold iG at this⊢;rw[List.foldl_append,this];simp only[List.foldl,e];omega
theorem xu(n:Nat):10<=n->(Lib.decDigits n).head?≠some 48:=by
 induction n using Nat.strongRecOn with
 |_ n ih=>
  intro h;rw[fp h];obtain⟨c,l,hc,h1,h2⟩:=ij (n/10);rw[hc];show some c≠some 48;by_cases h10:n/10<10
  ·rw[cF h10]at hc;have e:(UInt8.ofNat (48+n/10)).toNat=48+n/10:=by simp;omega
   intro he;injection he with he;subst he;injection hc with hc;have:=Ev UInt8.toNat hc;rw[e]at this;have:48+n/10=48:=this;omega
  ·have:=ih (n/10) (by omega) (by omega);rw[hc]at this;exact this
theorem zp(n:Nat):(Lib.decDigits n).all dV=true:=by
 rw[Dr];intro c hc;have:=dt n c hc;unfold dV;simp[this]
theorem oC{c:UInt8}(h:fL c=false):dV c=false/\eQ c=false/\(c==95)=false:=by
 unfold fL at h;simp only[Bool.or_eq_false_iff]at h;exact⟨h.1.2,h.1.1,h.2⟩
theorem yJ{z:Int}{r:List UInt8}(h0:0<=z)(h1:z<=yP)(hr:gZ 1 r=true):ew (Lib.itoa z++r)= .tok 1 (Lib.itoa z) z:=by
 obtain⟨n,rfl⟩:=Dw h0;rw[show Lib.itoa (n:Int)=Lib.decDigits n from by unfold Lib.itoa;rw[Dg (by omega)];rfl]
 have hr':(r.head?.all λc=> !dV c)=true:=by
  cases r with
  |nil=>rfl
  |cons c r=>
   have:(!fL c)=true:=hr;rw[EN]at this;show(!dV c)=true;rw[(oC this).1];rfl
 obtain⟨t1,t2⟩:=tw (r:=r) (zp n) hr';obtain⟨c,l,hc,d1,d2⟩:=ij n;have hcl:eQ c=false:=by unfold eQ;simp;omega
 have hcd:dV c=true:=by unfold dV;simp[d1,d2]
 have e:ew (Lib.decDigits n++r)=kj (Lib.decDigits n++r):=by
  rw[hc];unfold ew;show(if eQ c=true then _ else if dV c=true then kj (c::(l++r))else _)=_;rw[Dg (by rw[hcl];decide),Dq hcd];rfl
 rw[e];unfold kj;simp only;rw[t1,t2,Dg,uK,Dg (by unfold yP at h1;omega)];rintro(⟨h2,h3⟩|h2)
 ·by_cases hn:n<10
  ·rw[cF hn]at h2;simp at h2
  ·exact xu n (by omega) h3
 ·cases r with
  |nil=>cases h2
  |cons c r=>
   have:(!fL c)=true:=hr;rw[EN]at this;have h3:(eQ c||c==95)=true:=h2;rw[(oC this).2.1,(oC this).2.2]at h3;cases h3
theorem yq:(bA.all λx=>match x.data.toList with|[a]=> !eQ a&& !dV a&& !gY a&&a !=35&&a !=95|[a,b]=> !eQ a&& !dV a&& !gY a&&a !=35&&a !=95&&b==61|_=>false)=true:=by kernel_rfl
theorem fV{s:ByteArray}(h:s∈bA):∃a,eQ a=false/\dV a=false/\gY a=false/\a≠35/\a≠95/\(s.data.toList=[a]\/s.data.toList=[a,61]):=by
 have:=Dr.1 yq s h
 match hs:s.data.toList with
 |[]=>rw[hs]at this;cases this
 |[a]=>
  rw[hs]at this;simp at this;exact⟨a,this.1.1.1.1,this.1.1.1.2,this.1.1.2,this.1.2,this.2,.inl rfl⟩
 |[a,b]=>
  rw[hs]at this;simp at this;obtain⟨h1,h2⟩:=this;subst h2;exact⟨a,h1.1.1.1.1,h1.1.1.1.2,h1.1.1.2,h1.1.2,h1.2,.inr rfl⟩
 |_::_::_::_=>rw[hs]at this;cases this
theorem yp{s:ByteArray}{r:List UInt8}(h:s∈bA)(hr:gZ 5 r=true):ew (s.data.toList++r)= .tok 5 s.data.toList 0:=by
 obtain⟨a,h1,h2,_,_,_,hs⟩:=fV h
 have e:∀l,ew (a::l)=fE (a::l):=λl=>by
  unfold ew;show(if eQ a=true then _ else if dV a=true then _ else fE (a::l))=_;rw[Dg (by rw[h1];decide),Dg (by rw[h2];decide)]
 have hb:=lB s;rcases hs with hs|hs
 ·rw[hs]at hb⊢;show ew (a::r)=_;rw[e];unfold fE;rw[Dg,Dq (by show inB bA (ba [a])=true;rw[hb];exact ry h)]
  ·rfl
  ·rintro⟨h3,h4⟩;cases r with
   |nil=>simp at h3
   |cons c r=>
    have h4:=ly (show inB bA (ba [a,c])=true from h4);obtain⟨a',_,_,_,_,_,h5⟩:=fV h4;rcases h5 with h5|h5
    ·cases h5
    ·have:[a,c]=[a',61]:=h5;injection this with _ h6;injection h6 with h6;have h7:(c !=61)=true:=hr;rw[h6]at h7;cases h7
 ·rw[hs]at hb⊢;show ew (a::61::r)=_;rw[e];unfold fE;rw[Dq ⟨by simp,by show inB bA (ba [a,61])=true;rw[hb];exact ry h⟩];rfl
theorem wT:(kwL.all λx=>match x.data.toList with|a::l=>eQ a&&(a::l).all fL&&decide ((a::l).length<=31)|_=>false)=true:=by kernel_rfl
theorem nn{k:Int}(h:k≠5){r:List UInt8}(hr:gZ k r=true):gZ 4 r=true:=by
 unfold gZ at*
 simpa[h]using hr
theorem qD{t:TK}{r:List UInt8}(h:okT t)(hr:gZ t.1 r=true):ew (t.2.1.data.toList++r)= .tok t.1 t.2.1.data.toList t.2.2/\∃c l,t.2.1.data.toList=c::l/\gY c=false/\c≠35:=by
 have lsp:∀c:UInt8,48<=c.toNat->gY c=false/\c≠35:=λc hc=>by
  have hne:∀k:UInt8,k.toNat<48->(c==k)=false:=λk hk=>D9.2 λe=>by rw[e]at hc;omega
  unfold gY;rw[hne 32 (by decide),hne 9 (by decide),hne 10 (by decide),hne 13 (by decide)];exact⟨rfl,λe=>by have:=hne 35 (by decide);rw[e]at this;cases this⟩
 rcases h with⟨z,rfl,h0,h1⟩|⟨s,rfl,hs⟩|⟨s,rfl,hs⟩|⟨s,rfl,hs⟩|⟨s,rfl,hs⟩
 ·refine⟨yJ h0 h1 hr,?_⟩;obtain⟨n,rfl⟩:=Dw h0;obtain⟨c,l,hc,d1,d2⟩:=ij n;refine⟨c,l,?_,lsp c (by omega)⟩;show Lib.itoa (n:Int)=_;rw[show Lib.itoa (n:Int)=Lib.decDigits n from by unfold Lib.itoa;rw[Dg (by omega)];rfl];exact hc
 ·obtain⟨c,l,hc,h1,h2,h3,h4,h5⟩:=fj hs;have:=lC (r:=r) hc (by unfold eQ;simp;omega) h4 h5 (nn (show(2:Int)≠5 by decide) hr);rw[h3,Dg (by decide),Dg (by omega)]at this;exact⟨this,c,l,hc,lsp c (by omega)⟩
 ·obtain⟨c,l,hc,h1,h2,h3,h4,h5⟩:=fj hs;have:=lC (r:=r) hc (by unfold eQ;simp;omega) h4 h5 (nn (show(3:Int)≠5 by decide) hr);rw[h3,Dg (by decide),Dq (by omega)]at this;exact⟨this,c,l,hc,lsp c (by omega)⟩
 ·have hk:=Dr.1 wT s hs;cases hc:s.data.toList with
  |nil=>rw[hc]at hk;cases hk
  |cons c l=>
   rw[hc]at hk;simp only[Ds,DE]at hk;obtain⟨⟨k1,k2⟩,k3⟩:=hk;have:=lC (s:=s) (r:=r) hc k1 (by rw[hc];exact k2) (by rw[hc];exact k3) hr;rw[ry hs,Dq rfl,hc]at this;refine⟨this,c,l,rfl,lsp c ?_⟩;unfold eQ at k1;simp at k1;omega
 ·obtain⟨a,_,_,h3,h4,_,h5⟩:=fV hs;refine⟨yp hs hr,?_⟩;rcases h5 with h5|h5
  ·exact⟨a,[],h5,h3,h4⟩
  ·exact⟨a,[61],h5,h3,h4⟩
def ag(l:List Pc):List UInt8:=l.flatMap λp=>p.pre++(p.t.2.1.data.toList++p.post)
def spcs(l:List UInt8):Prop:=∀c∈l,c=32\/c=10
def Adj(p q:Pc):Prop:=p.post++q.pre≠[]\/((p.t.1=5\/q.t.1=5)/\q.t.2.1.data.toList.head?≠some 61)
def Chn:List Pc->Prop
 |[]=>True
 |[_]=>True
 |p::q::l=>Adj p q/\Chn (q::l)
def OkP(p:Pc):Prop:=okT p.t/\spcs p.pre/\spcs p.post
theorem spcs.app{a b:List UInt8}(h:spcs a)(h2:spcs b):spcs (a++b):=λc hc=>by(rcases DR.1 hc with hc|hc)<;>first|exact h c hc|exact h2 c hc
theorem spcs.nil:spcs []:=λ_ h=>by cases h
theorem kf:∀{x:List UInt8} (r:List UInt8),spcs x->bm false (x++r)=bm false r
 |[],r,_=>rfl
 |c::x,r,h=>by
  have hc:gY c=true:=by rcases h c (by simp)with rfl|rfl<;>rfl
  show bm false (c::(x++r))=_;rw[bm,Dq hc,kf r λd hd=>h d (by simp[hd])]
theorem np{k:Int}{r:List UInt8}(h:spcs x)(hx:x≠[]):gZ k (x++r)=true:=by
 cases x with
 |nil=>exact absurd rfl hx
 |cons c x=>
  unfold gZ;show(if k=5 then c !=61 else !fL c)=true;rcases h c (by simp)with rfl|rfl<;>(split<;>decide)
theorem tH{p:Pc}{l:List Pc}(hp:OkP p)(hl:∀q∈l,OkP q)(hc:Chn (p::l)):gZ p.t.1 (p.post++ag l)=true:=by
 cases l with
 |nil=>
  by_cases h:p.post=[]
  ·rw[h];rfl
  ·exact np hp.2.2 h
 |cons q l=>
  have hq:=hl q (by simp);show gZ p.t.1 (p.post++((q.pre++(q.t.2.1.data.toList++q.post))++ag l))=true;rw[Dp,<-Dp];by_cases h:p.post++q.pre=[]
  ·rw[h];rcases hc.1 with h'|⟨h1,h2⟩
   ·exact absurd h h'
   ·obtain⟨_,c,r,hs,_,_⟩:=qD (t:=q.t) (r:=[]) hq.1 rfl;rw[hs]at h2⊢;show(if p.t.1=5 then c !=61 else !fL c)=true;by_cases h5:p.t.1=5
    ·rw[Dq h5,bne_iff_ne];exact λe=>h2 (by rw[e];rfl)
    ·rw[Dg h5];have h5:=h1.resolve_left h5;rcases hq.1 with⟨z,e,_⟩|⟨s,e,_⟩|⟨s,e,_⟩|⟨s,e,_⟩|⟨s,e,he⟩
     ·rw[e]at h5;exact absurd h5 (show ¬(1:Int)=5 by decide)
     ·rw[e]at h5;exact absurd h5 (show ¬(2:Int)=5 by decide)
     ·rw[e]at h5;exact absurd h5 (show ¬(3:Int)=5 by decide)
     ·rw[e]at h5;exact absurd h5 (show ¬(4:Int)=5 by decide)
     ·rw[e]at hs;obtain⟨a,a1,a2,_,_,a5,a6⟩:=fV he
      have:a=c:=by
       have hs:s.data.toList=c::r:=hs;rcases a6 with a6|a6<;>(rw[a6]at hs;injection hs)
      subst this;unfold fL;rw[a1,a2,D9.2 a5];rfl
  ·exact np (hp.2.2.app hq.2.1) h
theorem kL(N:Nat):∀(l:List Pc) (x:List UInt8) (k:Nat) (ts:List Tk),(∀p∈l,OkP p)->Chn l->spcs x->l.length<k->
 ∃Ts,cU N k (x++ag l) ts= .toks (ts++Ts)/\Ts.map (λt=>((t.1,t.2.1,t.2.2.1):TK))=tks l++[(0,⟨#[]⟩,0)]
 |[],x,k,ts,_,_,hx,hk=>by
  obtain⟨k,rfl⟩:∃k',k=k'+1:=⟨k-1,by have:0<k:=hk;omega⟩;unfold cU;rw[kf _ hx];exact⟨_,rfl,rfl⟩
 |p::l,x,k,ts,hl,hc,hx,hk=>by
  obtain⟨k,rfl⟩:∃k',k=k'+1:=⟨k-1,by have:(l.length+1)<k:=hk;omega⟩;have hp:=hl p (by simp);have hl':∀q∈l,OkP q:=λq hq=>hl q (by simp[hq]);obtain⟨h1,c,r,hs,h2,h3⟩:=qD hp.1 (tH hp hl' hc)
  have hc':Chn l:=by
   cases l with
   |nil=>trivial
   |cons q l=>exact hc.2
  obtain⟨Ts,e1,e2⟩:=kL N l p.post k (ts++[(p.t.1,p.t.2.1,p.t.2.2,((N-(p.t.2.1.data.toList++(p.post++ag l)).length:Nat):Int))]) hl' hc' hp.2.2 (by have:l.length+1<k+1:=hk;omega);refine⟨(p.t.1,p.t.2.1,p.t.2.2,((N-(p.t.2.1.data.toList++(p.post++ag l)).length:Nat):Int))::Ts,?_,?_⟩
  ·have e:x++ag (p::l)=x++p.pre++(p.t.2.1.data.toList++(p.post++ag l)):=by simp[ag]
   have e3:bm false (p.t.2.1.data.toList++(p.post++ag l))=c::(r++(p.post++ag l)):=by
    rw[hs];show bm false (c::(r++(p.post++ag l)))=_;unfold bm;rw[Dg (by rw[h2];decide),Dg h3]
   have e4:c::(r++(p.post++ag l))=p.t.2.1.data.toList++(p.post++ag l):=by rw[hs];rfl
   unfold cU;rw[e,kf _ (hx.app hp.2.1),e3];simp only;rw[e4,h1];simp only;rw[List.drop_left,lB,e1];simp
  ·rw[DS,e2];rfl
def OkQ(p:Pc):Prop:=okT p.t/\(∀c∈p.pre,c=32)/\p.post=[]
theorem OkQ.p{p:Pc}(h:OkQ p):OkP p:=⟨h.1,λc hc=> .inl (h.2.1 c hc),by rw[h.2.2];exact spcs.nil⟩
def J(l:List Pc):Prop:=(∀p∈l,OkQ p)/\Chn l
def Soft(b:List Pc):Prop:=∀p q r,b=q::r->Adj p q
def H61(b:List Pc):Prop:=∀p q r,p.t.1=5->b=q::r->Adj p q
theorem J.nil:J []:=⟨λ_ h=>absurd h Dl,trivial⟩
theorem J.cons{p:Pc}{b:List Pc}(hp:OkQ p)(hb:J b)(hs:∀q r,b=q::r->Adj p q):J (p::b):=
 And.intro (λq hq=>(Dm.1 hq).elim (λh=>h▸hp) (hb.1 q)) (by
  cases b with
  |nil=>trivial
  |cons q r=>exact⟨hs q r rfl,hb.2⟩)
theorem J.app{b:List Pc}(hb:J b)(hs:Soft b):∀{a:List Pc},J a->J (a++b)
 |[],_=>hb
 |p::a,ha=>by
  have ha':J a:=And.intro (λq hq=>ha.1 q (by simp[hq])) (by
   cases a with
   |nil=>trivial
   |cons q r=>exact ha.2.2)
  refine J.cons (ha.1 p (by simp)) (J.app hb hs ha') λq r e=>?_;cases a with
  |nil=>exact hs p q r e
  |cons q' r'=>
   injection e with e1 e2;exact e1▸ha.2.1
theorem J.sp{b:List Pc}(hb:J b):J (sp b):=by
 cases b with
 |nil=>exact hb
 |cons q r=>
  have hq:=hb.1 q (by simp);refine⟨λp hp=>?_,?_⟩
  ·rcases Dm.1 hp with rfl|hp
   ·exact⟨hq.1,λc hc=>(Dm.1 hc).elim id (hq.2.1 c),hq.2.2⟩
   ·exact hb.1 p (by simp[hp])
  ·cases r with
   |nil=>trivial
   |cons q' r=>exact hb.2
theorem Soft.sp(b:List Pc):Soft (sp b):=λp q r e=>by
 cases b with
 |nil=>cases e
 |cons q' r'=>
  injection e with e1 e2;exact .inl (by rw[<-e1];simp)
theorem Soft.app(b:List Pc)(h:Soft a)(hne:a≠[]):Soft (a++b):=λp q r e=>by
 cases a with
 |nil=>exact absurd rfl hne
 |cons q' r'=>
  injection e with e1 e2;exact e1▸h p q' r' rfl
theorem Soft.y{s:ByteArray}(b:List Pc)(h:s.data.toList.head?≠some 61):Soft (py s::b):=λp q r e=>by
 injection e with e1 e2;exact .inr ⟨.inr (by rw[<-e1];rfl),by rw[<-e1];exact h⟩
theorem Soft.h{b:List Pc}(h:Soft b):H61 b:=λp q r _ e=>h p q r e
theorem H61.app(b:List Pc)(h:H61 a)(hne:a≠[]):H61 (a++b):=λp q r h5 e=>by
 cases a with
 |nil=>exact absurd rfl hne
 |cons q' r'=>
  injection e with e1 e2;exact e1▸h p q' r' h5 rfl
theorem H61.of{b:List Pc}(h:(hdP b).2.1.data.toList.head?≠some 61):H61 b:=λp q r h5 e=> .inr ⟨.inl h5,by rw[e]at h;exact h⟩
theorem OkQ.y{s:ByteArray}(h:s∈bA):OkQ (py s):=⟨.inr (.inr (.inr (.inr ⟨s,rfl,h⟩))),λ_ h=>absurd h Dl,rfl⟩
theorem OkQ.k{s:ByteArray}(h:s∈kwL):OkQ (pk s):=⟨.inr (.inr (.inr (.inl ⟨s,rfl,h⟩))),λ_ h=>absurd h Dl,rfl⟩
theorem OkQ.n{s:ByteArray}(h:az s 97 122=true):OkQ (pn s):=⟨.inr (.inl ⟨s,rfl,h⟩),λ_ h=>absurd h Dl,rfl⟩
theorem OkQ.c{s:ByteArray}(h:az s 65 90=true):OkQ (pc s):=⟨.inr (.inr (.inl ⟨s,rfl,h⟩)),λ_ h=>absurd h Dl,rfl⟩
theorem OkQ.z{z:Int}(h0:0<=z)(h1:z<=yP):OkQ (pz z):=⟨.inl ⟨z,rfl,h0,h1⟩,λ_ h=>absurd h Dl,rfl⟩
theorem J.one{p:Pc}(h:OkQ p):J [p]:=J.cons h J.nil λ_ _ e=>by cases e
theorem J.y{s:ByteArray}{b:List Pc}(h:s∈bA)(hb:J b)(hh:H61 b):J (py s::b):=J.cons (OkQ.y h) hb λq r e=>hh _ q r rfl e
theorem J.s{p:Pc}{b:List Pc}(h:OkQ p)(hb:J b)(hs:Soft b):J (p::b):=J.cons h hb λq r e=>hs _ q r e
theorem aM{s:ByteArray}(h:inB l s=true):s∈l:=ly h
theorem kl{s:ByteArray}(h:(s.data.toList.head?==some 61)=false):s.data.toList.head?≠some 61:=λe=>by rw[e]at h;exact absurd h (by decide)
theorem LB{b:List Pc}:Soft (py cE::b):=Soft.y b (kl (by kernel_rfl))
theorem RB{b:List Pc}:Soft (py cZ::b):=Soft.y b (kl (by kernel_rfl))
theorem CB{b:List Pc}:Soft (py il::b):=Soft.y b (kl (by kernel_rfl))
theorem DB{b:List Pc}:Soft (py DOT::b):=Soft.y b (kl (by kernel_rfl))
theorem SB'{b:List Pc}:Soft (py ay::b):=Soft.y b (kl (by kernel_rfl))
def JX(x:Nat×List Pc):Prop:=J x.2/\H61 x.2/\x.2≠[]
theorem JX.in_{r:Nat}{x:Nat×List Pc}(h:JX x):J (inP r x)/\H61 (inP r x):=by
 unfold inP;split
 ·exact⟨J.y (aM (by kernel_rfl)) (J.app (J.one (OkQ.y (aM (by kernel_rfl)))) RB h.1) (h.2.1.app _ h.2.2),LB.h⟩
 ·exact⟨h.1,h.2.1⟩
theorem xV:∀{l:List (Nat×List Pc)},(∀x∈l,JX x)->J (dw l)/\Soft (dw l)
 |[],_=>⟨J.one (OkQ.y (aM (by kernel_rfl))),RB⟩
 |x::l,h=>by
  obtain⟨h1,h2⟩:=xV (l:=l) λy hy=>h y (by simp[hy]);have hx:=h x (by simp);exact⟨J.s (OkQ.y (aM (by kernel_rfl))) (J.app h1 h2 hx.1.sp) ((Soft.sp _).app _ (by have:=hx.2.2;revert this;cases x.2<;>simp[sp])),CB⟩
theorem oK{l:List (Nat×List Pc)}(h:∀x∈l,JX x):J (aq l)/\Soft (aq l):=by
 cases l with
 |nil=>exact⟨J.y (aM (by kernel_rfl)) (J.one (OkQ.y (aM (by kernel_rfl)))) RB.h,LB⟩
 |cons x l=>
  obtain⟨h1,h2⟩:=xV (l:=l) λy hy=>h y (by simp[hy]);have hx:=h x (by simp);exact⟨J.y (aM (by kernel_rfl)) (J.app h1 h2 hx.1) (hx.2.1.app _ hx.2.2),LB⟩
theorem po(h:a≠[]):sp a≠[]:=by cases a with|nil=>exact absurd rfl h|cons=>simp[sp]
theorem Aw:((List.range 13).all λo=>if o=11\/o=12 then inB kwL (bD o)else inB bA (bD o))=true:=by kernel_rfl
theorem BU{o:Nat}(ho:o<=12):OkQ (opP (o:Int)):=by
 have:=Dr.1 Aw o (by simp;omega);unfold opP;by_cases h:o=11\/o=12
 ·rw[Dq h]at this;rw[Dq (by omega)];exact OkQ.k (ly this)
 ·rw[Dg h]at this;rw[Dg (by omega)];exact OkQ.y (ly this)
theorem wu{s:ByteArray}(h:az s 97 122=true):H61 [pn s]:=H61.of λe=>by
 obtain⟨c,l,hc,h1,h2,_⟩:=fj h;rw[show(hdP [pn s]).2.1.data.toList=c::l from hc]at e;injection e with e;rw[e]at h1;exact absurd h1 (by decide)
theorem xU:∀(m:Nat) (e:Ex),esz e<=m->vE e=true->JX (lvl e,plE e)
 |0,e,hm,_=>by have:=bS e;omega
 |m+1,e,hm,hv=>by
  have ih:∀a,esz a<=m->vE a=true->JX (lvl a,plE a):=xU m
  have ihl:∀l,vEs l=true->ci l<=m->∀x∈plL l,JX x:=λl hl hs x hx=>by
   rw[m6]at hx;obtain⟨a,ha,rfl⟩:=DN.1 hx;exact ih a (by have:=iC ha;omega) (cG hl a ha)
  rcases da hv with⟨z,rfl,h0,h1⟩|rfl|rfl|⟨s,rfl,hs⟩|⟨s,a,rfl,hs,ha⟩|⟨s,xs,rfl,hs,hxs⟩|⟨s,xs,a,rfl,hs,hxs,ha⟩|⟨k,a,hk,rfl,ha⟩|⟨o,a,b,ho,rfl,ha,hb⟩
  ·refine⟨J.one (OkQ.z h0 h1),H61.of ?_,List.cons_ne_nil _ _⟩;obtain⟨n,rfl⟩:=Dw h0;obtain⟨c,l,hc,d1,d2⟩:=ij n;show(Lib.itoa (n:Int)).head?≠some 61;rw[show Lib.itoa (n:Int)=Lib.decDigits n from by unfold Lib.itoa;rw[Dg (by omega)];rfl,hc];intro e;injection e with e;rw[e]at d2;exact absurd d2 (by decide)
  ·exact⟨J.one (OkQ.k (aM (by kernel_rfl))),H61.of (kl (by kernel_rfl)),List.cons_ne_nil _ _⟩
  ·exact⟨J.one (OkQ.k (aM (by kernel_rfl))),H61.of (kl (by kernel_rfl)),List.cons_ne_nil _ _⟩
  ·exact⟨J.one (OkQ.n hs),wu hs,List.cons_ne_nil _ _⟩
  ·have hz:esz (aP s a)=1+esz a:=by simp[aP,esz,ci]
   have hx:=ih a (by omega) ha;have hi:=hx.in_ (r:=8);have hne:inP 8 (lvl a,plE a)≠[]:=eC hx.2.2;refine⟨?_,?_,cD _⟩
   ·show J (inP 8 (lvl a,plE a)++(py DOT::[pn s]));exact J.app (J.y (aM (by kernel_rfl)) (J.one (OkQ.n hs)) (wu hs)) DB hi.1
   ·show H61 (inP 8 (lvl a,plE a)++[py DOT,pn s]);exact hi.2.app _ hne
  ·have hz:esz (.mk 5 0 0 s false xs)=1+ci xs:=by rw[esz]
   obtain⟨l1,l2⟩:=oK (ihl xs hxs (by omega));refine⟨?_,H61.of ?_,cD _⟩
   ·show J (pk du::(sp [pc s]++aq (plL xs)));exact J.s (OkQ.k (aM (by kernel_rfl))) (J.app l1 l2 (J.one (OkQ.c hs)).sp) ((Soft.sp _).app _ (po (List.cons_ne_nil _ _)))
   ·show du.data.toList.head?≠some 61;exact kl (by kernel_rfl)
  ·have hz:esz (.mk 5 0 0 s true (xs++[a]))=1+(ci xs+esz a):=by rw[esz,mE]
   have hP:plE (.mk 5 0 0 s true (xs++[a]))=pk du::(sp [pc s]++(aq (plL xs)++(sp [pk kAt]++sp (inP 7 (lvl a,plE a))))):=by
    rw[plE,o9];show pk du::(sp [pc s]++(aq (plL xs++[(lvl a,plE a)]).dropLast++(sp [pk kAt]++sp (inP 7 ((plL xs++[(lvl a,plE a)]).getLastD dX)))))=_;rw[List.dropLast_concat];simp
   obtain⟨l1,l2⟩:=oK (ihl xs hxs (by omega));have hi:=(ih a (by omega) ha).in_ (r:=7);refine⟨?_,H61.of ?_,cD _⟩
   ·show J (plE _);rw[hP];refine J.s (OkQ.k (aM (by kernel_rfl))) (J.app (J.app ?_ ((Soft.sp _).app _ (po (List.cons_ne_nil _ _))) l1) (l2.app _ (by cases plL xs<;>simp[aq])) (J.one (OkQ.c hs)).sp) ((Soft.sp _).app _ (po (List.cons_ne_nil _ _)));exact J.app hi.1.sp (Soft.sp _) (J.one (OkQ.k (aM (by kernel_rfl)))).sp
   ·show(hdP (plE _)).2.1.data.toList.head?≠some 61;rw[hP];show du.data.toList.head?≠some 61;exact kl (by kernel_rfl)
  ·have hz:esz (eUn k a)=1+esz a:=by simp[eUn,esz,ci]
   have hx:=ih a (by omega) ha;have hi:=hx.in_ (r:=7);have hi3:=hx.in_ (r:=3);rcases hk with rfl|rfl|rfl|rfl
   ·exact⟨J.s (OkQ.k (aM (by kernel_rfl))) hi.1.sp (Soft.sp _),H61.of (show bX.data.toList.head?≠some 61 from kl (by kernel_rfl)),cD _⟩
   ·exact⟨J.s (OkQ.k (aM (by kernel_rfl))) hi.1.sp (Soft.sp _),H61.of (show dO.data.toList.head?≠some 61 from kl (by kernel_rfl)),cD _⟩
   ·exact⟨J.y (aM (by kernel_rfl)) hi.1 hi.2,H61.of (show bG.data.toList.head?≠some 61 from kl (by kernel_rfl)),cD _⟩
   ·exact⟨J.s (OkQ.k (aM (by kernel_rfl))) hi3.1.sp (Soft.sp _),H61.of (show dA.data.toList.head?≠some 61 from kl (by kernel_rfl)),cD _⟩
  ·have hz:esz (cv o a b)=1+(esz a+esz b):=by simp[cv,esz,ci]
   have hx:=ih a (by omega) ha;have hi:=hx.in_ (r:=if ap (o:Int)=4 then 5 else ap o);have hi2:=(ih b (by omega) hb).in_ (r:=ap (o:Int)+1);have hne:inP (if ap (o:Int)=4 then 5 else ap o) (lvl a,plE a)≠[]:=eC hx.2.2;refine⟨?_,?_,cD _⟩
   ·show J (inP (if ap (o:Int)=4 then 5 else ap o) (lvl a,plE a)++(sp [opP o]++sp (inP (ap (o:Int)+1) (lvl b,plE b))));exact J.app (J.app hi2.1.sp (Soft.sp _) (J.one (BU ho)).sp) ((Soft.sp _).app _ (po (List.cons_ne_nil _ _))) hi.1
   ·show H61 (inP (if ap (o:Int)=4 then 5 else ap o) (lvl a,plE a)++(sp [opP o]++sp (inP (ap (o:Int)+1) (lvl b,plE b))));exact hi.2.app _ hne
def glu(ls:List ByteArray):List UInt8:=ls.flatMap λl=>l.data.toList++[10]
def NL(s:List UInt8):Prop:=∃Ls:List ByteArray,s=glu Ls/\∀x∈Ls,(∀c∈x.data.toList,c≠10)/\x.data.toList.getLast?≠some 100
theorem NL.app{a b:List UInt8}(ha:NL a)(hb:NL b):NL (a++b):=by
 obtain⟨A,rfl,h1⟩:=ha;obtain⟨B,rfl,h2⟩:=hb;exact⟨A++B,by unfold glu;rw[Eh],λx hx=>(DR.1 hx).elim (h1 x) (h2 x)⟩
theorem ab(a b:List Pc):ag (a++b)=ag a++ag b:=Eh
def JL(l:List Pc):Prop:=(∀p∈l,OkP p)/\(∀r,Chn r->Chn (l++r))/\NL (ag l)
theorem JL.app{b:List Pc}(ha:JL a)(hb:JL b):JL (a++b):=
 ⟨λp hp=>(DR.1 hp).elim (ha.1 p) (hb.1 p),λr hr=>by rw[Dp];exact ha.2.1 _ (hb.2.1 r hr),by rw[ab];exact ha.2.2.app hb.2.2⟩
theorem JL.nil:JL []:=⟨λ_ h=>absurd h Dl,λr hr=>hr,[],rfl,λ_ h=>absurd h Dl⟩
theorem yv:spcs [10]:=λc hc=> .inr (by simpa using hc)
theorem yw(d:Nat):spcs (bg d):=λc hc=> .inl (List.eq_of_mem_replicate hc)
theorem sE:∀{l:List Pc},(∀p∈l,OkQ p)->∀p∈eK [10] l,OkP p
 |[],_,p,hp=>absurd hp Dl
 |[q],h,p,hp=>by
  have hq:=h q (by simp);rw[eK]at hp;rcases Dm.1 hp with rfl|hp
  ·exact⟨hq.1,hq.p.2.1,hq.p.2.2.app yv⟩
  ·exact absurd hp Dl
 |q::q'::l,h,p,hp=>by
  rw[eK]at hp;rcases Dm.1 hp with rfl|hp
  ·exact(h p (by simp)).p
  ·exact sE (λx hx=>h x (DF _ hx)) p hp
theorem Az{l:List Pc}(h:∀p∈l,OkP p):∀p∈tT (bg d) l,OkP p:=λp hp=>by
 cases l with
 |nil=>exact absurd hp Dl
 |cons q l=>
  have hq:=h q (by simp);rcases Dm.1 hp with rfl|hp
  ·exact⟨hq.1,(yw d).app hq.2.1,hq.2.2⟩
  ·exact h p (by simp[hp])
theorem qm:∀{l r:List Pc},Chn l->Chn r->Chn (eK [10] l++r)
 |[],r,_,hr=>hr
 |[p],[],_,_=>trivial
 |[p],q::r,_,hr=>⟨.inl (by simp),hr⟩
 |p::q::l,r,hl,hr=>by
  have ih:=qm (l:=q::l) hl.2 hr;rw[eK];cases l with
  |nil=>exact⟨hl.1,ih⟩
  |cons q' l=>exact⟨hl.1,ih⟩
theorem zB{l:List Pc}(h:Chn l):Chn (tT x l):=by
 cases l with
 |nil=>exact h
 |cons p l=>cases l with
  |nil=>trivial
  |cons q l=>exact h
theorem nH{l:List Pc}(h:l≠[]):ag (tT x l)=x++ag l:=by
 cases l with
 |nil=>exact absurd rfl h
 |cons p l=>simp[tT,ag]
theorem ji{x:List UInt8}:∀{l:List Pc},l≠[]->ag (eK x l)=ag l++x
 |[],h=>absurd rfl h
 |[p],_=>by simp[eK,ag]
 |p::q::l,_=>by
  have ih:=ji (x:=x) (l:=q::l) (by simp);rw[eK,show ag (p::eK x (q::l))=(p.pre++(p.t.2.1.data.toList++p.post))++ag (eK x (q::l))from rfl,ih,show ag (p::q::l)=(p.pre++(p.t.2.1.data.toList++p.post))++ag (q::l)from rfl,Dp (p.pre++_)]
def Lst(l:List Pc):Prop:=∃a p,l=a++[p]/\(p.t=(5,ay,0)\/p.t=(5,cq,0)\/p.t=(5,cd,0))
theorem Lst.app(a:List Pc){b:List Pc}(h:Lst b):Lst (a++b):=by
 obtain⟨c,p,rfl,h⟩:=h;exact⟨a++c,p,by simp,h⟩
theorem Lst.cons(q:Pc){b:List Pc}(h:Lst b):Lst (q::b):=Lst.app [q] h
theorem Lst.s:Lst [py ay]:=⟨[],_,rfl,.inl rfl⟩
theorem Lst.b:Lst (sp [py cq]):=⟨[],_,rfl,.inr (.inl rfl)⟩
theorem Lst.r:Lst [py cd]:=⟨[],_,rfl,.inr (.inr rfl)⟩
theorem Aa{t:TK}(h:okT t):∀c∈t.2.1.data.toList,c≠10:=by
 have key:∀l:List UInt8,l.all fL=true->∀c∈l,c≠10:=λl hl c hc e=>by
  have:=Dr.1 hl c hc;rw[e]at this;exact absurd this (by decide)
 rcases h with⟨z,rfl,h0,h1⟩|⟨s,rfl,hs⟩|⟨s,rfl,hs⟩|⟨s,rfl,hs⟩|⟨s,rfl,hs⟩
 ·obtain⟨n,rfl⟩:=Dw h0;intro c hc e;have hc:c∈Lib.itoa (n:Int):=hc;rw[show Lib.itoa (n:Int)=Lib.decDigits n from by unfold Lib.itoa;rw[Dg (by omega)];rfl]at hc;have:=dt n c hc;rw[e]at this;exact absurd this (by decide)
 ·obtain⟨_,_,_,_,_,_,h4,_⟩:=fj hs;exact key _ h4
 ·obtain⟨_,_,_,_,_,_,h4,_⟩:=fj hs;exact key _ h4
 ·have hk:=Dr.1 wT s hs;cases hc:s.data.toList with
  |nil=>rw[hc]at hk;cases hk
  |cons c l=>
   rw[hc]at hk;simp only[Ds,DE]at hk;exact key _ hk.1.2
 ·obtain⟨a,_,_,h3,h4,_,h5⟩:=fV hs;have ha:a≠10:=λe=>by rw[e]at h3;exact absurd h3 (by decide)
  show∀c∈s.data.toList,c≠10;rcases h5 with h5|h5<;>(rw[h5];intro c hc;simp at hc)
  ·rw[hc];exact ha
  ·rcases hc with rfl|rfl
   ·exact ha
   ·decide
theorem JL.ln{l:List Pc}(d:Nat)(h:J l)(he:Lst l:=by repeat first|exact Lst.s|exact Lst.b|exact Lst.r|refine Lst.app _ ?_|refine Lst.cons _ ?_):JL (ln d l):=by
 have hne:l≠[]:=λe=>by obtain⟨a,p,rfl,_⟩:=he;simp at e
 refine⟨Az (sE h.1),λr hr=>?_,?_⟩
 ·have:=zB (x:=bg d) (qm h.2 hr);unfold Go.Proofs.YtjpbckbpeblibaaGreatDoor.ln;cases l with
  |nil=>exact hr
  |cons p l=>cases l with
   |nil=>exact this
   |cons q l=>exact this
 ·have e:ag (Go.Proofs.YtjpbckbpeblibaaGreatDoor.ln d l)=(bg d++ag l)++[10]:=by
   unfold Go.Proofs.YtjpbckbpeblibaaGreatDoor.ln;rw[nH (by cases l with|nil=>exact absurd rfl hne|cons p l=>cases l<;>simp[eK]),ji hne,Dp]
  refine⟨[⟨(bg d++ag l).toArray⟩],by rw[e];simp[glu],λx hx=>?_⟩;rw[List.mem_singleton.1 hx];refine⟨λc hc=>?_,?_⟩
  ·rcases DR.1 (show c∈bg d++ag l from hc)with hc|hc
   ·rw[List.eq_of_mem_replicate hc];decide
   ·obtain⟨p,hp,hc⟩:=List.mem_flatMap.1 hc;have hq:=h.1 p hp;rw[hq.2.2,DC]at hc;rcases DR.1 hc with hc|hc
    ·rw[hq.2.1 c hc];decide
    ·exact Aa hq.1 c hc
  ·obtain⟨a,p,rfl,hp⟩:=he;have hq:=h.1 p (by simp);show(bg d++ag (a++[p])).getLast?≠some 100;rw[ab,show ag [p]=p.pre++(p.t.2.1.data.toList++p.post) by simp[ag],hq.2.2,DC,<-Dp,<-Dp];rcases hp with hp|hp|hp<;>rw[hp]
   ·rw[show((5,ay,0):TK).2.1.data.toList=[59]from rfl];simp
   ·rw[show((5,cq,0):TK).2.1.data.toList=[123]from rfl];simp
   ·rw[show((5,cd,0):TK).2.1.data.toList=[125]from rfl];simp
theorem ff{r:List Pc}(h:a≠[]):Soft (sp a++r):=(Soft.sp a).app r (po h)
theorem gk{e:Ex}(r:Nat)(hv:vE e=true):J (exP r e)/\H61 (exP r e)/\exP r e≠[]:=
 have h:=xU _ e (D8 _) hv
 ⟨h.in_.1,h.in_.2,eC h.2.2⟩
theorem wN{l:List Ex}(hl:vEs l=true):J (aq (plL l))/\Soft (aq (plL l)):=oK λx hx=>by
 rw[m6]at hx;obtain⟨a,ha,rfl⟩:=DN.1 hx;exact xU _ a (D8 _) (cG hl a ha)
theorem lS:J [py ay]:=J.one (OkQ.y (aM (by kernel_rfl)))
theorem zR:∀(m:Nat) (s:St) (d:Nat),ssz s<=m->vS s=true->JL (plS s d)
 |0,s,d,hm,_=>by have:=gW s;omega
 |m+1,s,d,hm,hv=>by
  have aE:∀l:List St,vSs l=true->eH l<=m->JL (bU l (d+1)):=λl=>by
   induction l with
   |nil=>intro _ _;exact JL.nil
   |cons a l ih=>
    intro hl hs;rw[vSs]at hl;obtain⟨h1,h2⟩:=Dv.1 hl;unfold eH at hs;rw[bU];exact(zR m a (d+1) (by omega) h1).app (ih h2 (by omega))
  have eq1:J (sp [py bH]):=(J.one (OkQ.y (aM (by kernel_rfl)))).sp;have lb1:J (sp [py cq]):=(J.one (OkQ.y (aM (by kernel_rfl)))).sp
  have tail:∀{x:Ex},vE x=true->J (sp (exP 1 x)++[py ay])/\Soft (sp (exP 1 x)++[py ay]):=λhx=>
   ⟨J.app lS SB' (gk 1 hx).1.sp,ff (gk 1 hx).2.2⟩
  have eqt:∀{x:Ex},vE x=true->J (sp [py bH]++(sp (exP 1 x)++[py ay]))/\Soft (sp [py bH]++(sp (exP 1 x)++[py ay])):=λhx=>
   ⟨J.app (tail hx).1 (tail hx).2 eq1,ff (by simp)⟩
  rcases fU hv with⟨nm,x,rfl,hnm,hx⟩|⟨nm,x,rfl,hnm,hx⟩|⟨nm,x,y,rfl,hnm,hx,hy⟩|⟨x,b,e,rfl,hx,hb,he⟩|⟨x,b,rfl,hx,hb⟩|⟨nm,x,l,rfl,hnm,hx,hl⟩|⟨x,rfl,hx⟩|⟨x,y,rfl,hx,hy⟩|⟨nm,x,y,rfl,hnm,hx,hy⟩|rfl
  ·show JL (ln d (pk gP::(sp [pn nm]++(sp [py bH]++(sp (exP 1 x)++[py ay])))));exact JL.ln d (J.s (OkQ.k (aM (by kernel_rfl))) (J.app (eqt hx).1 (eqt hx).2 (J.one (OkQ.n hnm)).sp) (ff (by simp)))
  ·show JL (ln d (pn nm::(sp [py bH]++(sp (exP 1 x)++[py ay]))));exact JL.ln d (J.s (OkQ.n hnm) (eqt hx).1 (eqt hx).2)
  ·show JL (ln d (exP 9 x++(py DOT::pn nm::(sp [py bH]++(sp (exP 1 y)++[py ay])))));exact JL.ln d (J.app (J.y (aM (by kernel_rfl)) (J.s (OkQ.n hnm) (eqt hy).1 (eqt hy).2) ((wu hnm).app _ (by simp))) DB (gk 9 hx).1)
  ·have hz:ssz (.mk 3 ⟨#[]⟩ [x] b e)=1+esz x+eH b+eH e:=by simp[ssz,ci]
   have hP:plS (.mk 3 ⟨#[]⟩ [x] b e) d=ln d (pk kIf::(sp (exP 1 x)++sp [py cq]))++(bU b (d+1)++((if e.isEmpty=true then[]else ln d (py cd::(sp [pk eu]++sp [py cq]))++bU e (d+1))++ln d [py cd])):=by rw[plS];rfl
   rw[hP];refine(JL.ln d (J.s (OkQ.k (aM (by kernel_rfl))) (J.app lb1 (Soft.sp _) (gk 1 hx).1.sp) (ff (gk 1 hx).2.2))).app ((aE b hb (by omega)).app (JL.app ?_ (JL.ln d (J.one (OkQ.y (aM (by kernel_rfl)))))));split
   ·exact JL.nil
   ·exact(JL.ln d (J.y (aM (by kernel_rfl)) (J.app lb1 (Soft.sp _) (J.one (OkQ.k (aM (by kernel_rfl)))).sp) (ff (by simp)).h)).app (aE e he (by omega))
  ·have hz:ssz (.mk 4 ⟨#[]⟩ [x] b [])=1+esz x+eH b:=by simp[ssz,ci,eH]
   have hP:plS (.mk 4 ⟨#[]⟩ [x] b []) d=ln d (pk dz::(sp (exP 1 x)++sp [py cq]))++(bU b (d+1)++ln d [py cd]):=by rw[plS];rfl
   rw[hP];exact(JL.ln d (J.s (OkQ.k (aM (by kernel_rfl))) (J.app lb1 (Soft.sp _) (gk 1 hx).1.sp) (ff (gk 1 hx).2.2))).app ((aE b hb (by omega)).app (JL.ln d (J.one (OkQ.y (aM (by kernel_rfl))))))
  ·show JL (ln d (pk eU::(sp (exP 8 x)++(py DOT::pn nm::(aq (plL l)++[py ay])))));exact JL.ln d (J.s (OkQ.k (aM (by kernel_rfl))) (J.app (J.y (aM (by kernel_rfl)) (J.s (OkQ.n hnm) (J.app lS SB' (wN hl).1) ((wN hl).2.app _ (by cases plL l<;>simp[aq]))) ((wu hnm).app _ (by simp))) DB (gk 8 hx).1.sp) (ff (gk 8 hx).2.2))
  ·show JL (ln d (pk dN::(sp (exP 1 x)++[py ay])));exact JL.ln d (J.s (OkQ.k (aM (by kernel_rfl))) (tail hx).1 (tail hx).2)
  ·show JL (ln d (pk fG::(sp (exP 1 x)++(sp [pk kTo]++(sp (exP 1 y)++[py ay])))));exact JL.ln d (J.s (OkQ.k (aM (by kernel_rfl))) (J.app (J.app (tail hy).1 (tail hy).2 (J.one (OkQ.k (aM (by kernel_rfl)))).sp) (ff (by simp)) (gk 1 hx).1.sp) (ff (gk 1 hx).2.2))
  ·show JL (ln d (pk ez::(sp (exP 1 x)++(sp [pk kBy]++(sp [pn nm]++(aq (plL [y])++[py ay]))))));have hl:=wN (l:=[y]) (by rw[vEs,hy];rfl);exact JL.ln d (J.s (OkQ.k (aM (by kernel_rfl))) (J.app (J.app (J.app (J.app lS SB' hl.1) (hl.2.app _ (by simp[plL,aq])) (J.one (OkQ.n hnm)).sp) (ff (by simp)) (J.one (OkQ.k (aM (by kernel_rfl)))).sp) (ff (by simp)) (gk 1 hx).1.sp) (ff (gk 1 hx).2.2))
  ·show JL (ln d [pk dL,py ay]);exact JL.ln d (J.s (OkQ.k (aM (by kernel_rfl))) lS SB')
theorem xT(d:Nat):∀{l:List St},vSs l=true->JL (bU l d)
 |[],_=>JL.nil
 |a::l,h=>by
  rw[vSs]at h;obtain⟨h1,h2⟩:=Dv.1 h;rw[bU];exact(zR _ a d (D8 _) h1).app (xT d h2)
theorem zT:∀{l:List ByteArray},vNm l=true->JL (gj l)
 |[],_=>JL.nil
 |a::l,h=>by
  unfold vNm at h;rw[List.all_cons]at h;obtain⟨h1,h2⟩:=Dv.1 h;rw[gj];exact(JL.ln 1 (J.s (OkQ.k (aM (by kernel_rfl))) (J.app lS SB' (J.one (OkQ.n h1)).sp) (ff (by simp)))).app (zT h2)
theorem CZ(h:vMe m=true):JL (meP m):=by
 unfold vMe at h;obtain⟨h1,h2⟩:=Dv.1 h;obtain⟨h2,h3⟩:=Dv.1 h2
 have hl:=oK (l:=m.params.map nmX) λx hx=>by
  obtain⟨s,hs,rfl⟩:=DN.1 hx;have:=Dr.1 h2 s hs;exact⟨J.one (OkQ.n this),wu this,by simp[nmX]⟩
 exact(JL.ln 1 (J.s (OkQ.k (aM (by kernel_rfl))) (J.app (J.app (J.one (OkQ.y (aM (by kernel_rfl)))).sp (Soft.sp _) hl.1) (hl.2.app _ (by cases m.params<;>simp[aq])) (J.one (OkQ.n h1)).sp) (ff (by simp)))).app ((xT 2 h3).app (JL.ln 1 (J.one (OkQ.y (aM (by kernel_rfl))))))
theorem zS:∀{l:List Me},l.all vMe=true->JL (fQ l)
 |[],_=>JL.nil
 |a::l,h=>by
  rw[List.all_cons]at h;obtain⟨h1,h2⟩:=Dv.1 h;rw[fQ];exact(CZ h1).app (zS h2)
theorem Bq:∀{l:List Cl},vPr l=true->JL (prP l)
 |[],_=>JL.nil
 |c::l,h=>by
  unfold vPr at h;rw[List.all_cons]at h;obtain⟨h1,h2⟩:=Dv.1 h;unfold vCl at h1;obtain⟨c1,h1⟩:=Dv.1 h1;obtain⟨c2,h1⟩:=Dv.1 h1;obtain⟨_,c3⟩:=Dv.1 h1;rw[prP];have hk:OkQ (pk (if c.actor=true then eA else ei)):=by split<;>exact OkQ.k (aM (by kernel_rfl))
  exact((JL.ln 0 (J.s hk (J.app (J.one (OkQ.y (aM (by kernel_rfl)))).sp (Soft.sp _) (J.one (OkQ.c c1)).sp) (ff (by simp)))).app ((zT c2).app ((zS c3).app (JL.ln 0 (J.one (OkQ.y (aM (by kernel_rfl)))))))).app (Bq h2)
theorem rX{T:List Tk}:∀(l m:List TK) (i:Nat),(T.map λt=>((t.1,t.2.1,t.2.2.1):TK)).drop i=l++m->AtT T i l
 |[],_,_,_=>trivial
 |t::l,m,i,h=>by
  refine⟨?_,rX l m (i+1) ?_⟩
  ·have hl:i<T.length:=by
    rcases Et i T.length with hl|hl
    ·exact hl
    ·rw[EQ (by simpa using hl)]at h;cases h
   rw[EE (by simpa using hl)]at h;injection h with h1 h2;unfold t3 tk;rw[DD,Df hl];rw[List.getElem_map]at h1;exact h1
  ·rw[<-List.drop_drop,h];rfl
theorem qW(hv:vPr cs=true)(hl:(ag (prP cs)).length<=16384):∃Ts,dE (ag (prP cs))= .toks Ts/\Ts.length=(prP cs).length+1/\dp Ts= .ok cs (prP cs).length:=by
 have hJ:=Bq hv
 have hlen:(prP cs).length<=(ag (prP cs)).length:=by
  have:∀l:List Pc,(∀p∈l,OkP p)->l.length<=(ag l).length:=λl=>by
   induction l with
   |nil=>intro _;exact Do _
   |cons p l ih=>
    intro h;obtain⟨_,c,r,hs,_,_⟩:=qD (t:=p.t) (r:=[]) (h p (by simp)).1 rfl;have:=ih λq hq=>h q (by simp[hq]);rw[show ag (p::l)=(p.pre++(p.t.2.1.data.toList++p.post))++ag l from rfl,hs];simp only[D7,Da];omega
  exact this _ hJ.1
 obtain⟨Ts,h1,h2⟩:=kL (ag (prP cs)).length (prP cs) [] ((ag (prP cs)).length+1) [] hJ.1 (by have:=hJ.2.1 [] trivial;simpa using this) spcs.nil (by omega)
 have h3:Ts.length=(prP cs).length+1:=by
  have:=Ev List.length h2;simp[ip]at this;exact this
 refine⟨Ts,?_,h3,?_⟩
 ·unfold dE;rw[Dg (by omega)];simpa using h1
 ·refine qT hv (rX _ _ 0 (by simpa using h2)) h3 ?_;have:=rX (T:=Ts) [(0,⟨#[]⟩,0)] [] (prP cs).length (by rw[h2,List.drop_append_of_le_length (by rw[ip];exact D8 _),EQ (by rw[ip];exact D8 _)];rfl);exact this.1
end
end Go.Proofs.YtjpbckbpeblibaaGreatDoor
