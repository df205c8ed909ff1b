/- part of a proof -/
import Derived.Test.YtjpbckbpeblibaaGreatDoorK13
namespace Go.Proofs.YtjpbckbpeblibaaGreatDoor
set_option linter.unusedVariables false
set_option linter.unusedSimpArgs false
set_option maxRecDepth 100000
set_option maxHeartbeats 64000000
section
open Go.RowKit
variable{a:List Pc}{cs:List Cl}{d i:Nat}{l:List ByteArray}{m:Me}{x:List UInt8}
section
variable{T:List Tk}
theorem ew{ex:Nat->Nat->R Ex}{st:Nat->R St}{j:Nat}{s:St}(hi:isT T kIf i=false)(hw:isT T dU i=false)(hs:bh T ex i= .ok s j)(h:t3 T j=(5,aQ,0)):dZ T ex st i= .ok s (j+1):=by
 unfold dZ;rw[Fg (by rw[hi];decide),Fg (by rw[hw];decide),hs];simp only;rw[bI (by rw[h];kernel_rfl)]
theorem xf{n d:Nat}:∀(l:List St) (K:Nat) (ss:List St) (i:Nat),(∀s∈l,vS s=true/\∀i,AtT T i (tks (plS s d))->isT T eP (i+(plS s d).length)=false->S T n i= .ok s (i+(plS s d).length))->T.length+1<=K+i->
 AtT T i (tks (cj l d))->t3 T (i+(cj l d).length)=(5,cv,0)->dr T (S T n) K ss i= .ok (ss++l) (i+(cj l d).length+1)
 |[],K,ss,i,_,hK,_,h=>by
  have h0:t3 T i=(5,cv,0):=h;have hlt:=gq h0 (by decide);obtain⟨K,rfl⟩:∃K',K=K'+1:=⟨K-1,by omega⟩;unfold dr;rw[Ft (ak h0 (by kernel_rfl)),FJ];rfl
 |s::l,K,ss,i,hl,hK,h,h2=>by
  obtain⟨hv,hs⟩:=hl s (by simp);rw[cj]at h h2⊢;obtain⟨a1,a2⟩:=AtT.app' h;have hb:=ou d hv;have hf:=a1.hd (px s d);have hlen:i+(plS s d++cj l d).length=i+(plS s d).length+(cj l d).length:=by simp;omega
  rw[hlen]at h2⊢
  have hlt:i<T.length:=by
   rcases Gp i T.length with h|h
   ·exact h
   ·have hge:∀j,i<=j->t3 T j=(0,⟨#[]⟩,0):=λj hj=>by
     unfold t3 tk;rw[FH,GS (by omega)];rfl
    have:=hge (i+(plS s d).length+(cj l d).length) (by omega);rw[h2]at this;exact absurd (GD (·.1) this) (by decide)
  obtain⟨K,rfl⟩:∃K',K=K'+1:=⟨K-1,by omega⟩
  have hnx:isT T eP (i+(plS s d).length)=false:=by
   cases l with
   |nil=>exact ak (show t3 T (i+(plS s d).length)=(5,cv,0)from h2) (by kernel_rfl)
   |cons s' l=>
    have hv':=(hl s' (by simp)).1;rw[cj]at a2;have:=(AtT.app' a2).1.hd (px s' d);rw[cT,this];exact(ou d hv').2
  have hpos:0<(plS s d).length:=List.length_pos_iff.2 (px s d);unfold dr;rw[Fg (by rw[cT,hf,hb.1];decide),hs i a1 hnx];simp only;rw[xf l K (ss++[s]) (i+(plS s d).length) (λb hb=>hl b (by simp[hb])) (by omega) a2 h2];simp
theorem iT{n:Nat}{l:List St}(hl:∀s∈l,vS s=true/\∀i,AtT T i (tks (plS s d))->isT T eP (i+(plS s d).length)=false->S T n i= .ok s (i+(plS s d).length))(h0:t3 T i=(5,cF,0))
 (h1:AtT T (i+1) (tks (cj l d))) (h2:t3 T (i+1+(cj l d).length)=(5,cv,0)):du T (S T n) i= .ok l (i+1+(cj l d).length+1):=by
 unfold du;rw[bI (by rw[h0];kernel_rfl)];simp only;rw[xf l (T.length+1) [] (i+1) hl (by omega) h1 h2];rfl
theorem dq:∀{l:List St},vSs l=true->∀s∈l,vS s=true
 |[],_,s,h=>by cases h
 |b::l,h,a,ha=>by
  rw[vSs]at h;simp at h;rcases Fp.1 ha with rfl|ha
  ·exact h.1
  ·exact dq h.2 a ha
theorem na{d:Nat}:∀{l:List St} {s:St},s∈l->(plS s d).length<=(cj l d).length
 |b::l,s,h=>by
  rw[cj];simp only[EY];rcases Fp.1 h with rfl|h
  ·omega
  ·have:=na (d:=d) h;omega
theorem BG:∀m,Ew T m
 |0,n,d,s,i,hm,_,_,_,_=>by have:=gL s;omega
 |m+1,n,d,s,i,hm,hn,hv,h,hel=>by
  obtain⟨n,rfl⟩:∃n',n=n'+1:=⟨n-1,by have:=List.length_pos_iff.2 (px s d);omega⟩
  have sub:∀l:List St,vSs l=true->eU l<=m->(cj l (d+1)).length<=n->∀s∈l,vS s=true/\∀i,AtT T i (tks (plS s (d+1)))->isT T eP (i+(plS s (d+1)).length)=false->S T n i= .ok s (i+(plS s (d+1)).length):=
   λl hv h1 h2 s hs=>⟨dq hv s hs,λi a b=>BG m n (d+1) s i (by have:=cW hs;omega) (by have:=na (d:=d+1) hs;omega) (dq hv s hs) a b⟩
  show dZ T (E T (n+1)) (S T n) i=_;rcases fP hv with⟨nm,x,rfl,_,hx⟩|⟨nm,x,rfl,_,hx⟩|⟨nm,x,y,rfl,_,hx,hy⟩|⟨x,b,e,rfl,hx,hb,he⟩|⟨x,b,rfl,hx,hb⟩|⟨nm,x,l,rfl,_,hx,hl⟩|⟨x,rfl,hx⟩|⟨x,y,rfl,hx,hy⟩|⟨nm,x,y,rfl,_,hx,hy⟩|rfl
  ·--let
   have hz:ssz (stE 0 nm [x])=1+esz x:=by simp[stE,ssz,cz,eU]
   have hP:plS (stE 0 nm [x]) d=ln d (pk ix::(sp [pn nm]++(sp [py bS]++(sp (exP 1 x)++[py aQ])))):=rfl;rw[hP]at h hn⊢;simp only[EZ,EY,F1,au,bE]at hn;rw[bE];have h:=h.ln';have h0:t3 T i=(4,ix,0):=h.1;have h1:t3 T (i+1)=(2,nm,0):=h.2.1;have h2:t3 T (i+1+1)=(5,bS,0):=h.2.2.1;obtain⟨a1,a2⟩:=AtT.app' (T:=T) (i:=i+1+1+1) (a:=sp (exP 1 x)) (b:=[py aQ]) h.2.2.2;rw[au]at a2;have h3:t3 T (i+1+1+1+(exP 1 x).length)=(5,aQ,0):=a2.1;have hr:=ej (n:=n) (r:=0) (by show(exP 1 x).length<=n+1;omega) hx (by omega) a1.sp' (by rw[h3];kernel_rfl);rw[show i+(pk ix::(sp [pn nm]++(sp [py bS]++(sp (exP 1 x)++[py aQ])))).length=i+1+1+1+(exP 1 x).length+1 by simp[au];omega];refine ew (ak h0 (by kernel_rfl)) (ak h0 (by kernel_rfl)) ?_ h3;unfold bh dE;rw[Ft (ak h0 (by kernel_rfl)),cH h1];simp only;rw[bI (by rw[h2];kernel_rfl)];simp only;rw[hr]
  ·--assign
   have hz:ssz (stE 1 nm [x])=1+esz x:=by simp[stE,ssz,cz,eU]
   have hP:plS (stE 1 nm [x]) d=ln d (pn nm::(sp [py bS]++(sp (exP 1 x)++[py aQ]))):=rfl;rw[hP]at h hn⊢;simp only[EZ,EY,F1,au,bE]at hn;rw[bE];have h:=h.ln';have h1:t3 T i=(2,nm,0):=h.1;have h2:t3 T (i+1)=(5,bS,0):=h.2.1;obtain⟨a1,a2⟩:=AtT.app' (T:=T) (i:=i+1+1) (a:=sp (exP 1 x)) (b:=[py aQ]) h.2.2;rw[au]at a2;have h3:t3 T (i+1+1+(exP 1 x).length)=(5,aQ,0):=a2.1;have hr:=ej (n:=n) (r:=0) (by show(exP 1 x).length<=n+1;omega) hx (by omega) a1.sp' (by rw[h3];kernel_rfl);have kn:∀y:ByteArray,isT T y i=false:=λy=>ak h1 (by unfold isK;simp);rw[show i+(pn nm::(sp [py bS]++(sp (exP 1 x)++[py aQ]))).length=i+1+1+(exP 1 x).length+1 by simp[au];omega];refine ew (kn _) (kn _) ?_ h3;unfold bh dE
   rw[Fg (by rw[kn];decide),Fg (by rw[kn];decide),Fg (by rw[kn];decide),Fg (by rw[kn];decide),Fg (by rw[kn];decide),Fg (by rw[kn];decide),
    Ft ⟨(cP h1).1,(cP h2).1,(cP h2).2.1⟩,cH h1]
   simp only;rw[bI (by rw[h2];kernel_rfl)];simp only;rw[hr]
  ·--store
   have hz:ssz (stE 2 nm [x,y])=1+(esz x+esz y):=by simp[stE,ssz,cz,eU]
   have hP:plS (stE 2 nm [x,y]) d=ln d (exP 9 x++(py DOT::pn nm::(sp [py bS]++(sp (exP 1 y)++[py aQ])))):=rfl;rw[hP]at h hn⊢;simp only[EZ,EY,F1,au,bE]at hn;rw[bE];obtain⟨a1,a2⟩:=AtT.app' h.ln';have hhd:=a1.hd (fa (cM x));have hbg:=Beg.in_ 9 hx;have h0:t3 T (i+(exP 9 x).length)=(5,DOT,0):=a2.1;have h1:t3 T (i+(exP 9 x).length+1)=(2,nm,0):=a2.2.1;have h2:t3 T (i+(exP 9 x).length+1+1)=(5,bS,0):=a2.2.2.1;obtain⟨a3,a4⟩:=AtT.app' (T:=T) (i:=i+(exP 9 x).length+1+1+1) (a:=sp (exP 1 y)) (b:=[py aQ]) a2.2.2.2;rw[au]at a4;have h3:t3 T (i+(exP 9 x).length+1+1+1+(exP 1 y).length)=(5,aQ,0):=a4.1;have hr1:=ej (n:=n) (r:=8) (by show(exP 9 x).length<=n+1;omega) hx (by omega) a1 (by rw[h0];kernel_rfl);have hr2:=ej (n:=n) (r:=0) (by show(exP 1 y).length<=n+1;omega) hy (by omega) a3.sp' (by rw[h3];kernel_rfl);have kn:∀z:ByteArray,([ie,eO,dM,cn,ep,dV,bR,cO].all λy=> !decide (y=z))=true->isT T z i=false:=λz hz=>by rw[cT,hhd];exact hbg.not hz
   have hno:¬((tk T i).1=2/\(tk T (i+1)).1=5/\(tk T (i+1)).2.1=bS):=λ⟨e1,e2,e3⟩=>by
    obtain⟨s,hs⟩:=sW hx (by rw[<-hhd];exact e1);rw[hs]at h0;have:=(cP (show t3 T (i+1)=(5,DOT,0)from h0)).2.1;rw[e3]at this;exact absurd this (by intro h;have:=GD (λb:ByteArray=>b.data.toList) h;exact absurd this (by decide))
   rw[show i+(exP 9 x++(py DOT::pn nm::(sp [py bS]++(sp (exP 1 y)++[py aQ])))).length=i+(exP 9 x).length+1+1+1+(exP 1 y).length+1 by simp[au];omega];refine ew (kn _ (by kernel_rfl)) (kn _ (by kernel_rfl)) ?_ h3;unfold bh fQ
   rw[Fg (by rw[kn _ (by kernel_rfl)];decide),Fg (by rw[kn _ (by kernel_rfl)];decide),Fg (by rw[kn _ (by kernel_rfl)];decide),Fg (by rw[kn _ (by kernel_rfl)];decide),Fg (by rw[kn _ (by kernel_rfl)];decide),
    Fg (by rw[kn _ (by kernel_rfl)];decide),Fg hno,hr1]
   simp only;rw[bI (by rw[h0];kernel_rfl)];simp only;rw[cH h1];simp only;rw[bI (by rw[h2];kernel_rfl)];simp only;rw[hr2]
  ·--if
   have hz:ssz (.mk 3 ⟨#[]⟩ [x] b e)=1+esz x+eU b+eU e:=by simp[ssz,cz]
   have hP:plS (.mk 3 ⟨#[]⟩ [x] b e) d=ln d (pk kIf::(sp (exP 1 x)++sp [py cF]))++(cj b (d+1)++((if e.isEmpty=true then[]else ln d (py cv::(sp [pk eP]++sp [py cF]))++cj e (d+1))++ln d [py cv])):=by rw[plS];rfl
   rw[hP]at h hel hn⊢;simp only[EZ,EY,F1,au,bE]at hn;obtain⟨a1,a2⟩:=AtT.app' h;rw[bE]at a2;have a1:=a1.ln';have h0:t3 T i=(4,kIf,0):=a1.1;obtain⟨a3,a4⟩:=AtT.app' (T:=T) (i:=i+1) (a:=sp (exP 1 x)) (b:=sp [py cF]) a1.2;rw[au]at a4;have h1:t3 T (i+1+(exP 1 x).length)=(5,cF,0):=a4.1;rw[show i+(pk kIf::(sp (exP 1 x)++sp [py cF])).length=i+1+(exP 1 x).length+1 by simp[au];omega]at a2;obtain⟨a5,a6⟩:=AtT.app' a2;have hr:=ej (n:=n) (r:=0) (by show(exP 1 x).length<=n+1;omega) hx (by omega) a3.sp' (by rw[h1];kernel_rfl);unfold dZ ifT;rw[Ft (ak h0 (by kernel_rfl)),hr];simp only;cases e with
   |nil=>
    simp only[List.isEmpty_nil,Hp,F1]at hn;have h2:t3 T (i+1+(exP 1 x).length+1+(cj b (d+1)).length)=(5,cv,0):=(show AtT T _ (tks (ln d [py cv]))from a6).ln'.1;have hbl:=iT (sub b hb (by omega) (by omega)) h1 a5 h2;rw[show i+(ln d (pk kIf::(sp (exP 1 x)++sp [py cF]))++(cj b (d+1)++((if([]:List St).isEmpty=true then[]else ln d (py cv::(sp [pk eP]++sp [py cF]))++cj [] (d+1))++ln d [py cv]))).length=i+1+(exP 1 x).length+1+(cj b (d+1)).length+1 by simp[au,bE];omega]at hel⊢;rw[hbl];simp only;rw[Fg (by rw[hel];decide)]
   |cons s e=>
    simp only[List.isEmpty_cons,Hl,if_false,EZ,EY,F1,au,bE]at hn;obtain⟨a7,a8⟩:=AtT.app' (show AtT T _ (tks ((ln d (py cv::(sp [pk eP]++sp [py cF]))++cj (s::e) (d+1))++ln d [py cv]))from a6);obtain⟨a9,a10⟩:=AtT.app' a7;rw[bE]at a10;have a9:=a9.ln';have h2:t3 T (i+1+(exP 1 x).length+1+(cj b (d+1)).length)=(5,cv,0):=a9.1;have h3:t3 T (i+1+(exP 1 x).length+1+(cj b (d+1)).length+1)=(4,eP,0):=a9.2.1;have h4:t3 T (i+1+(exP 1 x).length+1+(cj b (d+1)).length+1+1)=(5,cF,0):=a9.2.2.1;have hbl:=iT (sub b hb (by omega) (by omega)) h1 a5 h2
    have h5:t3 T (i+1+(exP 1 x).length+1+(cj b (d+1)).length+1+1+1+(cj (s::e) (d+1)).length)=(5,cv,0):=by
     have:=a8.ln'.1;rw[show i+1+(exP 1 x).length+1+(cj b (d+1)).length+(ln d (py cv::(sp [pk eP]++sp [py cF]))++cj (s::e) (d+1)).length=i+1+(exP 1 x).length+1+(cj b (d+1)).length+1+1+1+(cj (s::e) (d+1)).length by simp[au,bE];omega]at this;exact this
    have hbe:=iT (sub (s::e) he (by omega) (by omega)) h4 a10 h5;rw[hbl];simp only;rw[Ft (ak h3 (by kernel_rfl)),hbe];simp only
    congr 1
    simp[au,bE];omega
  ·--while
   have hz:ssz (.mk 4 ⟨#[]⟩ [x] b [])=1+esz x+eU b:=by simp[ssz,cz,eU]
   have hP:plS (.mk 4 ⟨#[]⟩ [x] b []) d=ln d (pk dU::(sp (exP 1 x)++sp [py cF]))++(cj b (d+1)++ln d [py cv]):=by rw[plS];rfl
   rw[hP]at h hn⊢;simp only[EZ,EY,F1,au,bE]at hn;obtain⟨a1,a2⟩:=AtT.app' h;rw[bE]at a2;have a1:=a1.ln';have h0:t3 T i=(4,dU,0):=a1.1;obtain⟨a3,a4⟩:=AtT.app' (T:=T) (i:=i+1) (a:=sp (exP 1 x)) (b:=sp [py cF]) a1.2;rw[au]at a4;have h1:t3 T (i+1+(exP 1 x).length)=(5,cF,0):=a4.1;rw[show i+(pk dU::(sp (exP 1 x)++sp [py cF])).length=i+1+(exP 1 x).length+1 by simp[au];omega]at a2;obtain⟨a5,a6⟩:=AtT.app' a2;have h2:t3 T (i+1+(exP 1 x).length+1+(cj b (d+1)).length)=(5,cv,0):=a6.ln'.1;have hr:=ej (n:=n) (r:=0) (by show(exP 1 x).length<=n+1;omega) hx (by omega) a3.sp' (by rw[h1];kernel_rfl);have hbl:=iT (sub b hb (by omega) (by omega)) h1 a5 h2;rw[show i+(ln d (pk dU::(sp (exP 1 x)++sp [py cF]))++(cj b (d+1)++ln d [py cv])).length=i+1+(exP 1 x).length+1+(cj b (d+1)).length+1 by simp[au,bE];omega];unfold dZ jx;rw[Fg (by rw[ak h0 (show _=false by kernel_rfl)];decide),Ft (ak h0 (by kernel_rfl)),hr];simp only;rw[hbl]
  ·--send
   have hz:ssz (stE 5 nm (x::l))=1+(esz x+cz l):=by simp[stE,ssz,cz,eU]
   have hP:plS (stE 5 nm (x::l)) d=ln d (pk fG::(sp (exP 8 x)++(py DOT::pn nm::(ax (plL l)++[py aQ])))):=rfl;rw[hP]at h hn⊢;simp only[EZ,EY,F1,au,bE]at hn;rw[bE];have h:=h.ln';have h0:t3 T i=(4,fG,0):=h.1;obtain⟨a1,a2⟩:=AtT.app' (T:=T) (i:=i+1) (a:=sp (exP 8 x)) (b:=py DOT::pn nm::(ax (plL l)++[py aQ])) h.2;rw[au]at a2;have h1:t3 T (i+1+(exP 8 x).length)=(5,DOT,0):=a2.1;have h2:t3 T (i+1+(exP 8 x).length+1)=(2,nm,0):=a2.2.1;obtain⟨a3,a4⟩:=AtT.app' (T:=T) (i:=i+1+(exP 8 x).length+1+1) (a:=ax (plL l)) (b:=[py aQ]) a2.2.2;have h3:t3 T (i+1+(exP 8 x).length+1+1+(ax (plL l)).length)=(5,aQ,0):=a4.1;obtain⟨K,hK,hr⟩:=mT (T:=T) (n:=n) (esz x) x (F0 _) (by omega) hx (i+1) a1.sp' h1;have hlt:=gq h1 (by decide);obtain⟨K,rfl⟩:∃K',K=K'+1:=⟨K-1,by omega⟩;have hls:=pH (good m) (n:=n) (l:=l) (i:=i+1+(exP 8 x).length+1+1) (λa ha=>⟨by have:=jh ha;omega,by have:=kr ha;omega,co hl a ha⟩) a3
   have hlp:isT T cO (i+1+(exP 8 x).length+1+1)=true:=by
    rw[cT,a3.hd (by cases l<;>simp[plL,ax])];cases l<;>exact(by kernel_rfl:isK cO (5,cO,0)=true)
   rw[show i+(pk fG::(sp (exP 8 x)++(py DOT::pn nm::(ax (plL l)++[py aQ])))).length=i+1+(exP 8 x).length+1+1+(ax (plL l)).length+1 by simp[au];omega];refine ew (ak h0 (by kernel_rfl)) (ak h0 (by kernel_rfl)) ?_ h3;unfold bh;rw[Fg (by rw[ak h0 (show _=false by kernel_rfl)];decide),Ft (ak h0 (by kernel_rfl)),hr];show(match bB T DOT (i+1+(exP 8 x).length)with| .bad j=>_| .ok _ j=>_)=_;rw[bI (by rw[h1];kernel_rfl)];simp only;rw[cH h2];simp only;rw[Ft hlp,hls]
  ·--print
   have hz:ssz (stE 6 ⟨#[]⟩ [x])=1+esz x:=by simp[stE,ssz,cz,eU]
   have hP:plS (stE 6 ⟨#[]⟩ [x]) d=ln d (pk en::(sp (exP 1 x)++[py aQ])):=rfl;rw[hP]at h hn⊢;simp only[EZ,EY,F1,au,bE]at hn;rw[bE];have h:=h.ln';have h0:t3 T i=(4,en,0):=h.1;obtain⟨a1,a2⟩:=AtT.app' (T:=T) (i:=i+1) (a:=sp (exP 1 x)) (b:=[py aQ]) h.2;rw[au]at a2;have h3:t3 T (i+1+(exP 1 x).length)=(5,aQ,0):=a2.1;have hr:=ej (n:=n) (r:=0) (by show(exP 1 x).length<=n+1;omega) hx (by omega) a1.sp' (by rw[h3];kernel_rfl);rw[show i+(pk en::(sp (exP 1 x)++[py aQ])).length=i+1+(exP 1 x).length+1 by simp[au];omega];refine ew (ak h0 (by kernel_rfl)) (ak h0 (by kernel_rfl)) ?_ h3;unfold bh;rw[Fg (by rw[ak h0 (show _=false by kernel_rfl)];decide),Fg (by rw[ak h0 (show _=false by kernel_rfl)];decide),Ft (ak h0 (by kernel_rfl)),hr]
  ·--move
   have hz:ssz (stE 7 ⟨#[]⟩ [x,y])=1+(esz x+esz y):=by simp[stE,ssz,cz,eU]
   have hP:plS (stE 7 ⟨#[]⟩ [x,y]) d=ln d (pk gw::(sp (exP 1 x)++(sp [pk kTo]++(sp (exP 1 y)++[py aQ])))):=rfl;rw[hP]at h hn⊢;simp only[EZ,EY,F1,au,bE]at hn;rw[bE];have h:=h.ln';have h0:t3 T i=(4,gw,0):=h.1;obtain⟨a1,a2⟩:=AtT.app' (T:=T) (i:=i+1) (a:=sp (exP 1 x)) (b:=sp [pk kTo]++(sp (exP 1 y)++[py aQ])) h.2;rw[au]at a2;have h1:t3 T (i+1+(exP 1 x).length)=(4,kTo,0):=a2.1;obtain⟨a3,a4⟩:=AtT.app' (T:=T) (i:=i+1+(exP 1 x).length+1) (a:=sp (exP 1 y)) (b:=[py aQ]) a2.2;rw[au]at a4;have h3:t3 T (i+1+(exP 1 x).length+1+(exP 1 y).length)=(5,aQ,0):=a4.1;have hr1:=ej (n:=n) (r:=0) (by show(exP 1 x).length<=n+1;omega) hx (by omega) a1.sp' (by rw[h1];kernel_rfl);have hr2:=ej (n:=n) (r:=0) (by show(exP 1 y).length<=n+1;omega) hy (by omega) a3.sp' (by rw[h3];kernel_rfl);rw[show i+(pk gw::(sp (exP 1 x)++(sp [pk kTo]++(sp (exP 1 y)++[py aQ])))).length=i+1+(exP 1 x).length+1+(exP 1 y).length+1 by simp[au];omega];refine ew (ak h0 (by kernel_rfl)) (ak h0 (by kernel_rfl)) ?_ h3;unfold bh kp;rw[Fg (by rw[ak h0 (show _=false by kernel_rfl)];decide),Fg (by rw[ak h0 (show _=false by kernel_rfl)];decide),Fg (by rw[ak h0 (show _=false by kernel_rfl)];decide),Ft (ak h0 (by kernel_rfl)),hr1];simp only;rw[bI (by rw[h1];kernel_rfl)];simp only;rw[hr2]
  ·--watch
   have hz:ssz (stE 8 nm [x,y])=1+(esz x+esz y):=by simp[stE,ssz,cz,eU]
   have hP:plS (stE 8 nm [x,y]) d=ln d (pk eY::(sp (exP 1 x)++(sp [pk kBy]++(sp [pn nm]++(py cO::(plE y++[py dv])++[py aQ]))))):=rfl;have hY:exP 1 y=plE y:=by unfold exP inP;rw[Fg (by have:=un y;omega)]
   have hYl:(exP 1 y).length=(plE y).length:=by rw[hY]
   rw[hP]at h hn⊢;simp only[EZ,EY,F1,au,bE]at hn;rw[bE];have h:=h.ln';have h0:t3 T i=(4,eY,0):=h.1;obtain⟨a1,a2⟩:=AtT.app' (T:=T) (i:=i+1) (a:=sp (exP 1 x)) (b:=sp [pk kBy]++(sp [pn nm]++(py cO::(plE y++[py dv])++[py aQ]))) h.2;rw[au]at a2;have h1:t3 T (i+1+(exP 1 x).length)=(4,kBy,0):=a2.1;have h2:t3 T (i+1+(exP 1 x).length+1)=(2,nm,0):=a2.2.1;have h3:t3 T (i+1+(exP 1 x).length+1+1)=(5,cO,0):=a2.2.2.1;obtain⟨a3,a4⟩:=AtT.app' (T:=T) (i:=i+1+(exP 1 x).length+1+1+1) (a:=exP 1 y) (b:=[py dv,py aQ]) (by rw[hY,show plE y++[py dv,py aQ]=(plE y++[py dv])++[py aQ] by simp];exact a2.2.2.2);have h4:t3 T (i+1+(exP 1 x).length+1+1+1+(exP 1 y).length)=(5,dv,0):=a4.1;have h5:t3 T (i+1+(exP 1 x).length+1+1+1+(exP 1 y).length+1)=(5,aQ,0):=a4.2.1;have hr1:=ej (n:=n) (r:=0) (by show(exP 1 x).length<=n+1;omega) hx (by omega) a1.sp' (by rw[h1];kernel_rfl);have hr2:=ej (n:=n) (r:=0) (by show(exP 1 y).length<=n+1;omega) hy (by omega) a3 (by rw[h4];kernel_rfl);rw[show i+(pk eY::(sp (exP 1 x)++(sp [pk kBy]++(sp [pn nm]++(py cO::(plE y++[py dv])++[py aQ]))))).length=i+1+(exP 1 x).length+1+1+1+(exP 1 y).length+1+1 by rw[hY];simp[au];omega];refine ew (ak h0 (by kernel_rfl)) (ak h0 (by kernel_rfl)) ?_ h5;unfold bh fu;rw[Fg (by rw[ak h0 (show _=false by kernel_rfl)];decide),Fg (by rw[ak h0 (show _=false by kernel_rfl)];decide),Fg (by rw[ak h0 (show _=false by kernel_rfl)];decide),Fg (by rw[ak h0 (show _=false by kernel_rfl)];decide),Ft (ak h0 (by kernel_rfl)),hr1];simp only;rw[bI (by rw[h1];kernel_rfl)];simp only;rw[cH h2];simp only;rw[bI (by rw[h3];kernel_rfl)];simp only;rw[hr2];simp only;rw[bI (by rw[h4];kernel_rfl)]
  ·--return
   have hP:plS (stE 9 ⟨#[]⟩ []) d=ln d [pk ei,py aQ]:=rfl;rw[hP]at h hn⊢;simp only[EZ,EY,F1,au,bE]at hn;rw[bE];have h:=h.ln';have h0:t3 T i=(4,ei,0):=h.1;have h3:t3 T (i+1)=(5,aQ,0):=h.2.1;refine ew (j:=i+1) (ak h0 (by kernel_rfl)) (ak h0 (by kernel_rfl)) ?_ h3;unfold bh
   rw[Fg (by rw[ak h0 (show _=false by kernel_rfl)];decide),Fg (by rw[ak h0 (show _=false by kernel_rfl)];decide),Fg (by rw[ak h0 (show _=false by kernel_rfl)];decide),Fg (by rw[ak h0 (show _=false by kernel_rfl)];decide),
    Fg (by rw[ak h0 (show _=false by kernel_rfl)];decide),Ft (ak h0 (by kernel_rfl))]
end
def nmX(s:ByteArray):Nat×List Pc:=(9,[pn s])
def fdP(f:ByteArray):List Pc:=ln 1 (pk rb::(sp [pn f]++[py aQ]))
def gU:List ByteArray->List Pc
 |[]=>[]
 |f::l=>fdP f++gU l
def meP(m:Me):List Pc:=ln 1 (pk kOn::(sp [pn m.nm]++(ax (m.params.map nmX)++sp [py cF])))++(cj m.body 2++ln 1 [py cv])
def gF:List Me->List Pc
 |[]=>[]
 |m::l=>meP m++gF l
def clP(c:Cl):List Pc:=ln 0 (pk (if c.actor=true then eZ else eJ)::(sp [pc c.nm]++sp [py cF]))++(gU c.fields++(gF c.methods++ln 0 [py cv]))
def prP:List Cl->List Pc
 |[]=>[]
 |c::l=>clP c++prP l
def vNm(l:List ByteArray):Bool:=l.all λs=>aR s 97 122
def vMe(m:Me):Bool:=aR m.nm 97 122&&(vNm m.params&&vSs m.body)
def vCl(c:Cl):Bool:=aR c.nm 65 90&&(vNm c.fields&&((c.actor||c.methods.isEmpty)&&c.methods.all vMe))
def vPr(l:List Cl):Bool:=l.all vCl
section
variable{T:List Tk}
theorem qm:∀(l xs:List ByteArray) (K i:Nat),T.length+1<=K+i->AtT T i (tks (dR (l.map nmX)))->dJ T (bV T 2) K xs i= .ok (xs++l) (i+(dR (l.map nmX)).length)
 |[],xs,K,i,hK,h=>by
  have h0:t3 T i=(5,dv,0):=h.1;have hlt:=gq h0 (by decide);obtain⟨K,rfl⟩:∃K',K=K'+1:=⟨K-1,by omega⟩;unfold dJ;rw[Fg (by rw[ak h0 (show _=false by kernel_rfl)];decide),bI (by rw[h0];kernel_rfl),FJ];rfl
 |a::l,xs,K,i,hK,h=>by
  have h0:t3 T i=(5,iU,0):=h.1;have h1:t3 T (i+1)=(2,a,0):=h.2.1;have hlt:=gq h0 (by decide);obtain⟨K,rfl⟩:∃K',K=K'+1:=⟨K-1,by omega⟩;unfold dJ;rw[Ft (ak h0 (by kernel_rfl)),cH h1];simp only;rw[qm l (xs++[a]) K (i+1+1) (by omega) h.2.2];simp[dR,nmX,sp];omega
theorem wE(h:AtT T i (tks (ax (l.map nmX)))):cm T (bV T 2) i= .ok l (i+(ax (l.map nmX)).length):=by
 cases l with
 |nil=>
  have h0:t3 T i=(5,cO,0):=h.1;have h1:t3 T (i+1)=(5,dv,0):=h.2.1;unfold cm;rw[bI (by rw[h0];kernel_rfl)];simp only;rw[Ft (ak h1 (by kernel_rfl))];rfl
 |cons a l=>
  have h0:t3 T i=(5,cO,0):=h.1;have h1:t3 T (i+1)=(2,a,0):=h.2.1;unfold cm;rw[bI (by rw[h0];kernel_rfl)];simp only;rw[Fg (by rw[ak h1 (show isK dv (2,a,0)=false by unfold isK;simp)];decide),cH h1];simp only;rw[qm l [a] (T.length+1) (i+1+1) (by omega) h.2.2];simp[ax,nmX];omega
theorem tT:∀(l fs:List ByteArray) (K i:Nat),T.length+1<=K+i->AtT T i (tks (gU l))->i+(gU l).length<T.length->isT T rb (i+(gU l).length)=false->bW T K fs i= .ok (fs++l) (i+(gU l).length)
 |[],fs,K,i,hK,h,hl,hn=>by
  have hl:i+0<T.length:=hl;obtain⟨K,rfl⟩:∃K',K=K'+1:=⟨K-1,by omega⟩;unfold bW;rw[Fg (by rw[show isT T rb i=false from hn];decide),FJ];rfl
 |a::l,fs,K,i,hK,h,hl,hn=>by
  have hlen:i+(gU (a::l)).length=i+1+1+1+(gU l).length:=by rw[gU];simp[fdP,bE,au];omega
  rw[hlen]at hl hn⊢;obtain⟨a1,a2⟩:=AtT.app' (a:=fdP a) h;have a1:=a1.ln';have h0:t3 T i=(4,rb,0):=a1.1;have h1:t3 T (i+1)=(2,a,0):=a1.2.1;have h2:t3 T (i+1+1)=(5,aQ,0):=a1.2.2.1;rw[show i+(fdP a).length=i+1+1+1 by simp[fdP,bE,au]<;>omega]at a2;obtain⟨K,rfl⟩:∃K',K=K'+1:=⟨K-1,by omega⟩;unfold bW;rw[Ft (ak h0 (by kernel_rfl)),cH h1];simp only;rw[bI (by rw[h2];kernel_rfl)];simp only;rw[tT l (fs++[a]) K (i+1+1+1) (by omega) a2 hl hn];simp
theorem oH{n:Nat}(hv:vMe m=true)(hn:(meP m).length<=n)(h:AtT T i (tks (meP m))):t3 T i=(4,kOn,0)/\fH T n (i+1)= .ok m (i+(meP m).length):=by
 unfold vMe at hv;simp only[Fx]at hv;obtain⟨v1,v2,v3⟩:=hv;obtain⟨a1,a2⟩:=AtT.app' h;rw[bE]at a2;have a1:=a1.ln';have h0:t3 T i=(4,kOn,0):=a1.1;have h1:t3 T (i+1)=(2,m.nm,0):=a1.2.1;obtain⟨a3,a4⟩:=AtT.app' (T:=T) (i:=i+1+1) (a:=ax (m.params.map nmX)) (b:=sp [py cF]) a1.2.2;have h2:t3 T (i+1+1+(ax (m.params.map nmX)).length)=(5,cF,0):=a4.1;rw[show i+(pk kOn::(sp [pn m.nm]++(ax (m.params.map nmX)++sp [py cF]))).length=i+1+1+(ax (m.params.map nmX)).length+1 by simp[au];omega]at a2;obtain⟨a5,a6⟩:=AtT.app' a2;have h3:t3 T (i+1+1+(ax (m.params.map nmX)).length+1+(cj m.body 2).length)=(5,cv,0):=a6.ln'.1;have hlen:(meP m).length=1+1+(ax (m.params.map nmX)).length+1+(cj m.body 2).length+1:=by simp[meP,bE,au];omega
 have hbl:=iT (T:=T) (n:=n) (d:=2) (l:=m.body) (λs hs=>⟨dq v3 s hs,λi a b=>BG (ssz s) n 2 s i (F0 _) (by have:=na (d:=2) hs;omega) (dq v3 s hs) a b⟩) h2 a5 h3;refine⟨h0,?_⟩;unfold fH;rw[cH h1];simp only;rw[wE a3];simp only;rw[hbl,hlen];simp only
 congr 1
 omega
theorem CC(m:Me):meP m≠[]:=λh=>qZ (d:=1) (by simp) (List.append_eq_nil_iff.1 h).1
theorem nh{n:Nat}:∀(l ms:List Me) (K i:Nat),(∀m∈l,vMe m=true)->(gF l).length<=n->T.length+1<=K+i->AtT T i (tks (gF l))->i+(gF l).length<T.length->isT T kOn (i+(gF l).length)=false->
 aP T n K ms i= .ok (ms++l) (i+(gF l).length)
 |[],ms,K,i,_,_,hK,h,hl,hn=>by
  have hl:i+0<T.length:=hl;obtain⟨K,rfl⟩:∃K',K=K'+1:=⟨K-1,by omega⟩;unfold aP;rw[Fg (by rw[show isT T kOn i=false from hn];decide),FJ];rfl
 |m::l,ms,K,i,hv,hN,hK,h,hl,hn=>by
  have hlen:i+(gF (m::l)).length=i+(meP m).length+(gF l).length:=by rw[gF];simp;omega
  have hle:(gF (m::l)).length=(meP m).length+(gF l).length:=by rw[gF];simp
  have hpos:1<=(meP m).length:=List.length_pos_iff.2 (CC m);rw[hlen]at hl hn⊢;obtain⟨a1,a2⟩:=AtT.app' (a:=meP m) h;obtain⟨h0,h1⟩:=oH (n:=n) (hv m (by simp)) (by omega) a1;obtain⟨K,rfl⟩:∃K',K=K'+1:=⟨K-1,by omega⟩;unfold aP;rw[Ft (ak h0 (by kernel_rfl)),h1];simp only;rw[nh l (ms++[m]) K (i+(meP m).length) (λb hb=>hv b (by simp[hb])) (by omega) (by omega) a2 hl hn];simp
theorem zt{n:Nat}{c:Cl}(hv:vCl c=true)(hn:(clP c).length<=n)(h:AtT T i (tks (clP c))):t3 T i=(4,if c.actor=true then eZ else eJ,0)/\dt T n c.actor (i+1)= .ok c (i+(clP c).length):=by
 unfold vCl at hv;simp only[Fx,Gt,List.isEmpty_iff,Fu]at hv;obtain⟨v1,v2,v3,v4⟩:=hv;obtain⟨a1,a2⟩:=AtT.app' h;rw[bE]at a2;have a1:=a1.ln';have h0:t3 T i=(4,if c.actor=true then eZ else eJ,0):=a1.1;have h1:t3 T (i+1)=(3,c.nm,0):=a1.2.1;have h2:t3 T (i+1+1)=(5,cF,0):=a1.2.2.1;rw[show i+(pk (if c.actor=true then eZ else eJ)::(sp [pc c.nm]++sp [py cF])).length=i+1+1+1 by simp[au]<;>omega]at a2;obtain⟨a3,a4⟩:=AtT.app' a2;obtain⟨a5,a6⟩:=AtT.app' a4;have h3:t3 T (i+1+1+1+(gU c.fields).length+(gF c.methods).length)=(5,cv,0):=a6.ln'.1;have hlt:=gq h3 (by decide);have hlen:(clP c).length=1+1+1+(gU c.fields).length+(gF c.methods).length+1:=by simp[clP,bE,au];omega
 have hnv:isT T rb (i+1+1+1+(gU c.fields).length)=false:=by
  cases hm:c.methods with
  |nil=>rw[hm]at h3;exact ak h3 (by kernel_rfl)
  |cons m l=>
   rw[hm]at a5;have:=(oH (n:=(meP m).length) (v4 m (by simp[hm])) (F0 _) (AtT.app' (a:=meP m) a5).1).1;exact ak this (by kernel_rfl)
 have hno:isT T kOn (i+1+1+1+(gU c.fields).length+(gF c.methods).length)=false:=ak h3 (by kernel_rfl);refine⟨h0,?_⟩;unfold dt;rw[cH h1];simp only;rw[bI (by rw[h2];kernel_rfl)];simp only;rw[tT c.fields [] (T.length+1) (i+1+1+1) (by omega) a3 (by omega) hnv];simp only
 have hms:(if c.actor=true then aP T n (T.length+1) [] (i+1+1+1+(gU c.fields).length)else .ok [] (i+1+1+1+(gU c.fields).length))= .ok c.methods (i+1+1+1+(gU c.fields).length+(gF c.methods).length):=by
  by_cases ha:c.actor=true
  ·rw[Ft ha,nh c.methods [] (T.length+1) _ v4 (by omega) (by omega) a5 hlt hno];simp
  ·have hm:=v3.resolve_left ha;rw[Fg ha,hm];rfl
 rw[hms];simp only;rw[bI (by rw[h3];kernel_rfl)];simp only;rw[hlen];obtain⟨a,b,c',d⟩:=c;simp only[Fs]
 congr 1
 omega
theorem Dk(c:Cl):clP c≠[]:=λh=>qZ (d:=0) (by simp) (List.append_eq_nil_iff.1 h).1
theorem nQ{n:Nat}:∀(l cs:List Cl) (K i:Nat),(∀c∈l,vCl c=true)->(prP l).length<=n->T.length+1<=K+i->AtT T i (tks (prP l))->i+(prP l).length<T.length->t3 T (i+(prP l).length)=(0,⟨#[]⟩,0)->
 cD T n K cs i= .ok (cs++l) (i+(prP l).length)
 |[],cs,K,i,_,_,hK,h,hl,hn=>by
  have hl:i+0<T.length:=hl;have hn:t3 T i=(0,⟨#[]⟩,0):=hn;obtain⟨K,rfl⟩:∃K',K=K'+1:=⟨K-1,by omega⟩;unfold cD;rw[Fg (by rw[ak hn (show _=false by kernel_rfl)];decide),Fg (by rw[ak hn (show _=false by kernel_rfl)];decide),Ft (cP hn).1,FJ];rfl
 |c::l,cs,K,i,hv,hN,hK,h,hl,hn=>by
  have hlen:i+(prP (c::l)).length=i+(clP c).length+(prP l).length:=by rw[prP];simp;omega
  have hle:(prP (c::l)).length=(clP c).length+(prP l).length:=by rw[prP];simp
  have hpos:1<=(clP c).length:=List.length_pos_iff.2 (Dk c);rw[hlen]at hl hn⊢;obtain⟨a1,a2⟩:=AtT.app' (a:=clP c) h;obtain⟨h0,h1⟩:=zt (n:=n) (hv c (by simp)) (by omega) a1;obtain⟨K,rfl⟩:∃K',K=K'+1:=⟨K-1,by omega⟩;have ih:=nQ (n:=n) l (cs++[c]) K (i+(clP c).length) (λb hb=>hv b (by simp[hb])) (by omega) (by omega) a2 hl hn;unfold cD;by_cases ha:c.actor=true
  ·rw[Ft ha]at h0;rw[ha]at h1;rw[Ft (ak h0 (by kernel_rfl)),h1];simp only;rw[ih];simp
  ·rw[Fg ha]at h0;rw[Bool.not_eq_true]at ha;rw[ha]at h1;rw[Fg (by rw[ak h0 (show _=false by kernel_rfl)];decide),Ft (ak h0 (by kernel_rfl)),h1];simp only;rw[ih];simp
theorem sE(hv:vPr cs=true)(h:AtT T 0 (tks (prP cs)))(hl:T.length=(prP cs).length+1)(he:t3 T (prP cs).length=(0,⟨#[]⟩,0)):dI T= .ok cs (prP cs).length:=by
 unfold dI;have:=nQ (T:=T) (n:=T.length+1) cs [] (T.length+1) 0 (by unfold vPr at hv;simpa using hv) (by omega) (by omega) h (by omega) (by rw[Gq];exact he);rw[this];simp
end
def iH(k:Int)(r:List UInt8):Bool:=r.head?.all λc=>if k=5 then c !=61 else !gB c
def AI:Int:=2305843009213693951
def okT(t:TK):Prop:=(∃z:Int,t=(1,⟨(Lib.itoa z).toArray⟩,z)/\0<=z/\z<=AI)\/(∃s,t=(2,s,0)/\aR s 97 122=true)\/(∃s,t=(3,s,0)/\aR s 65 90=true)\/(∃s,t=(4,s,0)/\s∈kwL)\/∃s,t=(5,s,0)/\s∈bL
theorem wA(c:UInt8):gB c=fD c:=by
 unfold gB fy eA fD
 have e:(c==95)=decide ((c.toNat:Int)=95):=by
  by_cases h:c=95
  ·subst h;decide
  ·have:c.toNat≠95:=λhe=>h (UInt8.toNat_inj.1 he);rw[Fa.2 h,GU (by omega)]
 rw[e];rw[Bool.eq_iff_iff];simp only[Gt,Fx,FI];omega
theorem tw{p:UInt8->Bool}:∀{s r:List UInt8},s.all p=true->(r.head?.all λc=> !p c)=true->(s++r).takeWhile p=s/\(s++r).dropWhile p=r
 |[],[],_,_=>⟨rfl,rfl⟩
 |[],c::r,_,h=>by
  simp at h;simp[List.takeWhile,List.dropWhile,h]
 |a::s,r,h,h2=>by
  simp only[List.all_cons,Fx]at h;obtain⟨h3,h4⟩:=tw (s:=s) (r:=r) h.2 h2;simp[List.takeWhile,List.dropWhile,h.1,h3,h4]
theorem tf{s:ByteArray}(h:s∈l):inB l s=true:=by
 unfold inB;rw[GM];exact⟨s,h,by simp⟩
theorem ml{s:ByteArray}(h:inB l s=true):s∈l:=by
 unfold inB at h;rw[GM]at h;obtain⟨x,hx,he⟩:=h;rw[He,Gj,Gj]at he
 have:x=s:=by
  obtain⟨⟨a⟩⟩:=x;obtain⟨⟨b⟩⟩:=s;simp at he;rw[he]
 rwa[<-this]
theorem mu(s:ByteArray):ba s.data.toList=s:=by obtain⟨⟨l⟩⟩:=s;rfl
theorem mv{s:ByteArray}{r:List UInt8}{c:UInt8}{l:List UInt8}(hs:s.data.toList=c::l)(hc:fy c=true)(hw:s.data.toList.all gB=true)(hl:s.data.toList.length<=31)(hr:iH 4 r=true):
 eT (s.data.toList++r)= .tok (if inB kwL s=true then 4 else if c.toNat<=90 then 3 else 2) s.data.toList 0:=by
 have hr':(r.head?.all λc=> !gB c)=true:=hr;obtain⟨t1,_⟩:=tw (r:=r) hw hr'
 have e:eT (s.data.toList++r)=oG (s.data.toList++r):=by
  rw[hs];unfold eT;show(if fy c=true then oG (c::(l++r))else _)=_;rw[Ft hc];rfl
 rw[e];unfold oG;simp only;rw[t1,Fg (by omega),mu,hs];simp
theorem fU{s:ByteArray}{lo hi:Int}(h:aR s lo hi=true):∃c l,s.data.toList=c::l/\lo<=(c.toNat:Int)/\(c.toNat:Int)<=hi/\inB kwL s=false/\s.data.toList.all gB=true/\s.data.toList.length<=31:=by
 unfold aR at h;cases hs:s.data.toList with
 |nil=>rw[hs]at h;cases h
 |cons c l=>
  rw[hs]at h;simp only[Fx,FI,Hb]at h;obtain⟨⟨⟨⟨h1,h2⟩,h3⟩,h4⟩,h5⟩:=h;refine⟨c,l,rfl,h2,h3,h4,?_,?_⟩
  ·rw[<-h5];congr 1;exact funext λc=>wA c
  ·rw[<-hs];exact h1
theorem wK(n:Nat):jl (Lib.decDigits n)=n:=by
 induction n using Nat.strongRecOn with
 |_ n ih=>
  by_cases h:n<10
  ·have e:(UInt8.ofNat (48+n)).toNat=48+n:=by simp;omega
   rw[cq h];unfold jl;simp only[List.foldl,e];omega
  ·have e:(UInt8.ofNat (48+n%10)).toNat=48+n%10:=by simp;omega
   have:=ih (n/10) (by omega);rw[eK (by omega)];unfold jl at this⊢;rw[List.foldl_append,this];simp only[List.foldl,e];omega
theorem zg(n:Nat):10<=n->(Lib.decDigits n).head?≠some 48:=by
 induction n using Nat.strongRecOn with
 |_ n ih=>
  intro h;rw[eK h];obtain⟨c,l,hc,h1,h2⟩:=iS (n/10);rw[hc];show some c≠some 48;by_cases h10:n/10<10
  ·rw[cq h10]at hc;have e:(UInt8.ofNat (48+n/10)).toNat=48+n/10:=by simp;omega
   intro he;injection he with he;subst he;injection hc with hc;have:=GD UInt8.toNat hc;rw[e]at this;have:48+n/10=48:=this;omega
  ·have:=ih (n/10) (by omega) (by omega);rw[hc]at this;exact this
theorem Bh(n:Nat):(Lib.decDigits n).all eA=true:=by
 rw[Fu];intro c hc;have:=dK n c hc;unfold eA;simp[this]
theorem pV{c:UInt8}(h:gB c=false):eA c=false/\fy c=false/\(c==95)=false:=by
 unfold gB at h;simp only[Bool.or_eq_false_iff]at h;exact⟨h.1.2,h.1.1,h.2⟩
theorem AB{z:Int}{r:List UInt8}(h0:0<=z)(h1:z<=AI)(hr:iH 1 r=true):eT (Lib.itoa z++r)= .tok 1 (Lib.itoa z) z:=by
 obtain⟨n,rfl⟩:=Fz h0;rw[show Lib.itoa (n:Int)=Lib.decDigits n from by unfold Lib.itoa;rw[Fg (by omega)];rfl]
 have hr':(r.head?.all λc=> !eA c)=true:=by
  cases r with
  |nil=>rfl
  |cons c r=>
   have:(!gB c)=true:=hr;rw[Hb]at this;show(!eA c)=true;rw[(pV this).1];rfl
 obtain⟨t1,t2⟩:=tw (r:=r) (Bh n) hr';obtain⟨c,l,hc,d1,d2⟩:=iS n;have hcl:fy c=false:=by unfold fy;simp;omega
 have hcd:eA c=true:=by unfold eA;simp[d1,d2]
 have e:eT (Lib.decDigits n++r)=lh (Lib.decDigits n++r):=by
  rw[hc];unfold eT;show(if fy c=true then _ else if eA c=true then lh (c::(l++r))else _)=_;rw[Fg (by rw[hcl];decide),Ft hcd];rfl
 rw[e];unfold lh;simp only;rw[t1,t2,Fg,wK,Fg (by unfold AI at h1;omega)];rintro(⟨h2,h3⟩|h2)
 ·by_cases hn:n<10
  ·rw[cq hn]at h2;simp at h2
  ·exact zg n (by omega) h3
 ·cases r with
  |nil=>cases h2
  |cons c r=>
   have:(!gB c)=true:=hr;rw[Hb]at this;have h3:(fy c||c==95)=true:=h2;rw[(pV this).2.1,(pV this).2.2]at h3;cases h3
theorem Ah:(bL.all λx=>match x.data.toList with|[a]=> !fy a&& !eA a&& !iG a&&a !=35&&a !=95|[a,b]=> !fy a&& !eA a&& !iG a&&a !=35&&a !=95&&b==61|_=>false)=true:=by kernel_rfl
theorem gK{s:ByteArray}(h:s∈bL):∃a,fy a=false/\eA a=false/\iG a=false/\a≠35/\a≠95/\(s.data.toList=[a]\/s.data.toList=[a,61]):=by
 have:=Fu.1 Ah s h
 match hs:s.data.toList with
 |[]=>rw[hs]at this;cases this
 |[a]=>
  rw[hs]at this;simp at this;exact⟨a,this.1.1.1.1,this.1.1.1.2,this.1.1.2,this.1.2,this.2,.inl rfl⟩
 |[a,b]=>
  rw[hs]at this;simp at this;obtain⟨h1,h2⟩:=this;subst h2;exact⟨a,h1.1.1.1.1,h1.1.1.1.2,h1.1.1.2,h1.1.2,h1.2,.inr rfl⟩
 |_::_::_::_=>rw[hs]at this;cases this
theorem Ag{s:ByteArray}{r:List UInt8}(h:s∈bL)(hr:iH 5 r=true):eT (s.data.toList++r)= .tok 5 s.data.toList 0:=by
 obtain⟨a,h1,h2,_,_,_,hs⟩:=gK h
 have e:∀l,eT (a::l)=gr (a::l):=λl=>by
  unfold eT;show(if fy a=true then _ else if eA a=true then _ else gr (a::l))=_;rw[Fg (by rw[h1];decide),Fg (by rw[h2];decide)]
 have hb:=mu s;rcases hs with hs|hs
 ·rw[hs]at hb⊢;show eT (a::r)=_;rw[e];unfold gr;rw[Fg,Ft (by show inB bL (ba [a])=true;rw[hb];exact tf h)]
  ·rfl
  ·rintro⟨h3,h4⟩;cases r with
   |nil=>simp at h3
   |cons c r=>
    have h4:=ml (show inB bL (ba [a,c])=true from h4);obtain⟨a',_,_,_,_,_,h5⟩:=gK h4;rcases h5 with h5|h5
    ·cases h5
    ·have:[a,c]=[a',61]:=h5;injection this with _ h6;injection h6 with h6;have h7:(c !=61)=true:=hr;rw[h6]at h7;cases h7
 ·rw[hs]at hb⊢;show eT (a::61::r)=_;rw[e];unfold gr;rw[Ft ⟨by simp,by show inB bL (ba [a,61])=true;rw[hb];exact tf h⟩];rfl
theorem yH:(kwL.all λx=>match x.data.toList with|a::l=>fy a&&(a::l).all gB&&decide ((a::l).length<=31)|_=>false)=true:=by kernel_rfl
theorem ox{k:Int}(h:k≠5){r:List UInt8}(hr:iH k r=true):iH 4 r=true:=by
 unfold iH at*
 simpa[h]using hr
theorem rT{t:TK}{r:List UInt8}(h:okT t)(hr:iH t.1 r=true):eT (t.2.1.data.toList++r)= .tok t.1 t.2.1.data.toList t.2.2/\∃c l,t.2.1.data.toList=c::l/\iG c=false/\c≠35:=by
 have lsp:∀c:UInt8,48<=c.toNat->iG c=false/\c≠35:=λc hc=>by
  have hne:∀k:UInt8,k.toNat<48->(c==k)=false:=λk hk=>Fa.2 λe=>by rw[e]at hc;omega
  unfold iG;rw[hne 32 (by decide),hne 9 (by decide),hne 10 (by decide),hne 13 (by decide)];exact⟨rfl,λe=>by have:=hne 35 (by decide);rw[e]at this;cases this⟩
 rcases h with⟨z,rfl,h0,h1⟩|⟨s,rfl,hs⟩|⟨s,rfl,hs⟩|⟨s,rfl,hs⟩|⟨s,rfl,hs⟩
 ·refine⟨AB h0 h1 hr,?_⟩;obtain⟨n,rfl⟩:=Fz h0;obtain⟨c,l,hc,d1,d2⟩:=iS n;refine⟨c,l,?_,lsp c (by omega)⟩;show Lib.itoa (n:Int)=_;rw[show Lib.itoa (n:Int)=Lib.decDigits n from by unfold Lib.itoa;rw[Fg (by omega)];rfl];exact hc
 ·obtain⟨c,l,hc,h1,h2,h3,h4,h5⟩:=fU hs;have:=mv (r:=r) hc (by unfold fy;simp;omega) h4 h5 (ox (show(2:Int)≠5 by decide) hr);rw[h3,Fg (by decide),Fg (by omega)]at this;exact⟨this,c,l,hc,lsp c (by omega)⟩
 ·obtain⟨c,l,hc,h1,h2,h3,h4,h5⟩:=fU hs;have:=mv (r:=r) hc (by unfold fy;simp;omega) h4 h5 (ox (show(3:Int)≠5 by decide) hr);rw[h3,Fg (by decide),Ft (by omega)]at this;exact⟨this,c,l,hc,lsp c (by omega)⟩
 ·have hk:=Fu.1 yH s hs;cases hc:s.data.toList with
  |nil=>rw[hc]at hk;cases hk
  |cons c l=>
   rw[hc]at hk;simp only[Fx,FI]at hk;obtain⟨⟨k1,k2⟩,k3⟩:=hk;have:=mv (s:=s) (r:=r) hc k1 (by rw[hc];exact k2) (by rw[hc];exact k3) hr;rw[tf hs,Ft rfl,hc]at this;refine⟨this,c,l,rfl,lsp c ?_⟩;unfold fy at k1;simp at k1;omega
 ·obtain⟨a,_,_,h3,h4,_,h5⟩:=gK hs;refine⟨Ag hs hr,?_⟩;rcases h5 with h5|h5
  ·exact⟨a,[],h5,h3,h4⟩
  ·exact⟨a,[61],h5,h3,h4⟩
def ah(l:List Pc):List UInt8:=l.flatMap λp=>p.pre++(p.t.2.1.data.toList++p.post)
def spcs(l:List UInt8):Prop:=∀c∈l,c=32\/c=10
def Adj(p q:Pc):Prop:=p.post++q.pre≠[]\/((p.t.1=5\/q.t.1=5)/\q.t.2.1.data.toList.head?≠some 61)
def Chn:List Pc->Prop
 |[]=>True
 |[_]=>True
 |p::q::l=>Adj p q/\Chn (q::l)
def OkP(p:Pc):Prop:=okT p.t/\spcs p.pre/\spcs p.post
theorem spcs.app{a b:List UInt8}(h:spcs a)(h2:spcs b):spcs (a++b):=λc hc=>by(rcases Gf.1 hc with hc|hc)<;>first|exact h c hc|exact h2 c hc
theorem spcs.nil:spcs []:=λ_ h=>by cases h
theorem kY:∀{x:List UInt8} (r:List UInt8),spcs x->bF false (x++r)=bF false r
 |[],r,_=>rfl
 |c::x,r,h=>by
  have hc:iG c=true:=by rcases h c (by simp)with rfl|rfl<;>rfl
  show bF false (c::(x++r))=_;rw[bF,Ft hc,kY r λd hd=>h d (by simp[hd])]
theorem oy{k:Int}{r:List UInt8}(h:spcs x)(hx:x≠[]):iH k (x++r)=true:=by
 cases x with
 |nil=>exact absurd rfl hx
 |cons c x=>
  unfold iH;show(if k=5 then c !=61 else !gB c)=true;rcases h c (by simp)with rfl|rfl<;>(split<;>decide)
theorem vj{p:Pc}{l:List Pc}(hp:OkP p)(hl:∀q∈l,OkP q)(hc:Chn (p::l)):iH p.t.1 (p.post++ah l)=true:=by
 cases l with
 |nil=>
  by_cases h:p.post=[]
  ·rw[h];rfl
  ·exact oy hp.2.2 h
 |cons q l=>
  have hq:=hl q (by simp);show iH p.t.1 (p.post++((q.pre++(q.t.2.1.data.toList++q.post))++ah l))=true;rw[Fe,<-Fe];by_cases h:p.post++q.pre=[]
  ·rw[h];rcases hc.1 with h'|⟨h1,h2⟩
   ·exact absurd h h'
   ·obtain⟨_,c,r,hs,_,_⟩:=rT (t:=q.t) (r:=[]) hq.1 rfl;rw[hs]at h2⊢;show(if p.t.1=5 then c !=61 else !gB c)=true;by_cases h5:p.t.1=5
    ·rw[Ft h5,bne_iff_ne];exact λe=>h2 (by rw[e];rfl)
    ·rw[Fg h5];have h5:=h1.resolve_left h5;rcases hq.1 with⟨z,e,_⟩|⟨s,e,_⟩|⟨s,e,_⟩|⟨s,e,_⟩|⟨s,e,he⟩
     ·rw[e]at h5;exact absurd h5 (show ¬(1:Int)=5 by decide)
     ·rw[e]at h5;exact absurd h5 (show ¬(2:Int)=5 by decide)
     ·rw[e]at h5;exact absurd h5 (show ¬(3:Int)=5 by decide)
     ·rw[e]at h5;exact absurd h5 (show ¬(4:Int)=5 by decide)
     ·rw[e]at hs;obtain⟨a,a1,a2,_,_,a5,a6⟩:=gK he
      have:a=c:=by
       have hs:s.data.toList=c::r:=hs;rcases a6 with a6|a6<;>(rw[a6]at hs;injection hs)
      subst this;unfold gB;rw[a1,a2,Fa.2 a5];rfl
  ·exact oy (hp.2.2.app hq.2.1) h
theorem lI(N:Nat):∀(l:List Pc) (x:List UInt8) (k:Nat) (ts:List Tk),(∀p∈l,OkP p)->Chn l->spcs x->l.length<k->
 ∃Ts,di N k (x++ah l) ts= .toks (ts++Ts)/\Ts.map (λt=>((t.1,t.2.1,t.2.2.1):TK))=tks l++[(0,⟨#[]⟩,0)]
 |[],x,k,ts,_,_,hx,hk=>by
  obtain⟨k,rfl⟩:∃k',k=k'+1:=⟨k-1,by have:0<k:=hk;omega⟩;unfold di;rw[kY _ hx];exact⟨_,rfl,rfl⟩
 |p::l,x,k,ts,hl,hc,hx,hk=>by
  obtain⟨k,rfl⟩:∃k',k=k'+1:=⟨k-1,by have:(l.length+1)<k:=hk;omega⟩;have hp:=hl p (by simp);have hl':∀q∈l,OkP q:=λq hq=>hl q (by simp[hq]);obtain⟨h1,c,r,hs,h2,h3⟩:=rT hp.1 (vj hp hl' hc)
  have hc':Chn l:=by
   cases l with
   |nil=>trivial
   |cons q l=>exact hc.2
  obtain⟨Ts,e1,e2⟩:=lI N l p.post k (ts++[(p.t.1,p.t.2.1,p.t.2.2,((N-(p.t.2.1.data.toList++(p.post++ah l)).length:Nat):Int))]) hl' hc' hp.2.2 (by have:l.length+1<k+1:=hk;omega);refine⟨(p.t.1,p.t.2.1,p.t.2.2,((N-(p.t.2.1.data.toList++(p.post++ah l)).length:Nat):Int))::Ts,?_,?_⟩
  ·have e:x++ah (p::l)=x++p.pre++(p.t.2.1.data.toList++(p.post++ah l)):=by simp[ah]
   have e3:bF false (p.t.2.1.data.toList++(p.post++ah l))=c::(r++(p.post++ah l)):=by
    rw[hs];show bF false (c::(r++(p.post++ah l)))=_;unfold bF;rw[Fg (by rw[h2];decide),Fg h3]
   have e4:c::(r++(p.post++ah l))=p.t.2.1.data.toList++(p.post++ah l):=by rw[hs];rfl
   unfold di;rw[e,kY _ (hx.app hp.2.1),e3];simp only;rw[e4,h1];simp only;rw[List.drop_left,mu,e1];simp
  ·rw[Ga,e2];rfl
def OkQ(p:Pc):Prop:=okT p.t/\(∀c∈p.pre,c=32)/\p.post=[]
theorem OkQ.p{p:Pc}(h:OkQ p):OkP p:=⟨h.1,λc hc=> .inl (h.2.1 c hc),by rw[h.2.2];exact spcs.nil⟩
def J(l:List Pc):Prop:=(∀p∈l,OkQ p)/\Chn l
def Soft(b:List Pc):Prop:=∀p q r,b=q::r->Adj p q
def H61(b:List Pc):Prop:=∀p q r,p.t.1=5->b=q::r->Adj p q
theorem J.nil:J []:=⟨λ_ h=>absurd h Fm,trivial⟩
theorem J.cons{p:Pc}{b:List Pc}(hp:OkQ p)(hb:J b)(hs:∀q r,b=q::r->Adj p q):J (p::b):=
 And.intro (λq hq=>(Fp.1 hq).elim (λh=>h▸hp) (hb.1 q)) (by
  cases b with
  |nil=>trivial
  |cons q r=>exact⟨hs q r rfl,hb.2⟩)
theorem J.app{b:List Pc}(hb:J b)(hs:Soft b):∀{a:List Pc},J a->J (a++b)
 |[],_=>hb
 |p::a,ha=>by
  have ha':J a:=And.intro (λq hq=>ha.1 q (by simp[hq])) (by
   cases a with
   |nil=>trivial
   |cons q r=>exact ha.2.2)
  refine J.cons (ha.1 p (by simp)) (J.app hb hs ha') λq r e=>?_;cases a with
  |nil=>exact hs p q r e
  |cons q' r'=>
   injection e with e1 e2;exact e1▸ha.2.1
theorem J.sp{b:List Pc}(hb:J b):J (sp b):=by
 cases b with
 |nil=>exact hb
 |cons q r=>
  have hq:=hb.1 q (by simp);refine⟨λp hp=>?_,?_⟩
  ·rcases Fp.1 hp with rfl|hp
   ·exact⟨hq.1,λc hc=>(Fp.1 hc).elim id (hq.2.1 c),hq.2.2⟩
   ·exact hb.1 p (by simp[hp])
  ·cases r with
   |nil=>trivial
   |cons q' r=>exact hb.2
theorem Soft.sp(b:List Pc):Soft (sp b):=λp q r e=>by
 cases b with
 |nil=>cases e
 |cons q' r'=>
  injection e with e1 e2;exact .inl (by rw[<-e1];simp)
theorem Soft.app(b:List Pc)(h:Soft a)(hne:a≠[]):Soft (a++b):=λp q r e=>by
 cases a with
 |nil=>exact absurd rfl hne
 |cons q' r'=>
  injection e with e1 e2;exact e1▸h p q' r' rfl
theorem Soft.y{s:ByteArray}(b:List Pc)(h:s.data.toList.head?≠some 61):Soft (py s::b):=λp q r e=>by
 injection e with e1 e2;exact .inr ⟨.inr (by rw[<-e1];rfl),by rw[<-e1];exact h⟩
theorem Soft.h{b:List Pc}(h:Soft b):H61 b:=λp q r _ e=>h p q r e
theorem H61.app(b:List Pc)(h:H61 a)(hne:a≠[]):H61 (a++b):=λp q r h5 e=>by
 cases a with
 |nil=>exact absurd rfl hne
 |cons q' r'=>
  injection e with e1 e2;exact e1▸h p q' r' h5 rfl
theorem H61.of{b:List Pc}(h:(hdP b).2.1.data.toList.head?≠some 61):H61 b:=λp q r h5 e=> .inr ⟨.inl h5,by rw[e]at h;exact h⟩
theorem OkQ.y{s:ByteArray}(h:s∈bL):OkQ (py s):=⟨.inr (.inr (.inr (.inr ⟨s,rfl,h⟩))),λ_ h=>absurd h Fm,rfl⟩
theorem OkQ.k{s:ByteArray}(h:s∈kwL):OkQ (pk s):=⟨.inr (.inr (.inr (.inl ⟨s,rfl,h⟩))),λ_ h=>absurd h Fm,rfl⟩
theorem OkQ.n{s:ByteArray}(h:aR s 97 122=true):OkQ (pn s):=⟨.inr (.inl ⟨s,rfl,h⟩),λ_ h=>absurd h Fm,rfl⟩
theorem OkQ.c{s:ByteArray}(h:aR s 65 90=true):OkQ (pc s):=⟨.inr (.inr (.inl ⟨s,rfl,h⟩)),λ_ h=>absurd h Fm,rfl⟩
theorem OkQ.z{z:Int}(h0:0<=z)(h1:z<=AI):OkQ (pz z):=⟨.inl ⟨z,rfl,h0,h1⟩,λ_ h=>absurd h Fm,rfl⟩
theorem J.one{p:Pc}(h:OkQ p):J [p]:=J.cons h J.nil λ_ _ e=>by cases e
theorem J.y{s:ByteArray}{b:List Pc}(h:s∈bL)(hb:J b)(hh:H61 b):J (py s::b):=J.cons (OkQ.y h) hb λq r e=>hh _ q r rfl e
theorem J.s{p:Pc}{b:List Pc}(h:OkQ p)(hb:J b)(hs:Soft b):J (p::b):=J.cons h hb λq r e=>hs _ q r e
theorem aT{s:ByteArray}(h:inB l s=true):s∈l:=ml h
theorem lj{s:ByteArray}(h:(s.data.toList.head?==some 61)=false):s.data.toList.head?≠some 61:=λe=>by rw[e]at h;exact absurd h (by decide)
theorem LB{b:List Pc}:Soft (py cO::b):=Soft.y b (lj (by kernel_rfl))
theorem RB{b:List Pc}:Soft (py dv::b):=Soft.y b (lj (by kernel_rfl))
theorem CB{b:List Pc}:Soft (py iU::b):=Soft.y b (lj (by kernel_rfl))
theorem DB{b:List Pc}:Soft (py DOT::b):=Soft.y b (lj (by kernel_rfl))
theorem SB'{b:List Pc}:Soft (py aQ::b):=Soft.y b (lj (by kernel_rfl))
def JX(x:Nat×List Pc):Prop:=J x.2/\H61 x.2/\x.2≠[]
theorem JX.in_{r:Nat}{x:Nat×List Pc}(h:JX x):J (inP r x)/\H61 (inP r x):=by
 unfold inP;split
 ·exact⟨J.y (aT (by kernel_rfl)) (J.app (J.one (OkQ.y (aT (by kernel_rfl)))) RB h.1) (h.2.1.app _ h.2.2),LB.h⟩
 ·exact⟨h.1,h.2.1⟩
theorem zO:∀{l:List (Nat×List Pc)},(∀x∈l,JX x)->J (dR l)/\Soft (dR l)
 |[],_=>⟨J.one (OkQ.y (aT (by kernel_rfl))),RB⟩
 |x::l,h=>by
  obtain⟨h1,h2⟩:=zO (l:=l) λy hy=>h y (by simp[hy]);have hx:=h x (by simp);exact⟨J.s (OkQ.y (aT (by kernel_rfl))) (J.app h1 h2 hx.1.sp) ((Soft.sp _).app _ (by have:=hx.2.2;revert this;cases x.2<;>simp[sp])),CB⟩
theorem qc{l:List (Nat×List Pc)}(h:∀x∈l,JX x):J (ax l)/\Soft (ax l):=by
 cases l with
 |nil=>exact⟨J.y (aT (by kernel_rfl)) (J.one (OkQ.y (aT (by kernel_rfl)))) RB.h,LB⟩
 |cons x l=>
  obtain⟨h1,h2⟩:=zO (l:=l) λy hy=>h y (by simp[hy]);have hx:=h x (by simp);exact⟨J.y (aT (by kernel_rfl)) (J.app h1 h2 hx.1) (hx.2.1.app _ hx.2.2),LB⟩
theorem qD(h:a≠[]):sp a≠[]:=by cases a with|nil=>exact absurd rfl h|cons=>simp[sp]
theorem Cv:((List.range 13).all λo=>if o=11\/o=12 then inB kwL (bc o)else inB bL (bc o))=true:=by kernel_rfl
theorem DS{o:Nat}(ho:o<=12):OkQ (opP (o:Int)):=by
 have:=Fu.1 Cv o (by simp;omega);unfold opP;by_cases h:o=11\/o=12
 ·rw[Ft h]at this;rw[Ft (by omega)];exact OkQ.k (ml this)
 ·rw[Fg h]at this;rw[Fg (by omega)];exact OkQ.y (ml this)
theorem yc{s:ByteArray}(h:aR s 97 122=true):H61 [pn s]:=H61.of λe=>by
 obtain⟨c,l,hc,h1,h2,_⟩:=fU h;rw[show(hdP [pn s]).2.1.data.toList=c::l from hc]at e;injection e with e;rw[e]at h1;exact absurd h1 (by decide)
theorem zN:∀(m:Nat) (e:Ex),esz e<=m->vE e=true->JX (lvl e,plE e)
 |0,e,hm,_=>by have:=bJ e;omega
 |m+1,e,hm,hv=>by
  have ih:∀a,esz a<=m->vE a=true->JX (lvl a,plE a):=zN m
  have ihl:∀l,vEs l=true->cz l<=m->∀x∈plL l,JX x:=λl hl hs x hx=>by
   rw[nb]at hx;obtain⟨a,ha,rfl⟩:=FU.1 hx;exact ih a (by have:=jh ha;omega) (co hl a ha)
  rcases db hv with⟨z,rfl,h0,h1⟩|rfl|rfl|⟨s,rfl,hs⟩|⟨s,a,rfl,hs,ha⟩|⟨s,xs,rfl,hs,hxs⟩|⟨s,xs,a,rfl,hs,hxs,ha⟩|⟨k,a,hk,rfl,ha⟩|⟨o,a,b,ho,rfl,ha,hb⟩
  ·refine⟨J.one (OkQ.z h0 h1),H61.of ?_,List.cons_ne_nil _ _⟩;obtain⟨n,rfl⟩:=Fz h0;obtain⟨c,l,hc,d1,d2⟩:=iS n;show(Lib.itoa (n:Int)).head?≠some 61;rw[show Lib.itoa (n:Int)=Lib.decDigits n from by unfold Lib.itoa;rw[Fg (by omega)];rfl,hc];intro e;injection e with e;rw[e]at d2;exact absurd d2 (by decide)
  ·exact⟨J.one (OkQ.k (aT (by kernel_rfl))),H61.of (lj (by kernel_rfl)),List.cons_ne_nil _ _⟩
  ·exact⟨J.one (OkQ.k (aT (by kernel_rfl))),H61.of (lj (by kernel_rfl)),List.cons_ne_nil _ _⟩
  ·exact⟨J.one (OkQ.n hs),yc hs,List.cons_ne_nil _ _⟩
  ·have hz:esz (aU s a)=1+esz a:=by simp[aU,esz,cz]
   have hx:=ih a (by omega) ha;have hi:=hx.in_ (r:=8);have hne:inP 8 (lvl a,plE a)≠[]:=fa hx.2.2;refine⟨?_,?_,cM _⟩
   ·show J (inP 8 (lvl a,plE a)++(py DOT::[pn s]));exact J.app (J.y (aT (by kernel_rfl)) (J.one (OkQ.n hs)) (yc hs)) DB hi.1
   ·show H61 (inP 8 (lvl a,plE a)++[py DOT,pn s]);exact hi.2.app _ hne
  ·have hz:esz (.mk 5 0 0 s false xs)=1+cz xs:=by rw[esz]
   obtain⟨l1,l2⟩:=qc (ihl xs hxs (by omega));refine⟨?_,H61.of ?_,cM _⟩
   ·show J (pk dM::(sp [pc s]++ax (plL xs)));exact J.s (OkQ.k (aT (by kernel_rfl))) (J.app l1 l2 (J.one (OkQ.c hs)).sp) ((Soft.sp _).app _ (qD (List.cons_ne_nil _ _)))
   ·show dM.data.toList.head?≠some 61;exact lj (by kernel_rfl)
  ·have hz:esz (.mk 5 0 0 s true (xs++[a]))=1+(cz xs+esz a):=by rw[esz,nK]
   have hP:plE (.mk 5 0 0 s true (xs++[a]))=pk dM::(sp [pc s]++(ax (plL xs)++(sp [pk kAt]++sp (inP 7 (lvl a,plE a))))):=by
    rw[plE,pA];show pk dM::(sp [pc s]++(ax (plL xs++[(lvl a,plE a)]).dropLast++(sp [pk kAt]++sp (inP 7 ((plL xs++[(lvl a,plE a)]).getLastD dX)))))=_;rw[List.dropLast_concat];simp
   obtain⟨l1,l2⟩:=qc (ihl xs hxs (by omega));have hi:=(ih a (by omega) ha).in_ (r:=7);refine⟨?_,H61.of ?_,cM _⟩
   ·show J (plE _);rw[hP];refine J.s (OkQ.k (aT (by kernel_rfl))) (J.app (J.app ?_ ((Soft.sp _).app _ (qD (List.cons_ne_nil _ _))) l1) (l2.app _ (by cases plL xs<;>simp[ax])) (J.one (OkQ.c hs)).sp) ((Soft.sp _).app _ (qD (List.cons_ne_nil _ _)));exact J.app hi.1.sp (Soft.sp _) (J.one (OkQ.k (aT (by kernel_rfl)))).sp
   ·show(hdP (plE _)).2.1.data.toList.head?≠some 61;rw[hP];show dM.data.toList.head?≠some 61;exact lj (by kernel_rfl)
  ·have hz:esz (eUn k a)=1+esz a:=by simp[eUn,esz,cz]
   have hx:=ih a (by omega) ha;have hi:=hx.in_ (r:=7);have hi3:=hx.in_ (r:=3);rcases hk with rfl|rfl|rfl|rfl
   ·exact⟨J.s (OkQ.k (aT (by kernel_rfl))) hi.1.sp (Soft.sp _),H61.of (show cn.data.toList.head?≠some 61 from lj (by kernel_rfl)),cM _⟩
   ·exact⟨J.s (OkQ.k (aT (by kernel_rfl))) hi.1.sp (Soft.sp _),H61.of (show ep.data.toList.head?≠some 61 from lj (by kernel_rfl)),cM _⟩
   ·exact⟨J.y (aT (by kernel_rfl)) hi.1 hi.2,H61.of (show bR.data.toList.head?≠some 61 from lj (by kernel_rfl)),cM _⟩
   ·exact⟨J.s (OkQ.k (aT (by kernel_rfl))) hi3.1.sp (Soft.sp _),H61.of (show dV.data.toList.head?≠some 61 from lj (by kernel_rfl)),cM _⟩
  ·have hz:esz (cA o a b)=1+(esz a+esz b):=by simp[cA,esz,cz]
   have hx:=ih a (by omega) ha;have hi:=hx.in_ (r:=if av (o:Int)=4 then 5 else av o);have hi2:=(ih b (by omega) hb).in_ (r:=av (o:Int)+1);have hne:inP (if av (o:Int)=4 then 5 else av o) (lvl a,plE a)≠[]:=fa hx.2.2;refine⟨?_,?_,cM _⟩
   ·show J (inP (if av (o:Int)=4 then 5 else av o) (lvl a,plE a)++(sp [opP o]++sp (inP (av (o:Int)+1) (lvl b,plE b))));exact J.app (J.app hi2.1.sp (Soft.sp _) (J.one (DS ho)).sp) ((Soft.sp _).app _ (qD (List.cons_ne_nil _ _))) hi.1
   ·show H61 (inP (if av (o:Int)=4 then 5 else av o) (lvl a,plE a)++(sp [opP o]++sp (inP (av (o:Int)+1) (lvl b,plE b))));exact hi.2.app _ hne
def glu(ls:List ByteArray):List UInt8:=ls.flatMap λl=>l.data.toList++[10]
def NL(s:List UInt8):Prop:=∃Ls:List ByteArray,s=glu Ls/\∀x∈Ls,(∀c∈x.data.toList,c≠10)/\x.data.toList.getLast?≠some 100
theorem NL.app{a b:List UInt8}(ha:NL a)(hb:NL b):NL (a++b):=by
 obtain⟨A,rfl,h1⟩:=ha;obtain⟨B,rfl,h2⟩:=hb;exact⟨A++B,by unfold glu;rw[Gk],λx hx=>(Gf.1 hx).elim (h1 x) (h2 x)⟩
theorem ag(a b:List Pc):ah (a++b)=ah a++ah b:=Gk
def JL(l:List Pc):Prop:=(∀p∈l,OkP p)/\(∀r,Chn r->Chn (l++r))/\NL (ah l)
theorem JL.app{b:List Pc}(ha:JL a)(hb:JL b):JL (a++b):=
 ⟨λp hp=>(Gf.1 hp).elim (ha.1 p) (hb.1 p),λr hr=>by rw[Fe];exact ha.2.1 _ (hb.2.1 r hr),by rw[ag];exact ha.2.2.app hb.2.2⟩
theorem JL.nil:JL []:=⟨λ_ h=>absurd h Fm,λr hr=>hr,[],rfl,λ_ h=>absurd h Fm⟩
theorem Am:spcs [10]:=λc hc=> .inr (by simpa using hc)
theorem An(d:Nat):spcs (bA d):=λc hc=> .inl (List.eq_of_mem_replicate hc)
theorem ui:∀{l:List Pc},(∀p∈l,OkQ p)->∀p∈fl [10] l,OkP p
 |[],_,p,hp=>absurd hp Fm
 |[q],h,p,hp=>by
  have hq:=h q (by simp);rw[fl]at hp;rcases Fp.1 hp with rfl|hp
  ·exact⟨hq.1,hq.p.2.1,hq.p.2.2.app Am⟩
  ·exact absurd hp Fm
 |q::q'::l,h,p,hp=>by
  rw[fl]at hp;rcases Fp.1 hp with rfl|hp
  ·exact(h p (by simp)).p
  ·exact ui (λx hx=>h x (FL _ hx)) p hp
theorem Cw{l:List Pc}(h:∀p∈l,OkP p):∀p∈vD (bA d) l,OkP p:=λp hp=>by
 cases l with
 |nil=>exact absurd hp Fm
 |cons q l=>
  have hq:=h q (by simp);rcases Fp.1 hp with rfl|hp
  ·exact⟨hq.1,(An d).app hq.2.1,hq.2.2⟩
  ·exact h p (by simp[hp])
theorem rD:∀{l r:List Pc},Chn l->Chn r->Chn (fl [10] l++r)
 |[],r,_,hr=>hr
 |[p],[],_,_=>trivial
 |[p],q::r,_,hr=>⟨.inl (by simp),hr⟩
 |p::q::l,r,hl,hr=>by
  have ih:=rD (l:=q::l) hl.2 hr;rw[fl];cases l with
  |nil=>exact⟨hl.1,ih⟩
  |cons q' l=>exact⟨hl.1,ih⟩
theorem Bo{l:List Pc}(h:Chn l):Chn (vD x l):=by
 cases l with
 |nil=>exact h
 |cons p l=>cases l with
  |nil=>trivial
  |cons q l=>exact h
theorem oP{l:List Pc}(h:l≠[]):ah (vD x l)=x++ah l:=by
 cases l with
 |nil=>exact absurd rfl h
 |cons p l=>simp[vD,ah]
theorem jP{x:List UInt8}:∀{l:List Pc},l≠[]->ah (fl x l)=ah l++x
 |[],h=>absurd rfl h
 |[p],_=>by simp[fl,ah]
 |p::q::l,_=>by
  have ih:=jP (x:=x) (l:=q::l) (by simp);rw[fl,show ah (p::fl x (q::l))=(p.pre++(p.t.2.1.data.toList++p.post))++ah (fl x (q::l))from rfl,ih,show ah (p::q::l)=(p.pre++(p.t.2.1.data.toList++p.post))++ah (q::l)from rfl,Fe (p.pre++_)]
def Lst(l:List Pc):Prop:=∃a p,l=a++[p]/\(p.t=(5,aQ,0)\/p.t=(5,cF,0)\/p.t=(5,cv,0))
theorem Lst.app(a:List Pc){b:List Pc}(h:Lst b):Lst (a++b):=by
 obtain⟨c,p,rfl,h⟩:=h;exact⟨a++c,p,by simp,h⟩
theorem Lst.cons(q:Pc){b:List Pc}(h:Lst b):Lst (q::b):=Lst.app [q] h
theorem Lst.s:Lst [py aQ]:=⟨[],_,rfl,.inl rfl⟩
theorem Lst.b:Lst (sp [py cF]):=⟨[],_,rfl,.inr (.inl rfl)⟩
theorem Lst.r:Lst [py cv]:=⟨[],_,rfl,.inr (.inr rfl)⟩
theorem BT{t:TK}(h:okT t):∀c∈t.2.1.data.toList,c≠10:=by
 have key:∀l:List UInt8,l.all gB=true->∀c∈l,c≠10:=λl hl c hc e=>by
  have:=Fu.1 hl c hc;rw[e]at this;exact absurd this (by decide)
 rcases h with⟨z,rfl,h0,h1⟩|⟨s,rfl,hs⟩|⟨s,rfl,hs⟩|⟨s,rfl,hs⟩|⟨s,rfl,hs⟩
 ·obtain⟨n,rfl⟩:=Fz h0;intro c hc e;have hc:c∈Lib.itoa (n:Int):=hc;rw[show Lib.itoa (n:Int)=Lib.decDigits n from by unfold Lib.itoa;rw[Fg (by omega)];rfl]at hc;have:=dK n c hc;rw[e]at this;exact absurd this (by decide)
 ·obtain⟨_,_,_,_,_,_,h4,_⟩:=fU hs;exact key _ h4
 ·obtain⟨_,_,_,_,_,_,h4,_⟩:=fU hs;exact key _ h4
 ·have hk:=Fu.1 yH s hs;cases hc:s.data.toList with
  |nil=>rw[hc]at hk;cases hk
  |cons c l=>
   rw[hc]at hk;simp only[Fx,FI]at hk;exact key _ hk.1.2
 ·obtain⟨a,_,_,h3,h4,_,h5⟩:=gK hs;have ha:a≠10:=λe=>by rw[e]at h3;exact absurd h3 (by decide)
  show∀c∈s.data.toList,c≠10;rcases h5 with h5|h5<;>(rw[h5];intro c hc;simp at hc)
  ·rw[hc];exact ha
  ·rcases hc with rfl|rfl
   ·exact ha
   ·decide
theorem JL.ln{l:List Pc}(d:Nat)(h:J l)(he:Lst l:=by repeat first|exact Lst.s|exact Lst.b|exact Lst.r|refine Lst.app _ ?_|refine Lst.cons _ ?_):JL (ln d l):=by
 have hne:l≠[]:=λe=>by obtain⟨a,p,rfl,_⟩:=he;simp at e
 refine⟨Cw (ui h.1),λr hr=>?_,?_⟩
 ·have:=Bo (x:=bA d) (rD h.2 hr);unfold Go.Proofs.YtjpbckbpeblibaaGreatDoor.ln;cases l with
  |nil=>exact hr
  |cons p l=>cases l with
   |nil=>exact this
   |cons q l=>exact this
 ·have e:ah (Go.Proofs.YtjpbckbpeblibaaGreatDoor.ln d l)=(bA d++ah l)++[10]:=by
   unfold Go.Proofs.YtjpbckbpeblibaaGreatDoor.ln;rw[oP (by cases l with|nil=>exact absurd rfl hne|cons p l=>cases l<;>simp[fl]),jP hne,Fe]
  refine⟨[⟨(bA d++ah l).toArray⟩],by rw[e];simp[glu],λx hx=>?_⟩;rw[List.mem_singleton.1 hx];refine⟨λc hc=>?_,?_⟩
  ·rcases Gf.1 (show c∈bA d++ah l from hc)with hc|hc
   ·rw[List.eq_of_mem_replicate hc];decide
   ·obtain⟨p,hp,hc⟩:=List.mem_flatMap.1 hc;have hq:=h.1 p hp;rw[hq.2.2,FJ]at hc;rcases Gf.1 hc with hc|hc
    ·rw[hq.2.1 c hc];decide
    ·exact BT hq.1 c hc
  ·obtain⟨a,p,rfl,hp⟩:=he;have hq:=h.1 p (by simp);show(bA d++ah (a++[p])).getLast?≠some 100;rw[ag,show ah [p]=p.pre++(p.t.2.1.data.toList++p.post) by simp[ah],hq.2.2,FJ,<-Fe,<-Fe];rcases hp with hp|hp|hp<;>rw[hp]
   ·rw[show((5,aQ,0):TK).2.1.data.toList=[59]from rfl];simp
   ·rw[show((5,cF,0):TK).2.1.data.toList=[123]from rfl];simp
   ·rw[show((5,cv,0):TK).2.1.data.toList=[125]from rfl];simp
theorem fN{r:List Pc}(h:a≠[]):Soft (sp a++r):=(Soft.sp a).app r (qD h)
theorem gV{e:Ex}(r:Nat)(hv:vE e=true):J (exP r e)/\H61 (exP r e)/\exP r e≠[]:=
 have h:=zN _ e (F0 _) hv
 ⟨h.in_.1,h.in_.2,fa h.2.2⟩
theorem yy{l:List Ex}(hl:vEs l=true):J (ax (plL l))/\Soft (ax (plL l)):=qc λx hx=>by
 rw[nb]at hx;obtain⟨a,ha,rfl⟩:=FU.1 hx;exact zN _ a (F0 _) (co hl a ha)
theorem mU:J [py aQ]:=J.one (OkQ.y (aT (by kernel_rfl)))
theorem BJ:∀(m:Nat) (s:St) (d:Nat),ssz s<=m->vS s=true->JL (plS s d)
 |0,s,d,hm,_=>by have:=gL s;omega
 |m+1,s,d,hm,hv=>by
  have aE:∀l:List St,vSs l=true->eU l<=m->JL (cj l (d+1)):=λl=>by
   induction l with
   |nil=>intro _ _;exact JL.nil
   |cons a l ih=>
    intro hl hs;rw[vSs]at hl;obtain⟨h1,h2⟩:=Fw.1 hl;unfold eU at hs;rw[cj];exact(BJ m a (d+1) (by omega) h1).app (ih h2 (by omega))
  have eq1:J (sp [py bS]):=(J.one (OkQ.y (aT (by kernel_rfl)))).sp;have lb1:J (sp [py cF]):=(J.one (OkQ.y (aT (by kernel_rfl)))).sp
  have tail:∀{x:Ex},vE x=true->J (sp (exP 1 x)++[py aQ])/\Soft (sp (exP 1 x)++[py aQ]):=λhx=>
   ⟨J.app mU SB' (gV 1 hx).1.sp,fN (gV 1 hx).2.2⟩
  have eqt:∀{x:Ex},vE x=true->J (sp [py bS]++(sp (exP 1 x)++[py aQ]))/\Soft (sp [py bS]++(sp (exP 1 x)++[py aQ])):=λhx=>
   ⟨J.app (tail hx).1 (tail hx).2 eq1,fN (by simp)⟩
  rcases fP hv with⟨nm,x,rfl,hnm,hx⟩|⟨nm,x,rfl,hnm,hx⟩|⟨nm,x,y,rfl,hnm,hx,hy⟩|⟨x,b,e,rfl,hx,hb,he⟩|⟨x,b,rfl,hx,hb⟩|⟨nm,x,l,rfl,hnm,hx,hl⟩|⟨x,rfl,hx⟩|⟨x,y,rfl,hx,hy⟩|⟨nm,x,y,rfl,hnm,hx,hy⟩|rfl
  ·show JL (ln d (pk ix::(sp [pn nm]++(sp [py bS]++(sp (exP 1 x)++[py aQ])))));exact JL.ln d (J.s (OkQ.k (aT (by kernel_rfl))) (J.app (eqt hx).1 (eqt hx).2 (J.one (OkQ.n hnm)).sp) (fN (by simp)))
  ·show JL (ln d (pn nm::(sp [py bS]++(sp (exP 1 x)++[py aQ]))));exact JL.ln d (J.s (OkQ.n hnm) (eqt hx).1 (eqt hx).2)
  ·show JL (ln d (exP 9 x++(py DOT::pn nm::(sp [py bS]++(sp (exP 1 y)++[py aQ])))));exact JL.ln d (J.app (J.y (aT (by kernel_rfl)) (J.s (OkQ.n hnm) (eqt hy).1 (eqt hy).2) ((yc hnm).app _ (by simp))) DB (gV 9 hx).1)
  ·have hz:ssz (.mk 3 ⟨#[]⟩ [x] b e)=1+esz x+eU b+eU e:=by simp[ssz,cz]
   have hP:plS (.mk 3 ⟨#[]⟩ [x] b e) d=ln d (pk kIf::(sp (exP 1 x)++sp [py cF]))++(cj b (d+1)++((if e.isEmpty=true then[]else ln d (py cv::(sp [pk eP]++sp [py cF]))++cj e (d+1))++ln d [py cv])):=by rw[plS];rfl
   rw[hP];refine(JL.ln d (J.s (OkQ.k (aT (by kernel_rfl))) (J.app lb1 (Soft.sp _) (gV 1 hx).1.sp) (fN (gV 1 hx).2.2))).app ((aE b hb (by omega)).app (JL.app ?_ (JL.ln d (J.one (OkQ.y (aT (by kernel_rfl)))))));split
   ·exact JL.nil
   ·exact(JL.ln d (J.y (aT (by kernel_rfl)) (J.app lb1 (Soft.sp _) (J.one (OkQ.k (aT (by kernel_rfl)))).sp) (fN (by simp)).h)).app (aE e he (by omega))
  ·have hz:ssz (.mk 4 ⟨#[]⟩ [x] b [])=1+esz x+eU b:=by simp[ssz,cz,eU]
   have hP:plS (.mk 4 ⟨#[]⟩ [x] b []) d=ln d (pk dU::(sp (exP 1 x)++sp [py cF]))++(cj b (d+1)++ln d [py cv]):=by rw[plS];rfl
   rw[hP];exact(JL.ln d (J.s (OkQ.k (aT (by kernel_rfl))) (J.app lb1 (Soft.sp _) (gV 1 hx).1.sp) (fN (gV 1 hx).2.2))).app ((aE b hb (by omega)).app (JL.ln d (J.one (OkQ.y (aT (by kernel_rfl))))))
  ·show JL (ln d (pk fG::(sp (exP 8 x)++(py DOT::pn nm::(ax (plL l)++[py aQ])))));exact JL.ln d (J.s (OkQ.k (aT (by kernel_rfl))) (J.app (J.y (aT (by kernel_rfl)) (J.s (OkQ.n hnm) (J.app mU SB' (yy hl).1) ((yy hl).2.app _ (by cases plL l<;>simp[ax]))) ((yc hnm).app _ (by simp))) DB (gV 8 hx).1.sp) (fN (gV 8 hx).2.2))
  ·show JL (ln d (pk en::(sp (exP 1 x)++[py aQ])));exact JL.ln d (J.s (OkQ.k (aT (by kernel_rfl))) (tail hx).1 (tail hx).2)
  ·show JL (ln d (pk gw::(sp (exP 1 x)++(sp [pk kTo]++(sp (exP 1 y)++[py aQ])))));exact JL.ln d (J.s (OkQ.k (aT (by kernel_rfl))) (J.app (J.app (tail hy).1 (tail hy).2 (J.one (OkQ.k (aT (by kernel_rfl)))).sp) (fN (by simp)) (gV 1 hx).1.sp) (fN (gV 1 hx).2.2))
  ·show JL (ln d (pk eY::(sp (exP 1 x)++(sp [pk kBy]++(sp [pn nm]++(ax (plL [y])++[py aQ]))))));have hl:=yy (l:=[y]) (by rw[vEs,hy];rfl);exact JL.ln d (J.s (OkQ.k (aT (by kernel_rfl))) (J.app (J.app (J.app (J.app mU SB' hl.1) (hl.2.app _ (by simp[plL,ax])) (J.one (OkQ.n hnm)).sp) (fN (by simp)) (J.one (OkQ.k (aT (by kernel_rfl)))).sp) (fN (by simp)) (gV 1 hx).1.sp) (fN (gV 1 hx).2.2))
  ·show JL (ln d [pk ei,py aQ]);exact JL.ln d (J.s (OkQ.k (aT (by kernel_rfl))) mU SB')
theorem zM(d:Nat):∀{l:List St},vSs l=true->JL (cj l d)
 |[],_=>JL.nil
 |a::l,h=>by
  rw[vSs]at h;obtain⟨h1,h2⟩:=Fw.1 h;rw[cj];exact(BJ _ a d (F0 _) h1).app (zM d h2)
theorem BL:∀{l:List ByteArray},vNm l=true->JL (gU l)
 |[],_=>JL.nil
 |a::l,h=>by
  unfold vNm at h;rw[List.all_cons]at h;obtain⟨h1,h2⟩:=Fw.1 h;rw[gU];exact(JL.ln 1 (J.s (OkQ.k (aT (by kernel_rfl))) (J.app mU SB' (J.one (OkQ.n h1)).sp) (fN (by simp)))).app (BL h2)
theorem EX(h:vMe m=true):JL (meP m):=by
 unfold vMe at h;obtain⟨h1,h2⟩:=Fw.1 h;obtain⟨h2,h3⟩:=Fw.1 h2
 have hl:=qc (l:=m.params.map nmX) λx hx=>by
  obtain⟨s,hs,rfl⟩:=FU.1 hx;have:=Fu.1 h2 s hs;exact⟨J.one (OkQ.n this),yc this,by simp[nmX]⟩
 exact(JL.ln 1 (J.s (OkQ.k (aT (by kernel_rfl))) (J.app (J.app (J.one (OkQ.y (aT (by kernel_rfl)))).sp (Soft.sp _) hl.1) (hl.2.app _ (by cases m.params<;>simp[ax])) (J.one (OkQ.n h1)).sp) (fN (by simp)))).app ((zM 2 h3).app (JL.ln 1 (J.one (OkQ.y (aT (by kernel_rfl))))))
theorem BK:∀{l:List Me},l.all vMe=true->JL (gF l)
 |[],_=>JL.nil
 |a::l,h=>by
  rw[List.all_cons]at h;obtain⟨h1,h2⟩:=Fw.1 h;rw[gF];exact(EX h1).app (BK h2)
theorem Dr:∀{l:List Cl},vPr l=true->JL (prP l)
 |[],_=>JL.nil
 |c::l,h=>by
  unfold vPr at h;rw[List.all_cons]at h;obtain⟨h1,h2⟩:=Fw.1 h;unfold vCl at h1;obtain⟨c1,h1⟩:=Fw.1 h1;obtain⟨c2,h1⟩:=Fw.1 h1;obtain⟨_,c3⟩:=Fw.1 h1;rw[prP];have hk:OkQ (pk (if c.actor=true then eZ else eJ)):=by split<;>exact OkQ.k (aT (by kernel_rfl))
  exact((JL.ln 0 (J.s hk (J.app (J.one (OkQ.y (aT (by kernel_rfl)))).sp (Soft.sp _) (J.one (OkQ.c c1)).sp) (fN (by simp)))).app ((BL c2).app ((BK c3).app (JL.ln 0 (J.one (OkQ.y (aT (by kernel_rfl)))))))).app (Dr h2)
theorem tO{T:List Tk}:∀(l m:List TK) (i:Nat),(T.map λt=>((t.1,t.2.1,t.2.2.1):TK)).drop i=l++m->AtT T i l
 |[],_,_,_=>trivial
 |t::l,m,i,h=>by
  refine⟨?_,tO l m (i+1) ?_⟩
  ·have hl:i<T.length:=by
    rcases Gp i T.length with hl|hl
    ·exact hl
    ·rw[Hd (by simpa using hl)]at h;cases h
   rw[GQ (by simpa using hl)]at h;injection h with h1 h2;unfold t3 tk;rw[FH,Fh hl];rw[List.getElem_map]at h1;exact h1
  ·rw[<-List.drop_drop,h];rfl
theorem sH(hv:vPr cs=true)(hl:(ah (prP cs)).length<=16384):∃Ts,eb (ah (prP cs))= .toks Ts/\Ts.length=(prP cs).length+1/\dI Ts= .ok cs (prP cs).length:=by
 have hJ:=Dr hv
 have hlen:(prP cs).length<=(ah (prP cs)).length:=by
  have:∀l:List Pc,(∀p∈l,OkP p)->l.length<=(ah l).length:=λl=>by
   induction l with
   |nil=>intro _;exact Fl _
   |cons p l ih=>
    intro h;obtain⟨_,c,r,hs,_,_⟩:=rT (t:=p.t) (r:=[]) (h p (by simp)).1 rfl;have:=ih λq hq=>h q (by simp[hq]);rw[show ah (p::l)=(p.pre++(p.t.2.1.data.toList++p.post))++ah l from rfl,hs];simp only[EY,EZ];omega
  exact this _ hJ.1
 obtain⟨Ts,h1,h2⟩:=lI (ah (prP cs)).length (prP cs) [] ((ah (prP cs)).length+1) [] hJ.1 (by have:=hJ.2.1 [] trivial;simpa using this) spcs.nil (by omega)
 have h3:Ts.length=(prP cs).length+1:=by
  have:=GD List.length h2;simp[iW]at this;exact this
 refine⟨Ts,?_,h3,?_⟩
 ·unfold eb;rw[Fg (by omega)];simpa using h1
 ·refine sE hv (tO _ _ 0 (by simpa using h2)) h3 ?_;have:=tO (T:=Ts) [(0,⟨#[]⟩,0)] [] (prP cs).length (by rw[h2,List.drop_append_of_le_length (by rw[iW];exact F0 _),Hd (by rw[iW];exact F0 _)];rfl);exact this.1
end
end Go.Proofs.YtjpbckbpeblibaaGreatDoor
