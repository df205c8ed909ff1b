/- part of a proof -/
import Derived.Test.YtjpbckbpeblibaaGreatDoorCC06
namespace Go.Proofs.YtjpbckbpeblibaaGreatDoor
set_option linter.unusedVariables false
set_option linter.unusedSimpArgs false
set_option maxRecDepth 100000
set_option maxHeartbeats 64000000
section
open Go
variable{P:Program}{Q:Exit->Act->World->Prop}{a:Act}{id:Nat}{ops:Array Oper}{w:World}
theorem Er:type_of% @of_decide_eq_true:=@of_decide_eq_true
theorem Fb:type_of% @wpOps_cons:=@wpOps_cons
theorem FO:type_of% @Bool.or_eq_true_iff:=@Bool.or_eq_true_iff
theorem FU:type_of% @decide_eq_true:=@decide_eq_true
structure Nw(B:Nat)(W W':World):Prop where
 size:W.heap.size<=W'.heap.size
 block:∀k,B<=k->k<W.heap.size->W'.heap[k]?=W.heap[k]?
theorem Nw.refl(B:Nat)(W:World):Nw B W W:=⟨DK _,λ_ _ _=>rfl⟩
def jo(B:Nat)(f:Value->World->Prop):Prop:=∀v W W',Nw B W W'->f v W->f v W'
def nL(ops:Array Oper):Nat->Nat->Nat->Bool
 |0,_,_=>false
 |n+1,i,j=>av .any ops i j||(List.range ops.size).any λk=>av .any ops i k&&nL ops n k j
theorem jC{ops:Array Oper}{ae:Array Bool}(hcl:∀k,ae.getD k false=true->∀j,av .any ops k j=true->ae.getD j false=true):
 ∀(n i j:Nat),(∀j,av .any ops i j=true->ae.getD j false=true)->nL ops n i j=true->ae.getD j false=true
 |0,i,j,hi,h=>by cases h
 |n+1,i,j,hi,h=>by
  unfold nL at h;rcases FO.1 h with h|h
  ·exact hi j h
  ·obtain⟨k,_,hk⟩:=Fs.1 h;obtain⟨h1,h2⟩:=Eg.1 hk;exact jC hcl n k j (hcl k (hi k h1)) h2
theorem gS(c d m:Nat)(e:Nat->Bool)(fr:(Nat->Option Value)->Act)(J:Bool->World->Prop)(B:Nat)(F:Nat->Value->World->Prop)(hst:∀k,jo B (F k))
 (hm:P.follows .mixedOrders=true) (hac:pa .any ops=true) (hL:m<ops.size) (hlw:((List.range ops.size).all λi=>decide (i<m)||(List.range i).all λj=>nL ops ops.size i j)=true) (hc:c<m) (hcd:c≠d) (hde:((List.range m).all λi=>decide (i=d)||(List.range m).all λj=> !(e j&&av .any ops i j))=true) (ha:a=fr (λ_=>none)) (hJ:J false w.drew)
 (hstep:∀i,i<m->i≠c->i≠d->∀b xs W,J b W->(∀j,(_:av .any ops i j=true:=by kernel_rfl)->∃v,xs j=some v/\F j v W)->
   wpOp P ops Q i (λa' W'=>∃v,a'=fr (bG xs i (some v))/\J b W'/\F i v W'/\Nw B W W') (fr xs) W)
 (hcall:∀xs W,J false W->(∀j,(_:av .any ops c j=true:=by kernel_rfl)->∃v,xs j=some v/\F j v W)->
   wpOp P ops Q c (λa' W'=>∃v,a'=fr (bG xs c (some v))/\J true W'/\F c v W'/\Nw B W W') (fr xs) W)
 (happ:d<m->∀xs W,J (xs c).isSome W->(∀j,(_:av .any ops d j=true:=by kernel_rfl)->∃v,xs j=some v/\F j v W)->
   wpOp P ops Q d (λa' W'=>∃v,a'=fr (bG xs d (some v))/\J (xs c).isSome W'/\F d v W'/\∀k u,k≠d->e k=false->F k u W->F k u W') (fr xs) W)
 (hend:∀xs W,J true W->(∀i,i<m->e i=false->∃v,xs i=some v/\F i v W)->wpOps P ops Q (List.range' m (ops.size-m)) (fr xs) W):(Code.region id ops true).wp P Q a w:=by
 refine wp_region_any hm (gj (I:=λae a W=>ae.size=ops.size/\(∀k,ae.getD k false=true->∀j,av .any ops k j=true->ae.getD j false=true)/\
  ((∃k,m<k/\k<=ops.size/\(∀j,k<=j->ae.getD j false=false)/\(∀j,j<k->ae.getD j false=true)/\wpOps P ops Q (List.range' k (ops.size-k)) a W)\/
  ((∀j,m<=j->ae.getD j false=false)/\∃xs,a=fr xs/\J (xs c).isSome W/\(∀i,i<m->ae.getD i false=true->(e i=true->ae.getD d false=false)->∃v,xs i=some v/\F i v W)/\(∀i,i<m->ae.getD i false=true->(xs i).isSome=true)/\(∀i,ae.getD i false=false->xs i=none)))) ?_ ?_ _ _ _ _ ?_ ?_)
 ·rintro ae a W i ⟨hsz,hcl,hI⟩ hi;obtain⟨h1,o,ho,hall⟩:=mem_ready.1 hi;have hil:=(Ef.1 ho).1;have hsl:i<ae.size:=by omega
  have hni:ae.getD i false=false:=by simpa[Array.getD,hsl]using h1
  have hset:∀k,k≠i->(ae.setIfInBounds i true).getD k false=ae.getD k false:=λk hki=>by
   have:i≠k:=λe=>hki e.symm;simp only[Fk,EJ this]
  have hself:(ae.setIfInBounds i true).getD i false=true:=by simp[Array.getD,hsl]
  have hdeps:∀j,av .any ops i j=true->j<i/\ae.getD j false=true:=λj hj=>by
   obtain⟨e,he,hb,rfl⟩:=ez ho hj;exact⟨gB hac ho e he hb,hall e he hb⟩
  have hcl':∀k,(ae.setIfInBounds i true).getD k false=true->∀j,av .any ops k j=true->(ae.setIfInBounds i true).getD j false=true:=λk hk j hj=>by
   by_cases hji:j=i
   ·subst hji;exact hself
   ·rw[hset j hji];by_cases hki:k=i
    ·subst hki;exact(hdeps j hj).2
    ·rw[hset k hki]at hk;exact hcl k hk j hj
  have hbefore:m<=i->∀j,j<i->ae.getD j false=true:=λhmi j hj=>by
   have h2:=Ec.1 hlw i (FC.2 hil);rcases FO.1 h2 with h2|h2
   ·have:=Er h2;omega
   ·exact jC hcl _ i j (λj hj=>(hdeps j hj).2) (Ec.1 h2 j (FC.2 hj))
  have hstage:∀k,m<=k->k=i->(∀j,k<=j->ae.getD j false=false)->wpOps P ops Q (List.range' k (ops.size-k)) a W->
   wpOp P ops Q i (λa' W'=>(ae.setIfInBounds i true).size=ops.size/\(∀k,(ae.setIfInBounds i true).getD k false=true->∀j,av .any ops k j=true->(ae.setIfInBounds i true).getD j false=true)/\
    ((∃k,m<k/\k<=ops.size/\(∀j,k<=j->(ae.setIfInBounds i true).getD j false=false)/\(∀j,j<k->(ae.setIfInBounds i true).getD j false=true)/\wpOps P ops Q (List.range' k (ops.size-k)) a' W')\/
    ((∀j,m<=j->(ae.setIfInBounds i true).getD j false=false)/\∃xs,a'=fr xs/\J (xs c).isSome W'/\(∀k,k<m->(ae.setIfInBounds i true).getD k false=true->(e k=true->(ae.setIfInBounds i true).getD d false=false)->∃v,xs k=some v/\F k v W')/\(∀k,k<m->(ae.setIfInBounds i true).getD k false=true->(xs k).isSome=true)/\(∀k,(ae.setIfInBounds i true).getD k false=false->xs k=none)))) a W:=by
   rintro k hmk rfl hun hw;rw[show ops.size-k=(ops.size-(k+1))+1 by omega,List.range'_succ,Fb]at hw;refine wpOp_mono ?_ hw;intro a' W' hw';refine⟨by simpa using hsz,hcl',.inl ⟨k+1,by omega,by omega,λj hj=>?_,λj hj=>?_,hw'⟩⟩
   ·rw[hset j (by omega)];exact hun j (by omega)
   ·by_cases hjk:j=k
    ·subst hjk;exact hself
    ·rw[hset j hjk];exact hbefore hmk j (by omega)
  rcases hI with⟨k,hmk,hks,hun,hli,hw⟩|⟨hun0,xs,rfl,hJW,hF,hso,hun⟩
  ·have hik:i=k:=by
    rcases Nat.lt_trichotomy i k with h|h|h
    ·rw[hli i h]at hni;cases hni
    ·exact h
    ·have:=hbefore (by omega) k h;rw[hun k (DK _)]at this;cases this
   exact hstage k (by omega) hik.symm hun hw
  ·by_cases hiL:m<=i
   ·have hik:i=m:=by
     rcases Nat.lt_trichotomy i m with h|h|h
     ·omega
     ·exact h
     ·have:=hbefore hiL m h;rw[hun0 m (DK _)]at this;cases this
    subst hik;have hallF:∀j,j<i->e j=false->∃v,xs j=some v/\F j v W:=λj hj hje=>hF j hj (hbefore (DK _) j hj) (λh=>by rw[hje]at h;cases h);have hct:(xs c).isSome=true:=hso c hc (hbefore (DK _) c hc);rw[hct]at hJW;exact hstage i (DK _) rfl hun0 (hend xs W hJW hallF)
   ·have hiL':i<m:=by omega
    have hd:∀j,av .any ops i j=true->∃v,xs j=some v/\F j v W:=λj hj=>hF j (by have:=(hdeps j hj).1;omega) (hdeps j hj).2 (λhje=>by
     have h2:=Ec.1 hde i (FC.2 hiL');rcases FO.1 h2 with h2|h2
     ·have hid:i=d:=Er h2;rw[<-hid];exact hni
     ·have h3:=Ec.1 h2 j (FC.2 (by have:=(hdeps j hj).1;omega));rw[hje,hj]at h3;cases h3)
    have hfin:∀(v:Value) (W':World) (b:Bool),b=(bG xs i (some v) c).isSome->J b W'->F i v W'->(∀k u,k≠i->(e k=true->d≠i)->F k u W->F k u W')->(ae.setIfInBounds i true).size=ops.size/\(∀k,(ae.setIfInBounds i true).getD k false=true->∀j,av .any ops k j=true->(ae.setIfInBounds i true).getD j false=true)/\
     ((∃k,m<k/\k<=ops.size/\(∀j,k<=j->(ae.setIfInBounds i true).getD j false=false)/\(∀j,j<k->(ae.setIfInBounds i true).getD j false=true)/\wpOps P ops Q (List.range' k (ops.size-k)) (fr (bG xs i (some v))) W')\/
     ((∀j,m<=j->(ae.setIfInBounds i true).getD j false=false)/\∃ys,fr (bG xs i (some v))=fr ys/\J (ys c).isSome W'/\(∀k,k<m->(ae.setIfInBounds i true).getD k false=true->(e k=true->(ae.setIfInBounds i true).getD d false=false)->∃v,ys k=some v/\F k v W')/\(∀k,k<m->(ae.setIfInBounds i true).getD k false=true->(ys k).isSome=true)/\(∀k,(ae.setIfInBounds i true).getD k false=false->ys k=none))):=by
     intro v W' b hb hJ' hv hk;refine⟨by simpa using hsz,hcl',.inr ⟨λj hj=>by rw[hset j (by omega)];exact hun0 j hj,_,rfl,hb▸hJ',λk hkL hks hke=>?_,λk hkL hks=>?_,λk hks=>?_⟩⟩
     ·by_cases hki:k=i
      ·subst hki;exact⟨v,dw _ _ _,hv⟩
      ·rw[hset k hki]at hks
       have hdi:e k=true->d≠i:=λh hdi=>by
        have:=hke h;rw[hdi,hself]at this;cases this
       obtain⟨u,hu,hFu⟩:=hF k hkL hks (λh=>by have:=hke h;rwa[hset d (hdi h)]at this);exact⟨u,by rw[cn _ _ hki,hu],hk _ _ hki hdi hFu⟩
     ·by_cases hki:k=i
      ·subst hki;rw[dw];rfl
      ·rw[hset k hki]at hks;rw[cn _ _ hki];exact hso k hkL hks
     ·have hki:k≠i:=λe=>by subst e;rw[hself]at hks;cases hks
      rw[hset k hki]at hks;rw[cn _ _ hki,hun k hks]
    by_cases hic:i=c
    ·subst hic;rw[hun i hni]at hJW;refine wpOp_mono ?_ (hcall xs W hJW hd);rintro a' W' ⟨v,rfl,hJ',hv,hk⟩;exact hfin v W' true (by rw[dw];rfl) hJ' hv (λk u _ _=>hst k u _ _ hk)
    ·by_cases hid:i=d
     ·subst hid;refine wpOp_mono ?_ (happ hiL' xs W hJW hd);rintro a' W' ⟨v,rfl,hJ',hv,hk⟩;exact hfin v W' _ (by rw[cn _ _ (λe=>hic e.symm)]) hJ' hv (λk u hkd hke=>hk k u hkd (by cases h:e k with|false=>rfl|true=>exact absurd rfl (hke h)))
     ·refine wpOp_mono ?_ (hstep i hiL' hic hid _ xs W hJW hd);rintro a' W' ⟨v,rfl,hJ',hv,hk⟩;exact hfin v W' _ (by rw[cn _ _ (λe=>hic e.symm)]) hJ' hv (λk u _ _=>hst k u _ _ hk)
 ·rintro ae a W ⟨hsz,_,hI⟩ hr;have h1:=λi hi=>fF hac hr ops.size i hi hi;rcases hI with⟨k,hmk,hks,hun,_,hw⟩|⟨hun0,_⟩
  ·rcases ES k ops.size with h|h
   ·have h2:=h1 k h;have h3:=hun k (DK _);have hsz2:k<ae.size:=by omega
    simp[Array.getD,hsz2]at h2 h3;rw[h2]at h3;cases h3
   ·rw[show ops.size-k=0 by omega]at hw;exact hw
  ·have h2:=h1 m hL;have h3:=hun0 m (DK _);have hsz2:m<ae.size:=by omega
   simp[Array.getD,hsz2]at h2 h3;rw[h2]at h3;cases h3
 ·refine Ek (FL _ _) (by simp)
 ·exact⟨by simp,λk hk=>by simp[Array.getD]at hk,.inr ⟨λj _=>by simp[Array.getD],_,ha,hJ,λi hi h _=>by simp[Array.getD]at h,λi hi h=>by simp[Array.getD]at h,λ_ _=>rfl⟩⟩
theorem cv(c m:Nat)(fr:(Nat->Option Value)->Act)(J:Bool->World->Prop)(B:Nat)(F:Nat->Value->World->Prop)(hst:∀k,jo B (F k))
 (hm:P.follows .mixedOrders=true) (hac:pa .any ops=true) (hL:m<ops.size) (hlw:((List.range ops.size).all λi=>decide (i<m)||(List.range i).all λj=>nL ops ops.size i j)=true) (hc:c<m) (ha:a=fr (λ_=>none)) (hJ:J false w.drew)
 (hstep:∀i,i<m->i≠c->∀b xs W,J b W->(∀j,(_:av .any ops i j=true:=by kernel_rfl)->∃v,xs j=some v/\F j v W)->
   wpOp P ops Q i (λa' W'=>∃v,a'=fr (bG xs i (some v))/\J b W'/\F i v W'/\Nw B W W') (fr xs) W)
 (hcall:∀xs W,J false W->(∀j,(_:av .any ops c j=true:=by kernel_rfl)->∃v,xs j=some v/\F j v W)->
   wpOp P ops Q c (λa' W'=>∃v,a'=fr (bG xs c (some v))/\J true W'/\F c v W'/\Nw B W W') (fr xs) W)
 (hend:∀xs W,J true W->(∀i,(_:i<m:=by decide)->∃v,xs i=some v/\F i v W)->wpOps P ops Q (List.range' m (ops.size-m)) (fr xs) W):(Code.region id ops true).wp P Q a w:=by
 refine gS c m m (λ_=>false) fr J B F hst hm hac hL hlw hc (by omega) ?_ ha hJ (λi hi hic _=>hstep i hi hic) hcall (λh=>absurd h (Fv _)) (λxs W h1 h2=>hend xs W h1 (λi hi=>h2 i hi rfl));exact Ec.2 λi hi=>FO.2 (.inr (Ec.2 λj hj=>by simp))
theorem dq(c L:Nat)(fr:(Nat->Option Value)->Act)(J:Bool->World->Prop)(B:Nat)(F:Nat->Value->World->Prop)(hst:∀k,jo B (F k))
 (hm:P.follows .mixedOrders=true) (hac:pa .any ops=true) (hL:ops.size=L+1) (hlw:((List.range L).all λj=>av .any ops L j)=true) (hc:c<L) (ha:a=fr (λ_=>none)) (hJ:J false w.drew)
 (hstep:∀i,i<L->i≠c->∀b xs W,J b W->(∀j,(_:av .any ops i j=true:=by kernel_rfl)->∃v,xs j=some v/\F j v W)->
   wpOp P ops Q i (λa' W'=>∃v,a'=fr (bG xs i (some v))/\J b W'/\F i v W'/\Nw B W W') (fr xs) W)
 (hcall:∀xs W,J false W->(∀j,(_:av .any ops c j=true:=by kernel_rfl)->∃v,xs j=some v/\F j v W)->
   wpOp P ops Q c (λa' W'=>∃v,a'=fr (bG xs c (some v))/\J true W'/\F c v W'/\Nw B W W') (fr xs) W)
 (hlast:∀xs W,J true W->(∀i,(_:i<L:=by decide)->∃v,xs i=some v/\F i v W)->wpOp P ops Q L (λa' W'=>Q .normal a' W') (fr xs) W):(Code.region id ops true).wp P Q a w:=by
 refine cv c L fr J B F hst hm hac (by omega) ?_ hc ha hJ hstep hcall (λxs W h1 h2=>?_)
 ·refine Ec.2 λi hi=>?_;have hi:=FC.1 hi;rcases ES i L with h|h
  ·rw[FU h];rfl
  ·obtain rfl:i=L:=by omega
   refine FO.2 (.inr (Ec.2 λj hj=>?_));rw[hL];unfold nL;rw[Ec.1 hlw j hj,Bool.true_or]
 ·rw[hL,show L+1-L=0+1 by omega,List.range'_succ,Fb];exact hlast xs W h1 λi hi=>h2 i hi
theorem gd{α:Type}{x:Option α}{v:α}(h:x=some v)(u:α):x.getD u=v:=by rw[h];rfl
section
variable{P:Program}{ops:Array Oper}{Q:Exit->Act->World->Prop}{i B:Nat}{o:Oper}{K:Act->World->Prop}{a:Act}{W W':World}{v u:Value}{JJ:World->Prop}{FF:Value->World->Prop}{fr':Value->Act}{t:TypeId}{x:Operand}
theorem stp(ho:ops[i]?=some o)(hg:Region.wanted o (yielded ops a.tmps)=true)(h:∀K':Act->World->Prop,(∀a w,K a w->K' a w)->Oper.wp P o a W K' Q):wpOp P ops Q i K a W:=
 DU ho λK' hK=>by rw[Ed hg];exact h K' hK
end
end
section
open Go.RowKit
variable{A:Option Addr}{B g i j o:Nat}{T:List Tk}{W W' w w':World}{ops:List Nat}
theorem PS.drew{p c:Nat}(h:PS w p A c T i):PS w.drew p A c T i:=⟨h.aE,h.tok,h.wf,h.lt⟩
theorem zv{s:ByteArray}(hr:bO T 2 i= .ok s j){p c:Nat}(W:World)(h:PS W p A c T i):Calls Tryz.prog 211 #[.pointer (some ⟨p,0,none⟩)] W λe w'=>e= .returned (.string s)/\PS w' p A c T j/\Bx W.heap.size p W w':=by
 have:=ep h;rw[hr]at this;exact this.mono λe w' ⟨⟨v,h1,h2⟩,h3,h4⟩=>⟨by rw[h1,show v= .string s from h2],h3,h4⟩
theorem Nw.of{p:Nat}(h:Bx W.heap.size p W W')(hp:p<B):Nw B W W':=⟨h.size,λk hk hk2=>h.block k hk2 (by omega)⟩
theorem Nw.below(h:Below W.heap.size W W'):Nw B W W':=⟨h.size,λk _ hk2=>h.block k hk2⟩
def fEq(c:Value):Value->World->Prop:=λv _=>v=c
theorem fEq.st(B:Nat)(c:Value):jo B (fEq c):=λ_ _ _ _ h=>h
def RowA(B:Nat)(W:World)(a:Nat)(cs:Array Value)(t:TypeId):Prop:=B<=a/\Blk W a t cs
theorem RowA.nw{a:Nat}{cs:Array Value}{t:TypeId}(h:RowA B W a cs t)(hn:Nw B W W'):RowA B W' a cs t:=⟨h.1,(hn.block a h.1 h.2.lt).trans h.2⟩
def fRow(B:Nat)(t:TypeId)(cs:Array Value):Value->World->Prop:=λv W=>∃a,v= .slice (some ⟨a,0,none⟩) 1 1/\RowA B W a cs t
theorem fRow.st(B:Nat)(t:TypeId)(cs:Array Value):jo B (fRow B t cs):=λ_ _ _ hn ⟨a,h1,h2⟩=>⟨a,h1,h2.nw hn⟩
def RJ(w5:World)(p:Nat)(A:Option Addr)(c:Nat)(T:List Tk)(j0 j1:Nat)(pr:Prop)(b:Bool)(W:World):Prop:=Bx w5.heap.size p w5 W/\if b=true then PS W p A c T j1/\pr else PS W p A c T j0
theorem RJ.below{w5:World}{p:Nat}{c:Nat}{j0 j1:Nat}{pr:Prop}{b:Bool}(h:RJ w5 p A c T j0 j1 pr b W)(hb:Below W.heap.size W W'):RJ w5 p A c T j0 j1 pr b W':=by
 refine⟨h.1.trans (Bx.of (hb.mono h.1.size)),?_⟩;have h2:=h.2;cases b with
 |true=>exact⟨h2.1.below hb,h2.2⟩
 |false=>exact PS.below h2 hb
theorem R.known{α:Type}(r:R α)(d:α):∃x j,∀x' j',r= .ok x' j'->x'=x/\j'=j:=by
 cases r with
 |bad j=>exact⟨d,0,λx' j' h=>by cases h⟩
 |ok x j=>exact⟨x,j,λx' j' h=>by cases h;exact⟨rfl,rfl⟩⟩
section
variable{T:List Tk}{rec:Nat->Nat->R Ex}{i:Nat}
theorem rA(HC:RdAt rvE 296 T (aw T rec) i)(hup:Up (aw T rec)):RdAt rvE 309 T (cj T rec) i:=by
 intro p c A w h;have hp:=h.aE.lt;obtain⟨w0,hw0,q0,b0,P0⟩:=nn h;have Q0:=H_ q0;have B0:=H_ b0;have HP0:=H_ P0;have HC':=H_ HC;have HU:=H_ hup;clear h HC hup q0 b0 P0;go_enter Tryz.func309,Tryz.ntmps309;go_upto_region 1 with(fail);have hsz:=B0.out.size;have hg0:=Q0.out.lt;obtain⟨g,hgz⟩:=nm_ (w.heap.size);rw[hgz]at Q0 hg0⊢;clear hw0;go_wp2_with fail;refine Out.use (HC'.out p c A w0 HP0.out) (λj w1 hr b1=>?_) (λx j v w1 hr hv P1 b1=>?_)
 ·exact⟨rfl,Out.bad (by unfold cj;rw[hr]) (B0.out.aB b1)⟩
 ·obtain⟨-,B1,Q1,hg1⟩:=fr1 B0 Q0 b1;have HP1:=H_ P1;have hij:=HU.out _ _ _ hr;obtain⟨k0,op0,z0,nm0,at0,A0,n0,c0,rfl,hv'⟩:=ExV.inv hv;have HV:=H_ hv';have HR1:=H_ hr;clear hv hv' hr Q0 B0 HP0 P1 b1;go_wp2_with fail;obtain⟨e,hez⟩:=nm_ (w1.heap.size);rw[hez];obtain⟨w2,hw2⟩:=nm_ (w1.alloc (.cells #[.int .i64 k0,.int .i64 op0,.int .i64 z0,.string nm0,.bool at0,.slice A0 n0 c0] 172));have b2:=bal hw2;have Q2:=H_ (Q1.out.below b2 hg1);have E2:=H_ (show Blk w2 e 172 _ from hw2▸hez▸Blk.new w1 172 #[.int .i64 k0,.int .i64 op0,.int .i64 z0,.string nm0,.bool at0,.slice A0 n0 c0]);have B2:=H_ (B1.out.aB (Bx.of b2));have HP2:=H_ (HP1.out.below b2);have V2:=H_ (ExC.aA (G':=NG g (λb=>b=g\/b=e) w2) (λb hb=>⟨⟨by have:=hb.1;omega,DR hb.2 b2.size,λh=>by have:=hb.1;have:=hb.2;omega⟩,b2.block b hb.2⟩) HV.out);rw[hw2];clear hw2 b2 Q1 B1 HP1 HV
  go_loopg [] (T.length-j) (λkk wr=>∃(x:Ex) (q:Nat) (k op z:Int) (nm:ByteArray) (at_:Bool) (A':Option Addr) (n c':Nat),kk=T.length-q/\Hid (Blk wr e 172 #[.int .i64 k,.int .i64 op,.int .i64 z,.string nm,.bool at_,.slice A' n c'])/\Hid (ExC wr (NG g (λb=>b=g\/b=e) wr) x [.int .i64 k,.int .i64 op,.int .i64 z,.string nm,.bool at_,.slice A' n c'])/\
   Hid (Blk wr g 172 #[.int .i64 0,.int .i64 0,.int .i64 0,.string ⟨#[]⟩,.bool false,.slice none 0 0])/\Hid (PS wr p A c T q)/\Hid (Bx g p w wr)/\i<q/\Hid (∃m,T.length+1<=m+q/\cj T rec i=cg T m x q))
  case atStart=>exact⟨x,j,k0,op0,z0,nm0,at0,A0,n0,c0,rfl,E2,V2,Q2,HP2,hgz▸B2,hij,H_ ⟨T.length+1,by omega,show cj T rec i=cg T (T.length+1) x j by unfold cj;rw[HR1.out]⟩⟩
  case round=>
   clear E2 V2 Q2 HP2 B2 HR1;obtain⟨x,q,k,op,z,nm,at_,A',n,c',rfl,HE,HV,HG,HPr,HBr,hiq,HEr⟩:=hrel;obtain⟨m,hm,heq⟩:=HEr.out;have hqT:=HPr.out.lt;obtain⟨m,rfl⟩:∃m',m=m'+1:=⟨m-1,by omega⟩;have HE1:=H_ heq;have her:=HE.out.lt;have hgr:=HG.out.lt;clear HEr heq;go_wp2_with fail;refine bg HPr.out DOT (λht w5 P5 b5=>?_) (λht w5 P5 b5=>?_)
   ·have HT5:=H_ ht;have HE5:=hbx HE b5 her;have HG5:=hbx HG b5 hgr;have HV5:=H_ (ExC.aA (G':=NG g (λb=>b=g\/b=e) w5) (λb hb=>⟨hb.mono b5.size,b5.block b hb.2.1 (by have:=hb.1;omega)⟩) HV.out);have HB5:=H_ (HBr.out.trans (b5.mono (by have:=HBr.out.size;omega)));have HP5:=H_ P5;have her5:=HE5.out.lt;have hgr5:=HG5.out.lt;clear ht P5 b5 HE HG HV HBr HPr;have hs5:=HB5.out.size;go_upto_region 3 with fail;obtain⟨s,j6,hsj⟩:=R.known (bO T 2 (q+1)) ⟨#[]⟩;obtain⟨c0',c1',c2',c3',c4',c5'⟩:=HE5.out.aC.1
    refine dq 1 5 (λxs=>{tmps:= #[.pointer (some ⟨p,0,none⟩),undef,.pointer (some ⟨g,0,none⟩),.pointer (some ⟨e,0,none⟩),.pointer (some ⟨p,0,none⟩),.agg #[.int .i64 k0,.int .i64 op0,.int .i64 z0,.string nm0,.bool at0,.slice A0 n0 c0],.pointer (some ⟨p,0,none⟩),.bool true,(xs 0).getD u8,(xs 1).getD u9,(xs 2).getD u10,(xs 3).getD u11,(xs 4).getD u12,undef],defers:=[]})
     (RJ w5 p A c T (q+1) j6 (bO T 2 (q+1)= .ok s j6)) w5.heap.size
     (λi=>match i with
       |0=>fEq (.pointer (some ⟨p,0,none⟩))
       |1=>fEq (.string s)
       |2=>fEq (.agg #[.int .i64 k,.int .i64 op,.int .i64 z,.string nm,.bool at_,.slice A' n c'])
       |3=>fRow w5.heap.size 172 #[.int .i64 k,.int .i64 op,.int .i64 z,.string nm,.bool at_,.slice A' n c']
       |_=>λv W=>∃a,v= .agg #[.int .i64 4,.int .i64 0,.int .i64 0,.string s,.bool false,.slice (some ⟨a,0,none⟩) 1 1]/\RowA w5.heap.size W a #[.int .i64 k,.int .i64 op,.int .i64 z,.string nm,.bool at_,.slice A' n c'] 172)
     (by
       intro k
       match k with
       |0=>exact fEq.st _ _
       |1=>exact fEq.st _ _
       |2=>exact fEq.st _ _
       |3=>exact fRow.st _ _ _
       |_+4=>exact λ_ _ _ hn ⟨a,h1,h2⟩=>⟨a,h1,h2.nw hn⟩)
     (by kernel_rfl) (by kernel_rfl) rfl (by kernel_rfl) (by decide) rfl ⟨(Bx.refl _ _ _).drew,HP5.out.drew⟩ ?_ ?_ ?_
    ·intro i hi hic b xs W hJ hd;obtain rfl|rfl|rfl|rfl:i=0\/i=2\/i=3\/i=4:=by omega
     ·refine DU rfl λK hK=>?_;go_simp;exact hK _ _ ⟨_,rfl,hJ,rfl,Nw.refl _ _⟩
     ·obtain⟨⟨d0,d1,d2,d3,d4,d5⟩,_⟩:=(HE5.out.bx hJ.1 her5 (by omega)).aC;refine DU rfl λK hK=>?_;go_simp;exact hK _ _ ⟨_,rfl,hJ,rfl,Nw.refl _ _⟩
     ·obtain⟨_,h2,rfl⟩:=hd 2;refine DU rfl λK hK=>?_;go_simp;have hb:=(DN W.heap.size W).alloc (DK _) (.cells #[.int .i64 k,.int .i64 op,.int .i64 z,.string nm,.bool at_,.slice A' n c'] 172);exact hK _ _ ⟨.slice (some ⟨W.heap.size,0,none⟩) 1 1,by simp only[bG,h2];rfl,hJ.below hb,⟨W.heap.size,rfl,hJ.1.size,Blk.new W 172 _⟩,Nw.below hb⟩
     ·obtain⟨_,h1,rfl⟩:=hd 1;obtain⟨_,h3,a,rfl,hra⟩:=hd 3;refine DU rfl λK hK=>?_;go_simp;exact hK _ _ ⟨_,by simp only[bG,h1,h3];rfl,hJ,⟨a,rfl,hra⟩,Nw.refl _ _⟩
    ·intro xs W hJ hd;obtain⟨_,h0,rfl⟩:=hd 0;refine DU rfl λK hK=>?_;go_simp;refine Out.use (ep hJ.2) (λj w6 hr b6=>?_) (λx' j v w6 hr hv P6 b6=>?_)
     ·exact⟨rfl,Out.bad (by rw[HE1.out];unfold cg;rw[Ed HT5.out,hr]) (hgz▸(HB5.out.trans ((hJ.1.aB b6).mono (by omega))))⟩
     ·obtain⟨rfl,rfl⟩:=hsj _ _ hr;obtain rfl:v= .string x':=hv;exact hK _ _ ⟨.string x',by simp only[bG,h0];rfl,⟨hJ.1.aB b6,P6,hr⟩,rfl,Nw.of b6 (by omega)⟩
    ·intro xs W hJ hd;obtain⟨_,h0,rfl⟩:=hd 0;obtain⟨_,h1,rfl⟩:=hd 1;obtain⟨_,h2,rfl⟩:=hd 2;obtain⟨_,h3,a',h3',_⟩:=hd 3;subst h3';obtain⟨_,h4,a,rfl,hra⟩:=hd 4;have HEW:=H_ (HE5.out.bx hJ.1 her5 (by omega));have HGW:=H_ (HG5.out.bx hJ.1 hgr5 (by omega));have HJ:=H_ hJ;have HRA:=H_ hra;obtain⟨⟨d0,d1,d2,d3,d4,d5⟩,k0,k1,k2,k3,k4,k5⟩:=HEW.out.aC;have hW5:=hJ.1.size;clear hJ hra hd;refine DU rfl λK hK=>?_;go_simp;refine hK _ _ ?_;obtain⟨N1,N2⟩:=gv HEW.out (.int .i64 4) (.int .i64 0) (.int .i64 0) (.string s) (.bool false) (.slice (some ⟨a,0,none⟩) 1 1);have hsz:((((((W.setCell ⟨e,0,none⟩ (.int .i64 4)).setCell ⟨e,1,none⟩ (.int .i64 0)).setCell ⟨e,2,none⟩ (.int .i64 0)).setCell ⟨e,3,none⟩ (.string s)).setCell ⟨e,4,none⟩ (.bool false)).setCell ⟨e,5,none⟩ (.slice (some ⟨a,0,none⟩) 1 1)).heap.size=W.heap.size:=by simp
     generalize((((((W.setCell ⟨e,0,none⟩ (.int .i64 4)).setCell ⟨e,1,none⟩ (.int .i64 0)).setCell ⟨e,2,none⟩ (.int .i64 0)).setCell ⟨e,3,none⟩ (.string s)).setCell ⟨e,4,none⟩ (.bool false)).setCell ⟨e,5,none⟩ (.slice (some ⟨a,0,none⟩) 1 1))=W2 at N1 N2 hsz⊢;have hwt:=dI HJ.out.2.2;have hal:=HRA.out.2.lt;have hab:=HRA.out.1
     have V7:=H_ (show ExC W2 (NG g (λb=>b=g\/b=e) W2) (aR s x) [.int .i64 4,.int .i64 0,.int .i64 0,.string s,.bool false,.slice (some ⟨a,0,none⟩) 1 1]from
      ExC.of 4 0 0 s false 1 (kj (K:=kEx) (g:=a) (t:=172) ((N2.block a (by omega) (by omega)).trans HRA.out.2) ⟨by omega,by omega,λh=>by omega⟩
       (ExC.aA (λb hb=>⟨hb.mono (by omega),(N2.block b (by have:=hb.2.1;omega) (λh=>hb.2.2 (.inr h))).trans (HJ.out.1.block b hb.2.1 (by have:=hb.1;omega))⟩) HV5.out)))
     have HE7:=H_ N1;have HG7:=hbx HGW N2;have HP7:=H_ (HJ.out.2.1.put N2 (by omega));have HB7:=H_ ((HB5.out.trans (HJ.out.1.mono (by omega))).put N2 (by omega) (by omega));have HQ7:=H_ (show cj T rec i=cg T m (aR s x) j6 by rw[HE1.out];conv=>lhs;unfold cg;rw[Ed HT5.out,HJ.out.2.2]);have hj6:=HP7.out.lt;clear N1 N2 HEW HGW HJ HRA HE5 HG5 HB5 HP5 HV5;go_wp2_with fail;go_roundg (T.length-j6)
     case rel=>exact⟨aR s x,j6,4,0,0,s,false,_,_,_,rfl,HE7,V7,HG7,HP7,HB7,by omega,H_ ⟨m,by omega,HQ7.out⟩⟩
     case measure=>omega
   ·have HT5:=H_ ht;have HE5:=hbx HE b5 her;have HG5:=hbx HG b5 hgr;have HV5:=H_ (ExC.aA (G':=NG g (λb=>b=g\/b=e) w5) (λb hb=>⟨hb.mono b5.size,b5.block b hb.2.1 (by have:=hb.1;omega)⟩) HV.out);have HB5:=H_ (HBr.out.trans (b5.mono (by have:=HBr.out.size;omega)));have HP5:=H_ P5;have her5:=HE5.out.lt;have hgr5:=HG5.out.lt;obtain⟨c0',c1',c2',c3',c4',c5'⟩:=HE5.out.aC.1;obtain⟨⟨d0,d1,d2,d3,d4,d5⟩,k0,k1,k2,k3,k4,k5⟩:=HG5.out.aC;clear ht P5 b5 HE HG HV HBr HPr;go_wp2_with fail;obtain⟨N1,N2⟩:=gv HG5.out (.int .i64 k) (.int .i64 op) (.int .i64 z) (.string nm) (.bool at_) (.slice A' n c');exact fW rfl (by simp) N1 (Out.ok (by rw[HE1.out];unfold cg;rw[DS (by rw[HT5.out];simp)]) ⟨_,rfl,HV5.out.aA (λb hb=>⟨⟨by have:=hb.1;omega,DR hb.2.1 N2.size⟩,N2.block b hb.2.1 (λh=>hb.2.2 (.inl h))⟩)⟩ (HP5.out.put N2 (by omega)) (hgz▸HB5.out.put N2 (DK _) (by omega)))
end
def q7:List (Value×Value):=[(.string ⟨#[43]⟩,.int .i64 0),(.string ⟨#[45]⟩,.int .i64 1),(.string ⟨#[42]⟩,.int .i64 2),(.string ⟨#[47]⟩,.int .i64 3),(.string ⟨#[37]⟩,.int .i64 4),(.string ⟨#[61,61]⟩,.int .i64 5),(.string ⟨#[33,61]⟩,.int .i64 6),(.string ⟨#[60]⟩,.int .i64 7),(.string ⟨#[60,61]⟩,.int .i64 8),(.string ⟨#[62]⟩,.int .i64 9),(.string ⟨#[62,61]⟩,.int .i64 10),(.string ⟨#[97,110,100]⟩,.int .i64 11),(.string ⟨#[111,114]⟩,.int .i64 12)]
theorem ed(w:World):(underlying 322).run Tryz.prog w= .ok (.map 9 3) w:=by kernel_rfl
theorem fI(w:World):(underlying 9).run Tryz.prog w= .ok .string w:=by kernel_rfl
theorem fR(em:Bool)(s:ByteArray)(w:World):(Instr.checkKey em 10000 9 (.string s)).run Tryz.prog w= .ok () w:=by kernel_rfl
theorem um(a b:ByteArray):Instr.sameNow .string (.string a) (.string b)=some (a==b):=rfl
theorem un{a b:ByteArray}(h:a≠b):Instr.sameNow .string (.string a) (.string b)=some false:=by
 rw[um]
 congr 1
 obtain⟨a⟩:=a;obtain⟨b⟩:=b;show(a==b)=false;exact DM.2 λe=>h (by rw[e])
def wJ(s:ByteArray)(kvs:List (Value×Value)):Bool:=kvs.all λo=>match o.1 with| .string t=> !(t.toList==s.toList)|_=>false
theorem cK{s:ByteArray}{kvs:List (Value×Value)}(h:wJ s kvs=true):∀o∈kvs,Instr.sameNow .string (.string s) o.1=some false:=by
 intro o ho;have h1:=Ec.1 h o ho;obtain⟨k,v⟩:=o;cases k with
 |string t=>
  have hne:s≠t:=λe=>by subst e;simp at h1
  exact un hne
 |_=>cases h1
theorem oy(w:World):Calls Tryz.prog 310 #[] w λe w'=>e= .returned (.map (some w.heap.size))/\KMap w' w.heap.size q7/\Below w.heap.size w w':=by
 have k0:KMap (w.alloc (.map #[] 0)) w.heap.size []:=heap_alloc_new w _;have b0:Below w.heap.size w (w.alloc (.map #[] 0)):=(DN _ _).alloc (DK _) _;obtain⟨w1,e1,k1,g1⟩:=cM ed fI k0 (.string ⟨#[43]⟩) (.int .i64 0) (λem w=>fR em _ w) (cK (by decide+kernel));have b1:=b0.grown g1 (by have:=b0.size;omega) (λk hk=>by cases hk;exact DK _);obtain⟨w2,e2,k2,g2⟩:=cM ed fI k1 (.string ⟨#[45]⟩) (.int .i64 1) (λem w=>fR em _ w) (cK (by decide+kernel));have b2:=b1.grown g2 (by have:=b1.size;omega) (λk hk=>by cases hk;exact DK _);obtain⟨w3,e3,k3,g3⟩:=cM ed fI k2 (.string ⟨#[42]⟩) (.int .i64 2) (λem w=>fR em _ w) (cK (by decide+kernel));have b3:=b2.grown g3 (by have:=b2.size;omega) (λk hk=>by cases hk;exact DK _);obtain⟨w4,e4,k4,g4⟩:=cM ed fI k3 (.string ⟨#[47]⟩) (.int .i64 3) (λem w=>fR em _ w) (cK (by decide+kernel));have b4:=b3.grown g4 (by have:=b3.size;omega) (λk hk=>by cases hk;exact DK _);obtain⟨w5,e5,k5,g5⟩:=cM ed fI k4 (.string ⟨#[37]⟩) (.int .i64 4) (λem w=>fR em _ w) (cK (by decide+kernel));have b5:=b4.grown g5 (by have:=b4.size;omega) (λk hk=>by cases hk;exact DK _);obtain⟨w6,e6,k6,g6⟩:=cM ed fI k5 (.string ⟨#[61,61]⟩) (.int .i64 5) (λem w=>fR em _ w) (cK (by decide+kernel));have b6:=b5.grown g6 (by have:=b5.size;omega) (λk hk=>by cases hk;exact DK _);obtain⟨w7,e7,k7,g7⟩:=cM ed fI k6 (.string ⟨#[33,61]⟩) (.int .i64 6) (λem w=>fR em _ w) (cK (by decide+kernel));have b7:=b6.grown g7 (by have:=b6.size;omega) (λk hk=>by cases hk;exact DK _);obtain⟨w8,e8,k8,g8⟩:=cM ed fI k7 (.string ⟨#[60]⟩) (.int .i64 7) (λem w=>fR em _ w) (cK (by decide+kernel));have b8:=b7.grown g8 (by have:=b7.size;omega) (λk hk=>by cases hk;exact DK _);obtain⟨w9,e9,k9,g9⟩:=cM ed fI k8 (.string ⟨#[60,61]⟩) (.int .i64 8) (λem w=>fR em _ w) (cK (by decide+kernel));have b9:=b8.grown g9 (by have:=b8.size;omega) (λk hk=>by cases hk;exact DK _);obtain⟨w10,e10,k10,g10⟩:=cM ed fI k9 (.string ⟨#[62]⟩) (.int .i64 9) (λem w=>fR em _ w) (cK (by decide+kernel));have b10:=b9.grown g10 (by have:=b9.size;omega) (λk hk=>by cases hk;exact DK _);obtain⟨w11,e11,k11,g11⟩:=cM ed fI k10 (.string ⟨#[62,61]⟩) (.int .i64 10) (λem w=>fR em _ w) (cK (by decide+kernel));have b11:=b10.grown g11 (by have:=b10.size;omega) (λk hk=>by cases hk;exact DK _);obtain⟨w12,e12,k12,g12⟩:=cM ed fI k11 (.string ⟨#[97,110,100]⟩) (.int .i64 11) (λem w=>fR em _ w) (cK (by decide+kernel));have b12:=b11.grown g12 (by have:=b11.size;omega) (λk hk=>by cases hk;exact DK _);obtain⟨w13,e13,k13,g13⟩:=cM ed fI k12 (.string ⟨#[111,114]⟩) (.int .i64 12) (λem w=>fR em _ w) (cK (by decide+kernel));have b13:=b12.grown g13 (by have:=b12.size;omega) (λk hk=>by cases hk;exact DK _);clear g1;clear g2;clear g3;clear g4;clear g5;clear g6;clear g7;clear g8;clear g9;clear g10;clear g11;clear g12;clear g13;have KK:=H_ k13;have BB:=H_ b13;clear k0 b0 k1 b1 k2 b2 k3 b3 k4 b4 k5 b5 k6 b6 k7 b7 k8 b8 k9 b9 k10 b10 k11 b11 k12 b12 k13 b13;have hmk:∀w:World,(Instr.makeMap 322 none).run Tryz.prog w= .ok (.map (some w.heap.size)) (w.alloc (.map #[] 0)):=λw=>by kernel_rfl
 go_enter Tryz.func310,Tryz.ntmps310;go_wp2_with fail;go_ret;exact⟨rfl,KK.out,BB.out⟩
theorem zT(o:Nat)(ho:o<13):∃k',q7[o]?=some (k',.int .i64 o)/\Instr.sameNow .string (.string (bH o)) k'=some true:=by
 match o,ho with
 |0,_=>exact⟨_,rfl,by kernel_rfl⟩
 |1,_=>exact⟨_,rfl,by kernel_rfl⟩
 |2,_=>exact⟨_,rfl,by kernel_rfl⟩
 |3,_=>exact⟨_,rfl,by kernel_rfl⟩
 |4,_=>exact⟨_,rfl,by kernel_rfl⟩
 |5,_=>exact⟨_,rfl,by kernel_rfl⟩
 |6,_=>exact⟨_,rfl,by kernel_rfl⟩
 |7,_=>exact⟨_,rfl,by kernel_rfl⟩
 |8,_=>exact⟨_,rfl,by kernel_rfl⟩
 |9,_=>exact⟨_,rfl,by kernel_rfl⟩
 |10,_=>exact⟨_,rfl,by kernel_rfl⟩
 |11,_=>exact⟨_,rfl,by kernel_rfl⟩
 |12,_=>exact⟨_,rfl,by kernel_rfl⟩
theorem uW(o:Nat)(ho:o<13):wJ (bH o) (q7.take o)=true:=by
 match o,ho with
 |0,_=>decide+kernel
 |1,_=>decide+kernel
 |2,_=>decide+kernel
 |3,_=>decide+kernel
 |4,_=>decide+kernel
 |5,_=>decide+kernel
 |6,_=>decide+kernel
 |7,_=>decide+kernel
 |8,_=>decide+kernel
 |9,_=>decide+kernel
 |10,_=>decide+kernel
 |11,_=>decide+kernel
 |12,_=>decide+kernel
theorem uE{m:Nat}(h:KMap w m q7)(ho:o<13):(Instr.lookup 322 (.map (some m)) (.string (bH o)) false).run Tryz.prog w= .ok (.int .i64 o) w:=by
 refine oG ed fI h _ _ o (λem w=>fR em _ w) (λt x ht hx=>?_) (zT o ho);have hm:=cK (uW o ho);exact hm x (DW (i:=t) (by rw[List.getElem?_take,Ed ht];exact hx))
def OpsAt(w:World)(g:Nat)(ops:List Nat):Prop:=g<w.heap.size/\ops.length<=13/\∀(j o:Nat),ops[j]?=some o->o<13/\w.cell? ⟨g,j,none⟩=some (.string (bH o))
theorem OpsAt.bx{p:Nat}(h:OpsAt w g ops)(hb:Bx w.heap.size p w w')(hp:g≠p):OpsAt w' g ops:=
 ⟨DR h.1 hb.size,h.2.1,λj o hj=>⟨(h.2.2 j o hj).1,(F1 (w:=w) (a:=⟨g,j,none⟩) (hb.block g h.1 hp)).trans (h.2.2 j o hj).2⟩⟩
theorem OpsAt.below(h:OpsAt w g ops)(hb:Below w.heap.size w w'):OpsAt w' g ops:=
 ⟨DR h.1 hb.size,h.2.1,λj o hj=>⟨(h.2.2 j o hj).1,(ab hb h.1 _).trans (h.2.2 j o hj).2⟩⟩
theorem oN(h:opT T ops i=none)(hj:ops[j]?=some o):isT T (bH o) i=false:=by
 have:=List.find?_eq_none.1 h o (DW hj);simpa using this
theorem oM(h:opT T ops i=some o):∃m,ops[m]?=some o/\isT T (bH o) i=true/\∀(j q:Nat),j<m->ops[j]?=some q->isT T (bH q) i=false:=by
 induction ops with
 |nil=>simp[opT]at h
 |cons x l ih=>
  unfold opT at h ih;rw[List.find?_cons]at h;cases hx:isT T (bH x) i with
  |true=>
   rw[hx]at h;simp only[Option.some.injEq]at h;subst h;exact⟨0,rfl,hx,λj q hj=>by omega⟩
  |false=>
   rw[hx]at h;obtain⟨m,h1,h2,h3⟩:=ih h;refine⟨m+1,by simpa using h1,h2,λj q hj hq=>?_⟩;cases j with
   |zero=>simp at hq;subst hq;exact hx
   |succ j=>exact h3 j q (by omega) (by simpa using hq)
theorem zq(p i c g c2:Nat)(A:Option Addr)(T:List Tk)(ops:List Nat)(w:World)(h:PS w p A c T i)(ho:OpsAt w g ops)(hr:opT T ops i=none):
 Calls Tryz.prog 306 #[.pointer (some ⟨p,0,none⟩),.slice (some ⟨g,0,none⟩) ops.length c2] w λe w'=>e= .returned (.tuple #[.int .i64 0,.bool false])/\Below w.heap.size w w':=by
 have HP:=H_ h;have HO:=H_ ho;have HR:=H_ hr;have hl:=ho.2.1;clear h ho hr;go_enter Tryz.func306,Tryz.ntmps306;go_wp2_with fail;go_loopw [10] (λu wr=>∃k:Nat,k<=ops.length/\u= .int .i64 k/\Hid (Below w.heap.size w wr)) (λu _=>ops.length-(intOf u).toNat)
 case atStart=>exact⟨0,Ea _,rfl,H_ (DN _ _)⟩
 case round=>
  obtain⟨k,hk,rfl,HB⟩:=hrel;by_cases hlt:k<ops.length
  ·have hk0:0<=(k:Int):=by omega
   have hk1:(k:Int)<ops.length:=by omega
   have hgo:=DT hlt;have HN:=H_ (lA p i c A T (bH ops[k]) wr (HP.out.below HB.out) (oN HR.out hgo));have hc:=((HO.out.below HB.out).2.2 k _ hgo).2;generalize bH ops[k]=s at HN hc;clear hgo;go_wp2_with fail;refine HN.out.mono ?_;rintro e w1 ⟨rfl,b1⟩;have B1:=htr HB b1;clear b1 hc;go_wp2_with fail;go_roundw
   case rel=>exact⟨k+1,by omega,by go_num,B1⟩
   case measure=>simp[intOf];omega
  ·obtain rfl:k=ops.length:=by omega
   go_wp2_with fail;go_ret2;exact⟨rfl,HB.out⟩
theorem zp(p i c g c2 o:Nat)(A:Option Addr)(T:List Tk)(ops:List Nat)(w:World)(h:PS w p A c T i)(ho:OpsAt w g ops)(hr:opT T ops i=some o):
 Calls Tryz.prog 306 #[.pointer (some ⟨p,0,none⟩),.slice (some ⟨g,0,none⟩) ops.length c2] w λe w'=>e= .returned (.tuple #[.int .i64 o,.bool true])/\PS w' p A c T (i+1)/\Bx w.heap.size p w w':=by
 obtain⟨m,hm1,hm2,hm3⟩:=oM hr;have HP:=H_ h;have HO:=H_ ho;have HM:=H_ hm3;have ho13:=(ho.2.2 m o hm1).1;have hl:=ho.2.1;have hml:=(DQ.1 hm1).1;have HM1:=H_ hm1;have HM2:=H_ hm2;clear h ho hr hm1 hm2 hm3;go_enter Tryz.func306,Tryz.ntmps306;go_wp2_with fail;go_loopw [10] (λu wr=>∃k:Nat,k<=m/\u= .int .i64 k/\Hid (Below w.heap.size w wr)) (λu _=>ops.length-(intOf u).toNat)
 case atStart=>exact⟨0,Ea _,rfl,H_ (DN _ _)⟩
 case round=>
  obtain⟨k,hk,rfl,HB⟩:=hrel;have hk0:0<=(k:Int):=by omega
  have hk1:(k:Int)<ops.length:=by omega
  have hlt:k<ops.length:=by omega
  by_cases hkm:k<m
  ·have hgo:=DT hlt;have HN:=H_ (lA p i c A T (bH ops[k]) wr (HP.out.below HB.out) (HM.out k _ hkm hgo));have hc:=((HO.out.below HB.out).2.2 k _ hgo).2;generalize bH ops[k]=s at HN hc;clear hgo;go_wp2_with fail;refine HN.out.mono ?_;rintro e w1 ⟨rfl,b1⟩;have B1:=htr HB b1;clear b1 hc;go_wp2_with fail;go_roundw
   case rel=>exact⟨k+1,by omega,by go_num,B1⟩
   case measure=>simp[intOf];omega
  ·obtain rfl:k=m:=by omega
   have HN:=H_ (lT p i c A T (bH o) wr (HP.out.below HB.out) HM2.out);have hc:=((HO.out.below HB.out).2.2 k _ HM1.out).2;have HL:=λ(W:World) (mm:Nat) (hK:KMap W mm q7)=>uE hK ho13;generalize bH o=s at HN hc HL;have HL':=H_ HL;clear HL;go_wp2_with fail;refine HN.out.mono ?_;rintro e w1 ⟨rfl,h1,b1⟩;have H1:=H_ h1;have B1:=H_ ((Bx.of (p:=p) HB.out).aB b1);clear h1 b1 hc;go_wp2_with fail;refine(oy w1).mono ?_;rintro e w2 ⟨rfl,k2,b2⟩;have hlk:=HL'.out w2 _ k2;have P2:=H_ (H1.out.below b2);have B2:=H_ (B1.out.aB (Bx.of b2));clear k2 b2;generalize w1.heap.size=mm at hlk;go_wp2_with fail;go_ret2;exact⟨rfl,P2.out,B2.out⟩
theorem wK{p c c2:Nat}{Q:Ending->World->Prop}(h:PS w p A c T i)(ho:OpsAt w g ops)
 (hn:opT T ops i=none->∀w',PS w' p A c T i->Bx w.heap.size p w w'->Q (.returned (.tuple #[.int .i64 0,.bool false])) w')
 (hy:∀o:Nat,opT T ops i=some o->∀w',PS w' p A c T (i+1)->Bx w.heap.size p w w'->Q (.returned (.tuple #[.int .i64 o,.bool true])) w'):
 Calls Tryz.prog 306 #[.pointer (some ⟨p,0,none⟩),.slice (some ⟨g,0,none⟩) ops.length c2] w Q:=by
 cases hr:opT T ops i with
 |none=>exact(zq p i c g c2 A T ops w h ho hr).mono λe w' ⟨h1,h2⟩=>h1▸hn hr w' (h.below h2) (Bx.of h2)
 |some o=>exact(zp p i c g c2 o A T ops w h ho hr).mono λe w' ⟨h1,h2,h3⟩=>h1▸hy o hr w' h2 h3
def two(g e:Nat):Nat->Prop:=λb=>b=g\/b=e
theorem ExV.st{Z:Nat->Prop}{x:Ex}:jo g (λv W=>ExV W (NG g Z W) x v):=λv W W' hn h=>h.aA λb hb=>⟨hb.mono hn.size,hn.block b hb.1 hb.2.1⟩
theorem lJ{f:Nat->R Ex}{n ga c2:Nat}(hE:∀(ar:Array Value) (w:World),(callFunc n ar).run Tryz.prog w= .ok (.enter n ar) w)(HF:∀j,i<=j->RdAt rvE n T f j)(hup:Up f)(p c:Nat)(A:Option Addr)(w:World)(h:PS w p A c T i)
 (ho:OpsAt w ga ops) (hga:ga≠p):
 Calls Tryz.prog 300 #[.pointer (some ⟨p,0,none⟩),.func (.func n) #[.pointer (some ⟨p,0,none⟩)] #[],.slice (some ⟨ga,0,none⟩) ops.length c2] w (Out rvE p A c T w (eQ T f ops i)):=by
 have hp:=h.aE.lt;obtain⟨w0,hw0,q0,b0,P0⟩:=nn h;have Q0:=H_ q0;have B0:=H_ b0;have HP0:=H_ P0;have HF':=H_ HF;have HU:=H_ hup;have HO:=H_ ho;clear h HF hup q0 b0 P0 ho;go_enter Tryz.func300,Tryz.ntmps300;go_upto_region 1 with(fail);have hsz:=B0.out.size;have hg0:=Q0.out.lt;obtain⟨g,hgz⟩:=nm_ (w.heap.size);rw[hgz]at Q0 hg0⊢;clear hw0;go_wp2_with fail;refine Out.use (HF'.out i (DK _) p c A w0 HP0.out) (λj w1 hr b1=>?_) (λx j v w1 hr hv P1 b1=>?_)
 ·exact⟨rfl,Out.bad (by unfold eQ;rw[hr]) (B0.out.aB b1)⟩
 ·obtain⟨-,B1,Q1,hg1⟩:=fr1 B0 Q0 b1;have HP1:=H_ P1;have hij:=HU.out _ _ _ hr;obtain⟨k0,op0,z0,nm0,at0,A0,n0,c0,rfl,hv'⟩:=ExV.inv hv;have HV:=H_ hv';have HR1:=H_ hr;clear hv hv' hr Q0 B0 HP0 P1 b1;go_wp2_with fail;obtain⟨e,hez⟩:=nm_ (w1.heap.size);rw[hez];obtain⟨w2,hw2⟩:=nm_ (w1.alloc (.cells #[.int .i64 k0,.int .i64 op0,.int .i64 z0,.string nm0,.bool at0,.slice A0 n0 c0] 172));have b2:=bal hw2;have Q2:=H_ (Q1.out.below b2 hg1);have E2:=H_ (show Blk w2 e 172 _ from hw2▸hez▸Blk.new w1 172 #[.int .i64 k0,.int .i64 op0,.int .i64 z0,.string nm0,.bool at0,.slice A0 n0 c0]);have B2:=H_ (B1.out.aB (Bx.of b2));have HP2:=H_ (HP1.out.below b2);have V2:=H_ (ExC.aA (G':=NG g (two g e) w2) (λb hb=>⟨⟨by have:=hb.1;omega,DR hb.2 b2.size,λh=>by have:=hb.1;have:=hb.2;unfold two at h;omega⟩,b2.block b hb.2⟩) HV.out);rw[hw2];clear hw2 b2 Q1 B1 HP1 HV
  go_loopg [] (T.length-j) (λkk wr=>∃(x:Ex) (q:Nat) (k op z:Int) (nm:ByteArray) (at_:Bool) (A':Option Addr) (n c':Nat),kk=T.length-q/\Hid (Blk wr e 172 #[.int .i64 k,.int .i64 op,.int .i64 z,.string nm,.bool at_,.slice A' n c'])/\Hid (ExC wr (NG g (two g e) wr) x [.int .i64 k,.int .i64 op,.int .i64 z,.string nm,.bool at_,.slice A' n c'])/\
   Hid (Blk wr g 172 #[.int .i64 0,.int .i64 0,.int .i64 0,.string ⟨#[]⟩,.bool false,.slice none 0 0])/\Hid (PS wr p A c T q)/\Hid (Bx g p w wr)/\i<q/\Hid (∃m,T.length+1<=m+q/\eQ T f ops i=dg T f ops m x q))
  case atStart=>exact⟨x,j,k0,op0,z0,nm0,at0,A0,n0,c0,rfl,E2,V2,Q2,HP2,hgz▸B2,hij,H_ ⟨T.length+1,by omega,show eQ T f ops i=dg T f ops (T.length+1) x j by unfold eQ;rw[HR1.out]⟩⟩
  case round=>
   clear E2 V2 Q2 HP2 B2 HR1;obtain⟨x,q,k,op,z,nm,at_,A',n',c',rfl,HE,HV,HG,HPr,HBr,hiq,HEr⟩:=hrel;obtain⟨m,hm,heq⟩:=HEr.out;have hqT:=HPr.out.lt;obtain⟨m,rfl⟩:∃m',m=m'+1:=⟨m-1,by omega⟩;have HE1:=H_ heq;have her:=HE.out.lt;have hgr:=HG.out.lt;clear HEr heq;go_wp2_with fail;refine wK HPr.out (HO.out.bx (hgz▸HBr.out) hga) (λht w5 P5 b5=>?_) (λo ht w5 P5 b5=>?_)
   ·have HT5:=H_ ht;have HE5:=hbx HE b5 her;have HG5:=hbx HG b5 hgr;have HV5:=H_ (ExC.aA (G':=NG g (two g e) w5) (λb hb=>⟨hb.mono b5.size,b5.block b hb.2.1 (by have:=hb.1;omega)⟩) HV.out);have HB5:=H_ (HBr.out.trans (b5.mono (by have:=HBr.out.size;omega)));have HP5:=H_ P5;have her5:=HE5.out.lt;have hgr5:=HG5.out.lt;obtain⟨c0',c1',c2',c3',c4',c5'⟩:=HE5.out.aC.1;obtain⟨⟨d0,d1,d2,d3,d4,d5⟩,e0,e1,e2,e3,e4,e5⟩:=HG5.out.aC;clear ht P5 b5 HE HG HV HBr HPr;go_wp2_with fail;obtain⟨N1,N2⟩:=gv HG5.out (.int .i64 k) (.int .i64 op) (.int .i64 z) (.string nm) (.bool at_) (.slice A' n' c');exact fW rfl (by simp) N1 (Out.ok (by rw[HE1.out];unfold dg;rw[HT5.out]) ⟨_,rfl,HV5.out.aA (λb hb=>⟨⟨by have:=hb.1;omega,DR hb.2.1 N2.size⟩,N2.block b hb.2.1 (λh=>hb.2.2 (.inl h))⟩)⟩ (HP5.out.put N2 (by omega)) (hgz▸HB5.out.put N2 (DK _) (by omega)))
   ·have HT5:=H_ ht;have HE5:=hbx HE b5 her;have HG5:=hbx HG b5 hgr;have HV5:=H_ (ExC.aA (G':=NG g (two g e) w5) (λb hb=>⟨hb.mono b5.size,b5.block b hb.2.1 (by have:=hb.1;omega)⟩) HV.out);have HB5:=H_ (HBr.out.trans (b5.mono (by have:=HBr.out.size;omega)));have HP5:=H_ P5;have her5:=HE5.out.lt;have hgr5:=HG5.out.lt;clear ht P5 b5 HE HG HV HBr HPr;have hs5:=HB5.out.size;go_upto_region 5 with fail;obtain⟨y,j6,hsj⟩:=R.known (f (q+1)) (ge 0)
    refine dq 3 5 (λxs=>{tmps:= #[.pointer (some ⟨p,0,none⟩),.func (.func n) #[.pointer (some ⟨p,0,none⟩)] #[],.slice (some ⟨ga,0,none⟩) ops.length c2,undef,undef,undef,.pointer (some ⟨g,0,none⟩),.pointer (some ⟨e,0,none⟩),.int .i64 o,.bool true,.func (.func n) #[.pointer (some ⟨p,0,none⟩)] #[],.agg #[.int .i64 k0,.int .i64 op0,.int .i64 z0,.string nm0,.bool at0,.slice A0 n0 c0],.tuple #[.int .i64 o,.bool true],.pointer (some ⟨p,0,none⟩),.slice (some ⟨ga,0,none⟩) ops.length c2,.tuple #[.int .i64 o,.bool true],.int .i64 o,.bool true,.bool true,.bool false,u20,(xs 0).getD u21,(xs 1).getD u22,(xs 2).getD u23,(xs 3).getD u24,(xs 4).getD u25],defers:=[]})
     (RJ w5 p A c T (q+1) j6 (f (q+1)= .ok y j6)) g
     (λi=>match i with
       |0=>fEq (.int .i64 o)
       |1=>fEq (.agg #[.int .i64 k,.int .i64 op,.int .i64 z,.string nm,.bool at_,.slice A' n' c'])
       |2=>fEq (.func (.func n) #[.pointer (some ⟨p,0,none⟩)] #[])
       |3=>λv W=>ExV W (NG g (two g e) W) y v
       |_=>λv W=>ExV W (NG g (two g e) W) (cx o x y) v)
     (by
       intro k
       match k with
       |0=>exact fEq.st _ _
       |1=>exact fEq.st _ _
       |2=>exact fEq.st _ _
       |3=>exact ExV.st
       |_+4=>exact ExV.st)
     (by kernel_rfl) (by kernel_rfl) rfl (by kernel_rfl) (by decide) rfl ⟨(Bx.refl _ _ _).drew,HP5.out.drew⟩ ?_ ?_ ?_
    ·intro i' hi hic b xs W hJ hd;obtain rfl|rfl|rfl|rfl:i'=0\/i'=1\/i'=2\/i'=4:=by omega
     ·refine DU rfl λK hK=>?_;go_simp;exact hK _ _ ⟨_,rfl,hJ,rfl,Nw.refl _ _⟩
     ·obtain⟨⟨d0,d1,d2,d3,d4,d5⟩,_⟩:=(HE5.out.bx hJ.1 her5 (by omega)).aC;refine DU rfl λK hK=>?_;go_simp;exact hK _ _ ⟨_,rfl,hJ,rfl,Nw.refl _ _⟩
     ·refine DU rfl λK hK=>?_;go_simp;exact hK _ _ ⟨_,rfl,hJ,rfl,Nw.refl _ _⟩
     ·obtain⟨_,h0,rfl⟩:=hd 0;obtain⟨_,h1,rfl⟩:=hd 1;obtain⟨vy,h3,hy⟩:=hd 3
      have HX:=H_ (show ExV W (NG g (two g e) W) x (.agg #[.int .i64 k,.int .i64 op,.int .i64 z,.string nm,.bool at_,.slice A' n' c'])from
       ⟨_,rfl,ExC.aA (λb hb=>⟨hb.mono hJ.1.size,hJ.1.block b hb.2.1 (by have:=hb.1;omega)⟩) HV5.out⟩)
      have HY:=H_ (show ExV W (NG g (two g e) W) y vy from hy);have HJ:=H_ hJ;have hsW:=hJ.1.size;clear hJ hy hd;refine DU rfl λK hK=>?_;go_simp;refine(nZ o x y _ vy W _ HX.out HY.out (λb hb=>hb.2.1)).mono ?_;rintro e' w6 ⟨⟨v,rfl,hv⟩,b6⟩
      exact hK _ _ ⟨v,by simp only[bG,h0,h1,h3];rfl,HJ.out.below b6,hv.aA (λb hb=>⟨by
       have:=b6.size;rcases hb with hb|hb
       ·exact hb.mono b6.size
       ·exact⟨by have:=hb.1;omega,hb.2,λh=>by have:=hb.1;unfold two at h;omega⟩,rfl⟩),Nw.below b6⟩
    ·intro xs W hJ hd;obtain⟨_,h2,rfl⟩:=hd 2;have hsW:=hJ.1.size;refine DU rfl λK hK=>?_;go_simp;refine Out.use (HF'.out (q+1) (by omega) p c A W hJ.2) (λj w6 hr b6=>?_) (λx' j v w6 hr hv P6 b6=>?_)
     ·exact⟨rfl,Out.bad (by rw[HE1.out];unfold dg;rw[HT5.out];simp only;rw[hr]) (hgz▸(HB5.out.trans ((hJ.1.aB b6).mono (by omega))))⟩
     ·obtain⟨rfl,rfl⟩:=hsj _ _ hr;exact hK _ _ ⟨v,by simp only[bG,h2];rfl,⟨hJ.1.aB b6,P6,hr⟩,rvC.aA (λb hb=>⟨⟨by have:=hb.1;omega,hb.2,λh=>by have:=hb.1;unfold two at h;omega⟩,rfl⟩) hv,Nw.of b6 (by omega)⟩
    ·intro xs W hJ hd;obtain⟨_,h0,rfl⟩:=hd 0;obtain⟨_,h1,rfl⟩:=hd 1;obtain⟨_,h2,rfl⟩:=hd 2;obtain⟨v3,h3,_⟩:=hd 3;obtain⟨v4,h4,hv4⟩:=hd 4;obtain⟨k',op',z',nm',at',A4,n4,c4,rfl,hv4'⟩:=ExV.inv hv4;have HEW:=H_ (HE5.out.bx hJ.1 her5 (by omega));have HGW:=H_ (HG5.out.bx hJ.1 hgr5 (by omega));have HJ:=H_ hJ;have HV4:=H_ hv4';obtain⟨⟨d0,d1,d2,d3,d4,d5⟩,e0,e1,e2,e3,e4,e5⟩:=HEW.out.aC;have hW5:=hJ.1.size;clear hJ hv4 hv4' hd;refine DU rfl λK hK=>?_;go_simp;refine hK _ _ ?_;obtain⟨N1,N2⟩:=gv HEW.out (.int .i64 k') (.int .i64 op') (.int .i64 z') (.string nm') (.bool at') (.slice A4 n4 c4);generalize((((((W.setCell ⟨e,0,none⟩ (.int .i64 k')).setCell ⟨e,1,none⟩ (.int .i64 op')).setCell ⟨e,2,none⟩ (.int .i64 z')).setCell ⟨e,3,none⟩ (.string nm')).setCell ⟨e,4,none⟩ (.bool at')).setCell ⟨e,5,none⟩ (.slice A4 n4 c4))=W2 at N1 N2⊢;have hj:=HU.out _ _ _ HJ.out.2.2
     have V7:=H_ (show ExC W2 (NG g (two g e) W2) (cx o x y) [.int .i64 k',.int .i64 op',.int .i64 z',.string nm',.bool at',.slice A4 n4 c4]from
      ExC.aA (λb hb=>⟨hb.mono N2.size,N2.block b hb.2.1 (λh=>hb.2.2 (.inr h))⟩) HV4.out)
     have HE7:=H_ N1;have HG7:=hbx HGW N2;have HP7:=H_ (HJ.out.2.1.put N2 (by omega));have HB7:=H_ ((HB5.out.trans (HJ.out.1.mono (by omega))).put N2 (by omega) (by omega));have HQ7:=H_ (show eQ T f ops i=dg T f ops m (cx o x y) j6 by rw[HE1.out];conv=>lhs;unfold dg;rw[HT5.out];simp only;rw[HJ.out.2.2]);have hj6:=HP7.out.lt;clear N1 N2 HEW HGW HJ HV4 HE5 HG5 HB5 HP5 HV5;go_wp2_with fail;go_roundg (T.length-j6)
     case rel=>exact⟨cx o x y,j6,k',op',z',nm',at',A4,n4,c4,rfl,HE7,V7,HG7,HP7,HB7,by omega,H_ ⟨m,by omega,HQ7.out⟩⟩
     case measure=>omega
theorem gw(w:World)(ops:List Nat)(cs:Array Value)(t:TypeId)(hc:cs=(ops.map λo=>Value.string (bH o)).toArray)(hl:ops.length<=13)(h:∀o∈ops,o<13):OpsAt (w.alloc (.cells cs t)) w.heap.size ops:=by
 subst hc;refine⟨by simp,hl,λj o hj=>⟨h o (DW hj),?_⟩⟩;rw[(Blk.new w t _).cell j];simp[hj]
section
variable{T:List Tk}{rec:Nat->Nat->R Ex}{i:Nat}
theorem zU(HF:∀j,i<=j->RdAt rvE 301 T (sC T rec) j)(hup:Up (sC T rec)):RdAt rvE 293 T (tF T rec) i:=by
 intro p c A w h;have hp:=h.aE.lt;obtain⟨w0,hw0,q0,b0,P0⟩:=nn h;have Q0:=H_ q0;have B0:=H_ b0;have HP0:=H_ P0;have HL:=H_ (λ(W:World) (ga c2:Nat)=>lJ (T:=T) (i:=i) (ga:=ga) (c2:=c2) (ops:=oOr) (λ_ _=>by kernel_rfl) HF hup p c A W);clear h HF hup q0 b0 P0;go_enter Tryz.func293,Tryz.ntmps293;go_upto_region 1 with(fail);have hsz:=B0.out.size;have hg0:=Q0.out.lt;obtain⟨g,hgz⟩:=nm_ (w.heap.size);rw[hgz]at Q0 hg0⊢;clear hw0;go_wp2_with fail;refine Out.use (HL.out _ _ _ (HP0.out.alloc _) (gw w0 oOr _ _ rfl (by decide) (by decide)) (by omega)) (λj w1 hr b1=>?_) (λx j v w1 hr hv P1 b1=>?_)
 ·exact⟨rfl,Out.bad hr ((B0.out.new _ (DK _)).aB b1)⟩
 ·have Q1:=H_ ((Q0.out.alloc _).bx b1 (by simp;omega) (by omega));have B1:=H_ ((B0.out.new _ (DK _)).aB b1);have HP1:=H_ P1;have hg1:=Q1.out.lt;obtain⟨k,op,z,nm,at_,A',n,c',rfl,hv'⟩:=ExV.inv hv;have HV:=H_ hv';have HR1:=H_ hr;obtain⟨⟨c0,c1,c2,c3,c4,c5⟩,f0,f1,f2,f3,f4,f5⟩:=Q1.out.aC;clear hv hv' hr Q0 B0 HP0 P1 b1;go_wp2_with fail;obtain⟨N1,N2⟩:=gv Q1.out (.int .i64 k) (.int .i64 op) (.int .i64 z) (.string nm) (.bool at_) (.slice A' n c');exact fW rfl (by simp) N1 (Out.ok HR1.out ⟨_,rfl,HV.out.aA (Fr.aA N2 (by simp;omega) (by simp;omega))⟩ (HP1.out.put N2 (by omega)) (B1.out.put N2 (by omega) (DK _)))
theorem Cc(HF:∀j,i<=j->RdAt rvE 308 T (iO T rec) j)(hup:Up (iO T rec)):RdAt rvE 301 T (sC T rec) i:=by
 intro p c A w h;have hp:=h.aE.lt;obtain⟨w0,hw0,q0,b0,P0⟩:=nn h;have Q0:=H_ q0;have B0:=H_ b0;have HP0:=H_ P0;have HL:=H_ (λ(W:World) (ga c2:Nat)=>lJ (T:=T) (i:=i) (ga:=ga) (c2:=c2) (ops:=wP) (λ_ _=>by kernel_rfl) HF hup p c A W);clear h HF hup q0 b0 P0;go_enter Tryz.func301,Tryz.ntmps301;go_upto_region 1 with(fail);have hsz:=B0.out.size;have hg0:=Q0.out.lt;obtain⟨g,hgz⟩:=nm_ (w.heap.size);rw[hgz]at Q0 hg0⊢;clear hw0;go_wp2_with fail;refine Out.use (HL.out _ _ _ (HP0.out.alloc _) (gw w0 wP _ _ rfl (by decide) (by decide)) (by omega)) (λj w1 hr b1=>?_) (λx j v w1 hr hv P1 b1=>?_)
 ·exact⟨rfl,Out.bad hr ((B0.out.new _ (DK _)).aB b1)⟩
 ·have Q1:=H_ ((Q0.out.alloc _).bx b1 (by simp;omega) (by omega));have B1:=H_ ((B0.out.new _ (DK _)).aB b1);have HP1:=H_ P1;have hg1:=Q1.out.lt;obtain⟨k,op,z,nm,at_,A',n,c',rfl,hv'⟩:=ExV.inv hv;have HV:=H_ hv';have HR1:=H_ hr;obtain⟨⟨c0,c1,c2,c3,c4,c5⟩,f0,f1,f2,f3,f4,f5⟩:=Q1.out.aC;clear hv hv' hr Q0 B0 HP0 P1 b1;go_wp2_with fail;obtain⟨N1,N2⟩:=gv Q1.out (.int .i64 k) (.int .i64 op) (.int .i64 z) (.string nm) (.bool at_) (.slice A' n c');exact fW rfl (by simp) N1 (Out.ok HR1.out ⟨_,rfl,HV.out.aA (Fr.aA N2 (by simp;omega) (by simp;omega))⟩ (HP1.out.put N2 (by omega)) (B1.out.put N2 (by omega) (DK _)))
theorem AT(HF:∀j,i<=j->RdAt rvE 313 T (fx T rec) j)(hup:Up (fx T rec)):RdAt rvE 312 T (jb T rec) i:=by
 intro p c A w h;have hp:=h.aE.lt;obtain⟨w0,hw0,q0,b0,P0⟩:=nn h;have Q0:=H_ q0;have B0:=H_ b0;have HP0:=H_ P0;have HL:=H_ (λ(W:World) (ga c2:Nat)=>lJ (T:=T) (i:=i) (ga:=ga) (c2:=c2) (ops:=wN) (λ_ _=>by kernel_rfl) HF hup p c A W);clear h HF hup q0 b0 P0;go_enter Tryz.func312,Tryz.ntmps312;go_upto_region 1 with(fail);have hsz:=B0.out.size;have hg0:=Q0.out.lt;obtain⟨g,hgz⟩:=nm_ (w.heap.size);rw[hgz]at Q0 hg0⊢;clear hw0;go_wp2_with fail;refine Out.use (HL.out _ _ _ (HP0.out.alloc _) (gw w0 wN _ _ rfl (by decide) (by decide)) (by omega)) (λj w1 hr b1=>?_) (λx j v w1 hr hv P1 b1=>?_)
 ·exact⟨rfl,Out.bad hr ((B0.out.new _ (DK _)).aB b1)⟩
 ·have Q1:=H_ ((Q0.out.alloc _).bx b1 (by simp;omega) (by omega));have B1:=H_ ((B0.out.new _ (DK _)).aB b1);have HP1:=H_ P1;have hg1:=Q1.out.lt;obtain⟨k,op,z,nm,at_,A',n,c',rfl,hv'⟩:=ExV.inv hv;have HV:=H_ hv';have HR1:=H_ hr;obtain⟨⟨c0,c1,c2,c3,c4,c5⟩,f0,f1,f2,f3,f4,f5⟩:=Q1.out.aC;clear hv hv' hr Q0 B0 HP0 P1 b1;go_wp2_with fail;obtain⟨N1,N2⟩:=gv Q1.out (.int .i64 k) (.int .i64 op) (.int .i64 z) (.string nm) (.bool at_) (.slice A' n c');exact fW rfl (by simp) N1 (Out.ok HR1.out ⟨_,rfl,HV.out.aA (Fr.aA N2 (by simp;omega) (by simp;omega))⟩ (HP1.out.put N2 (by omega)) (B1.out.put N2 (by omega) (DK _)))
theorem rx(HF:∀j,i<=j->RdAt rvE 303 T (co T rec) j)(hup:Up (co T rec)):RdAt rvE 313 T (fx T rec) i:=by
 intro p c A w h;have hp:=h.aE.lt;obtain⟨w0,hw0,q0,b0,P0⟩:=nn h;have Q0:=H_ q0;have B0:=H_ b0;have HP0:=H_ P0;have HL:=H_ (λ(W:World) (ga c2:Nat)=>lJ (T:=T) (i:=i) (ga:=ga) (c2:=c2) (ops:=wO) (λ_ _=>by kernel_rfl) HF hup p c A W);clear h HF hup q0 b0 P0;go_enter Tryz.func313,Tryz.ntmps313;go_upto_region 1 with(fail);have hsz:=B0.out.size;have hg0:=Q0.out.lt;obtain⟨g,hgz⟩:=nm_ (w.heap.size);rw[hgz]at Q0 hg0⊢;clear hw0;go_wp2_with fail;refine Out.use (HL.out _ _ _ (HP0.out.alloc _) (gw w0 wO _ _ rfl (by decide) (by decide)) (by omega)) (λj w1 hr b1=>?_) (λx j v w1 hr hv P1 b1=>?_)
 ·exact⟨rfl,Out.bad hr ((B0.out.new _ (DK _)).aB b1)⟩
 ·have Q1:=H_ ((Q0.out.alloc _).bx b1 (by simp;omega) (by omega));have B1:=H_ ((B0.out.new _ (DK _)).aB b1);have HP1:=H_ P1;have hg1:=Q1.out.lt;obtain⟨k,op,z,nm,at_,A',n,c',rfl,hv'⟩:=ExV.inv hv;have HV:=H_ hv';have HR1:=H_ hr;obtain⟨⟨c0,c1,c2,c3,c4,c5⟩,f0,f1,f2,f3,f4,f5⟩:=Q1.out.aC;clear hv hv' hr Q0 B0 HP0 P1 b1;go_wp2_with fail;obtain⟨N1,N2⟩:=gv Q1.out (.int .i64 k) (.int .i64 op) (.int .i64 z) (.string nm) (.bool at_) (.slice A' n c');exact fW rfl (by simp) N1 (Out.ok HR1.out ⟨_,rfl,HV.out.aA (Fr.aA N2 (by simp;omega) (by simp;omega))⟩ (HP1.out.put N2 (by omega)) (B1.out.put N2 (by omega) (DK _)))
end
--hand
section
variable{T:List Tk}{rec:Nat->Nat->R Ex}{i:Nat}
theorem sm(HF:∀j,i<=j->RdAt rvE 312 T (jb T rec) j)(hup:Up (jb T rec)):RdAt rvE 311 T (cz T rec) i:=by
 intro p c A w h;have hp:=h.aE.lt;obtain⟨w0,hw0,q0,b0,P0⟩:=nn h;have Q0:=H_ q0;have B0:=H_ b0;have HP0:=H_ P0;have HF':=H_ HF;have HU:=H_ hup;clear h HF hup q0 b0 P0;go_enter Tryz.func311,Tryz.ntmps311;go_upto_region 1 with(fail);have hsz:=B0.out.size;have hg0:=Q0.out.lt;obtain⟨g,hgz⟩:=nm_ (w.heap.size);rw[hgz]at Q0 hg0⊢;clear hw0;go_wp2_with fail;refine Out.use (HF'.out i (DK _) p c A w0 HP0.out) (λj w1 hr b1=>?_) (λx j v w1 hr hv P1 b1=>?_)
 ·exact⟨rfl,Out.bad (by unfold cz;rw[hr]) (B0.out.aB b1)⟩
 ·obtain⟨-,B1,Q1,hg1⟩:=fr1 B0 Q0 b1;have HP1:=H_ P1;have hij:=HU.out _ _ _ hr;obtain⟨k,op,z,nm,at_,A',n',c',rfl,hv'⟩:=ExV.inv hv;have HV:=H_ hv';have HR1:=H_ hr;clear hv hv' hr Q0 B0 HP0 P1 b1;go_upto_region 2 with fail;obtain⟨e,hez⟩:=nm_ (w1.heap.size);rw[hez];obtain⟨w2,hw2⟩:=nm_ (w1.alloc (.cells #[.int .i64 k,.int .i64 op,.int .i64 z,.string nm,.bool at_,.slice A' n' c'] 172));have b2:=bal hw2;have Q2:=H_ (Q1.out.below b2 hg1);have E2:=H_ (show Blk w2 e 172 _ from hw2▸hez▸Blk.new w1 172 #[.int .i64 k,.int .i64 op,.int .i64 z,.string nm,.bool at_,.slice A' n' c']);have B2:=H_ (B1.out.aB (Bx.of b2));have HP2:=H_ (HP1.out.below b2);have V2:=H_ (ExC.aA (G':=NG g (two g e) w2) (λb hb=>⟨⟨by have:=hb.1;omega,DR hb.2 b2.size,λh=>by have:=hb.1;have:=hb.2;unfold two at h;omega⟩,b2.block b hb.2⟩) HV.out);rw[hw2];clear hw2 b2 Q1 B1 HP1 HV;go_wp2_with fail;refine wK (ops:=uz) (c2:=6) (HP2.out.alloc _) (gw w2 uz _ _ rfl (by decide) (by decide)) (λht w5 P5 b5=>?_) (λo ht w5 P5 b5=>?_)
  ·have HT5:=H_ ht;have b6:=((Bx.refl w2.heap.size p w2).new _ (DK _)).aB b5;have HE5:=H_ (E2.out.bx b6 E2.out.lt (by omega));have HG5:=H_ (Q2.out.bx b6 Q2.out.lt (by omega));have HV5:=H_ (ExC.aA (G':=NG g (two g e) w5) (λb hb=>⟨hb.mono b6.size,b6.block b hb.2.1 (by have:=hb.1;omega)⟩) V2.out);have HB5:=hth B2 b6;have HP5:=H_ P5;have her5:=HE5.out.lt;have hgr5:=HG5.out.lt;obtain⟨c0',c1',c2',c3',c4',c5'⟩:=HE5.out.aC.1;obtain⟨⟨d0,d1,d2,d3,d4,d5⟩,e0,e1,e2,e3,e4,e5⟩:=HG5.out.aC;clear ht P5 b5 b6 E2 Q2 V2 B2 HP2;go_wp2_with fail;obtain⟨N1,N2⟩:=gv HG5.out (.int .i64 k) (.int .i64 op) (.int .i64 z) (.string nm) (.bool at_) (.slice A' n' c');exact fW rfl (by simp) N1 (Out.ok (by unfold cz;rw[HR1.out];simp only;rw[HT5.out]) ⟨_,rfl,HV5.out.aA (λb hb=>⟨⟨by have:=hb.1;omega,DR hb.2.1 N2.size⟩,N2.block b hb.2.1 (λh=>hb.2.2 (.inl h))⟩)⟩ (HP5.out.put N2 (by omega)) (HB5.out.put N2 (by omega) (by omega)))
  ·have HT5:=H_ ht;have b6:=((Bx.refl w2.heap.size p w2).new _ (DK _)).aB b5;have HE5:=H_ (E2.out.bx b6 E2.out.lt (by omega));have HG5:=H_ (Q2.out.bx b6 Q2.out.lt (by omega));have HV5:=H_ (ExC.aA (G':=NG g (two g e) w5) (λb hb=>⟨hb.mono b6.size,b6.block b hb.2.1 (by have:=hb.1;omega)⟩) V2.out);have HB5:=hth B2 b6;have HP5:=H_ P5;have her5:=HE5.out.lt;have hgr5:=HG5.out.lt;clear ht P5 b5 b6 E2 Q2 V2 B2 HP2;have hs5:=HB5.out.size;go_upto_region 4 with fail;obtain⟨y,j6,hsj⟩:=R.known (jb T rec (j+1)) (ge 0)
   refine dq 3 5 (λxs=>{tmps:= #[.pointer (some ⟨p,0,none⟩),undef,.pointer (some ⟨g,0,none⟩),.pointer (some ⟨e,0,none⟩),.int .i64 o,.bool true,.pointer (some ⟨p,0,none⟩),.agg #[.int .i64 k,.int .i64 op,.int .i64 z,.string nm,.bool at_,.slice A' n' c'],.tuple #[.int .i64 o,.bool true],.pointer (some ⟨p,0,none⟩),.slice (some ⟨w2.heap.size,0,none⟩) 6 6,.tuple #[.int .i64 o,.bool true],.int .i64 o,.bool true,.bool true,(xs 0).getD undef,(xs 1).getD undef,(xs 2).getD undef,(xs 3).getD undef,(xs 4).getD undef,undef],defers:=[]})
    (RJ w5 p A c T (j+1) j6 (jb T rec (j+1)= .ok y j6)) g
    (λi=>match i with
      |0=>fEq (.int .i64 o)
      |1=>fEq (.agg #[.int .i64 k,.int .i64 op,.int .i64 z,.string nm,.bool at_,.slice A' n' c'])
      |2=>fEq (.pointer (some ⟨p,0,none⟩))
      |3=>λv W=>ExV W (NG g (two g e) W) y v
      |_=>λv W=>ExV W (NG g (two g e) W) (cx o x y) v)
    (by
      intro k
      match k with
      |0=>exact fEq.st _ _
      |1=>exact fEq.st _ _
      |2=>exact fEq.st _ _
      |3=>exact ExV.st
      |_+4=>exact ExV.st)
    (by kernel_rfl) (by kernel_rfl) rfl (by kernel_rfl) (by decide) rfl ⟨(Bx.refl _ _ _).drew,HP5.out.drew⟩ ?_ ?_ ?_
   ·intro i' hi hic b xs W hJ hd;obtain rfl|rfl|rfl|rfl:i'=0\/i'=1\/i'=2\/i'=4:=by omega
    ·refine DU rfl λK hK=>?_;go_simp;exact hK _ _ ⟨_,rfl,hJ,rfl,Nw.refl _ _⟩
    ·obtain⟨⟨d0,d1,d2,d3,d4,d5⟩,_⟩:=(HE5.out.bx hJ.1 her5 (by omega)).aC;refine DU rfl λK hK=>?_;go_simp;exact hK _ _ ⟨_,rfl,hJ,rfl,Nw.refl _ _⟩
    ·refine DU rfl λK hK=>?_;go_simp;exact hK _ _ ⟨_,rfl,hJ,rfl,Nw.refl _ _⟩
    ·obtain⟨_,h0,rfl⟩:=hd 0;obtain⟨_,h1,rfl⟩:=hd 1;obtain⟨vy,h3,hy⟩:=hd 3
     have HX:=H_ (show ExV W (NG g (two g e) W) x (.agg #[.int .i64 k,.int .i64 op,.int .i64 z,.string nm,.bool at_,.slice A' n' c'])from
      ⟨_,rfl,ExC.aA (λb hb=>⟨hb.mono hJ.1.size,hJ.1.block b hb.2.1 (by have:=hb.1;omega)⟩) HV5.out⟩)
     have HY:=H_ (show ExV W (NG g (two g e) W) y vy from hy);have HJ:=H_ hJ;have hsW:=hJ.1.size;clear hJ hy hd;refine DU rfl λK hK=>?_;go_simp;refine(nZ o x y _ vy W _ HX.out HY.out (λb hb=>hb.2.1)).mono ?_;rintro e' w6 ⟨⟨v,rfl,hv⟩,b6⟩
     exact hK _ _ ⟨v,by simp only[bG,h0,h1,h3];rfl,HJ.out.below b6,hv.aA (λb hb=>⟨by
      have:=b6.size;rcases hb with hb|hb
      ·exact hb.mono b6.size
      ·exact⟨by have:=hb.1;omega,hb.2,λh=>by have:=hb.1;unfold two at h;omega⟩,rfl⟩),Nw.below b6⟩
   ·intro xs W hJ hd;obtain⟨_,h2,rfl⟩:=hd 2;have hsW:=hJ.1.size;refine DU rfl λK hK=>?_;go_simp;refine Out.use (HF'.out (j+1) (by omega) p c A W hJ.2) (λj7 w6 hr b6=>?_) (λx' j7 v w6 hr hv P6 b6=>?_)
    ·exact⟨rfl,Out.bad (by unfold cz;rw[HR1.out];simp only;rw[HT5.out];simp only;rw[hr]) (HB5.out.trans ((hJ.1.aB b6).mono (by omega)))⟩
    ·obtain⟨rfl,rfl⟩:=hsj _ _ hr;exact hK _ _ ⟨v,by simp only[bG,h2];rfl,⟨hJ.1.aB b6,P6,hr⟩,rvC.aA (λb hb=>⟨⟨by have:=hb.1;omega,hb.2,λh=>by have:=hb.1;unfold two at h;omega⟩,rfl⟩) hv,Nw.of b6 (by omega)⟩
   ·intro xs W hJ hd;obtain⟨v4,h4,hv4⟩:=hd 4;obtain⟨k',op',z',nm',at',A4,n4,c4,rfl,hv4'⟩:=ExV.inv hv4;have HGW:=H_ (HG5.out.bx hJ.1 hgr5 (by omega));have HJ:=H_ hJ;have HV4:=H_ hv4';obtain⟨⟨d0,d1,d2,d3,d4,d5⟩,e0,e1,e2,e3,e4,e5⟩:=HGW.out.aC;have hW5:=hJ.1.size;clear hJ hv4 hv4' hd;refine DU rfl λK hK=>?_;go_simp;refine hK _ _ ?_;obtain⟨N1,N2⟩:=gv HGW.out (.int .i64 k') (.int .i64 op') (.int .i64 z') (.string nm') (.bool at') (.slice A4 n4 c4);go_wp2_with fail;exact fW rfl (by simp) N1 (Out.ok (by unfold cz;rw[HR1.out];simp only;rw[HT5.out];simp only;rw[HJ.out.2.2]) ⟨_,rfl,HV4.out.aA (λb hb=>⟨⟨by have:=hb.1;omega,DR hb.2.1 N2.size⟩,N2.block b hb.2.1 (λh=>hb.2.2 (.inl h))⟩)⟩ (HJ.out.2.1.put N2 (by omega)) ((HB5.out.trans (HJ.out.1.mono (by omega))).put N2 (by omega) (by omega)))
end
end
end Go.Proofs.YtjpbckbpeblibaaGreatDoor
