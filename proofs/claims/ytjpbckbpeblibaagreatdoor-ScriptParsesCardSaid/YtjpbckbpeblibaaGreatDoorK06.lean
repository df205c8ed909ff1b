/- part of a proof -/
import Derived.Test.YtjpbckbpeblibaaGreatDoorK05
namespace Go.Proofs.YtjpbckbpeblibaaGreatDoor
set_option linter.unusedVariables false
set_option linter.unusedSimpArgs false
set_option maxRecDepth 100000
set_option maxHeartbeats 64000000
section
open Go
theorem Bw:type_of% @List.setIfInBounds_toArray:=@List.setIfInBounds_toArray
theorem BJ:type_of% @decide_eq_true:=@decide_eq_true
theorem Cb:type_of% @List.set_cons_succ:=@List.set_cons_succ
theorem Cc:type_of% @List.set_cons_zero:=@List.set_cons_zero
theorem Ck:type_of% @List.length_take:=@List.length_take
theorem CF:type_of% @List.mem_cons_of_mem:=@List.mem_cons_of_mem
theorem CS:type_of% @List.getElem?_drop:=@List.getElem?_drop
theorem D8:type_of% @List.getElem?_take:=@List.getElem?_take
theorem jt{P:Program}{id:Nat}{ops:Array Oper}{Q:Exit->Act->World->Prop}{a:Act}{w:World}(fr:(Nat->Value)->Act)(xs0:Nat->Value)(J:World->Prop)(F:Nat->(Nat->Value)->World->Prop)(dep:Nat->Nat->Bool)
 (hm:P.follows .mixedOrders=true) (hac:mh .any ops=true) (hdep:∀k j,k<ops.size->dep k j=true->av .any ops k j=true) (ha:a=fr xs0) (hJ:J w.drew)
 (hstep:∀i,i<ops.size->∀xs W,J W->(∀j,(_:av .any ops i j=true:=by kernel_rfl)->F j xs W)->
   wpOp P ops Q i (λa' W'=>∃v,a'=fr (upd xs i v)/\J W'/\F i (upd xs i v) W'/\∀k,k≠i->dep k i=false->F k xs W->F k (upd xs i v) W') (fr xs) W)
 (hend:∀xs W,J W->(∀i,(_:i<ops.size:=by decide)->F i xs W)->Q .normal (fr xs) W):(Code.region id ops true).wp P Q a w:=by
 refine wp_region_any hm (eJ (I:=λaa a W=>∃xs,a=fr xs/\J W/\aa.size=ops.size/\(∀i,i<ops.size->aa.getD i false=true->F i xs W)/\
  ∀k,k<ops.size->aa.getD k false=true->∀j,av .any ops k j=true->aa.getD j false=true) ?_ ?_ _ _ _ _ ?_ ?_)
 ·rintro aa a W i ⟨xs,rfl,hJW,hsz,hF,hcl⟩ hi;obtain⟨h1,o,ho,hall⟩:=mem_ready.1 hi;have hil:=(AS.1 ho).1
  have hni:aa.getD i false=false:=by
   have hsl:i<aa.size:=by omega
   simpa[Array.getD,hsl]using h1
  refine Dh ?_ (hstep i hil xs W hJW λj hj=>by
   obtain⟨e,he,hb,rfl⟩:=cT ho hj;exact hF e.on (by have:=eN hac ho e he hb;omega) (hall e he hb))
  rintro a' W' ⟨v,rfl,hJ',hv,hk⟩
  have hset:∀k,k≠i->(aa.setIfInBounds i true).getD k false=aa.getD k false:=λk hki=>by
   have:i≠k:=λe=>hki e.symm;simp only[Cd,BK this]
  refine⟨_,rfl,hJ',by simpa using hsz,λk hkl hks=>?_,λk hkl hks j hj=>?_⟩
  ·by_cases hki:k=i
   ·subst hki;exact hv
   ·rw[hset k hki]at hks;refine hk _ hki ?_ (hF k hkl hks);cases hd:dep k i with
    |false=>rfl
    |true=>
     have:=hcl k hkl hks i (hdep k i hkl hd);rw[hni]at this;cases this
  ·by_cases hji:j=i
   ·subst hji;have hsl:j<aa.size:=by omega
    simp[Array.getD,hsl]
   ·rw[hset j hji];by_cases hki:k=i
    ·subst hki;obtain⟨e,he,hb,rfl⟩:=cT ho hj;exact hall e he hb
    ·rw[hset k hki]at hks;exact hcl k hkl hks j hj
 ·rintro aa a W ⟨xs,rfl,hJW,hsz,hF,_⟩ hr;refine hend xs W hJW λi hi=>hF i hi ?_;have h1:=ed hac hr ops.size i hi hi;have hsz2:i<aa.size:=by omega
  simpa[Array.getD,hsz2]using h1
 ·refine AW (CB _ _) (by simp)
 ·exact⟨xs0,ha,hJ,by simp,λi hi h=>by simp[Array.getD,hi]at h,λi hi h=>by simp[Array.getD,hi]at h⟩
end
section
open Go.RowKit
variable{A:Option Addr}{B B' B2 N c g i k m n off:Nat}{G G':Nat->Prop}{W W' w w' w'':World}{a d:Ad}{args ex:List Ex}{body els:List St}{cs ds:List Value}{css:List (List Value)}{e kt:TypeId}{f fd:FD}{kvs:List (Value×Value)}{p:PD}{s w0:ByteArray}{v:Value}{wr:List ByteArray}{xs:Nat->Value}{z:Int}
theorem mb{t:TypeId}{d:TypeDesc}{z:Value}(ht:∀w,(underlying t).run Tryz.prog w= .ok (.map kt e) w)(hd:∀w,(underlying kt).run Tryz.prog w= .ok d w)(hz:∀w,(zeroValue e).run Tryz.prog w= .ok z w)(h:KMap w m kvs)(k:Value)
 (hc:∀em w,(Instr.checkKey em 10000 kt k).run Tryz.prog w= .ok () w) (hk:∀o∈kvs,Instr.sameNow d k o.1=some false):
 (Instr.lookup t (.map (some m)) k true).run Tryz.prog w= .ok (.tuple #[z,.bool false]) w:=by
 simp only[Instr.lookup,BC,ht,Bi,dC h,hc,Instr.findKey,hd,jO d k kvs 0 0 hk,Bv,hz];rfl
theorem vr{t:TypeId}{d:TypeDesc}(ht:∀w,(underlying t).run Tryz.prog w= .ok (.map kt e) w)(hd:∀w,(underlying kt).run Tryz.prog w= .ok d w)(h:KMap w m kvs)(k v:Value)(n:Nat)
 (hc:∀em w,(Instr.checkKey em 10000 kt k).run Tryz.prog w= .ok () w) (hk:∀(t:Nat) (o:Value×Value),t<n->kvs[t]?=some o->Instr.sameNow d k o.1=some false) (hn:∃k',kvs[n]?=some (k',v)/\Instr.sameNow d k k'=some true):
 (Instr.lookup t (.map (some m)) k true).run Tryz.prog w= .ok (.tuple #[v,.bool true]) w:=by
 simp only[Instr.lookup,BC,ht,Bi,dC h,hc,Instr.findKey,hd,jN d k v kvs 0 0 n hk hn,Bv];rfl
def tI:Value:= .agg #[.int .i64 0,.string ⟨#[]⟩,.slice none 0 0]
theorem yx(w:World):(zeroValue 92).run Tryz.prog w= .ok tI w:=by kernel_rfl
def Found(W:World)(w0:ByteArray)(v:Value)(ok:Bool):Prop:=
 (eS w0=none/\v=tI/\ok=false)\/∃fd g,eS w0=some fd/\v=fS fd g/\ok=true/\Parts W W.heap.size g fd.pds
theorem gH(h:eS w0=some fd):fd.word=w0/\∃i,i<16/\ax[i]?=some fd:=by
 have h1:=List.mem_of_find?_eq_some h;have h2:=List.find?_some h;obtain⟨i,hi⟩:=List.mem_iff_getElem?.1 h1;exact⟨AN (by simpa using h2),i,(AH.1 hi).1,hi⟩
theorem ou(hm:KMap W m kvs)(hw:WordMap W W.heap.size 16 kvs)(w0:ByteArray):
 ∃v ok,(Instr.lookup 102 (.map (some m)) (.string w0) true).run Tryz.prog W= .ok (.tuple #[v,.bool ok]) W/\Found W w0 v ok:=by
 cases hf:eS w0 with
 |none=>
  refine⟨tI,false,mb tR yC yx hm _ (λem w=>re em _ w) λo ho=>?_,.inl ⟨hf,rfl,rfl⟩⟩;obtain⟨t,ht⟩:=List.mem_iff_getElem?.1 ho;have hl:=(AH.1 ht).1;rw[hw.1]at hl;obtain⟨fd,h1,_⟩:=fG hl;obtain⟨g,h2,_⟩:=hw.2 t fd hl h1;rw[ht]at h2;simp only[Option.some.injEq]at h2;rw[h2];refine gw λe=>?_;have:=eb (by omega:t<=15) h1;rw[<-e,hf]at this;cases this
 |some fd=>
  obtain⟨hwd,i,hi,h1⟩:=gH hf;obtain⟨g,h2,h3⟩:=hw.2 i fd hi h1;refine⟨fS fd g,true,vr tR yC hm _ _ i (λem w=>re em _ w) (λt o ht ho=>?_) ⟨_,h2,by rw[hwd];exact oG w0⟩,.inr ⟨fd,g,hf,rfl,rfl,h3⟩⟩;obtain⟨fd',h4,_⟩:=fG (by omega:t<16);obtain⟨g',h5,_⟩:=hw.2 t fd' (by omega) h4;rw[ho]at h5;simp only[Option.some.injEq]at h5;rw[h5,<-hwd];exact gw (fb h4 h1 ht).symm
def aw(s:ByteArray):List ByteArray:=Lib.splitB ⟨#[32]⟩ 0 (Lib.countB s ⟨#[32]⟩) s
theorem gp(s:ByteArray):(aw s).length=Lib.countB s ⟨#[32]⟩+1:=Lib.splitB_all _ (by decide) 0 _ s rfl
def G8(w0:ByteArray)(G nw B2:Nat)(k:Nat)(v:Value)(W:World):Prop:=
 match k with
 |0=>∃m kvs,v= .map (some m)/\KMap W m kvs/\WordMap W W.heap.size 16 kvs
 |1=>v= .slice (some ⟨G,0,none⟩) nw nw
 |2=>v= .pointer (some ⟨G,0,none⟩)
 |3=>v= .string w0
 |4=>∃x ok,v= .tuple #[x,.bool ok]/\Found W w0 x ok
 |5=>∃x ok,v= .tuple #[x,.bool ok]/\Found W w0 x ok
 |6=>∃ok,Found W w0 v ok
 |7=>∃x ok,v= .bool ok/\Found W w0 x ok
 |8=>∃N z t A n c,v= .pointer (some ⟨N,0,none⟩)/\B2<=N/\Blk W N 92 #[.int .i64 z,.string t,.slice A n c]
 |10=>∃x ok,v= .bool ok/\Found W w0 x ok
 |_=>True
theorem Found.below{ok:Bool}(h:Found W w0 v ok)(hb:Below W.heap.size W W'):Found W' w0 v ok:=by
 rcases h with h|⟨fd,g,h1,h2,h3,h4⟩
 ·exact .inl h
 ·exact .inr ⟨fd,g,h1,h2,h3,(h4.below hb).more hb.size⟩
theorem Found.store{ok:Bool}{t:ByteArray}(h:Found W w0 v ok)(hN:Blk W N 92 #[.int .i64 z,.string t,.slice A n c])(x0 x1 x2:Value):
 Found (((W.setCell ⟨N,0,none⟩ x0).setCell ⟨N,1,none⟩ x1).setCell ⟨N,2,none⟩ x2) w0 v ok:=by
 rcases h with h|⟨fd,g,h1,h2,h3,h4⟩
 ·exact .inl h
 ·exact .inr ⟨fd,g,h1,h2,h3,by simpa using h4.other hN x0 x1 x2⟩
theorem Found.agg{ok:Bool}(h:Found W w0 v ok):∃z t A n c,v= .agg #[.int .i64 z,.string t,.slice A n c]:=by
 rcases h with⟨_,rfl,_⟩|⟨fd,g,_,rfl,_⟩
 ·exact⟨_,_,_,_,_,rfl⟩
 ·exact⟨_,_,_,_,_,rfl⟩
theorem G8.below{G nw:Nat}(h:G8 w0 G nw B2 k v W)(hb:Below W.heap.size W W'):G8 w0 G nw B2 k v W':=by
 unfold G8 at h⊢;split at h
 ·obtain⟨m,kvs,h1,h2,h3⟩:=h;exact⟨m,kvs,h1,h2.below hb h2.lt,(h3.below hb).more hb.size⟩
 ·exact h
 ·exact h
 ·exact h
 ·obtain⟨x,ok,h1,h2⟩:=h;exact⟨x,ok,h1,h2.below hb⟩
 ·obtain⟨x,ok,h1,h2⟩:=h;exact⟨x,ok,h1,h2.below hb⟩
 ·obtain⟨ok,h2⟩:=h;exact⟨ok,h2.below hb⟩
 ·obtain⟨x,ok,h1,h2⟩:=h;exact⟨x,ok,h1,h2.below hb⟩
 ·obtain⟨N,z,t,A,n,c,h1,h2,h3⟩:=h;exact⟨N,z,t,A,n,c,h1,h2,h3.below hb h3.lt⟩
 ·obtain⟨x,ok,h1,h2⟩:=h;exact⟨x,ok,h1,h2.below hb⟩
 ·trivial
theorem G8.store{G nw:Nat}{z':Int}{t t':ByteArray}{A':Option Addr}{n' c':Nat}(h:G8 w0 G nw B2 k v W)(hN:Blk W N 92 #[.int .i64 z,.string t,.slice A n c]):
 G8 w0 G nw B2 k v (((W.setCell ⟨N,0,none⟩ (.int .i64 z')).setCell ⟨N,1,none⟩ (.string t')).setCell ⟨N,2,none⟩ (.slice A' n' c')):=by
 unfold G8 at h⊢;split at h
 ·obtain⟨m,kvs,h1,h2,h3⟩:=h
  have hne:m≠N:=λe=>by
   subst e;unfold Blk at hN;rw[show W.heap[m]?=_ from h2]at hN;cases hN
  refine⟨m,kvs,h1,((AG _ _ _ m hne).trans ((AG _ _ _ m hne).trans (AG _ _ _ m hne))).trans h2,h3.1,λi fd hi hf=>?_⟩;obtain⟨g,h4,h5⟩:=h3.2 i fd hi hf;exact⟨g,h4,by simpa using h5.other hN (.int .i64 z') (.string t') (.slice A' n' c')⟩
 ·exact h
 ·exact h
 ·exact h
 ·obtain⟨x,ok,h1,h2⟩:=h;exact⟨x,ok,h1,h2.store hN _ _ _⟩
 ·obtain⟨x,ok,h1,h2⟩:=h;exact⟨x,ok,h1,h2.store hN _ _ _⟩
 ·obtain⟨ok,h2⟩:=h;exact⟨ok,h2.store hN _ _ _⟩
 ·obtain⟨x,ok,h1,h2⟩:=h;exact⟨x,ok,h1,h2.store hN _ _ _⟩
 ·obtain⟨N',z1,t1,A1,n1,c1,h1,h2,h3⟩:=h;by_cases hne:N'=N
  ·subst hne;exact⟨N',z',t',A',n',c',h1,h2,h3.aO⟩
  ·exact⟨N',z1,t1,A1,n1,c1,h1,h2,((h3.other ⟨N,0,none⟩ _ hne).other ⟨N,1,none⟩ _ hne).other ⟨N,2,none⟩ _ hne⟩
 ·obtain⟨x,ok,h1,h2⟩:=h;exact⟨x,ok,h1,h2.store hN _ _ _⟩
 ·trivial
def F8(w0:ByteArray)(G nw B2:Nat)(k:Nat)(xs:Nat->Value)(W:World):Prop:=
 if k=9 then∃N z t A n c,xs 8= .pointer (some ⟨N,0,none⟩)/\xs 6= .agg #[.int .i64 z,.string t,.slice A n c]/\B2<=N/\Blk W N 92 #[.int .i64 z,.string t,.slice A n c]else G8 w0 G nw B2 k (xs k) W
def zE(k j:Nat):Bool:=k==9&&(j==8||j==6)
theorem F8.of{G nw:Nat}(h:F8 w0 G nw B2 k xs W)(hk:k≠9):G8 w0 G nw B2 k (xs k) W:=by
 unfold F8 at h;rwa[AL hk]at h
theorem F8.mk{G nw:Nat}(h:G8 w0 G nw B2 k v W)(hk:k≠9):F8 w0 G nw B2 k (upd xs k v) W:=by
 unfold F8;rw[AL hk,iD];exact h
theorem F8.aA{G nw:Nat}(v:Value)(hb:Below W.heap.size W W'):∀k,k≠i->zE k i=false->F8 w0 G nw B2 k xs W->F8 w0 G nw B2 k (upd xs i v) W':=by
 intro k hk hd h;unfold F8 at h⊢;by_cases h9:k=9
 ·rw[AP h9]at h⊢;obtain⟨N,z,t,A,n,c,h1,h2,h3,h4⟩:=h;have h8:8≠i:=λe=>by subst h9 e;cases hd
  have h6:6≠i:=λe=>by subst h9 e;cases hd
  exact⟨N,z,t,A,n,c,by rw[dG xs v h8];exact h1,by rw[dG xs v h6];exact h2,h3,h4.below hb h4.lt⟩
 ·rw[AL h9]at h⊢;rw[dG xs v hk];exact h.below hb
theorem iJ:∀(r:List (List UInt8)) (x:List UInt8),∀y∈x::r,y.length<=(x++aq r).length
 |[],x,y,hy=>by
  simp only[AV,AX,BU]at hy;subst hy;simp
 |z::r,x,y,hy=>by
  have hs:aq (z::r)=32::(z++aq r):=by simp[aq]
  rw[hs,AT,AZ];rcases AV.1 hy with rfl|hy
  ·omega
  ·have:=iJ r z y hy;omega
theorem eh(s:ByteArray):be (aw s)=Lib.splitK [32] 0 (Lib.countB s ⟨#[32]⟩) s.data.toList:=Lib.splitB_data ⟨#[32]⟩ 0 _ s
theorem fN(s:ByteArray)(h:aw s=w0::wr):w0.data.toList++aq (be wr)=s.data.toList:=by
 have h1:=eh s;obtain⟨x,r,h2,h3⟩:=ly (Lib.countB s ⟨#[32]⟩) s.data.toList;rw[h,h2]at h1;simp only[be,BG,List.cons.injEq]at h1;rw[h1.1,show be wr=r from h1.2];exact h3
theorem jU(h:aw s=w0::wr):∀x∈wr,x.size<=s.size:=by
 intro x hx;have h1:=iJ (be wr) w0.data.toList x.data.toList (CF _ (Cq.2 ⟨x,hx,rfl⟩));rw[fN s h]at h1;exact h1
theorem lh:∀(ps:List PD) (a:Ad) (ws:List ByteArray) (p:PD),dh a ws (ps++[p])=(match dh a ws ps with|none=>none|some (a',ws')=>cU a' ws' p)
 |[],a,ws,p=>by
  simp only[CC,dh];cases cU a ws p with
  |none=>rfl
  |some x=>rfl
 |q::ps,a,ws,p=>by
  simp only[BN,dh];cases h:cU a ws q with
  |none=>rfl
  |some x=>exact lh ps x.1 x.2 p
theorem li:∀(ps qs:List PD) (a:Ad) (ws:List ByteArray),dh a ws ps=none->dh a ws (ps++qs)=none
 |[],qs,a,ws,h=>by cases h
 |q::ps,qs,a,ws,h=>by
  simp only[BN,dh]at h⊢;cases hq:cU a ws q with
  |none=>rfl
  |some x=>
   rw[hq]at h;exact li ps qs x.1 x.2 h
theorem lg{ps:List PD}(h:ps[k]?=some p)(a:Ad)(ws:List ByteArray):dh a ws (ps.take (k+1))=(match dh a ws (ps.take k)with|none=>none|some (a',ws')=>cU a' ws' p):=by
 have hk:=(AH.1 h).1;rw[BT,h];exact lh _ _ _ _
theorem uw{b:Ad}{ws r:List ByteArray}(h:cU a ws p=some (b,r)):(∀x∈r,x∈ws)/\r.length<=ws.length:=by
 cases p with
 |numA=>obtain⟨w,rfl,_⟩:=rz h;exact⟨λx hx=>CF _ hx,by simp⟩
 |numB=>obtain⟨w,rfl,_⟩:=ry h;exact⟨λx hx=>CF _ hx,by simp⟩
 |nam=>obtain⟨w,rfl,_⟩:=uu h;exact⟨λx hx=>CF _ hx,by simp⟩
 |met=>obtain⟨w,rfl,_⟩:=uv h;exact⟨λx hx=>CF _ hx,by simp⟩
 |surv=>obtain⟨_,_,rfl⟩:=ru h;exact⟨λx hx=>(by cases hx),AM _⟩
 |rest=>obtain⟨_,_,rfl⟩:=rx h;exact⟨λx hx=>(by cases hx),AM _⟩
theorem qS(h:ax[i]?=some fd)(hp:fd.pds[k]?=some p)(hk:k+1<fd.pds.length):p.list=false:=by
 have hm:=AJ h;unfold ax at hm;simp only[AV,AX,BU]at hm
 rcases hm with rfl|rfl|rfl|rfl|rfl|rfl|rfl|rfl|rfl|rfl|rfl|rfl|rfl|rfl|rfl|rfl<;>(
  simp only[AZ,BS]at hk
  match k,hk with
  |0,_=>simp at hp<;>subst hp<;>rfl
  |1,hk=>first|(exfalso;omega)|(simp at hp<;>subst hp<;>rfl)
  |2,hk=>first|(exfalso;omega)|(simp at hp<;>subst hp<;>rfl)
  |k+3,hk=>exfalso;omega)
theorem Row.other{R:Nat}(h:Row w B A n cs)(hA:∀b o,A=some ⟨b,o,none⟩->R<b)(hw:∀b,b≠R->w'.heap[b]?=w.heap[b]?):Row w' B A n cs:=
 ⟨h.1,λh0=>by
  obtain⟨b,off,h1,h2,h3⟩:=h.2 h0
  exact⟨b,off,h1,h2,λj v hv=>by
   rw[<-h3 j v hv];exact C8 (hw b (by have:=hA b off h1;omega))⟩⟩
theorem Reads.other{R M:Nat}{v:Av}(h:Reads w B v d)(hv:v.apart M)(hRM:R<M)(hw:∀b,b≠R->w'.heap[b]?=w.heap[b]?):Reads w' B v d:=
 ⟨h.k,h.a,h.b,h.nm,h.mt,Row.other h.args (λb o e=>by have:=hv.1 b o e;omega) hw,Row.other h.surv (λb o e=>by have:=hv.2 b o e;omega) hw⟩
theorem mz{b:Nat}(a0 a1 a2 a3 a4 a5 a6:Value)(h:b≠g):
 (((((((w.setCell ⟨g,0,none⟩ a0).setCell ⟨g,1,none⟩ a1).setCell ⟨g,2,none⟩ a2).setCell ⟨g,3,none⟩ a3).setCell ⟨g,4,none⟩ a4).setCell ⟨g,5,none⟩ a5).setCell ⟨g,6,none⟩ a6).heap[b]?=w.heap[b]?:=
 (((((((AG _ _ _ b h).trans (AG _ _ _ b h)).trans (AG _ _ _ b h)).trans (AG _ _ _ b h)).trans (AG _ _ _ b h)).trans (AG _ _ _ b h)).trans (AG _ _ _ b h))
def ParsePost(s:ByteArray)(w:World)(e:Ending)(w':World):Prop:=
 ∃v a,e= .returned (.tuple #[.agg v.cells,.int .i64 (if(bE (aw s)).isSome then 0 else 3)])/\a=(bE (aw s)).getD (bc 0)/\Reads w' w'.heap.size v a/\v.n<=1000000/\v.n2<=1000000/\v.apart w.heap.size/\Below w.heap.size w w'
theorem ParsePost.none(h:bE (aw s)=Option.none)(hb:Below w.heap.size w W):ParsePost s w (.returned (.tuple #[.agg (vOf (bc 0)).cells,.int .i64 3])) W:=
 ⟨vOf (bc 0),bc 0,by rw[h];rfl,by rw[h];rfl,gP rfl rfl,AM _,AM _,gQ _ _,hb⟩
theorem Blk.set7{t:TypeId}{c0 c1 c2 c3 c4 c5 c6 a0 a1 a2 a3 a4 a5 a6:Value}(h:Blk w g t #[c0,c1,c2,c3,c4,c5,c6]):
 Blk (((((((w.setCell ⟨g,0,Option.none⟩ a0).setCell ⟨g,1,Option.none⟩ a1).setCell ⟨g,2,Option.none⟩ a2).setCell ⟨g,3,Option.none⟩ a3).setCell ⟨g,4,Option.none⟩ a4).setCell ⟨g,5,Option.none⟩ a5).setCell ⟨g,6,Option.none⟩ a6) g t #[a0,a1,a2,a3,a4,a5,a6]:=by
 have h7:=((((((h.set 0 a0).set 1 a1).set 2 a2).set 3 a3).set 4 a4).set 5 a5).set 6 a6;simp only[Bw,Cc,Cb]at h7;exact h7
theorem cJ{a:World}(h:Below B a w)(hg:B<=g)(a0 a1 a2 a3 a4 a5 a6:Value):
 Below B a (((((((w.setCell ⟨g,0,Option.none⟩ a0).setCell ⟨g,1,Option.none⟩ a1).setCell ⟨g,2,Option.none⟩ a2).setCell ⟨g,3,Option.none⟩ a3).setCell ⟨g,4,Option.none⟩ a4).setCell ⟨g,5,Option.none⟩ a5).setCell ⟨g,6,Option.none⟩ a6):=
 ((((((h.setCell (p:=⟨g,0,Option.none⟩) hg a0).setCell (p:=⟨g,1,Option.none⟩) hg a1).setCell (p:=⟨g,2,Option.none⟩) hg a2).setCell (p:=⟨g,3,Option.none⟩) hg a3).setCell (p:=⟨g,4,Option.none⟩) hg a4).setCell (p:=⟨g,5,Option.none⟩) hg a5).setCell (p:=⟨g,6,Option.none⟩) hg a6
theorem jG(s:ByteArray)(w:World)(hg:Gl w)(hs:s.size<=999999):Calls Tryz.prog 18 #[.string s] w (ParsePost s w):=by
 have hwl:=gp s;have hsp:=λ(W:World) (m:Int) (hm:W.cell? ⟨0,0,none⟩=some (.int .i64 m))=>Tryz.strings_Split s ⟨#[32]⟩ m W (by omega) hm (by decide);have hcl:=Lib.countB_le ⟨#[32]⟩ (by decide) s.size s (AB _);rw[show Lib.splitB ⟨#[32]⟩ 0 (Lib.countB s ⟨#[32]⟩) s=aw s from rfl,<-hwl]at hsp;have hwl2:(aw s).length<=1000000:=by omega
 have hwl3:1<=(aw s).length:=by omega
 have HG:=H_ hg;have HSP:=H_ hsp;clear hg hwl hsp hcl;go_enter Tryz.func18,Tryz.ntmps18;go_upto_region 1 with fail;have hr0:=Blk.new w 48 (vOf (bc 0)).cells;have hb0:Below w.heap.size w (w.alloc (.cells (vOf (bc 0)).cells 48)):=(AC _ _).alloc (AB _) _;rw[show(#[.int .i64 0,.int .i64 0,.int .i64 0,.string ⟨#[]⟩,.string ⟨#[]⟩,.slice none 0 0,.slice none 0 0]:Array Value)=(vOf (bc 0)).cells from rfl];generalize w.alloc (.cells (vOf (bc 0)).cells 48)=W0 at hr0 hb0⊢;have hlt0:=hr0.lt;have zb0:=hb0.size;obtain⟨R,hR⟩:=nm_ (w.heap.size);rw[hR]at hr0 hlt0⊢;have HL:=H_ hR;have QR:=H_ hr0;have B0:=H_ hb0;obtain⟨mm,hmm⟩:=GlB.mx (HG.out.below B0.out);have HC:=H_ (HSP.out W0 mm hmm);clear hR hr0 hb0 hmm;go_wp2_with fail;refine HC.out.mono ?_;rintro e w2 ⟨rfl,hw2⟩;have b2:Below W0.heap.size W0 w2:=hw2▸(AC _ _).alloc (AB _) _;have hq2:=hw2▸Blk.new W0 9 ((aw s).map Value.string).toArray;have hs2:w2.heap.size=W0.heap.size+1:=by rw[hw2];simp
 have HST:=H_ (Strs.aM (B:=w2.heap.size) hq2 (by omega));have QR2:=H_ (QR.out.below b2 hlt0);have B2:=H_ (B0.out.trans (b2.mono zb0));generalize W0.heap.size=G at*
 clear HC hw2 b2 hq2 QR B0;go_upto_region 2 with fail;obtain⟨nw,hnw⟩:=nm_ ((aw s).length)
 obtain⟨w0,wt,hws⟩:∃w0 wt,aw s=w0::wt:=by
  cases h:aw s with
  |nil=>rw[h]at hwl3;simp at hwl3
  |cons a b=>exact⟨a,b,rfl⟩
 obtain⟨_,_,s',hA,hGlt,hs',hcg⟩:=HST.out.at_ (k:=0) (by omega);simp only[Option.some.injEq,Addr.mk.injEq,Bn]at hA;obtain⟨rfl,rfl⟩:=hA;rw[hws]at hs';simp only[Bt,Option.some.injEq]at hs';subst hs';rw[hnw]at HST hwl2 hwl3⊢;have HWS:=H_ (And.intro hnw hws);clear hnw hws;refine jt (λxs=>{tmps:= #[.string s,undef,.pointer (some ⟨R,0,none⟩),.int .i64 0,.slice (some ⟨G,0,none⟩) nw nw,xs 8,xs 10,undef,undef,undef,undef,undef,.string s,.slice (some ⟨G,0,none⟩) nw nw,xs 5,xs 0,xs 1,xs 2,xs 3,xs 4,xs 6,xs 7,undef,undef,undef,undef,undef,undef,undef,undef,undef,undef,undef,undef,undef,undef,undef,undef,undef,undef,undef,undef,undef,undef,undef,undef,undef,undef,undef,undef,undef,undef,undef,undef,undef,undef,undef,undef,undef,undef,undef,undef],defers:=[]}) (λ_=>undef) (λW=>Below w2.heap.size w2 W) (F8 w0 G nw w2.heap.size) zE (by kernel_rfl) (by kernel_rfl) ?_ rfl (AC _ _).drew ?_ ?_
 ·intro k j hk hd;unfold zE at hd;simp only[Ba,CJ,CE]at hd;obtain⟨rfl,rfl|rfl⟩:=hd<;>kernel_rfl
 ·intro i hi xs W hJ hd
  obtain rfl|rfl|rfl|rfl|rfl|rfl|rfl|rfl|rfl|rfl|rfl:i=0\/i=1\/i=2\/i=3\/i=4\/i=5\/i=6\/i=7\/i=8\/i=9\/i=10:=by
   have:i<11:=hi;omega
  ·refine AE rfl λK hK=>?_;go_simp;refine(we _).mono ?_;rintro e W' ⟨m,kvs,rfl,hm,hw,hmlt,hb⟩;exact hK _ _ ⟨.map (some m),rfl,hJ.trans (hb.mono hJ.size),F8.mk ⟨m,kvs,rfl,hm,hw⟩ (by decide),F8.aA _ hb⟩
  ·refine AE rfl λK hK=>?_;go_simp;exact hK _ _ ⟨.slice (some ⟨G,0,none⟩) nw nw,rfl,hJ,F8.mk rfl (by decide),F8.aA _ (AC _ _)⟩
  ·have e1:=F8.of (hd 1) (by decide);change xs 1=_ at e1;have hz1:(0:Int)<(nw:Int):=by omega
   have hz2:0<nw:=by omega
   refine AE rfl λK hK=>?_;go_simp;refine hK _ _ ⟨.pointer (some ⟨G,0,none⟩),?_,hJ,F8.mk rfl (by decide),F8.aA _ (AC _ _)⟩;rw[<-e1];rfl
  ·have e2:=F8.of (hd 2) (by decide);change xs 2=_ at e2;have hc:=(a8 hJ hGlt 0).trans hcg;refine AE rfl λK hK=>?_;go_simp;exact hK _ _ ⟨.string w0,by rw[<-e2];rfl,hJ,F8.mk rfl (by decide),F8.aA _ (AC _ _)⟩
  ·have e0:=F8.of (hd 0) (by decide);obtain⟨m,kvs,e0,hm,hw⟩:=e0;have e3:=F8.of (hd 3) (by decide);change xs 3=_ at e3;obtain⟨v,ok,hl,hf⟩:=ou hm hw w0;have HFO:=H_ hf;clear hm hw hf;refine AE rfl λK hK=>?_;go_simp;exact hK _ _ ⟨.tuple #[v,.bool ok],by rw[<-e0,<-e3];rfl,hJ,F8.mk ⟨v,ok,rfl,HFO.out⟩ (by decide),F8.aA _ (AC _ _)⟩
  ·obtain⟨x,ok,e4,hf⟩:=F8.of (hd 4) (by decide);have HFO:=H_ hf;clear hf;refine AE rfl λK hK=>?_;go_simp;exact hK _ _ ⟨.tuple #[x,.bool ok],by rw[<-e4];rfl,hJ,F8.mk ⟨x,ok,rfl,HFO.out⟩ (by decide),F8.aA _ (AC _ _)⟩
  ·obtain⟨x,ok,e5,hf⟩:=F8.of (hd 5) (by decide);have HFO:=H_ hf;clear hf;refine AE rfl λK hK=>?_;go_simp;exact hK _ _ ⟨x,by rw[<-e5];rfl,hJ,F8.mk ⟨ok,HFO.out⟩ (by decide),F8.aA _ (AC _ _)⟩
  ·obtain⟨x,ok,e5,hf⟩:=F8.of (hd 5) (by decide);have HFO:=H_ hf;clear hf;refine AE rfl λK hK=>?_;go_simp;exact hK _ _ ⟨.bool ok,by rw[<-e5];rfl,hJ,F8.mk ⟨x,ok,rfl,HFO.out⟩ (by decide),F8.aA _ (AC _ _)⟩
  ·refine AE rfl λK hK=>?_;go_simp;exact hK _ _ ⟨.pointer (some ⟨W.heap.size,0,none⟩),rfl,hJ.alloc hJ.size _,F8.mk ⟨W.heap.size,_,_,_,_,_,rfl,hJ.size,Blk.new W 92 _⟩ (by decide),F8.aA _ ((AC _ _).alloc (AB _) _)⟩
  ·obtain⟨N,z,t,A,n,c,e8,hN,hblk⟩:=F8.of (hd 8) (by decide);obtain⟨ok,hf⟩:=F8.of (hd 6) (by decide);obtain⟨z',t',A',n',c',e6⟩:=hf.agg;obtain⟨r0,r1,r2⟩:=hblk.c3;obtain⟨f0,f1,f2⟩:=hblk.f3;have HN:=H_ hblk;clear hblk hf;refine AE rfl λK hK=>?_;go_simp;refine hK _ _ ⟨undef,by rw[<-e6,<-e8];rfl,fX hJ hN _ _ _,?_,?_⟩
   ·unfold F8;rw[AP rfl];exact⟨N,z',t',A',n',c',by rw[dG xs _ (by decide)];exact e8,by rw[dG xs _ (by decide)];exact e6,hN,HN.out.aO⟩
   ·intro k hk hdk h;have h2:=F8.of h hk;unfold F8;rw[AL hk,dG xs _ hk];exact h2.store HN.out
  ·obtain⟨x,ok,e7,hf⟩:=F8.of (hd 7) (by decide);have HFO:=H_ hf;clear hf;refine AE rfl λK hK=>?_;go_simp;exact hK _ _ ⟨.bool ok,by rw[<-e7];rfl,hJ,F8.mk ⟨x,ok,rfl,HFO.out⟩ (by decide),F8.aA _ (AC _ _)⟩
 ·intro xs W hJ hall
  obtain⟨N,z,t,A,n,c,e8,e6,hN,hblk⟩:∃N z t A n c,xs 8= .pointer (some ⟨N,0,none⟩)/\xs 6= .agg #[.int .i64 z,.string t,.slice A n c]/\w2.heap.size<=N/\Blk W N 92 #[.int .i64 z,.string t,.slice A n c]:=by
   have h:=hall 9 (by decide);unfold F8 at h;rwa[AP rfl]at h
  obtain⟨ok6,hf6⟩:=F8.of (hall 6 (by decide)) (by decide);obtain⟨x10,ok,e10,hf10⟩:=F8.of (hall 10 (by decide)) (by decide);dsimp only;rw[e8,e10,e6]
  have hfin:(ok=true/\∃fd g,eS w0=some fd/\z=fd.k/\t=fd.word/\A=some ⟨g,0,none⟩/\n=fd.pds.length/\c=fd.pds.length/\Parts W W.heap.size g fd.pds)\/ok=false/\eS w0=none:=by
   rcases hf10 with⟨h1,_,h3⟩|⟨fd,g,h1,_,h3,h4⟩
   ·exact .inr ⟨h3,h1⟩
   ·rcases hf6 with⟨h5,_⟩|⟨fd',g',h5,h6,_,h7⟩
    ·rw[h1]at h5;cases h5
    ·rw[h1]at h5;simp only[Option.some.injEq]at h5;subst h5;rw[e6]at h6;unfold fS at h6;simp only[Value.agg.injEq,Array.mk.injEq,List.cons.injEq,Value.int.injEq,Value.string.injEq,Value.slice.injEq,true_and,Bn]at h6;obtain⟨rfl,rfl,rfl,rfl,rfl⟩:=h6;exact .inl ⟨h3,fd,g',h1,rfl,rfl,rfl,rfl,rfl,h7⟩
  have QR3:=hbl QR2 hJ;have B3:=htr B2 hJ;have HST3:=H_ (HST.out.below hJ);have HBLK:=H_ hblk;have hNW:=hblk.lt;have hRw2:=QR2.out.lt;have hwW:=hJ.size;clear hall hf6 hf10 e6 e8 e10 hblk hJ hcg HST QR2 B2;rcases hfin with⟨rfl,fd,g,h1,rfl,rfl,rfl,rfl,rfl,h2⟩|⟨rfl,h1⟩
  ·have HF:=H_ (And.intro h1 h2);clear h1 h2;have q0:=HBLK.out.k0;have hnwz:(1:Int)<=(nw:Int):=by omega
   go_upto_region 7 with fail;obtain⟨w3,hw3⟩:=nm_ (W.alloc (.cells (vOf (bc fd.k)).cells 48));have b3:=bal hw3;have hq3:=hw3▸Blk.new W 48 (vOf (bc fd.k)).cells;have hs3:w3.heap.size=W.heap.size+1:=by rw[<-hw3];simp
   rw[show(#[.int .i64 fd.k,.int .i64 0,.int .i64 0,.string ⟨#[]⟩,.string ⟨#[]⟩,.slice none 0 0,.slice none 0 0]:Array Value)=(vOf (bc fd.k)).cells from rfl,hw3]
   have HS0:Strs W w2.heap.size (some ⟨G,0,none⟩) (wt.length+1) (w0::wt):=by
    have h1:=HST3.out;rw[HWS.out.2]at h1;have h2:=HWS.out.1;rw[HWS.out.2]at h2;rw[show wt.length+1=nw from h2];exact h1
   have hwr:wt.length+1=nw:=by have h2:=HWS.out.1;rw[HWS.out.2]at h2;exact h2
   have hcut:=HS0.cut (c:=nw) (by omega);unfold jo at hcut;rw[By]at hcut;have hnw1:nw-1=wt.length:=by omega
   rw[hnw1];obtain⟨A4,hA4⟩:∃A4,(if nw=1 then some (⟨G,0,none⟩:Addr)else some ⟨G,1,none⟩)=A4:=⟨_,rfl⟩;rw[hA4]at hcut⊢;obtain⟨M,hM⟩:=nm_ (W.heap.size);rw[hM]at hq3 hs3 hNW b3 hwW⊢;have HST4:=H_ ((hcut.below (b3.mono hwW)).more hwW);have QM:=H_ hq3;have QR4:=H_ (QR3.out.below b3 (by omega));have QN:=H_ (HBLK.out.below b3 (by omega));have HP:=H_ ((HF.out.2.below (hM▸b3)).more (Dc hM));have B4:=H_ (B3.out.trans ((hM▸b3:Below W.heap.size W w3).mono B3.out.size));clear hq3 hcut HS0 hA4 q0 hw3 b3 HST3 HBLK QR3 B3;have hfew:=gT (gH HF.out.1).2.choose_spec.2;have hg34:=QN.out.k2;have HWSZ:=H_ (show∀x∈wt,x.size<=1000000 from λx hx=>AW (jU HWS.out.2 x hx) (by omega));have hwrl:wt.length<=1000000:=by omega
   have hwM:w.heap.size<=M:=by have:=HL.out;omega
   have hRM:R<M:=by omega
   go_wp2_with fail
   go_loopw [4,33] (λu i wr=>∃(k:Nat) (ad:Ad) (ws:List ByteArray) (v:Av) (A:Option Addr) (c:Nat),k<=fd.pds.length/\i= .int .i64 k/\u= .slice A ws.length c/\ws.length<=c/\ws.length<=1000000/\v.n<=1000000/\v.n2<=1000000/\Hid (v.apart M)/\
    Hid (dh (bc fd.k) wt (fd.pds.take k)=some (ad,ws))/\Hid (Blk wr M 48 v.cells)/\Hid (Reads wr wr.heap.size v ad)/\Hid (Strs wr M A ws.length ws)/\Hid (∀x∈ws,x∈wt)/\Hid (Below M w3 wr)/\Hid (k<fd.pds.length->v=vOf ad/\ad.args=[]/\ad.surv=[])) (λ_ i _=>fd.pds.length-(intOf i).toNat)
   case atStart=>exact⟨0,bc fd.k,wt,vOf (bc fd.k),A4,wt.length,AM _,rfl,rfl,AB _,hwrl,AM _,AM _,H_ (gQ _ _),H_ rfl,QM,H_ (gP rfl rfl),HST4,H_ λx hx=>hx,H_ (AC _ _),H_ λ_=>⟨rfl,rfl,rfl⟩⟩
   case round=>
    clear hg34 QM HST4;obtain⟨k,ad,ws,v,A,c,hk,rfl,rfl,hwc,hw6,hvn,hvn2,HAP,HRD,HM,HRV,HSW,HIN,HB,HV⟩:=hrel;by_cases hlt:k<fd.pds.length
    ·obtain⟨rfl,hav,hsv⟩:=HV.out hlt;have HVL:=H_ (And.intro hav hsv);clear hav hsv;obtain⟨pd,a,b,cc,dd,hpd,hpv,a0,a1,a2,a3⟩:=(HP.out.below HB.out).at_ hlt;obtain⟨n1,x1,n2,x2,n3,x3,n4,x4,rfl,rfl,rfl,rfl⟩:=hpv.funcs;have hk0:0<=(k:Int):=by omega
     have hk1:(k:Int)<(fd.pds.length:Int):=by omega
     have HPD:=H_ hpd;have HPV:=H_ hpv;clear hpd hpv;go_upto_region 10 with fail;have b5:Below wr.heap.size wr (wr.alloc (.cells #[.func (.func n1) #[] x1,.func (.func n2) #[] x2,.func (.func n3) #[] x3,.func (.func n4) #[] x4] 99)):=(AC _ _).alloc (AB _) _;have hn5:=Blk.new wr 99 #[.func (.func n1) #[] x1,.func (.func n2) #[] x2,.func (.func n3) #[] x3,.func (.func n4) #[] x4];generalize wr.alloc (.cells #[.func (.func n1) #[] x1,.func (.func n2) #[] x2,.func (.func n3) #[] x3,.func (.func n4) #[] x4] 99)=w5 at b5 hn5⊢;have hMq:=HM.out.lt;have HB5:=H_ (HB.out.trans (b5.mono (Be hMq)));have HM5:=H_ (HM.out.below b5 hMq);have HPV5:=H_ (HPV.out.below (b5.mono (Be hMq)));have HSW5:=H_ (HSW.out.below (b5.mono (Be hMq)));have a0:=hn5.k0;clear a1 a2 a3 b5 HB HM HPV HSW hn5;have hrun:=sR HPV5.out M ad HVL.out.1 HVL.out.2 HM5.out ((GlB.below HG.out (B4.out.trans (HB5.out.mono hwM))).more hwM (Be HM5.out.lt)) A ws ws.length c HSW5.out hwc hw6 (λx hx=>HWSZ.out x (HIN.out x hx));have hent:=hrun.enters;have HC:=H_ hrun.calls;clear hrun;go_wp2_with fail;refine HC.out.mono ?_;rintro e w6 ⟨b6,hs6,hres⟩;have HB6:=H_ (HB5.out.trans b6);have QR6:=H_ ((QR4.out.below HB5.out hRM).below b6 hRM);cases hrd:cU ad ws pd with
     |none=>
      rw[hrd]at hres;obtain⟨A',n',c',rfl⟩:=hres
      have hno:bE (aw s)=none:=by
       have h1:dh (bc fd.k) wt (fd.pds.take (k+1))=none:=by
        rw[lg HPD.out,HRD.out];exact hrd
       have h2:=li _ (fd.pds.drop (k+1)) _ _ h1;rw[Bu]at h2;rw[HWS.out.2];unfold bE;dsimp only;rw[HF.out.1];dsimp only;rw[h2]
      have HNO:=H_ hno;have B6:=H_ (B4.out.trans (HB6.out.mono hwM));obtain⟨r0,r1,r2,r3,r4,r5,r6⟩:=QR6.out.z7;obtain⟨f0,f1,f2,f3,f4,f5,f6⟩:=QR6.out.f7;clear hno hrd b6 HC hent a0 HM5 HPV5 HSW5;go_wp2_with fail
      (try simp only[Exit.inBlock,Exit.then])
      refine AO (ab rfl _ _ R 48 _ _ rfl (Blk.set7 QR6.out) Tryz.underlying48 rfl (by kernel_rfl)) rfl ?_;exact ParsePost.none HNO.out (cJ B6.out (by have:=HL.out;omega) _ _ _ _ _ _ _)
     |some y=>
      obtain⟨ad',ws'⟩:=y;rw[hrd]at hres;obtain⟨v',A',c',rfl,hm',hr',hs',hc',hn',hn2',hap',hv'⟩:=hres;have hsub:=uw hrd;have HREL:=H_ (And.intro hm' (And.intro hr' (And.intro hs' (And.intro hap' hv'))))
      have HRD2:=H_ (show dh (bc fd.k) wt (fd.pds.take (k+1))=some (ad',ws')from by
       rw[lg HPD.out,HRD.out];exact hrd)
      have HSUB:=H_ hsub.1;have hsubl:=hsub.2;clear hm' hr' hs' hap' hv' hsub hrd b6 HC hent a0 HM5 HPV5 HSW5;go_wp2_with fail;go_roundw
      case rel=>
       obtain⟨q1,q2,q3,q4,q5⟩:=HREL.out;refine⟨k+1,ad',ws',v',A',c',by omega,by go_num,rfl,hc',by omega,hn',hn2',H_ q4,HRD2,H_ q1,H_ q2,H_ q3,H_ λx hx=>HIN.out x (HSUB.out x hx),HB6,H_ λhk2=>?_⟩;obtain⟨_,i,_,hi⟩:=gH HF.out.1;exact q5 (qS hi HPD.out hk2)
      case measure=>simp[intOf];omega
    ·obtain rfl:k=fd.pds.length:=by omega
     have hrd:=HRD.out;rw[AK (AB _)]at hrd
     have hpw:bE (aw s)=if okD ad=true/\ws=[]then some ad else none:=by
      rw[HWS.out.2];unfold bE;dsimp only;rw[HF.out.1];dsimp only;rw[hrd]
     obtain⟨c0,c1,c2,c3,c4,c5,c6⟩:=HM.out.c7;have hMq:=HM.out.lt;have HPW:=H_ hpw;have BQ:=H_ (B4.out.trans (HB.out.mono hwM));have HC:=H_ (px v ad wr HRV.out (HG.out.below BQ.out) hvn hvn2);clear hrd hpw;go_wp2_with fail;refine HC.out.mono ?_;rintro e w7 ⟨fk,fw,fA,fn,fc,rfl,b7,_⟩;have hs7:=b7.size;obtain⟨w8,hw8⟩:=nm_ (w7.alloc (.cells #[.int .i64 fk,.string fw,.slice fA fn fc] 92));have b8:Below wr.heap.size wr w8:=hw8▸b7.alloc b7.size _;have QR8:=H_ ((QR4.out.below HB.out hRM).below b8 (by omega));have QM8:=H_ (HM.out.below b8 hMq);have B8:=htm BQ b8;have HR8:=H_ ((HRV.out.below b8).more b8.size);have HZ8:=H_ hw8;clear hw8 b8 b7 HC c0 c1 c2 c3 c4 c5 c6;cases hok:okD ad with
     |false=>
      have HNO:=H_ (show bE (aw s)=none from by rw[HPW.out,hok];rfl);clear hok;go_upto_region 15 with fail;rw[HZ8.out];obtain⟨r0,r1,r2,r3,r4,r5,r6⟩:=QR8.out.z7;obtain⟨f0,f1,f2,f3,f4,f5,f6⟩:=QR8.out.f7;go_wp2_with fail
      (try simp only[Exit.inBlock,Exit.then])
      refine AO (ab rfl _ _ R 48 _ _ rfl (Blk.set7 QR8.out) Tryz.underlying48 rfl (by kernel_rfl)) rfl ?_;exact ParsePost.none HNO.out (cJ B8.out (by have:=HL.out;omega) _ _ _ _ _ _ _)
     |true=>
      cases ws with
      |cons x xs=>
       have HNO:=H_ (show bE (aw s)=none from by rw[HPW.out,hok];rfl);obtain⟨nl,hnl⟩:=nm_ (xs.length+1);have hlz:decide ((0:Int)<(nl:Int))=true:=BJ (by omega);clear hok;go_upto_region 15 with fail;rw[HZ8.out];obtain⟨r0,r1,r2,r3,r4,r5,r6⟩:=QR8.out.z7;obtain⟨f0,f1,f2,f3,f4,f5,f6⟩:=QR8.out.f7;go_wp2_with fail
       (try simp only[Exit.inBlock,Exit.then])
       refine AO (ab rfl _ _ R 48 _ _ rfl (Blk.set7 QR8.out) Tryz.underlying48 rfl (by kernel_rfl)) rfl ?_;exact ParsePost.none HNO.out (cJ B8.out (by have:=HL.out;omega) _ _ _ _ _ _ _)
      |nil=>
       have HYES:=H_ (show bE (aw s)=some ad from by rw[HPW.out,hok];rfl);clear hok;go_upto_region 15 with fail;rw[HZ8.out];obtain⟨r0,r1,r2,r3,r4,r5,r6⟩:=QR8.out.z7;obtain⟨f0,f1,f2,f3,f4,f5,f6⟩:=QR8.out.f7;obtain⟨c0,c1,c2,c3,c4,c5,c6⟩:=QM8.out.c7;go_wp2_with fail
       (try simp only[Exit.inBlock,Exit.then])
       refine AO (ab rfl _ _ R 48 _ _ rfl (Blk.set7 QR8.out) Tryz.underlying48 rfl (by kernel_rfl)) rfl ?_;refine⟨v,ad,by rw[HYES.out];rfl,by rw[HYES.out];rfl,?_,hvn,hvn2,HAP.out.less hwM,cJ B8.out (by have:=HL.out;omega) _ _ _ _ _ _ _⟩;have h9:=HR8.out.other HAP.out hRM (λb hb=>mz (w:=w8) (.int .i64 v.k) (.int .i64 v.a) (.int .i64 v.b) (.string v.nm) (.string v.mt) (.slice v.A v.n v.c) (.slice v.A2 v.n2 v.c2) hb);simpa using h9
  ·have HF:=H_ h1;clear h1;obtain⟨r0,r1,r2,r3,r4,r5,r6⟩:=QR3.out.z7;obtain⟨f0,f1,f2,f3,f4,f5,f6⟩:=QR3.out.f7;go_wp2_with fail
   (try simp only[Exit.inBlock,Exit.then])
   refine AO (ab rfl _ _ R 48 _ _ rfl (Blk.set7 QR3.out) Tryz.underlying48 rfl (by kernel_rfl)) rfl ?_;exact ParsePost.none (by rw[HWS.out.2];unfold bE;dsimp only;rw[HF.out]) (cJ B3.out (by have:=HL.out;omega) _ _ _ _ _ _ _)
theorem fE:∀{xs ys:List ByteArray},be xs=be ys->xs=ys
 |[],[],_=>rfl
 |[],y::ys,h=>by cases h
 |x::xs,[],h=>by cases h
 |x::xs,y::ys,h=>by
  simp only[be,BG,List.cons.injEq]at h;rw[AN h.1,fE (show be xs=be ys from h.2)]
theorem qT(h:ax[i]?=some fd):∀c∈fd.word.data.toList,c≠32:=by
 have hm:=AJ h;unfold ax at hm;simp only[AV,AX,BU]at hm;rcases hm with rfl|rfl|rfl|rfl|rfl|rfl|rfl|rfl|rfl|rfl|rfl|rfl|rfl|rfl|rfl|rfl<;>decide
theorem wH(h:jJ d p=true):∀x∈be (dE d p),∀c∈x,c≠32:=by
 intro x hx;obtain⟨y,hy,rfl⟩:=Cq.1 hx;cases p with
 |numA=>simp only[dE,AV,AX,BU]at hy;subst hy;exact gS _
 |numB=>simp only[dE,AV,AX,BU]at hy;subst hy;exact gS _
 |nam k=>simp only[dE,AV,AX,BU]at hy;subst hy;exact pl h
 |met k=>simp only[dE,AV,AX,BU]at hy;subst hy;exact pl h
 |surv=>obtain⟨z,_,rfl⟩:=Cq.1 hy;exact gS _
 |rest=>obtain⟨z,_,rfl⟩:=Cq.1 hy;exact gS _
theorem so(hf:cP d.k=some f)(h:iX d f=true):∀x∈f.word.data.toList::be (f.pds.flatMap (dE d)),∀c∈x,c≠32:=by
 intro x hx;rcases AV.1 hx with rfl|hx
 ·exact qT (fg hf)
 ·obtain⟨y,hy,rfl⟩:=Cq.1 hx;obtain⟨p,hp,hy⟩:=List.mem_flatMap.1 hy;unfold iX at h;rw[Ba]at h;exact wH (Bb.1 h.1 p hp) _ (Cq.2 ⟨y,hy,rfl⟩)
theorem mo(hf:cP d.k=some f)(h:iX d f=true):aw ⟨(dc d).toArray⟩=dp d f:=by
 have h1:=kU d f hf h;have h2:=so hf h;refine fE ?_;rw[eh]
 have h3:dc d=f.word.data.toList++aq (be (f.pds.flatMap (dE d))):=by
  rw[<-h1,show be (dp d f)=f.word.data.toList::be (f.pds.flatMap (dE d))from rfl,Lib.join_cons,eC]
 have h4:Lib.countB ⟨(dc d).toArray⟩ ⟨#[32]⟩=(be (f.pds.flatMap (dE d))).length:=by
  rw[<-qY _ _ h2,<-h3]
 rw[h4];show Lib.splitK [32] 0 _ (dc d)=_;rw[h3,pV _ _ h2];rfl
theorem kT(h:aR d=true):∃f,cP d.k=some f/\iX d f=true:=by
 rw[<-dY]at h;unfold okD at h;cases hf:cP d.k with
 |none=>rw[hf]at h;cases h
 |some f=>
  rw[hf]at h;exact⟨f,rfl,h⟩
theorem sS(d:Ad)(hw:WfA d)(hv:aR d=true):bE (aw ⟨(dc d).toArray⟩)=some d:=by
 obtain⟨f,hf,h⟩:=kT hv;rw[mo hf h];exact qx d f hw hf h
theorem oO(h:bE (aw s)=some a):aR a=true/\dc a=s.data.toList:=by
 cases hs:aw s with
 |nil=>rw[hs]at h;cases h
 |cons w0 wt=>
  rw[hs]at h;obtain⟨f,hf,hok,ht⟩:=oN w0 wt a h
  have hv:aR a=true:=by
   rw[<-dY];unfold okD;rw[hf];exact hok
  refine⟨hv,?_⟩;rw[<-kU a f hf hok,ht,<-fN s hs];show Lib.join (w0.data.toList::be wt) [32]=_;rw[Lib.join_cons,eC]
theorem pM:aw ⟨#[116,117,114,110,32,48,32,49]⟩=[⟨#[116,117,114,110]⟩,⟨#[48]⟩,⟨#[49]⟩]:=by
 refine fE ?_;rw[eh];decide+kernel
theorem pN:aw ⟨#[116,105,99,107,32,32,49]⟩=[⟨#[116,105,99,107]⟩,⟨#[]⟩,⟨#[49]⟩]:=by
 refine fE ?_;rw[eh];decide+kernel
theorem qv:bE (aw ⟨#[116,117,114,110,32,48,32,49]⟩)=none:=by
 rw[pM];unfold bE;dsimp only;rw[show eS ⟨#[116,117,114,110]⟩=some ⟨0,⟨#[116,117,114,110]⟩,[.numA 1 8,.numB 0 1099511627776]⟩from eb (q:=0) (by decide) rfl];dsimp only;have h0:cC ⟨#[48]⟩=0:=by decide+kernel
 simp only[dh,cU,bc,h0]
 have hn:∀b,okD ⟨0,0,b,⟨#[]⟩,⟨#[]⟩,[],[]⟩=false:=λb=>by
  rw[dY];simp[aR,bZ,bL]
 cases h1:bG ⟨#[48]⟩<;>cases h2:bG ⟨#[49]⟩<;>simp[h1,h2,hn]
theorem qw:bE (aw ⟨#[116,105,99,107,32,32,49]⟩)=none:=by
 rw[pN];unfold bE;dsimp only;rw[show eS ⟨#[116,105,99,107]⟩=some ⟨4,⟨#[116,105,99,107]⟩,[.numA 1 8]⟩from eb (q:=4) (by decide) rfl];rfl
def dEx:Ad:=⟨11,2,0,⟨#[97]⟩,⟨#[82,105,110,103]⟩,[3,-1],[]⟩
theorem zQ:WfA dEx:=by
 refine⟨?_,?_,λz hz=>?_,λz hz=>?_⟩
 ·unfold I64 dEx;decide
 ·unfold I64 dEx;decide
 ·simp only[dEx,AV,AX,BU]at hz;unfold I64;omega
 ·simp[dEx]at hz
theorem zw:dc dEx=[115,112,97,119,110,32,50,32,97,32,82,105,110,103,32,51,32,45,49]:=by
 have h1:Lib.itoa 2=[50]:=by unfold Lib.itoa;rw[AL (by decide)];exact cE (by decide)
 have h2:Lib.itoa 3=[51]:=by unfold Lib.itoa;rw[AL (by decide)];exact cE (by decide)
 have h3:Lib.itoa (-1)=[45,49]:=by unfold Lib.itoa;rw[AP (by decide)];exact CU (45:: ·) (cE (by decide))
 have hv:aR dEx=true:=by
  unfold aR bZ dEx cF jw gM gg inB;simp only[Bf];decide+kernel
 unfold dc;rw[AP hv];unfold dEx jW kv gO;simp only[BG,Ct,h1,h2,h3];rfl
theorem wj(w:World)(hg:Gl w):Calls Tryz.prog 7 #[] w λe w'=>e= .returned (.bool true)/\Below w.heap.size w w':=by
 have HG:=H_ hg;have h1:=jG ⟨#[116,117,114,110,32,48,32,49]⟩ w hg (by decide);unfold ParsePost at h1;simp only[qv]at h1;have H1:=H_ h1;clear h1 hg;go_enter Tryz.func7,Tryz.ntmps7;go_wp2_with fail;refine H1.out.mono ?_;rintro e w1 ⟨v1,a1,rfl,_,hr1,_,_,_,b1⟩;have B1:=H_ b1;clear hr1 b1;unfold Av.cells;go_upto_region 2 with fail;obtain⟨w2,hw2⟩:=nm_ (w1.alloc (.cells #[.int .i64 v1.k,.int .i64 v1.a,.int .i64 v1.b,.string v1.nm,.string v1.mt,.slice v1.A v1.n v1.c,.slice v1.A2 v1.n2 v1.c2] 48));have B2:=H_ (hw2▸B1.out.alloc B1.out.size _:Below w.heap.size w w2);rw[hw2];clear hw2;have h2:=jG ⟨#[116,105,99,107,32,32,49]⟩ w2 (HG.out.below B2.out) (by decide);unfold ParsePost at h2;simp only[qw]at h2;have H2:=H_ h2;clear h2;go_wp2_with fail;refine H2.out.mono ?_;rintro e w3 ⟨v2,a2,rfl,_,hr2,_,_,_,b3⟩;have B3:=htr B2 b3;clear hr2 b3;unfold Av.cells;go_upto_region 3 with fail;obtain⟨w4,hw4⟩:=nm_ (w3.alloc (.cells #[.int .i64 v2.k,.int .i64 v2.a,.int .i64 v2.b,.string v2.nm,.string v2.mt,.slice v2.A v2.n v2.c,.slice v2.A2 v2.n2 v2.c2] 48));have B4:=H_ (hw4▸B3.out.alloc B3.out.size _:Below w.heap.size w w4);rw[hw4];clear hw4;have b5:=B4.out.alloc B4.out.size (.cells #[.int .i64 3,.int .i64 (-1)] 2);have hq5:=Blk.new w4 2 #[.int .i64 3,.int .i64 (-1)]
 have hr:Reads (w4.alloc (.cells #[.int .i64 3,.int .i64 (-1)] 2)) (w4.alloc (.cells #[.int .i64 3,.int .i64 (-1)] 2)).heap.size ⟨11,2,0,⟨#[97]⟩,⟨#[82,105,110,103]⟩,some ⟨w4.heap.size,0,none⟩,2,2,none,0,0⟩ dEx:=
  ⟨rfl,rfl,rfl,rfl,rfl,⟨rfl,λ_=>⟨w4.heap.size,0,rfl,by simp,λj v hv=>by rw[By,hq5.cell];simpa[dEx]using hv⟩⟩,Ints.none _ _⟩
 have hf:=xJ _ dEx _ hr (HG.out.below b5) (by show 2<=1000;decide) (by show 0<=1000;decide) (by show 1<=1000;decide) (by show 4<=1000;decide) zQ;rw[zw]at hf;unfold Av.cells at hf;have HF:=H_ hf;have B5:=H_ b5;clear b5 hq5 hr hf;go_wp2_with fail;refine HF.out.mono ?_;rintro e w6 ⟨rfl,b6⟩;have B6:=htr B5 b6;clear b6;go_wp2_with fail;go_ret;exact⟨rfl,B6.out⟩
structure Bx(B p:Nat)(w w':World):Prop where
 os:w'.os=w.os
 tape:w'.tape=w.tape
 output:w'.output=w.output
 size:w.heap.size<=w'.heap.size
 block:∀k,k<B->k≠p->w'.heap[k]?=w.heap[k]?
section
variable{B p:Nat}{a b c w w':World}
theorem Bx.refl(B p:Nat)(w:World):Bx B p w w:=⟨rfl,rfl,rfl,AB _,λ_ _ _=>rfl⟩
theorem Bx.trans(h:Bx B p a b)(k:Bx B p b c):Bx B p a c:=
 ⟨k.os.trans h.os,k.tape.trans h.tape,k.output.trans h.output,AW h.size k.size,λi hi hp=>(k.block i hi hp).trans (h.block i hi hp)⟩
theorem Bx.mono(h:Bx B p w w')(hB:B'<=B):Bx B' p w w':=⟨h.os,h.tape,h.output,h.size,λk hk=>h.block k (AF hk hB)⟩
theorem Bx.of(h:Below B w w'):Bx B p w w':=⟨h.os,h.tape,h.output,h.size,λk hk _=>h.block k hk⟩
theorem Bx.below(h:Bx B p w w')(hB:B'<=B)(hp:B'<=p):Below B' w w':=⟨h.os,h.tape,h.output,h.size,λk hk=>h.block k (by omega) (by omega)⟩
theorem Bx.drew(h:Bx B p a w):Bx B p a w.drew:=⟨h.os,h.tape,h.output,h.size,h.block⟩
theorem Bx.alloc(h:Bx B p a w)(hB:B<=w.heap.size)(o:Obj):Bx B p a (w.alloc o):=h.trans (Bx.of ((AC _ _).alloc hB o))
theorem Bx.setCell(h:Bx B p a w){q:Addr}(hq:B<=q.block\/q.block=p)(u:Value):Bx B p a (w.setCell q u):=
 h.trans ⟨rfl,rfl,rfl,by simp[World.setCell],λk hk hp=>AG _ _ _ _ (by omega)⟩
theorem Bx.grown{row:Option Nat}(h:Bx B p a w)(hg:w.grownBy w' row)(hB:B<=w.heap.size)(hr:∀k,row=some k->B<=k):Bx B p a w':=
 h.trans ⟨hg.os,hg.tape,hg.output,hg.size,λk hk _=>hg.block k (by omega) (λe=>by have:=hr k e.symm;omega)⟩
theorem Bx.aB(h:Bx w.heap.size p w w')(k:Bx w'.heap.size p w' w''):Bx w.heap.size p w w'':=h.trans (k.mono h.size)
theorem Blk.bx{t:TypeId}{cs:Array Value}(h:Blk w g t cs)(hb:Bx B p w w')(hg:g<B)(hp:g≠p):Blk w' g t cs:=(hb.block g hg hp).trans h
theorem bxn{o:Obj}(h:w.alloc o=w'):Bx w.heap.size p w w':=h▸Bx.of ((AC _ _).alloc (AB _) _)
theorem hbx{t:TypeId}{cs:Array Value}(h:Hid (Blk w g t cs))(hb:Bx B p w w')(hg:g<B:=by omega)(hp:g≠p:=by omega):Hid (Blk w' g t cs):=H_ (h.out.bx hb hg hp)
theorem hth(h:Hid (Bx w.heap.size p w w'))(k:Bx w'.heap.size p w' w''):Hid (Bx w.heap.size p w w''):=H_ (h.out.aB k)
variable{w0:World}{g1 g2 g3:Nat}{t1 t2 t3:TypeId}{c1 c2 c3:Array Value}
theorem fr1(F:Hid (Bx w0.heap.size p w0 w))(X1:Hid (Blk w g1 t1 c1))(b:Bx w.heap.size p w w')(h1:g1≠p:=by omega):w.heap.size<=w'.heap.size/\Hid (Bx w0.heap.size p w0 w')/\Hid (Blk w' g1 t1 c1)/\g1<w'.heap.size:=⟨b.size,hth F b,hbx X1 b X1.out.lt h1,AF X1.out.lt b.size⟩
theorem fr2(F:Hid (Bx w0.heap.size p w0 w))(X1:Hid (Blk w g1 t1 c1))(X2:Hid (Blk w g2 t2 c2))(b:Bx w.heap.size p w w')(h1:g1≠p:=by omega)(h2:g2≠p:=by omega):w.heap.size<=w'.heap.size/\Hid (Bx w0.heap.size p w0 w')/\Hid (Blk w' g1 t1 c1)/\g1<w'.heap.size/\Hid (Blk w' g2 t2 c2)/\g2<w'.heap.size:=⟨b.size,hth F b,hbx X1 b X1.out.lt h1,AF X1.out.lt b.size,hbx X2 b X2.out.lt h2,AF X2.out.lt b.size⟩
theorem fr3(F:Hid (Bx w0.heap.size p w0 w))(X1:Hid (Blk w g1 t1 c1))(X2:Hid (Blk w g2 t2 c2))(X3:Hid (Blk w g3 t3 c3))(b:Bx w.heap.size p w w')(h1:g1≠p:=by omega)(h2:g2≠p:=by omega)(h3:g3≠p:=by omega):w.heap.size<=w'.heap.size/\Hid (Bx w0.heap.size p w0 w')/\Hid (Blk w' g1 t1 c1)/\g1<w'.heap.size/\Hid (Blk w' g2 t2 c2)/\g2<w'.heap.size/\Hid (Blk w' g3 t3 c3)/\g3<w'.heap.size:=⟨b.size,hth F b,hbx X1 b X1.out.lt h1,AF X1.out.lt b.size,hbx X2 b X2.out.lt h2,AF X2.out.lt b.size,hbx X3 b X3.out.lt h3,AF X3.out.lt b.size⟩
theorem fn2(X1:Hid (Blk w g1 t1 c1))(X2:Hid (Blk w g2 t2 c2))(b:Bx w.heap.size p w w')(h1:g1≠p:=by omega)(h2:g2≠p:=by omega):w.heap.size<=w'.heap.size/\Hid (Blk w' g1 t1 c1)/\g1<w'.heap.size/\Hid (Blk w' g2 t2 c2)/\g2<w'.heap.size:=⟨b.size,hbx X1 b X1.out.lt h1,AF X1.out.lt b.size,hbx X2 b X2.out.lt h2,AF X2.out.lt b.size⟩
theorem fn3(X1:Hid (Blk w g1 t1 c1))(X2:Hid (Blk w g2 t2 c2))(X3:Hid (Blk w g3 t3 c3))(b:Bx w.heap.size p w w')(h1:g1≠p:=by omega)(h2:g2≠p:=by omega)(h3:g3≠p:=by omega):w.heap.size<=w'.heap.size/\Hid (Blk w' g1 t1 c1)/\g1<w'.heap.size/\Hid (Blk w' g2 t2 c2)/\g2<w'.heap.size/\Hid (Blk w' g3 t3 c3)/\g3<w'.heap.size:=⟨b.size,hbx X1 b X1.out.lt h1,AF X1.out.lt b.size,hbx X2 b X2.out.lt h2,AF X2.out.lt b.size,hbx X3 b X3.out.lt h3,AF X3.out.lt b.size⟩
end
theorem fY(g o j:Nat):(⟨g,o,none⟩:Addr).add j=⟨g,o+j,none⟩:=by unfold Addr.add;split<;>simp_all
def At(w:World)(b off:Nat)(cs:List Value):Prop:=∀j v,cs[j]?=some v->w.cell? ⟨b,off+j,none⟩=some v
theorem At.aA{b:Nat}(h:At w b off cs)(hb:w'.heap[b]?=w.heap[b]?):At w' b off cs:=
 λj v hv=>(C8 (w:=w) (a:=⟨b,off+j,none⟩) hb).trans (h j v hv)
theorem At.aG{t:TypeId}(h:Blk w g t cs.toArray):At w g 0 cs:=λj v hv=>by
 rw[By,h.cell];simpa using hv
theorem At.drop{b:Nat}(h:At w b off (cs++ds)):At w b (off+cs.length) ds:=λj v hv=>by
 rw[Df];exact h _ v (by rw[BX (by omega),Nat.add_sub_cancel_left];exact hv)
theorem At.take{b:Nat}(h:At w b off (cs++ds)):At w b off cs:=λj v hv=>
 h j v (by rw[BH (AH.1 hv).1];exact hv)
theorem At.chunk{b sz:Nat}:∀{css:List (List Value)} {off j:Nat} {cs:List Value},(∀x∈css,x.length=sz)->At w b off css.flatten->css[j]?=some cs->At w b (off+sz*j) cs
 |[],_,_,_,_,_,hj=>by simp at hj
 |x::l,off,0,cs,hl,h,hj=>by
  simp at hj;subst hj;rw[Nat.mul_zero,Nat.add_zero];rw[List.flatten_cons]at h;exact h.take
 |x::l,off,j+1,cs,hl,h,hj=>by
  rw[List.flatten_cons]at h;have h2:=At.chunk (css:=l) (off:=off+sz) (j:=j) (cs:=cs) (λy hy=>hl y (CF _ hy)) (by rw[<-hl x (by simp)];exact h.drop) (by simpa using hj);rw[show off+sz*(j+1)=off+sz+sz*j from by rw[Nat.mul_add];omega];exact h2
structure Kd(α:Type) where
 sz:Nat
 pos:0<sz
 rd:World->(Nat->Prop)->α->List Value->Prop
 len:∀{w G x cs},rd w G x cs->cs.length=sz
 one:∀{w G x cs},rd w G x cs->∀u∈cs,u.oneCell'=true
 aA:∀{w w' G G' x cs},(∀b,G b->G' b/\w'.heap[b]?=w.heap[b]?)->rd w G x cs->rd w' G' x cs
def BD:Nat:=1152921504606846976
def Sl{α:Type}(K:Kd α)(w:World)(G:Nat->Prop)(xs:List α)(A:Option Addr)(n:Nat):Prop:=
 xs.length=n/\n<=BD/\(0<n->∃b off,A=some ⟨b,off,none⟩/\G b/\∀j x,xs[j]?=some x->∃cs,K.rd w G x cs/\At w b (off+K.sz*j) cs)
section
variable{α:Type}{K:Kd α}{w w':World}{G G':Nat->Prop}{xs:List α}{A:Option Addr}{n:Nat}
theorem Sl.aA(hk:∀b,G b->G' b/\w'.heap[b]?=w.heap[b]?)(h:Sl K w G xs A n):Sl K w' G' xs A n:=by
 refine⟨h.1,h.2.1,λh0=>?_⟩;obtain⟨b,off,h1,h2,h3⟩:=h.2.2 h0;refine⟨b,off,h1,(hk b h2).1,λj x hx=>?_⟩;obtain⟨cs,h4,h5⟩:=h3 j x hx;exact⟨cs,K.aA hk h4,h5.aA (hk b h2).2⟩
theorem Sl.nil(w:World)(G:Nat->Prop)(A:Option Addr):Sl K w G [] A 0:=⟨rfl,AM _,λh=>absurd h (by omega)⟩
theorem Sl.at_(h:Sl K w G xs A n)(hk:k<n):∃b off x cs,A=some ⟨b,off,none⟩/\G b/\xs[k]?=some x/\K.rd w G x cs/\At w b (off+K.sz*k) cs:=by
 obtain⟨b,off,h1,h2,h3⟩:=h.2.2 (by omega);have hl:k<xs.length:=by rw[h.1];exact hk
 obtain⟨cs,h4,h5⟩:=h3 k xs[k] (AI hl);exact⟨b,off,xs[k],cs,h1,h2,AI hl,h4,h5⟩
theorem Sl.of{b:Nat}(hl:css.length=xs.length)(hb:xs.length<=BD)(hG:G b)(hat:At w b 0 css.flatten)(hr:∀(j:Nat) x cs,xs[j]?=some x->css[j]?=some cs->K.rd w G x cs):
 Sl K w G xs (some ⟨b,0,none⟩) xs.length:=by
 refine⟨rfl,hb,λ_=>⟨b,0,rfl,hG,λj x hx=>?_⟩⟩;have hj:=(AH.1 hx).1;have hc:css[j]?=some css[j]:=AI (by omega);refine⟨css[j],hr j x _ hx hc,At.chunk (λy hy=>?_) hat hc⟩;obtain⟨i,hi⟩:=List.getElem?_of_mem hy;have hil:i<xs.length:=by have:=(AH.1 hi).1;omega
 exact K.len (hr i xs[i] y (AI hil) hi)
theorem Sl.drop{b:Nat}(h:Sl K w G xs (some ⟨b,off,none⟩) n)(hk:k<=n):Sl K w G (xs.drop k) (some ⟨b,off+K.sz*k,none⟩) (n-k):=by
 refine⟨by rw[BY,h.1],by have:=h.2.1;omega,λh0=>?_⟩;obtain⟨b',off',h1,h2,h3⟩:=h.2.2 (by omega);simp only[Option.some.injEq,Addr.mk.injEq,Bn]at h1;obtain⟨rfl,rfl⟩:=h1;refine⟨b,_,rfl,h2,λj x hx=>?_⟩;rw[CS]at hx;obtain⟨cs,h4,h5⟩:=h3 _ x hx;exact⟨cs,h4,by rw[Df,<-Nat.mul_add];exact h5⟩
theorem Sl.take(h:Sl K w G xs A n)(hk:k<=n):Sl K w G (xs.take k) A k:=by
 refine⟨by rw[Ck,h.1];omega,by have:=h.2.1;omega,λh0=>?_⟩;obtain⟨b',off',h1,h2,h3⟩:=h.2.2 (by omega);refine⟨b',off',h1,h2,λj x hx=>?_⟩;rw[D8]at hx;split at hx
 ·exact h3 j x hx
 ·cases hx
end
def NG(base:Nat)(Z:Nat->Prop)(w:World)(b:Nat):Prop:=base<=b/\b<w.heap.size/\¬Z b
def Vec{α:Type}(K:Kd α)(E:TypeId)(base:Nat)(Z:Nat->Prop)(w:World)(u:Value)(xs:List α):Prop:=
 (∀g,u.ownBlock=some g->¬Z g)/\∃css:List (List Value),w.ownsRow base E K.sz u xs.length css.flatten/\css.length=xs.length/\
   ∀(j:Nat) x cs,xs[j]?=some x->css[j]?=some cs->K.rd w (λb=>NG base Z w b/\u.ownBlock≠some b) x cs
def GG(w:World)(p:Nat)(b:Nat):Prop:=b<w.heap.size/\b≠p
section
variable{α:Type}{K:Kd α}{E:TypeId}{base:Nat}{Z:Nat->Prop}{w w':World}{u:Value}{xs:List α}
theorem NG.mono{b:Nat}(h:NG base Z w b)(hs:w.heap.size<=w'.heap.size):NG base Z w' b:=⟨h.1,AF h.2.1 hs,h.2.2⟩
theorem Vec.nil(K:Kd α)(E:TypeId)(base:Nat)(Z:Nat->Prop)(w:World):Vec K E base Z w (.slice none 0 0) []:=
 ⟨by simp[Value.ownBlock],[],Cy w base E K.sz,rfl,λj x cs h=>by simp at h⟩
theorem Vec.lt(h:Vec K E base Z w u xs):∀k,u.ownBlock=some k->base<=k/\k<w.heap.size:=by
 obtain⟨_,css,h1,_⟩:=h;exact h1.lt
theorem Vec.aA(h:Vec K E base Z w u xs)(hs:w.heap.size<=w'.heap.size)(hb:∀k,NG base Z w k->w'.heap[k]?=w.heap[k]?):Vec K E base Z w' u xs:=by
 obtain⟨hp,css,h1,h2,h3⟩:=h;have hu:∀g,u.ownBlock=some g->w'.heap[g]?=w.heap[g]?:=λg hg=>hb g ⟨(h1.lt g hg).1,(h1.lt g hg).2,hp g hg⟩;refine⟨hp,css,⟨h1.1,?_⟩,h2,λj x cs hx hc=>K.aA (λb hG=>⟨⟨hG.1.mono hs,hG.2⟩,hb b hG.1⟩) (h3 j x cs hx hc)⟩;rcases h1.2 with hn|⟨g,cap,cur,rfl,hbg,hgg,rest⟩
 ·exact .inl hn
 ·exact .inr ⟨g,cap,cur,rfl,hbg,(hu g rfl).trans hgg,rest⟩
theorem hvk{p:Nat}(h:Hid (Vec K E base Z w u xs))(b:Bx w.heap.size p w w')(hp:p<base:=by omega):Hid (Vec K E base Z w' u xs):=H_ (h.out.aA b.size λk hk=>b.block k hk.2.1 (Nat.ne_of_gt (AF hp hk.1)))
theorem Vec.sl(h:Vec K E base Z w u xs)(hb:xs.length<=BD):∃A c,u= .slice A xs.length c/\Sl K w (NG base Z w) xs A xs.length:=by
 obtain⟨hp,css,h1,h2,h3⟩:=h;have hr:∀(j:Nat) x cs,xs[j]?=some x->css[j]?=some cs->K.rd w (NG base Z w) x cs:=λj x cs hx hc=>K.aA (λb hG=>⟨hG.1,rfl⟩) (h3 j x cs hx hc);have hlt:=h1.lt;have hcl:=λg hg=>h1.cells (g:=g) hg;rcases h1.2 with⟨rfl,h0⟩|⟨g,cap,cur,rfl,hbg,hgg,rest⟩
 ·exact⟨none,0,by rw[h0],by have:=Bc h0;subst this;exact Sl.nil _ _ _⟩
 ·refine⟨some ⟨g,0,none⟩,cap,rfl,Sl.of (css:=css) h2 hb ⟨(hlt g rfl).1,(hlt g rfl).2,hp g rfl⟩ (λj v hv=>?_) hr⟩;have:=hcl g rfl j v hv;rwa[fY]at this
theorem Vec.app{ys:List α}{dss:List (List Value)}{u':Value}(hp:∀g,u.ownBlock=some g->¬Z g)(h2:css.length=xs.length)
 (h3:∀(j:Nat) x cs,xs[j]?=some x->css[j]?=some cs->K.rd w (λb=>NG base Z w b/\u.ownBlock≠some b) x cs) (hd:dss.length=ys.length)
 (hx:∀(j:Nat) x cs,ys[j]?=some x->dss[j]?=some cs->K.rd w (λb=>NG base Z w b/\u.ownBlock≠some b) x cs) (hZ:¬Z w.heap.size)
 (hown:w'.ownsRow base E K.sz u' (xs.length+ys.length) (css.flatten++dss.flatten)) (hgrow:w.grownBy w' u.ownBlock) (hat:u'.ownBlock=u.ownBlock\/u'.ownBlock=some w.heap.size):
 Vec K E base Z w' u' (xs++ys):=by
 have hk:∀b,(NG base Z w b/\u.ownBlock≠some b)->(NG base Z w' b/\u'.ownBlock≠some b)/\w'.heap[b]?=w.heap[b]?:=λb ⟨hb1,hb3⟩=>
  ⟨⟨hb1.mono hgrow.size,λe=>by
    rcases hat with e2|e2
    ·exact hb3 (e2▸e)
    ·rw[e2]at e;simp at e;have:=hb1.2.1;omega⟩,hgrow.block b hb1.2.1 (λe=>hb3 e.symm)⟩
 refine⟨λg e=>?_,css++dss,?_,by simp[h2,hd],λj y ds hy hd'=>?_⟩
 ·rcases hat with e2|e2
  ·exact hp g (e2▸e)
  ·rw[e2]at e;simp at e;subst e;exact hZ
 ·rw[List.flatten_append,AT];exact hown
 ·by_cases hj:j<xs.length
  ·rw[BH hj]at hy;rw[BH (by omega)]at hd';exact K.aA hk (h3 j y ds hy hd')
  ·rw[BX (by omega)]at hy;rw[BX (by omega),h2]at hd';exact K.aA hk (hx _ y ds hy hd')
end
def ea:Kd ByteArray where
 sz:=1
 pos:=by decide
 rd:=λ_ _ s cs=>cs=[.string s]
 len:=λh=>by rw[h];rfl
 one:=λh u hu=>by rw[h]at hu;simp at hu;rw[hu];rfl
 aA:=λ_ h=>h
inductive ExC(w:World)(G:Nat->Prop):Ex->List Value->Prop
 |mk (k op z:Int) (nm:ByteArray) (at_:Bool) (args:List Ex) (A:Option Addr) (n c:Nat) (f:Nat->List Value) (hn:args.length=n) (hb:n<=BD)
   (hA:0<n->∃b off,A=some ⟨b,off,none⟩/\G b/\∀j,j<n->At w b (off+6*j) (f j)) (hr:∀(j:Nat) x,args[j]?=some x->ExC w G x (f j)):
   ExC w G (.mk k op z nm at_ args) [.int .i64 k,.int .i64 op,.int .i64 z,.string nm,.bool at_,.slice A n c]
theorem ExC.aA(hk:∀b,G b->G' b/\w'.heap[b]?=w.heap[b]?){x:Ex}(h:ExC w G x cs):ExC w' G' x cs:=by
 induction h with
 |mk k op z nm at_ args A n c f hn hb hA hr ih=>
  refine .mk k op z nm at_ args A n c f hn hb (λh0=>?_) ih;obtain⟨b,off,h1,h2,h3⟩:=hA h0;exact⟨b,off,h1,(hk b h2).1,λj hj=>(h3 j hj).aA (hk b h2).2⟩
def kEx:Kd Ex where
 sz:=6
 pos:=by decide
 rd:=ExC
 len:=λh=>by cases h;rfl
 one:=λh u hu=>by cases h;simp only[AV,AX,BU]at hu;rcases hu with rfl|rfl|rfl|rfl|rfl|rfl<;>rfl
 aA:=λhk h=>ExC.aA hk h
theorem ExC.inv{k op:Int}{nm:ByteArray}{at_:Bool}(h:ExC w G (.mk k op z nm at_ args) cs):
 ∃A n c,cs=[.int .i64 k,.int .i64 op,.int .i64 z,.string nm,.bool at_,.slice A n c]/\Sl kEx w G args A n:=by
 cases h with
 |mk _ _ _ _ _ _ A n c f hn hb hA hr=>
  refine⟨A,n,c,rfl,hn,hb,λh0=>?_⟩;obtain⟨b,off,h1,h2,h3⟩:=hA h0;exact⟨b,off,h1,h2,λj x hx=>⟨f j,hr j x hx,h3 j (by rw[<-hn];exact(AH.1 hx).1)⟩⟩
theorem ExC.of(k op z:Int)(nm:ByteArray)(at_:Bool)(c:Nat)(h:Sl kEx w G args A n):
 ExC w G (.mk k op z nm at_ args) [.int .i64 k,.int .i64 op,.int .i64 z,.string nm,.bool at_,.slice A n c]:=by
 obtain⟨hn,hb,h3⟩:=h;by_cases h0:0<n
 ·obtain⟨b,off,h1,h2,h4⟩:=h3 h0
  have hch:∀j:Nat,∃cs,∀x,args[j]?=some x->ExC w G x cs/\At w b (off+6*j) cs:=λj=>by
   cases hj:args[j]? with
   |none=>exact⟨[],λx hx=>by cases hx⟩
   |some x=>
    obtain⟨cs,h5,h6⟩:=h4 j x hj;exact⟨cs,λy hy=>by cases hy;exact⟨h5,h6⟩⟩
  refine .mk k op z nm at_ args A n c (λj=>Classical.choose (hch j)) hn hb (λ_=>⟨b,off,h1,h2,λj hj=>?_⟩) (λj x hx=>?_)
  ·have hl:j<args.length:=by omega
   exact(Classical.choose_spec (hch j) _ (AI hl)).2
  ·exact(Classical.choose_spec (hch j) x hx).1
 ·refine .mk k op z nm at_ args A n c (λ_=>[]) hn hb (λh=>absurd h h0) (λj x hx=>?_);have:=(AH.1 hx).1;omega
inductive StC(w:World)(G:Nat->Prop):St->List Value->Prop
 |mk (k:Int) (nm:ByteArray) (ex:List Ex) (body els:List St) (A:Option Addr) (n c:Nat) (A2:Option Addr) (n2 c2:Nat) (A3:Option Addr) (n3 c3:Nat) (f g:Nat->List Value) (hx:Sl kEx w G ex A n)
   (hn:body.length=n2) (hb:n2<=BD) (hA:0<n2->∃b off,A2=some ⟨b,off,none⟩/\G b/\∀j,j<n2->At w b (off+5*j) (f j)) (hr:∀(j:Nat) x,body[j]?=some x->StC w G x (f j))
   (hn3:els.length=n3) (hb3:n3<=BD) (hA3:0<n3->∃b off,A3=some ⟨b,off,none⟩/\G b/\∀j,j<n3->At w b (off+5*j) (g j)) (hr3:∀(j:Nat) x,els[j]?=some x->StC w G x (g j)):
   StC w G (.mk k nm ex body els) [.int .i64 k,.string nm,.slice A n c,.slice A2 n2 c2,.slice A3 n3 c3]
theorem StC.aA(hk:∀b,G b->G' b/\w'.heap[b]?=w.heap[b]?){x:St}(h:StC w G x cs):StC w' G' x cs:=by
 induction h with
 |mk k nm ex body els A n c A2 n2 c2 A3 n3 c3 f g hx hn hb hA hr hn3 hb3 hA3 hr3 ih ih3=>
  refine .mk k nm ex body els A n c A2 n2 c2 A3 n3 c3 f g (hx.aA hk) hn hb (λh0=>?_) ih hn3 hb3 (λh0=>?_) ih3
  ·obtain⟨b,off,h1,h2,h3⟩:=hA h0;exact⟨b,off,h1,(hk b h2).1,λj hj=>(h3 j hj).aA (hk b h2).2⟩
  ·obtain⟨b,off,h1,h2,h3⟩:=hA3 h0;exact⟨b,off,h1,(hk b h2).1,λj hj=>(h3 j hj).aA (hk b h2).2⟩
def kSt:Kd St where
 sz:=5
 pos:=by decide
 rd:=StC
 len:=λh=>by cases h;rfl
 one:=λh u hu=>by cases h;simp only[AV,AX,BU]at hu;rcases hu with rfl|rfl|rfl|rfl|rfl<;>rfl
 aA:=λhk h=>StC.aA hk h
theorem StC.inv{k:Int}{nm:ByteArray}(h:StC w G (.mk k nm ex body els) cs):
 ∃A n c A2 n2 c2 A3 n3 c3,cs=[.int .i64 k,.string nm,.slice A n c,.slice A2 n2 c2,.slice A3 n3 c3]/\Sl kEx w G ex A n/\Sl kSt w G body A2 n2/\Sl kSt w G els A3 n3:=by
 cases h with
 |mk _ _ _ _ _ A n c A2 n2 c2 A3 n3 c3 f g hx hn hb hA hr hn3 hb3 hA3 hr3=>
  refine⟨A,n,c,A2,n2,c2,A3,n3,c3,rfl,hx,⟨hn,hb,λh0=>?_⟩,⟨hn3,hb3,λh0=>?_⟩⟩
  ·obtain⟨b,off,h1,h2,h3⟩:=hA h0;exact⟨b,off,h1,h2,λj x hx=>⟨f j,hr j x hx,h3 j (by rw[<-hn];exact(AH.1 hx).1)⟩⟩
  ·obtain⟨b,off,h1,h2,h3⟩:=hA3 h0;exact⟨b,off,h1,h2,λj x hx=>⟨g j,hr3 j x hx,h3 j (by rw[<-hn3];exact(AH.1 hx).1)⟩⟩
theorem Sl.pick{α:Type}{K:Kd α}{xs:List α}(h:Sl K w G xs A n):
 ∃f:Nat->List Value,(0<n->∃b off,A=some ⟨b,off,none⟩/\G b/\∀j,j<n->At w b (off+K.sz*j) (f j))/\∀(j:Nat) x,xs[j]?=some x->K.rd w G x (f j):=by
 obtain⟨hn,hb,h3⟩:=h;by_cases h0:0<n
 ·obtain⟨b,off,h1,h2,h4⟩:=h3 h0
  have hch:∀j:Nat,∃cs,∀x,xs[j]?=some x->K.rd w G x cs/\At w b (off+K.sz*j) cs:=λj=>by
   cases hj:xs[j]? with
   |none=>exact⟨[],λx hx=>by cases hx⟩
   |some x=>
    obtain⟨cs,h5,h6⟩:=h4 j x hj;exact⟨cs,λy hy=>by cases hy;exact⟨h5,h6⟩⟩
  refine⟨λj=>Classical.choose (hch j),λ_=>⟨b,off,h1,h2,λj hj=>?_⟩,λj x hx=>(Classical.choose_spec (hch j) x hx).1⟩;have hl:j<xs.length:=by omega
  exact(Classical.choose_spec (hch j) _ (AI hl)).2
 ·refine⟨λ_=>[],λh=>absurd h h0,λj x hx=>?_⟩;have:=(AH.1 hx).1;omega
theorem StC.of{A2 A3:Option Addr}{n2 n3:Nat}(k:Int)(nm:ByteArray)(c c2 c3:Nat)(h:Sl kEx w G ex A n)(h2:Sl kSt w G body A2 n2)(h3:Sl kSt w G els A3 n3):
 StC w G (.mk k nm ex body els) [.int .i64 k,.string nm,.slice A n c,.slice A2 n2 c2,.slice A3 n3 c3]:=by
 obtain⟨f,f1,f2⟩:=h2.pick;obtain⟨g,g1,g2⟩:=h3.pick;exact .mk k nm ex body els A n c A2 n2 c2 A3 n3 c3 f g h h2.1 h2.2.1 f1 f2 h3.1 h3.2.1 g1 g2
def MeC(w:World)(G:Nat->Prop)(m:Me)(cs:List Value):Prop:=∃A n c A2 n2 c2,cs=[.string m.nm,.slice A n c,.slice A2 n2 c2]/\Sl ea w G m.params A n/\Sl kSt w G m.body A2 n2
def kMe:Kd Me where
 sz:=3
 pos:=by decide
 rd:=MeC
 len:=λh=>by obtain⟨_,_,_,_,_,_,rfl,_⟩:=h;rfl
 one:=λh u hu=>by obtain⟨_,_,_,_,_,_,rfl,_⟩:=h;simp only[AV,AX,BU]at hu;rcases hu with rfl|rfl|rfl<;>rfl
 aA:=λhk h=>by obtain⟨A,n,c,A2,n2,c2,rfl,h1,h2⟩:=h;exact⟨A,n,c,A2,n2,c2,rfl,h1.aA hk,h2.aA hk⟩
def ClC(w:World)(G:Nat->Prop)(m:Cl)(cs:List Value):Prop:=∃A n c A2 n2 c2,cs=[.string m.nm,.bool m.actor,.slice A n c,.slice A2 n2 c2]/\Sl ea w G m.fields A n/\Sl kMe w G m.methods A2 n2
def kCl:Kd Cl where
 sz:=4
 pos:=by decide
 rd:=ClC
 len:=λh=>by obtain⟨_,_,_,_,_,_,rfl,_⟩:=h;rfl
 one:=λh u hu=>by obtain⟨_,_,_,_,_,_,rfl,_⟩:=h;simp only[AV,AX,BU]at hu;rcases hu with rfl|rfl|rfl|rfl<;>rfl
 aA:=λhk h=>by obtain⟨A,n,c,A2,n2,c2,rfl,h1,h2⟩:=h;exact⟨A,n,c,A2,n2,c2,rfl,h1.aA hk,h2.aA hk⟩
end
end Go.Proofs.YtjpbckbpeblibaaGreatDoor
