/- part of a proof -/
import Derived.Test.YtjpbckbpeblibaaGreatDoorCC00
import Derived.Maps.AppendAt
import Derived.BigRegion
import Derived.Deep.DeepFit
import Derived.Deep.DeepCutAuto
import Derived.RegionTactic
import Derived.Laws.EntriesVeiled
import Derived.Laws.Rows
import Derived.Outline
namespace Go.Proofs.YtjpbckbpeblibaaGreatDoor
set_option linter.unusedVariables false
set_option linter.unusedSimpArgs false
set_option maxRecDepth 100000
set_option maxHeartbeats 64000000
section
open Go.RowKit
variable{A A2 A3:Option Addr}{B B' g i j n2 n3 off:Nat}{G G':Nat->Prop}{P:Program}{Q:Ending->World->Prop}{T:List Tk}{a a' b' c' d d' v:Value}{args:List Ex}{body els:List St}{cs ds:List Value}{css:List (List Value)}{fn:Func}{m:Me}{nm:ByteArray}{op:Int}{ty:TypeId}{w w' w'':World}{x:Ex}{α:Type}
theorem El:type_of% @Nat.mul_comm:=@Nat.mul_comm
theorem Et:type_of% @List.mem_cons_of_mem:=@List.mem_cons_of_mem
theorem EP:type_of% @List.getElem?_of_mem:=@List.getElem?_of_mem
theorem F1:type_of% @World.cell?_of_block:=@World.cell?_of_block
theorem Fc:type_of% @Classical.choose_spec:=@Classical.choose_spec
theorem Fd:type_of% @List.length_take:=@List.length_take
theorem FX:type_of% @Nat.add_zero:=@Nat.add_zero
structure Bx(B p:Nat)(w w':World):Prop where
 os:w'.os=w.os
 tape:w'.tape=w.tape
 output:w'.output=w.output
 size:w.heap.size<=w'.heap.size
 block:∀k,k<B->k≠p->w'.heap[k]?=w.heap[k]?
section
variable{B p:Nat}{a b c w w':World}
theorem Bx.refl(B p:Nat)(w:World):Bx B p w w:=⟨rfl,rfl,rfl,DK _,λ_ _ _=>rfl⟩
theorem Bx.trans(h:Bx B p a b)(k:Bx B p b c):Bx B p a c:=
 ⟨k.os.trans h.os,k.tape.trans h.tape,k.output.trans h.output,Ek h.size k.size,λi hi hp=>(k.block i hi hp).trans (h.block i hi hp)⟩
theorem Bx.mono(h:Bx B p w w')(hB:B'<=B):Bx B' p w w':=⟨h.os,h.tape,h.output,h.size,λk hk=>h.block k (DR hk hB)⟩
theorem Bx.of(h:Below B w w'):Bx B p w w':=⟨h.os,h.tape,h.output,h.size,λk hk _=>h.block k hk⟩
theorem Bx.below(h:Bx B p w w')(hB:B'<=B)(hp:B'<=p):Below B' w w':=⟨h.os,h.tape,h.output,h.size,λk hk=>h.block k (by omega) (by omega)⟩
theorem Bx.drew(h:Bx B p a w):Bx B p a w.drew:=⟨h.os,h.tape,h.output,h.size,h.block⟩
theorem Bx.alloc(h:Bx B p a w)(hB:B<=w.heap.size)(o:Obj):Bx B p a (w.alloc o):=h.trans (Bx.of ((DN _ _).alloc hB o))
theorem Bx.setCell(h:Bx B p a w){q:Addr}(hq:B<=q.block\/q.block=p)(u:Value):Bx B p a (w.setCell q u):=
 h.trans ⟨rfl,rfl,rfl,by simp[World.setCell],λk hk hp=>DZ _ _ _ _ (by omega)⟩
theorem Bx.grown{row:Option Nat}(h:Bx B p a w)(hg:w.grownBy w' row)(hB:B<=w.heap.size)(hr:∀k,row=some k->B<=k):Bx B p a w':=
 h.trans ⟨hg.os,hg.tape,hg.output,hg.size,λk hk _=>hg.block k (by omega) (λe=>by have:=hr k e.symm;omega)⟩
theorem Bx.aB(h:Bx w.heap.size p w w')(k:Bx w'.heap.size p w' w''):Bx w.heap.size p w w'':=h.trans (k.mono h.size)
theorem Blk.bx{t:TypeId}{cs:Array Value}(h:Blk w g t cs)(hb:Bx B p w w')(hg:g<B)(hp:g≠p):Blk w' g t cs:=(hb.block g hg hp).trans h
theorem bxn{o:Obj}(h:w.alloc o=w'):Bx w.heap.size p w w':=h▸Bx.of ((DN _ _).alloc (DK _) _)
theorem hbx{t:TypeId}{cs:Array Value}(h:Hid (Blk w g t cs))(hb:Bx B p w w')(hg:g<B:=by omega)(hp:g≠p:=by omega):Hid (Blk w' g t cs):=H_ (h.out.bx hb hg hp)
theorem hth(h:Hid (Bx w.heap.size p w w'))(k:Bx w'.heap.size p w' w''):Hid (Bx w.heap.size p w w''):=H_ (h.out.aB k)
variable{w0:World}{g1 g2 g3:Nat}{t1 t2 t3:TypeId}{c1 c2 c3:Array Value}
theorem fr1(F:Hid (Bx w0.heap.size p w0 w))(X1:Hid (Blk w g1 t1 c1))(b:Bx w.heap.size p w w')(h1:g1≠p:=by omega):w.heap.size<=w'.heap.size/\Hid (Bx w0.heap.size p w0 w')/\Hid (Blk w' g1 t1 c1)/\g1<w'.heap.size:=⟨b.size,hth F b,hbx X1 b X1.out.lt h1,DR X1.out.lt b.size⟩
theorem fn3(X1:Hid (Blk w g1 t1 c1))(X2:Hid (Blk w g2 t2 c2))(X3:Hid (Blk w g3 t3 c3))(b:Bx w.heap.size p w w')(h1:g1≠p:=by omega)(h2:g2≠p:=by omega)(h3:g3≠p:=by omega):w.heap.size<=w'.heap.size/\Hid (Blk w' g1 t1 c1)/\g1<w'.heap.size/\Hid (Blk w' g2 t2 c2)/\g2<w'.heap.size/\Hid (Blk w' g3 t3 c3)/\g3<w'.heap.size:=⟨b.size,hbx X1 b X1.out.lt h1,DR X1.out.lt b.size,hbx X2 b X2.out.lt h2,DR X2.out.lt b.size,hbx X3 b X3.out.lt h3,DR X3.out.lt b.size⟩
end
theorem iL(g o j:Nat):(⟨g,o,none⟩:Addr).add j=⟨g,o+j,none⟩:=by unfold Addr.add;split<;>simp_all
def At(w:World)(b off:Nat)(cs:List Value):Prop:=∀j v,cs[j]?=some v->w.cell? ⟨b,off+j,none⟩=some v
theorem At.aA{b:Nat}(h:At w b off cs)(hb:w'.heap[b]?=w.heap[b]?):At w' b off cs:=
 λj v hv=>(F1 (w:=w) (a:=⟨b,off+j,none⟩) hb).trans (h j v hv)
theorem At.aE{t:TypeId}(h:Blk w g t cs.toArray):At w g 0 cs:=λj v hv=>by
 rw[ET,h.cell];simpa using hv
theorem At.drop{b:Nat}(h:At w b off (cs++ds)):At w b (off+cs.length) ds:=λj v hv=>by
 rw[FT];exact h _ v (by rw[EU (by omega),Nat.add_sub_cancel_left];exact hv)
theorem At.take{b:Nat}(h:At w b off (cs++ds)):At w b off cs:=λj v hv=>
 h j v (by rw[EI (DQ.1 hv).1];exact hv)
theorem At.chunk{b sz:Nat}:∀{css:List (List Value)} {off j:Nat} {cs:List Value},(∀x∈css,x.length=sz)->At w b off css.flatten->css[j]?=some cs->At w b (off+sz*j) cs
 |[],_,_,_,_,_,hj=>by simp at hj
 |x::l,off,0,cs,hl,h,hj=>by
  simp at hj;subst hj;rw[Nat.mul_zero,FX];rw[List.flatten_cons]at h;exact h.take
 |x::l,off,j+1,cs,hl,h,hj=>by
  rw[List.flatten_cons]at h;have h2:=At.chunk (css:=l) (off:=off+sz) (j:=j) (cs:=cs) (λy hy=>hl y (Et _ hy)) (by rw[<-hl x (by simp)];exact h.drop) (by simpa using hj);rw[show off+sz*(j+1)=off+sz+sz*j from by rw[Nat.mul_add];omega];exact h2
structure Kd(α:Type) where
 sz:Nat
 pos:0<sz
 rd:World->(Nat->Prop)->α->List Value->Prop
 len:∀{w G x cs},rd w G x cs->cs.length=sz
 one:∀{w G x cs},rd w G x cs->∀u∈cs,u.oneCell'=true
 aA:∀{w w' G G' x cs},(∀b,G b->G' b/\w'.heap[b]?=w.heap[b]?)->rd w G x cs->rd w' G' x cs
def BD:Nat:=1152921504606846976
def Sl{α:Type}(K:Kd α)(w:World)(G:Nat->Prop)(xs:List α)(A:Option Addr)(n:Nat):Prop:=
 xs.length=n/\n<=BD/\(0<n->∃b off,A=some ⟨b,off,none⟩/\G b/\∀j x,xs[j]?=some x->∃cs,K.rd w G x cs/\At w b (off+K.sz*j) cs)
section
variable{α:Type}{K:Kd α}{w w':World}{G G':Nat->Prop}{xs:List α}{A:Option Addr}{n:Nat}
theorem Sl.aA(hk:∀b,G b->G' b/\w'.heap[b]?=w.heap[b]?)(h:Sl K w G xs A n):Sl K w' G' xs A n:=by
 refine⟨h.1,h.2.1,λh0=>?_⟩;obtain⟨b,off,h1,h2,h3⟩:=h.2.2 h0;refine⟨b,off,h1,(hk b h2).1,λj x hx=>?_⟩;obtain⟨cs,h4,h5⟩:=h3 j x hx;exact⟨cs,K.aA hk h4,h5.aA (hk b h2).2⟩
theorem Sl.nil(w:World)(G:Nat->Prop)(A:Option Addr):Sl K w G [] A 0:=⟨rfl,Ea _,λh=>absurd h (by omega)⟩
theorem Sl.at_(h:Sl K w G xs A n){k:Nat}(hk:k<n):∃b off x cs,A=some ⟨b,off,none⟩/\G b/\xs[k]?=some x/\K.rd w G x cs/\At w b (off+K.sz*k) cs:=by
 obtain⟨b,off,h1,h2,h3⟩:=h.2.2 (by omega);have hl:k<xs.length:=by rw[h.1];exact hk
 obtain⟨cs,h4,h5⟩:=h3 k xs[k] (DT hl);exact⟨b,off,xs[k],cs,h1,h2,DT hl,h4,h5⟩
theorem Sl.of{b:Nat}(hl:css.length=xs.length)(hb:xs.length<=BD)(hG:G b)(hat:At w b 0 css.flatten)(hr:∀(j:Nat) x cs,xs[j]?=some x->css[j]?=some cs->K.rd w G x cs):
 Sl K w G xs (some ⟨b,0,none⟩) xs.length:=by
 refine⟨rfl,hb,λ_=>⟨b,0,rfl,hG,λj x hx=>?_⟩⟩;have hj:=(DQ.1 hx).1;have hc:css[j]?=some css[j]:=DT (by omega);refine⟨css[j],hr j x _ hx hc,At.chunk (λy hy=>?_) hat hc⟩;obtain⟨i,hi⟩:=EP hy;have hil:i<xs.length:=by have:=(DQ.1 hi).1;omega
 exact K.len (hr i xs[i] y (DT hil) hi)
theorem Sl.drop{b k:Nat}(h:Sl K w G xs (some ⟨b,off,none⟩) n)(hk:k<=n):Sl K w G (xs.drop k) (some ⟨b,off+K.sz*k,none⟩) (n-k):=by
 refine⟨by rw[FJ,h.1],by have:=h.2.1;omega,λh0=>?_⟩;obtain⟨b',off',h1,h2,h3⟩:=h.2.2 (by omega);simp only[Option.some.injEq,Addr.mk.injEq,Em]at h1;obtain⟨rfl,rfl⟩:=h1;refine⟨b,_,rfl,h2,λj x hx=>?_⟩;rw[List.getElem?_drop]at hx;obtain⟨cs,h4,h5⟩:=h3 _ x hx;exact⟨cs,h4,by rw[FT,<-Nat.mul_add];exact h5⟩
theorem Sl.take{k:Nat}(h:Sl K w G xs A n)(hk:k<=n):Sl K w G (xs.take k) A k:=by
 refine⟨by rw[Fd,h.1];omega,by have:=h.2.1;omega,λh0=>?_⟩;obtain⟨b',off',h1,h2,h3⟩:=h.2.2 (by omega);refine⟨b',off',h1,h2,λj x hx=>?_⟩;rw[List.getElem?_take]at hx;split at hx
 ·exact h3 j x hx
 ·cases hx
end
def NG(base:Nat)(Z:Nat->Prop)(w:World)(b:Nat):Prop:=base<=b/\b<w.heap.size/\¬Z b
def Vec{α:Type}(K:Kd α)(E:TypeId)(base:Nat)(Z:Nat->Prop)(w:World)(u:Value)(xs:List α):Prop:=
 (∀g,u.ownBlock=some g->¬Z g)/\∃css:List (List Value),w.ownsRow base E K.sz u xs.length css.flatten/\css.length=xs.length/\
   ∀(j:Nat) x cs,xs[j]?=some x->css[j]?=some cs->K.rd w (λb=>NG base Z w b/\u.ownBlock≠some b) x cs
def GG(w:World)(p:Nat)(b:Nat):Prop:=b<w.heap.size/\b≠p
section
variable{α:Type}{K:Kd α}{E:TypeId}{base:Nat}{Z:Nat->Prop}{w w':World}{u:Value}{xs:List α}
theorem NG.mono{b:Nat}(h:NG base Z w b)(hs:w.heap.size<=w'.heap.size):NG base Z w' b:=⟨h.1,DR h.2.1 hs,h.2.2⟩
theorem Vec.nil(K:Kd α)(E:TypeId)(base:Nat)(Z:Nat->Prop)(w:World):Vec K E base Z w (.slice none 0 0) []:=
 ⟨by simp[Value.ownBlock],[],World.ownsRow_nil w base E K.sz,rfl,λj x cs h=>by simp at h⟩
theorem Vec.lt(h:Vec K E base Z w u xs):∀k,u.ownBlock=some k->base<=k/\k<w.heap.size:=by
 obtain⟨_,css,h1,_⟩:=h;exact h1.lt
theorem Vec.aA(h:Vec K E base Z w u xs)(hs:w.heap.size<=w'.heap.size)(hb:∀k,NG base Z w k->w'.heap[k]?=w.heap[k]?):Vec K E base Z w' u xs:=by
 obtain⟨hp,css,h1,h2,h3⟩:=h;have hu:∀g,u.ownBlock=some g->w'.heap[g]?=w.heap[g]?:=λg hg=>hb g ⟨(h1.lt g hg).1,(h1.lt g hg).2,hp g hg⟩;refine⟨hp,css,⟨h1.1,?_⟩,h2,λj x cs hx hc=>K.aA (λb hG=>⟨⟨hG.1.mono hs,hG.2⟩,hb b hG.1⟩) (h3 j x cs hx hc)⟩;rcases h1.2 with hn|⟨g,cap,cur,rfl,hbg,hgg,rest⟩
 ·exact .inl hn
 ·exact .inr ⟨g,cap,cur,rfl,hbg,(hu g rfl).trans hgg,rest⟩
theorem hvk{p:Nat}(h:Hid (Vec K E base Z w u xs))(b:Bx w.heap.size p w w')(hp:p<base:=by omega):Hid (Vec K E base Z w' u xs):=H_ (h.out.aA b.size λk hk=>b.block k hk.2.1 (Nat.ne_of_gt (DR hp hk.1)))
theorem Vec.sl(h:Vec K E base Z w u xs)(hb:xs.length<=BD):∃A c,u= .slice A xs.length c/\Sl K w (NG base Z w) xs A xs.length:=by
 obtain⟨hp,css,h1,h2,h3⟩:=h;have hr:∀(j:Nat) x cs,xs[j]?=some x->css[j]?=some cs->K.rd w (NG base Z w) x cs:=λj x cs hx hc=>K.aA (λb hG=>⟨hG.1,rfl⟩) (h3 j x cs hx hc);have hlt:=h1.lt;have hcl:=λg hg=>h1.cells (g:=g) hg;rcases h1.2 with⟨rfl,h0⟩|⟨g,cap,cur,rfl,hbg,hgg,rest⟩
 ·exact⟨none,0,by rw[h0],by have:=En h0;subst this;exact Sl.nil _ _ _⟩
 ·refine⟨some ⟨g,0,none⟩,cap,rfl,Sl.of (css:=css) h2 hb ⟨(hlt g rfl).1,(hlt g rfl).2,hp g rfl⟩ (λj v hv=>?_) hr⟩;have:=hcl g rfl j v hv;rwa[iL]at this
theorem Vec.app{ys:List α}{dss:List (List Value)}{u':Value}(hp:∀g,u.ownBlock=some g->¬Z g)(h2:css.length=xs.length)
 (h3:∀(j:Nat) x cs,xs[j]?=some x->css[j]?=some cs->K.rd w (λb=>NG base Z w b/\u.ownBlock≠some b) x cs) (hd:dss.length=ys.length)
 (hx:∀(j:Nat) x cs,ys[j]?=some x->dss[j]?=some cs->K.rd w (λb=>NG base Z w b/\u.ownBlock≠some b) x cs) (hZ:¬Z w.heap.size)
 (hown:w'.ownsRow base E K.sz u' (xs.length+ys.length) (css.flatten++dss.flatten)) (hgrow:w.grownBy w' u.ownBlock) (hat:u'.ownBlock=u.ownBlock\/u'.ownBlock=some w.heap.size):
 Vec K E base Z w' u' (xs++ys):=by
 have hk:∀b,(NG base Z w b/\u.ownBlock≠some b)->(NG base Z w' b/\u'.ownBlock≠some b)/\w'.heap[b]?=w.heap[b]?:=λb ⟨hb1,hb3⟩=>
  ⟨⟨hb1.mono hgrow.size,λe=>by
    rcases hat with e2|e2
    ·exact hb3 (e2▸e)
    ·rw[e2]at e;simp at e;have:=hb1.2.1;omega⟩,hgrow.block b hb1.2.1 (λe=>hb3 e.symm)⟩
 refine⟨λg e=>?_,css++dss,?_,by simp[h2,hd],λj y ds hy hd'=>?_⟩
 ·rcases hat with e2|e2
  ·exact hp g (e2▸e)
  ·rw[e2]at e;simp at e;subst e;exact hZ
 ·rw[List.flatten_append,DJ];exact hown
 ·by_cases hj:j<xs.length
  ·rw[EI hj]at hy;rw[EI (by omega)]at hd';exact K.aA hk (h3 j y ds hy hd')
  ·rw[EU (by omega)]at hy;rw[EU (by omega),h2]at hd';exact K.aA hk (hx _ y ds hy hd')
end
def dn:Kd ByteArray where
 sz:=1
 pos:=by decide
 rd:=λ_ _ s cs=>cs=[.string s]
 len:=λh=>by rw[h];rfl
 one:=λh u hu=>by rw[h]at hu;simp at hu;rw[hu];rfl
 aA:=λ_ h=>h
inductive ExC(w:World)(G:Nat->Prop):Ex->List Value->Prop
 |mk (k op z:Int) (nm:ByteArray) (at_:Bool) (args:List Ex) (A:Option Addr) (n c:Nat) (f:Nat->List Value) (hn:args.length=n) (hb:n<=BD)
   (hA:0<n->∃b off,A=some ⟨b,off,none⟩/\G b/\∀j,j<n->At w b (off+6*j) (f j)) (hr:∀(j:Nat) x,args[j]?=some x->ExC w G x (f j)):
   ExC w G (.mk k op z nm at_ args) [.int .i64 k,.int .i64 op,.int .i64 z,.string nm,.bool at_,.slice A n c]
theorem ExC.aA(hk:∀b,G b->G' b/\w'.heap[b]?=w.heap[b]?)(h:ExC w G x cs):ExC w' G' x cs:=by
 induction h with
 |mk k op z nm at_ args A n c f hn hb hA hr ih=>
  refine .mk k op z nm at_ args A n c f hn hb (λh0=>?_) ih;obtain⟨b,off,h1,h2,h3⟩:=hA h0;exact⟨b,off,h1,(hk b h2).1,λj hj=>(h3 j hj).aA (hk b h2).2⟩
def kEx:Kd Ex where
 sz:=6
 pos:=by decide
 rd:=ExC
 len:=λh=>by cases h;rfl
 one:=λh u hu=>by cases h;simp only[DY,DX,Ew]at hu;rcases hu with rfl|rfl|rfl|rfl|rfl|rfl<;>rfl
 aA:=λhk h=>ExC.aA hk h
theorem ExC.inv{k z:Int}{at_:Bool}(h:ExC w G (.mk k op z nm at_ args) cs):
 ∃A n c,cs=[.int .i64 k,.int .i64 op,.int .i64 z,.string nm,.bool at_,.slice A n c]/\Sl kEx w G args A n:=by
 cases h with
 |mk _ _ _ _ _ _ A n c f hn hb hA hr=>
  refine⟨A,n,c,rfl,hn,hb,λh0=>?_⟩;obtain⟨b,off,h1,h2,h3⟩:=hA h0;exact⟨b,off,h1,h2,λj x hx=>⟨f j,hr j x hx,h3 j (by rw[<-hn];exact(DQ.1 hx).1)⟩⟩
theorem ExC.of{n:Nat}(k op z:Int)(nm:ByteArray)(at_:Bool)(c:Nat)(h:Sl kEx w G args A n):
 ExC w G (.mk k op z nm at_ args) [.int .i64 k,.int .i64 op,.int .i64 z,.string nm,.bool at_,.slice A n c]:=by
 obtain⟨hn,hb,h3⟩:=h;by_cases h0:0<n
 ·obtain⟨b,off,h1,h2,h4⟩:=h3 h0
  have hch:∀j:Nat,∃cs,∀x,args[j]?=some x->ExC w G x cs/\At w b (off+6*j) cs:=λj=>by
   cases hj:args[j]? with
   |none=>exact⟨[],λx hx=>by cases hx⟩
   |some x=>
    obtain⟨cs,h5,h6⟩:=h4 j x hj;exact⟨cs,λy hy=>by cases hy;exact⟨h5,h6⟩⟩
  refine .mk k op z nm at_ args A n c (λj=>Classical.choose (hch j)) hn hb (λ_=>⟨b,off,h1,h2,λj hj=>?_⟩) (λj x hx=>?_)
  ·have hl:j<args.length:=by omega
   exact(Fc (hch j) _ (DT hl)).2
  ·exact(Fc (hch j) x hx).1
 ·refine .mk k op z nm at_ args A n c (λ_=>[]) hn hb (λh=>absurd h h0) (λj x hx=>?_);have:=(DQ.1 hx).1;omega
inductive StC(w:World)(G:Nat->Prop):St->List Value->Prop
 |mk (k:Int) (nm:ByteArray) (ex:List Ex) (body els:List St) (A:Option Addr) (n c:Nat) (A2:Option Addr) (n2 c2:Nat) (A3:Option Addr) (n3 c3:Nat) (f g:Nat->List Value) (hx:Sl kEx w G ex A n)
   (hn:body.length=n2) (hb:n2<=BD) (hA:0<n2->∃b off,A2=some ⟨b,off,none⟩/\G b/\∀j,j<n2->At w b (off+5*j) (f j)) (hr:∀(j:Nat) x,body[j]?=some x->StC w G x (f j))
   (hn3:els.length=n3) (hb3:n3<=BD) (hA3:0<n3->∃b off,A3=some ⟨b,off,none⟩/\G b/\∀j,j<n3->At w b (off+5*j) (g j)) (hr3:∀(j:Nat) x,els[j]?=some x->StC w G x (g j)):
   StC w G (.mk k nm ex body els) [.int .i64 k,.string nm,.slice A n c,.slice A2 n2 c2,.slice A3 n3 c3]
theorem StC.aA(hk:∀b,G b->G' b/\w'.heap[b]?=w.heap[b]?){x:St}(h:StC w G x cs):StC w' G' x cs:=by
 induction h with
 |mk k nm ex body els A n c A2 n2 c2 A3 n3 c3 f g hx hn hb hA hr hn3 hb3 hA3 hr3 ih ih3=>
  refine .mk k nm ex body els A n c A2 n2 c2 A3 n3 c3 f g (hx.aA hk) hn hb (λh0=>?_) ih hn3 hb3 (λh0=>?_) ih3
  ·obtain⟨b,off,h1,h2,h3⟩:=hA h0;exact⟨b,off,h1,(hk b h2).1,λj hj=>(h3 j hj).aA (hk b h2).2⟩
  ·obtain⟨b,off,h1,h2,h3⟩:=hA3 h0;exact⟨b,off,h1,(hk b h2).1,λj hj=>(h3 j hj).aA (hk b h2).2⟩
def kSt:Kd St where
 sz:=5
 pos:=by decide
 rd:=StC
 len:=λh=>by cases h;rfl
 one:=λh u hu=>by cases h;simp only[DY,DX,Ew]at hu;rcases hu with rfl|rfl|rfl|rfl|rfl<;>rfl
 aA:=λhk h=>StC.aA hk h
theorem StC.inv{k:Int}{ex:List Ex}(h:StC w G (.mk k nm ex body els) cs):
 ∃A n c A2 n2 c2 A3 n3 c3,cs=[.int .i64 k,.string nm,.slice A n c,.slice A2 n2 c2,.slice A3 n3 c3]/\Sl kEx w G ex A n/\Sl kSt w G body A2 n2/\Sl kSt w G els A3 n3:=by
 cases h with
 |mk _ _ _ _ _ A n c A2 n2 c2 A3 n3 c3 f g hx hn hb hA hr hn3 hb3 hA3 hr3=>
  refine⟨A,n,c,A2,n2,c2,A3,n3,c3,rfl,hx,⟨hn,hb,λh0=>?_⟩,⟨hn3,hb3,λh0=>?_⟩⟩
  ·obtain⟨b,off,h1,h2,h3⟩:=hA h0;exact⟨b,off,h1,h2,λj x hx=>⟨f j,hr j x hx,h3 j (by rw[<-hn];exact(DQ.1 hx).1)⟩⟩
  ·obtain⟨b,off,h1,h2,h3⟩:=hA3 h0;exact⟨b,off,h1,h2,λj x hx=>⟨g j,hr3 j x hx,h3 j (by rw[<-hn3];exact(DQ.1 hx).1)⟩⟩
theorem Sl.pick{K:Kd α}{xs:List α}{n:Nat}(h:Sl K w G xs A n):
 ∃f:Nat->List Value,(0<n->∃b off,A=some ⟨b,off,none⟩/\G b/\∀j,j<n->At w b (off+K.sz*j) (f j))/\∀(j:Nat) x,xs[j]?=some x->K.rd w G x (f j):=by
 obtain⟨hn,hb,h3⟩:=h;by_cases h0:0<n
 ·obtain⟨b,off,h1,h2,h4⟩:=h3 h0
  have hch:∀j:Nat,∃cs,∀x,xs[j]?=some x->K.rd w G x cs/\At w b (off+K.sz*j) cs:=λj=>by
   cases hj:xs[j]? with
   |none=>exact⟨[],λx hx=>by cases hx⟩
   |some x=>
    obtain⟨cs,h5,h6⟩:=h4 j x hj;exact⟨cs,λy hy=>by cases hy;exact⟨h5,h6⟩⟩
  refine⟨λj=>Classical.choose (hch j),λ_=>⟨b,off,h1,h2,λj hj=>?_⟩,λj x hx=>(Fc (hch j) x hx).1⟩;have hl:j<xs.length:=by omega
  exact(Fc (hch j) _ (DT hl)).2
 ·refine⟨λ_=>[],λh=>absurd h h0,λj x hx=>?_⟩;have:=(DQ.1 hx).1;omega
theorem StC.of{ex:List Ex}{n:Nat}(k:Int)(nm:ByteArray)(c c2 c3:Nat)(h:Sl kEx w G ex A n)(h2:Sl kSt w G body A2 n2)(h3:Sl kSt w G els A3 n3):
 StC w G (.mk k nm ex body els) [.int .i64 k,.string nm,.slice A n c,.slice A2 n2 c2,.slice A3 n3 c3]:=by
 obtain⟨f,f1,f2⟩:=h2.pick;obtain⟨g,g1,g2⟩:=h3.pick;exact .mk k nm ex body els A n c A2 n2 c2 A3 n3 c3 f g h h2.1 h2.2.1 f1 f2 h3.1 h3.2.1 g1 g2
def MeC(w:World)(G:Nat->Prop)(m:Me)(cs:List Value):Prop:=∃A n c A2 n2 c2,cs=[.string m.nm,.slice A n c,.slice A2 n2 c2]/\Sl dn w G m.params A n/\Sl kSt w G m.body A2 n2
def kMe:Kd Me where
 sz:=3
 pos:=by decide
 rd:=MeC
 len:=λh=>by obtain⟨_,_,_,_,_,_,rfl,_⟩:=h;rfl
 one:=λh u hu=>by obtain⟨_,_,_,_,_,_,rfl,_⟩:=h;simp only[DY,DX,Ew]at hu;rcases hu with rfl|rfl|rfl<;>rfl
 aA:=λhk h=>by obtain⟨A,n,c,A2,n2,c2,rfl,h1,h2⟩:=h;exact⟨A,n,c,A2,n2,c2,rfl,h1.aA hk,h2.aA hk⟩
def ClC(w:World)(G:Nat->Prop)(m:Cl)(cs:List Value):Prop:=∃A n c A2 n2 c2,cs=[.string m.nm,.bool m.actor,.slice A n c,.slice A2 n2 c2]/\Sl dn w G m.fields A n/\Sl kMe w G m.methods A2 n2
def kCl:Kd Cl where
 sz:=4
 pos:=by decide
 rd:=ClC
 len:=λh=>by obtain⟨_,_,_,_,_,_,rfl,_⟩:=h;rfl
 one:=λh u hu=>by obtain⟨_,_,_,_,_,_,rfl,_⟩:=h;simp only[DY,DX,Ew]at hu;rcases hu with rfl|rfl|rfl|rfl<;>rfl
 aA:=λhk h=>by obtain⟨A,n,c,A2,n2,c2,rfl,h1,h2⟩:=h;exact⟨A,n,c,A2,n2,c2,rfl,h1.aA hk,h2.aA hk⟩
def lw(cs:List Value):Prop:=∀(A:Option Addr) (n c:Nat),Value.slice A n c∈cs->n<=c
inductive ExK(w:World)(G:Nat->Prop):Ex->List Value->Prop
 |mk (k op z:Int) (nm:ByteArray) (at_:Bool) (args:List Ex) (A:Option Addr) (n c:Nat) (f:Nat->List Value) (hn:args.length=n) (hb:n<=BD) (hc:n<=c)
   (hA:0<n->∃b off,A=some ⟨b,off,none⟩/\G b/\∀j,j<n->At w b (off+6*j) (f j)) (hr:∀(j:Nat) x,args[j]?=some x->ExK w G x (f j)):
   ExK w G (.mk k op z nm at_ args) [.int .i64 k,.int .i64 op,.int .i64 z,.string nm,.bool at_,.slice A n c]
theorem ExK.aA(hk:∀b,G b->G' b/\w'.heap[b]?=w.heap[b]?)(h:ExK w G x cs):ExK w' G' x cs:=by
 induction h with
 |mk k op z nm at_ args A n c f hn hb hc hA hr ih=>
  refine .mk k op z nm at_ args A n c f hn hb hc (λh0=>?_) ih;obtain⟨b,off,h1,h2,h3⟩:=hA h0;exact⟨b,off,h1,(hk b h2).1,λj hj=>(h3 j hj).aA (hk b h2).2⟩
def gX:Kd Ex where
 sz:=6
 pos:=by decide
 rd:=ExK
 len:=λh=>by cases h;rfl
 one:=λh u hu=>by cases h;simp only[DY,DX,Ew]at hu;rcases hu with rfl|rfl|rfl|rfl|rfl|rfl<;>rfl
 aA:=λhk h=>ExK.aA hk h
theorem ExK.inv{k z:Int}{at_:Bool}(h:ExK w G (.mk k op z nm at_ args) cs):
 ∃A n c,cs=[.int .i64 k,.int .i64 op,.int .i64 z,.string nm,.bool at_,.slice A n c]/\Sl gX w G args A n:=by
 cases h with
 |mk _ _ _ _ _ _ A n c f hn hb hc hA hr=>
  refine⟨A,n,c,rfl,hn,hb,λh0=>?_⟩;obtain⟨b,off,h1,h2,h3⟩:=hA h0;exact⟨b,off,h1,h2,λj x hx=>⟨f j,hr j x hx,h3 j (by rw[<-hn];exact(DQ.1 hx).1)⟩⟩
theorem oX(h:ExK w G x cs):lw cs:=by
 cases h with
 |mk _ _ _ _ _ _ A n c f hn hb hc hA hr=>
  intro A' n' c' hm;simp only[DY,DX,Ew,reduceCtorEq,false_or,Value.slice.injEq]at hm;omega
theorem ExK.of{n:Nat}(k op z:Int)(nm:ByteArray)(at_:Bool){c:Nat}(hc:n<=c)(h:Sl gX w G args A n):
 ExK w G (.mk k op z nm at_ args) [.int .i64 k,.int .i64 op,.int .i64 z,.string nm,.bool at_,.slice A n c]:=by
 obtain⟨f,f1,f2⟩:=h.pick;exact .mk k op z nm at_ args A n c f h.1 h.2.1 hc f1 f2
theorem ExK.ex(h:ExK w G x cs):ExC w G x cs:=by
 induction h with
 |mk k op z nm at_ args A n c f hn hb hc hA hr ih=>exact .mk k op z nm at_ args A n c f hn hb hA ih
theorem Sl.fgt{K K':Kd α}{xs:List α}{n:Nat}(h:Sl K w G xs A n)(hz:K'.sz=K.sz)(hk:∀x cs,K.rd w G x cs->K'.rd w G x cs):Sl K' w G xs A n:=by
 refine⟨h.1,h.2.1,λh0=>?_⟩;obtain⟨b,off,h1,h2,h3⟩:=h.2.2 h0;refine⟨b,off,h1,h2,λj x hx=>?_⟩;obtain⟨cs,h4,h5⟩:=h3 j x hx;exact⟨cs,hk x cs h4,by rw[hz];exact h5⟩
inductive StK(w:World)(G:Nat->Prop):St->List Value->Prop
 |mk (k:Int) (nm:ByteArray) (ex:List Ex) (body els:List St) (A:Option Addr) (n c:Nat) (A2:Option Addr) (n2 c2:Nat) (A3:Option Addr) (n3 c3:Nat) (f g:Nat->List Value) (hx:Sl gX w G ex A n) (hc:n<=c/\n2<=c2/\n3<=c3)
   (hn:body.length=n2) (hb:n2<=BD) (hA:0<n2->∃b off,A2=some ⟨b,off,none⟩/\G b/\∀j,j<n2->At w b (off+5*j) (f j)) (hr:∀(j:Nat) x,body[j]?=some x->StK w G x (f j))
   (hn3:els.length=n3) (hb3:n3<=BD) (hA3:0<n3->∃b off,A3=some ⟨b,off,none⟩/\G b/\∀j,j<n3->At w b (off+5*j) (g j)) (hr3:∀(j:Nat) x,els[j]?=some x->StK w G x (g j)):
   StK w G (.mk k nm ex body els) [.int .i64 k,.string nm,.slice A n c,.slice A2 n2 c2,.slice A3 n3 c3]
theorem StK.aA(hk:∀b,G b->G' b/\w'.heap[b]?=w.heap[b]?){x:St}(h:StK w G x cs):StK w' G' x cs:=by
 induction h with
 |mk k nm ex body els A n c A2 n2 c2 A3 n3 c3 f g hx hc hn hb hA hr hn3 hb3 hA3 hr3 ih ih3=>
  refine .mk k nm ex body els A n c A2 n2 c2 A3 n3 c3 f g (hx.aA hk) hc hn hb (λh0=>?_) ih hn3 hb3 (λh0=>?_) ih3
  ·obtain⟨b,off,h1,h2,h3⟩:=hA h0;exact⟨b,off,h1,(hk b h2).1,λj hj=>(h3 j hj).aA (hk b h2).2⟩
  ·obtain⟨b,off,h1,h2,h3⟩:=hA3 h0;exact⟨b,off,h1,(hk b h2).1,λj hj=>(h3 j hj).aA (hk b h2).2⟩
def gI:Kd St where
 sz:=5
 pos:=by decide
 rd:=StK
 len:=λh=>by cases h;rfl
 one:=λh u hu=>by cases h;simp only[DY,DX,Ew]at hu;rcases hu with rfl|rfl|rfl|rfl|rfl<;>rfl
 aA:=λhk h=>StK.aA hk h
theorem StK.inv{k:Int}{ex:List Ex}(h:StK w G (.mk k nm ex body els) cs):
 ∃A n c A2 n2 c2 A3 n3 c3,cs=[.int .i64 k,.string nm,.slice A n c,.slice A2 n2 c2,.slice A3 n3 c3]/\Sl gX w G ex A n/\Sl gI w G body A2 n2/\Sl gI w G els A3 n3:=by
 cases h with
 |mk _ _ _ _ _ A n c A2 n2 c2 A3 n3 c3 f g hx hc hn hb hA hr hn3 hb3 hA3 hr3=>
  refine⟨A,n,c,A2,n2,c2,A3,n3,c3,rfl,hx,⟨hn,hb,λh0=>?_⟩,⟨hn3,hb3,λh0=>?_⟩⟩
  ·obtain⟨b,off,h1,h2,h3⟩:=hA h0;exact⟨b,off,h1,h2,λj x hx=>⟨f j,hr j x hx,h3 j (by rw[<-hn];exact(DQ.1 hx).1)⟩⟩
  ·obtain⟨b,off,h1,h2,h3⟩:=hA3 h0;exact⟨b,off,h1,h2,λj x hx=>⟨g j,hr3 j x hx,h3 j (by rw[<-hn3];exact(DQ.1 hx).1)⟩⟩
theorem Dz{x:St}(h:StK w G x cs):lw cs:=by
 cases h with
 |mk _ _ _ _ _ A n c A2 n2 c2 A3 n3 c3 f g hx hc hn hb hA hr hn3 hb3 hA3 hr3=>
  intro A' n' c' hm;simp only[DY,DX,Ew,reduceCtorEq,false_or,Value.slice.injEq]at hm;omega
theorem StK.of{ex:List Ex}{n:Nat}(k:Int)(nm:ByteArray){c c2 c3:Nat}(hc:n<=c/\n2<=c2/\n3<=c3)(h:Sl gX w G ex A n)(h2:Sl gI w G body A2 n2)(h3:Sl gI w G els A3 n3):
 StK w G (.mk k nm ex body els) [.int .i64 k,.string nm,.slice A n c,.slice A2 n2 c2,.slice A3 n3 c3]:=by
 obtain⟨f,f1,f2⟩:=h2.pick;obtain⟨g,g1,g2⟩:=h3.pick;exact .mk k nm ex body els A n c A2 n2 c2 A3 n3 c3 f g h hc h2.1 h2.2.1 f1 f2 h3.1 h3.2.1 g1 g2
theorem StK.st{x:St}(h:StK w G x cs):StC w G x cs:=by
 induction h with
 |mk k nm ex body els A n c A2 n2 c2 A3 n3 c3 f g hx hc hn hb hA hr hn3 hb3 hA3 hr3 ih ih3=>exact .mk k nm ex body els A n c A2 n2 c2 A3 n3 c3 f g (hx.fgt rfl λ_ _ h=>ExK.ex h) hn hb hA ih hn3 hb3 hA3 ih3
def MeK(w:World)(G:Nat->Prop)(m:Me)(cs:List Value):Prop:=∃A n c A2 n2 c2,cs=[.string m.nm,.slice A n c,.slice A2 n2 c2]/\Sl dn w G m.params A n/\Sl gI w G m.body A2 n2/\n<=c/\n2<=c2
theorem MeK.inv(h:MeK w G m cs):∃A n c A2 n2 c2,cs=[.string m.nm,.slice A n c,.slice A2 n2 c2]/\Sl dn w G m.params A n/\Sl gI w G m.body A2 n2:=by
 obtain⟨A,n,c,A2,n2,c2,h1,h2,h3,_⟩:=h;exact⟨A,n,c,A2,n2,c2,h1,h2,h3⟩
theorem DA(h:MeK w G m cs):lw cs:=by
 obtain⟨A,n,c,A2,n2,c2,rfl,_,_,h4,h5⟩:=h;intro A' n' c' hm;simp only[DY,DX,Ew,reduceCtorEq,false_or,Value.slice.injEq]at hm;omega
def nr:Kd Me where
 sz:=3
 pos:=by decide
 rd:=MeK
 len:=λh=>by obtain⟨_,_,_,_,_,_,rfl,_⟩:=h;rfl
 one:=λh u hu=>by obtain⟨_,_,_,_,_,_,rfl,_⟩:=h;simp only[DY,DX,Ew]at hu;rcases hu with rfl|rfl|rfl<;>rfl
 aA:=λhk h=>by obtain⟨A,n,c,A2,n2,c2,rfl,h1,h2,h3⟩:=h;exact⟨A,n,c,A2,n2,c2,rfl,h1.aA hk,h2.aA hk,h3⟩
theorem MeK.me(h:MeK w G m cs):MeC w G m cs:=by
 obtain⟨A,n,c,A2,n2,c2,h1,h2,h3,_⟩:=h;exact⟨A,n,c,A2,n2,c2,h1,h2,h3.fgt rfl λ_ _ h=>StK.st h⟩
def ClK(w:World)(G:Nat->Prop)(m:Cl)(cs:List Value):Prop:=∃A n c A2 n2 c2,cs=[.string m.nm,.bool m.actor,.slice A n c,.slice A2 n2 c2]/\Sl dn w G m.fields A n/\Sl nr w G m.methods A2 n2/\n<=c/\n2<=c2
theorem ClK.inv{m:Cl}(h:ClK w G m cs):∃A n c A2 n2 c2,cs=[.string m.nm,.bool m.actor,.slice A n c,.slice A2 n2 c2]/\Sl dn w G m.fields A n/\Sl nr w G m.methods A2 n2:=by
 obtain⟨A,n,c,A2,n2,c2,h1,h2,h3,_⟩:=h;exact⟨A,n,c,A2,n2,c2,h1,h2,h3⟩
def fh:Kd Cl where
 sz:=4
 pos:=by decide
 rd:=ClK
 len:=λh=>by obtain⟨_,_,_,_,_,_,rfl,_⟩:=h;rfl
 one:=λh u hu=>by obtain⟨_,_,_,_,_,_,rfl,_⟩:=h;simp only[DY,DX,Ew]at hu;rcases hu with rfl|rfl|rfl|rfl<;>rfl
 aA:=λhk h=>by obtain⟨A,n,c,A2,n2,c2,rfl,h1,h2,h3⟩:=h;exact⟨A,n,c,A2,n2,c2,rfl,h1.aA hk,h2.aA hk,h3⟩
theorem ClK.cl{m:Cl}(h:ClK w G m cs):ClC w G m cs:=by
 obtain⟨A,n,c,A2,n2,c2,h1,h2,h3,_⟩:=h;exact⟨A,n,c,A2,n2,c2,h1,h2,h3.fgt rfl λ_ _ h=>MeK.me h⟩
theorem Sl.cls{xs:List Cl}{n:Nat}(h:Sl fh w G xs A n):Sl kCl w G xs A n:=h.fgt rfl λ_ _ h=>ClK.cl h
def tkC(x:Tk):List Value:=[.int .i64 x.1,.string x.2.1,.int .i64 x.2.2.1,.int .i64 x.2.2.2]
def tkV(x:Tk):Value:= .agg #[.int .i64 x.1,.string x.2.1,.int .i64 x.2.2.1,.int .i64 x.2.2.2]
structure Wf(T:List Tk):Prop where
 pos:1<=T.length
 few:T.length<=20000
 last:(tk T (T.length-1)).1=0
theorem Wf.next(h:Wf T)(hi:i<T.length)(hk:(tk T i).1≠0):i+1<T.length:=by
 rcases ES (i+1) T.length with h1|h1
 ·exact h1
 ·have:i=T.length-1:=by omega
  subst this;exact absurd h.last hk
def TokAt(w:World)(p:Nat)(A:Option Addr)(T:List Tk):Prop:=∃b off,A=some ⟨b,off,none⟩/\b<p/\At w b off (T.map tkC).flatten
theorem TokAt.cell{p:Nat}(h:TokAt w p A T)(hi:i<T.length):
 ∃b off,A=some ⟨b,off,none⟩/\b<p/\At w b (off+4*i) (tkC (tk T i)):=by
 obtain⟨b,off,h1,h2,h3⟩:=h;refine⟨b,off,h1,h2,At.chunk (css:=T.map tkC) (λx hx=>?_) h3 ?_⟩
 ·obtain⟨y,_,rfl⟩:=EB.1 hx;rfl
 ·unfold tk;rw[Eu,Es,DT hi];rfl
structure PS(w:World)(p:Nat)(A:Option Addr)(c:Nat)(T:List Tk)(i:Nat):Prop where
 aE:Blk w p 203 #[.slice A T.length c,.int .i64 i]
 tok:TokAt w p A T
 wf:Wf T
 lt:i<T.length
section
variable{w w':World}{p c i:Nat}{A:Option Addr}{T:List Tk}
theorem TokAt.bx(h:TokAt w p A T)(hb:Bx B p w w')(hB:p<=B):TokAt w' p A T:=by
 obtain⟨b,off,h1,h2,h3⟩:=h;exact⟨b,off,h1,h2,h3.aA (hb.block b (by omega) (by omega))⟩
theorem PS.below(h:PS w p A c T i)(hb:Below w.heap.size w w'):PS w' p A c T i:=
 ⟨h.aE.below hb h.aE.lt,h.tok.bx (Bx.of hb) (by have:=h.aE.lt;omega),h.wf,h.lt⟩
theorem PS.move(h:PS w p A c T i)(hj:j<T.length):PS (w.setCell ⟨p,1,none⟩ (.int .i64 j)) p A c T j:=by
 refine⟨h.aE.set 1 _,?_,h.wf,hj⟩;obtain⟨b,off,h1,h2,h3⟩:=h.tok;exact⟨b,off,h1,h2,h3.aA (DZ _ _ _ _ (by show b≠p;omega))⟩
end
theorem ov{p:Tmp}(h:fn.results= #[.cell p ty])(tmps:Array Value)(w:World)(g:Nat)(t:TypeId)(cs:Array Value)(d:TypeDesc)
 (hp:tmps.getD p undef= .pointer (some ⟨g,0,none⟩)) (hg:Blk w g t cs)
 (hu:P.underlying ty=some d) (hd:(match d with| .struct _| .array _ _=>true|_=>false)=true) (hi:(P.info? ty).map (·.size)=some cs.size):
 (results fn tmps).run P w= .ok (.agg cs) w:=results_cell_row h tmps w g t cs (0,0) d hp hg hu hd hi
theorem rm{p:Tmp}{tmps:Array Value}{R:Ending->World->Prop}(g:Nat)(t:TypeId)(cs:Array Value)(d:TypeDesc)(h:fn.results= #[.cell p ty])
 (hp:tmps.getD p undef= .pointer (some ⟨g,0,none⟩)) (hg:Blk w g t cs)
 (hu:P.underlying ty=some d) (hd:(match d with| .struct _| .array _ _=>true|_=>false)=true) (hi:(P.info? ty).map (·.size)=some cs.size) (hR:R (.returned (.agg cs)) w):
 bodyPost P fn R .ret {tmps:=tmps,defers:=[]} w:=bodyPost_ret (ov h tmps w g t cs d hp hg hu hd hi) rfl hR
theorem Blk.set4'{t:TypeId}{b c:Value}(h:Blk w g t #[a,b,c,d]):
 Blk ((((w.setCell ⟨g,0,none⟩ a').setCell ⟨g,1,none⟩ b').setCell ⟨g,2,none⟩ c').setCell ⟨g,3,none⟩ d') g t #[a',b',c',d']:=
 (((h.set 0 a').set 1 b').set 2 c').set 3 d'
theorem qP{a:World}(h:Below B a w)(hg:B<=g)(a' b' c' d':Value):
 Below B a ((((w.setCell ⟨g,0,none⟩ a').setCell ⟨g,1,none⟩ b').setCell ⟨g,2,none⟩ c').setCell ⟨g,3,none⟩ d'):=
 (((h.setCell (p:=⟨g,0,none⟩) hg a').setCell (p:=⟨g,1,none⟩) hg b').setCell (p:=⟨g,2,none⟩) hg c').setCell (p:=⟨g,3,none⟩) hg d'
theorem gG(p i c:Nat)(A:Option Addr)(T:List Tk)(w:World)(h:PS w p A c T i):
 Calls Tryz.prog 134 #[.pointer (some ⟨p,0,none⟩)] w λe w'=>e= .returned (tkV (tk T i))/\Below w.heap.size w w':=by
 unfold tkV;obtain⟨b,off,hA,hb,hat⟩:=h.tok.cell h.lt;subst hA;have hp:=h.aE.lt;have hn:=h.wf.few;have hlt:=h.lt;generalize tk T i=x at hat⊢;obtain⟨k,t,v,q⟩:=x;have HP:=H_ h.aE;have HAT:=H_ hat
 clear h hat
 go_enter Tryz.func134,Tryz.ntmps134;go_upto_region 1 with(fail);obtain⟨w0,hw0⟩:=nm_ (w.alloc (.cells #[.int .i64 0,.string ⟨#[]⟩,.int .i64 0,.int .i64 0] 162));have q0:=hnw hw0;have b0:=hba hw0;rw[hw0];clear hw0;have HP0:=HP.out.below b0.out hp;obtain⟨c0,c1⟩:=HP0.c2;have hb':b<w.heap.size:=by omega
 have d0:w0.cell? ⟨b,off+i*4,none⟩=some (.int .i64 k):=(ab b0.out hb' _).trans (by have:=HAT.out 0 _ rfl;rwa[El]at this);have d1:w0.cell? ⟨b,off+i*4+1,none⟩=some (.string t):=(ab b0.out hb' _).trans (by have:=HAT.out 1 _ rfl;rwa[El]at this);have d2:w0.cell? ⟨b,off+i*4+2,none⟩=some (.int .i64 v):=(ab b0.out hb' _).trans (by have:=HAT.out 2 _ rfl;rwa[El]at this);have d3:w0.cell? ⟨b,off+i*4+3,none⟩=some (.int .i64 q):=(ab b0.out hb' _).trans (by have:=HAT.out 3 _ rfl;rwa[El]at this);clear HP0;have hd:decide (i<T.length)=true:=by simpa using hlt
 go_quiet (fail);go_wp2;have q1:=H_ (show Blk (w0.drewN nq) w.heap.size 162 _ from q0.out);have b1:=H_ (show Below w.heap.size w (w0.drewN nq)from⟨b0.out.os,b0.out.tape,b0.out.output,b0.out.size,b0.out.block⟩);have e0:(w0.drewN nq).cell? ⟨p,0,none⟩=some (.slice (some ⟨b,off,none⟩) T.length c):=c0;have e1:(w0.drewN nq).cell? ⟨p,1,none⟩=some (.int .i64 i):=c1;have f0:(w0.drewN nq).cell? ⟨b,off+i*4,none⟩=some (.int .i64 k):=d0;have f1:(w0.drewN nq).cell? ⟨b,off+i*4+1,none⟩=some (.string t):=d1;have f2:(w0.drewN nq).cell? ⟨b,off+i*4+2,none⟩=some (.int .i64 v):=d2;have f3:(w0.drewN nq).cell? ⟨b,off+i*4+3,none⟩=some (.int .i64 q):=d3;clear c0 c1 d0 d1 d2 d3 q0 b0;generalize w0.drewN nq=W at*
 obtain⟨g0,g1,g2,g3⟩:=q1.out.c4;obtain⟨h0,h1,h2,h3⟩:=q1.out.f4;go_region;go_wp2;refine rm w.heap.size 162 #[.int .i64 k,.string t,.int .i64 v,.int .i64 q] _ rfl (by simp) ?_ Tryz.underlying162 rfl (by kernel_rfl) ⟨rfl,?_⟩
 ·exact q1.out.set4'
 ·exact(qP b1.out (DK _) _ _ _ _).drew
def gU(T:List Tk)(j:Nat):Ending:= .panicked [{v:= .iface 201 (.int .i64 (tk T j).2.2.2),recovered:=false}]
theorem xQ(a b c d:Value)(w:World):(Instr.field 162 (.agg #[a,b,c,d]) 3).run Tryz.prog w= .ok d w:=by kernel_rfl
theorem qB(a b c d:Value)(w:World):(Instr.field 162 (.agg #[a,b,c,d]) 0).run Tryz.prog w= .ok a w:=by kernel_rfl
theorem Aa:Tryz.prog.concrete 201=true:=by kernel_rfl
theorem oO(p i c:Nat)(A:Option Addr)(T:List Tk)(w:World)(h:PS w p A c T i):
 Calls Tryz.prog 135 #[.pointer (some ⟨p,0,none⟩)] w λe w'=>e=gU T i/\Below w.heap.size w w':=by
 have HN:=H_ (gG p i c A T w h);clear h;unfold gU;unfold tkV at HN;generalize tk T i=x at HN⊢;obtain⟨k,t,v,q⟩:=x;have hc:=Aa;have hf:=xQ;go_enter Tryz.func135,Tryz.ntmps135;go_wp2_with fail;refine HN.out.mono ?_;rintro e w1 ⟨rfl,b1⟩;go_wp2_with fail;exact⟨rfl,rfl,b1⟩
theorem yv{a b:ByteArray}(h:a≠b):(a.toList==b.toList)=false:=DM.2 λe=>h (by rw[EN,EN]at e;exact Eh e)
theorem tu(p i c:Nat)(A:Option Addr)(T:List Tk)(s:ByteArray)(w:World)(h:PS w p A c T i):
 Calls Tryz.prog 136 #[.pointer (some ⟨p,0,none⟩),.string s] w λe w'=>e= .returned (.bool (isT T s i))/\Below w.heap.size w w':=by
 have HN:=H_ (gG p i c A T w h);clear h;unfold isT;unfold tkV at HN;generalize tk T i=x at HN⊢;obtain⟨k,t,v,q⟩:=x;simp only at HN⊢;by_cases hts:t=s
 ·subst hts;by_cases h4:k=4
  ·subst h4;go_enter Tryz.func136,Tryz.ntmps136;go_wp2_with fail;refine HN.out.mono ?_;rintro e w1 ⟨rfl,b1⟩;go_wp2_with fail;go_ret;exact⟨aa (by simp),b1.alloc b1.size _⟩
  ·have h4':=DM.2 h4;by_cases h5:k=5
   ·subst h5;go_enter Tryz.func136,Tryz.ntmps136;go_wp2_with fail;refine HN.out.mono ?_;rintro e w1 ⟨rfl,b1⟩;go_wp2_with fail;go_ret;exact⟨aa (by simp),b1.alloc b1.size _⟩
   ·have h5':=DM.2 h5;go_enter Tryz.func136,Tryz.ntmps136;go_wp2_with fail;refine HN.out.mono ?_;rintro e w1 ⟨rfl,b1⟩;go_wp2_with fail;go_ret;exact⟨aa (by simp[h4,h5]),b1.alloc b1.size _⟩
 ·have hne:=yv hts;have HT:=H_ hts;clear hts;go_enter Tryz.func136,Tryz.ntmps136;go_wp2_with fail;refine HN.out.mono ?_;rintro e w1 ⟨rfl,b1⟩;go_wp2_with fail;go_ret;exact⟨aa (by simp[HT.out]),b1.alloc b1.size _⟩
theorem mG(h:Wf T){s:ByteArray}(hi:i<T.length)(ht:isT T s i=true):i+1<T.length:=
 h.next hi (by unfold isT at ht;intro e;simp[e]at ht)
theorem lT(p i c:Nat)(A:Option Addr)(T:List Tk)(s:ByteArray)(w:World)(h:PS w p A c T i)(ht:isT T s i=true):
 Calls Tryz.prog 210 #[.pointer (some ⟨p,0,none⟩),.string s] w λe w'=>e= .returned (.bool true)/\PS w' p A c T (i+1)/\Bx w.heap.size p w w':=by
 have HN:=H_ (tu p i c A T s w h);rw[ht]at HN;have hi:=h.lt;have hn:=h.wf.few;have HI:=H_ (mG h.wf h.lt ht);have HP:=H_ h;clear h ht;go_enter Tryz.func210,Tryz.ntmps210;go_wp2_with fail;refine HN.out.mono ?_;rintro e w1 ⟨rfl,b1⟩;have P1:=H_ (HP.out.below b1);have B1:=H_ b1;have c1:=P1.out.aE.k1;have f1:=P1.out.aE.frozen 1;clear b1;go_wp2_with fail;go_ret;have h2:=P1.out.move HI.out;simp only[Int.natCast_add,Int.cast_ofNat_Int]at h2;exact⟨rfl,h2,(Bx.of (p:=p) B1.out).setCell (q:=⟨p,1,none⟩) (.inr rfl) _⟩
theorem lA(p i c:Nat)(A:Option Addr)(T:List Tk)(s:ByteArray)(w:World)(h:PS w p A c T i)(ht:isT T s i=false):
 Calls Tryz.prog 210 #[.pointer (some ⟨p,0,none⟩),.string s] w λe w'=>e= .returned (.bool false)/\Below w.heap.size w w':=by
 have HN:=H_ (tu p i c A T s w h);rw[ht]at HN;clear h ht;go_enter Tryz.func210,Tryz.ntmps210;go_wp2_with fail;refine HN.out.mono ?_;rintro e w1 ⟨rfl,b1⟩;go_wp2_with fail;go_ret;exact⟨rfl,b1⟩
theorem zV(p i c:Nat)(A:Option Addr)(T:List Tk)(s:ByteArray)(g o c2:Nat)(w:World)(h:PS w p A c T i)(hc:w.cell? ⟨g,o,none⟩=some (.string s))(ht:isT T s i=true):
 Calls Tryz.prog 209 #[.pointer (some ⟨p,0,none⟩),.slice (some ⟨g,o,none⟩) 1 c2] w λe w'=>e= .returned (.tuple #[])/\PS w' p A c T (i+1)/\Bx w.heap.size p w w':=by
 have HN:=H_ (lT p i c A T s w h ht);clear h ht;go_enter Tryz.func209,Tryz.ntmps209;go_wp2_with fail;refine wp_loop_rounds 2 ?_;rw[rounds_succ];go_wp2_with fail;refine HN.out.mono ?_;rintro e w1 ⟨rfl,h1,b1⟩;have H1:=H_ h1;have B1:=H_ b1;clear h1 b1;go_wp2_with fail;rw[rounds_succ];go_wp2_with fail;go_end0;exact⟨rfl,H1.out,B1.out⟩
theorem BT(p i c:Nat)(A:Option Addr)(T:List Tk)(s:ByteArray)(g o c2:Nat)(w:World)(h:PS w p A c T i)(hc:w.cell? ⟨g,o,none⟩=some (.string s))(ht:isT T s i=false):
 Calls Tryz.prog 209 #[.pointer (some ⟨p,0,none⟩),.slice (some ⟨g,o,none⟩) 1 c2] w λe w'=>e=gU T i/\Below w.heap.size w w':=by
 have HN:=H_ (lA p i c A T s w h ht);have HP:=H_ h;have HF:=H_ (oO p i c A T);unfold gU at HF⊢;generalize(tk T i).2.2.2=q at HF⊢;clear h ht;go_enter Tryz.func209,Tryz.ntmps209;go_wp2_with fail;refine wp_loop_rounds 1 ?_;rw[rounds_succ];go_wp2_with fail;refine HN.out.mono ?_;rintro e w1 ⟨rfl,b1⟩;have B1:=H_ b1;clear b1;go_wp2_with fail;refine(HF.out w1 (HP.out.below B1.out)).mono ?_;rintro e w2 ⟨rfl,b2⟩;go_wp2_with fail;exact⟨rfl,rfl,B1.out.trans (b2.mono B1.out.size)⟩
theorem pm(p i c:Nat)(A:Option Addr)(T:List Tk)(k:Int)(w:World)(h:PS w p A c T i)(hk:(tk T i).1=k)(h0:k≠0):
 Calls Tryz.prog 208 #[.pointer (some ⟨p,0,none⟩),.int .i64 k] w λe w'=>e= .returned (.string (tk T i).2.1)/\PS w' p A c T (i+1)/\Bx w.heap.size p w w':=by
 have HN:=H_ (gG p i c A T w h);have hi:=h.lt;have hn:=h.wf.few;have HI:=H_ (h.wf.next h.lt (by rw[hk];exact h0));have HP:=H_ h;clear h;unfold tkV at HN;generalize tk T i=x at HN hk⊢;obtain⟨k',t,v,q⟩:=x;simp only at hk⊢;subst hk;go_enter Tryz.func208,Tryz.ntmps208;go_wp2_with fail;refine HN.out.mono ?_;rintro e w1 ⟨rfl,b1⟩;have P1:=H_ (HP.out.below b1);have B1:=H_ b1;clear b1;go_upto_region 2 with(fail);obtain⟨w2,hw2⟩:=nm_ (w1.alloc (.cells #[.int .i64 k',.string t,.int .i64 v,.int .i64 q] 162));have b2:=bal hw2;have q2:=hnw hw2;have P2:=H_ (P1.out.below b2);have B2:=htr B1 b2;rw[hw2];generalize w1.heap.size=g at q2⊢;clear hw2 b2 P1 B1;have c1:=P2.out.aE.k1;have f1:=P2.out.aE.frozen 1;obtain⟨c2,c3⟩:=q2.out.c2;have hgp:g≠p:=λe=>by subst e;have h1:=q2.out;have h2:=P2.out.aE;unfold Blk at h1 h2;rw[h1]at h2;simp at h2
 have hpg:p≠g:=λe=>hgp e.symm;go_wp2_with fail;go_ret;have h2:=P2.out.move HI.out;simp only[Int.natCast_add,Int.cast_ofNat_Int]at h2;exact⟨rfl,h2,(Bx.of (p:=p) B2.out).setCell (q:=⟨p,1,none⟩) (.inr rfl) _⟩
theorem sI(p i c:Nat)(A:Option Addr)(T:List Tk)(k:Int)(w:World)(h:PS w p A c T i)(hk:(tk T i).1≠k):
 Calls Tryz.prog 208 #[.pointer (some ⟨p,0,none⟩),.int .i64 k] w λe w'=>e=gU T i/\Below w.heap.size w w':=by
 have HN:=H_ (gG p i c A T w h);have HP:=H_ h;have HF:=H_ (oO p i c A T);clear h;unfold gU at HF⊢;unfold tkV at HN;generalize tk T i=x at HN hk HF⊢;obtain⟨k',t,v,q⟩:=x;simp only at hk HF⊢;have hk':(k' !=k)=true:=by simpa using hk
 have HK:=H_ hk;clear hk;go_enter Tryz.func208,Tryz.ntmps208;go_wp2_with fail;refine HN.out.mono ?_;rintro e w1 ⟨rfl,b1⟩;have P1:=H_ (HP.out.below b1);have B1:=H_ b1;clear b1;go_upto_region 2 with(fail);obtain⟨w2,hw2⟩:=nm_ (w1.alloc (.cells #[.int .i64 k',.string t,.int .i64 v,.int .i64 q] 162));have b2:=bal hw2;have q2:=hnw hw2;have P2:=H_ (P1.out.below b2);have B2:=htr B1 b2;rw[hw2];generalize w1.heap.size=g at q2⊢;clear hw2 b2 P1 B1;have c2:=q2.out.k0;go_wp2_with fail;refine(HF.out w2 P2.out).mono ?_;rintro e w3 ⟨rfl,b3⟩;go_wp2_with fail;exact⟨rfl,rfl,B2.out.trans (b3.mono B2.out.size)⟩
theorem xc(p i c:Nat)(A:Option Addr)(T:List Tk)(w:World)(h:PS w p A c T i)(hk:(tk T i).1=2):
 Calls Tryz.prog 211 #[.pointer (some ⟨p,0,none⟩)] w λe w'=>e= .returned (.string (tk T i).2.1)/\PS w' p A c T (i+1)/\Bx w.heap.size p w w':=by
 have HN:=H_ (pm p i c A T 2 w h hk (by decide));clear h hk;generalize(tk T i).2.1=s at HN⊢;go_enter Tryz.func211,Tryz.ntmps211;go_wp2_with fail;refine HN.out.mono ?_;rintro e w1 ⟨rfl,h1,b1⟩;have H1:=H_ h1;have B1:=H_ b1;clear h1 b1;go_wp2_with fail;go_ret;exact⟨rfl,H1.out,B1.out⟩
theorem zw(p i c:Nat)(A:Option Addr)(T:List Tk)(w:World)(h:PS w p A c T i)(hk:(tk T i).1≠2):
 Calls Tryz.prog 211 #[.pointer (some ⟨p,0,none⟩)] w λe w'=>e=gU T i/\Below w.heap.size w w':=by
 have HN:=H_ (sI p i c A T 2 w h hk);clear h hk;unfold gU at HN⊢;generalize(tk T i).2.2.2=s at HN⊢;go_enter Tryz.func211,Tryz.ntmps211;go_wp2_with fail;refine HN.out.mono ?_;rintro e w1 ⟨rfl,b1⟩;go_wp2_with fail;exact⟨rfl,rfl,b1⟩
theorem Blk.set6{t:TypeId}{b c e f e' f':Value}(h:Blk w g t #[a,b,c,d,e,f]):
 Blk ((((((w.setCell ⟨g,0,none⟩ a').setCell ⟨g,1,none⟩ b').setCell ⟨g,2,none⟩ c').setCell ⟨g,3,none⟩ d').setCell ⟨g,4,none⟩ e').setCell ⟨g,5,none⟩ f') g t #[a',b',c',d',e',f']:=
 (((((h.set 0 a').set 1 b').set 2 c').set 3 d').set 4 e').set 5 f'
theorem sA{a:World}(h:Below B a w)(hg:B<=g)(a' b' c' d' e' f':Value):
 Below B a ((((((w.setCell ⟨g,0,none⟩ a').setCell ⟨g,1,none⟩ b').setCell ⟨g,2,none⟩ c').setCell ⟨g,3,none⟩ d').setCell ⟨g,4,none⟩ e').setCell ⟨g,5,none⟩ f'):=
 (((((h.setCell (p:=⟨g,0,none⟩) hg a').setCell (p:=⟨g,1,none⟩) hg b').setCell (p:=⟨g,2,none⟩) hg c').setCell (p:=⟨g,3,none⟩) hg d').setCell (p:=⟨g,4,none⟩) hg e').setCell (p:=⟨g,5,none⟩) hg f'
def ExV(w:World)(G:Nat->Prop)(x:Ex)(v:Value):Prop:=∃cs,v= .agg cs.toArray/\ExC w G x cs
theorem ExV.aA(hk:∀b,G b->G' b/\w'.heap[b]?=w.heap[b]?)(h:ExV w G x v):ExV w' G' x v:=by
 obtain⟨cs,h1,h2⟩:=h;exact⟨cs,h1,h2.aA hk⟩
theorem ExV.inv(h:ExV w G x v):
 ∃k op z nm at_ A n c,v= .agg #[.int .i64 k,.int .i64 op,.int .i64 z,.string nm,.bool at_,.slice A n c]/\ExC w G x [.int .i64 k,.int .i64 op,.int .i64 z,.string nm,.bool at_,.slice A n c]:=by
 obtain⟨cs,rfl,h2⟩:=h;obtain⟨k,op,z,nm,at_,args⟩:=x;obtain⟨A,n,c,rfl,_⟩:=h2.inv;exact⟨k,op,z,nm,at_,A,n,c,rfl,h2⟩
def Fr(w w':World)(b:Nat):Prop:=w.heap.size<=b/\b<w'.heap.size
theorem kj{K:Kd α}{x:α}{t:TypeId}(hb:Blk w g t cs.toArray)(hg:G g)(hx:K.rd w G x cs):Sl K w G [x] (some ⟨g,0,none⟩) 1:=by
 refine Sl.of (css:=[cs]) rfl (by simp[BD]) hg (by simpa using At.aE hb) (λj y ds hy hd=>?_);cases j with
 |zero=>simp at hy hd;subst hy hd;exact hx
 |succ j=>simp at hy
theorem oq{K:Kd α}{x y:α}{t:TypeId}(hb:Blk w g t (cs++ds).toArray)(hg:G g)(hx:K.rd w G x cs)(hy:K.rd w G y ds):Sl K w G [x,y] (some ⟨g,0,none⟩) 2:=by
 refine Sl.of (css:=[cs,ds]) rfl (by simp[BD]) hg (by simpa using At.aE hb) (λj z es hz he=>?_);cases j with
 |zero=>simp at hz he;subst hz he;exact hx
 |succ j=>
  cases j with
  |zero=>simp at hz he;subst hz he;exact hy
  |succ j=>simp at hz
theorem nZ(o:Nat)(x y:Ex)(v1 v2:Value)(w:World)(G:Nat->Prop)(hx:ExV w G x v1)(hy:ExV w G y v2)(hG:∀b,G b->b<w.heap.size):
 Calls Tryz.prog 307 #[.int .i64 o,v1,v2] w λe w'=>(∃v,e= .returned v/\ExV w' (λb=>G b\/Fr w w' b) (cx o x y) v)/\Below w.heap.size w w':=by
 obtain⟨k1,o1,z1,n1,a1,A1,m1,c1,rfl,hx'⟩:=hx.inv;obtain⟨k2,o2,z2,n2,a2,A2,m2,c2,rfl,hy'⟩:=hy.inv;have HX:=H_ hx';have HY:=H_ hy';clear hx hy hx' hy';go_enter Tryz.func307,Tryz.ntmps307;go_upto_region 1 with(fail);obtain⟨w2,hw2⟩:=nm_ (((w.alloc (.cells #[.int .i64 k1,.int .i64 o1,.int .i64 z1,.string n1,.bool a1,.slice A1 m1 c1] 172)).alloc (.cells #[.int .i64 k2,.int .i64 o2,.int .i64 z2,.string n2,.bool a2,.slice A2 m2 c2] 172)).alloc (.cells #[.int .i64 0,.int .i64 0,.int .i64 0,.string ⟨#[]⟩,.bool false,.slice none 0 0] 172));have b2:=H_ (show Below w.heap.size w w2 from hw2▸(((DN _ _).alloc (DK _) _).alloc (by simp) _).alloc (by simp;omega) _);have q0:=H_ (show Blk w2 w.heap.size 172 _ from hw2▸((Blk.new w 172 #[.int .i64 k1,.int .i64 o1,.int .i64 z1,.string n1,.bool a1,.slice A1 m1 c1]).alloc _).alloc _);have q1:=H_ (show Blk w2 (w.heap.size+1) 172 #[.int .i64 k2,.int .i64 o2,.int .i64 z2,.string n2,.bool a2,.slice A2 m2 c2]from hw2▸(by have:=Blk.new (w.alloc (.cells #[.int .i64 k1,.int .i64 o1,.int .i64 z1,.string n1,.bool a1,.slice A1 m1 c1] 172)) 172 #[.int .i64 k2,.int .i64 o2,.int .i64 z2,.string n2,.bool a2,.slice A2 m2 c2];simp only[DV]at this;exact this.alloc _));have q2:=H_ (show Blk w2 (w.heap.size+1+1) 172 #[.int .i64 0,.int .i64 0,.int .i64 0,.string ⟨#[]⟩,.bool false,.slice none 0 0]from hw2▸(by have:=Blk.new ((w.alloc (.cells #[.int .i64 k1,.int .i64 o1,.int .i64 z1,.string n1,.bool a1,.slice A1 m1 c1] 172)).alloc (.cells #[.int .i64 k2,.int .i64 o2,.int .i64 z2,.string n2,.bool a2,.slice A2 m2 c2] 172)) 172 #[.int .i64 0,.int .i64 0,.int .i64 0,.string ⟨#[]⟩,.bool false,.slice none 0 0];simp only[DV]at this;exact this));rw[hw2];have hz2:=q2.out.lt;obtain⟨g0,hg0⟩:∃g,w.heap.size=g:=⟨_,rfl⟩;rw[hg0]at q0 q1 q2 hz2 b2⊢;obtain⟨q0c0,q0c1,q0c2,q0c3,q0c4,q0c5⟩:=q0.out.c6;obtain⟨q1c0,q1c1,q1c2,q1c3,q1c4,q1c5⟩:=q1.out.c6;have q2c0:=q2.out.k0;have q2f0:=q2.out.frozen 0;have q2c1:=q2.out.k1;have q2f1:=q2.out.frozen 1;have q2c2:=q2.out.k2;have q2f2:=q2.out.frozen 2;have q2c3:=q2.out.k3;have q2f3:=q2.out.frozen 3;have q2c4:=q2.out.k4;have q2f4:=q2.out.frozen 4;have q2c5:=q2.out.k5;have q2f5:=q2.out.frozen 5;clear hw2;go_wp2_with fail;subst hg0;have qz:=q2.out.set6 (a':= .int .i64 10) (b':= .int .i64 o) (c':= .int .i64 0) (d':= .string ⟨#[]⟩) (e':= .bool false) (f':= .slice (some ⟨w2.heap.size,0,none⟩) 2 2);have bz:=sA b2.out (g:=w.heap.size+1+1) (by omega) (.int .i64 10) (.int .i64 o) (.int .i64 0) (.string ⟨#[]⟩) (.bool false) (.slice (some ⟨w2.heap.size,0,none⟩) 2 2);have hs:((((((w2.setCell ⟨w.heap.size+1+1,0,none⟩ (.int .i64 10)).setCell ⟨w.heap.size+1+1,1,none⟩ (.int .i64 o)).setCell ⟨w.heap.size+1+1,2,none⟩ (.int .i64 0)).setCell ⟨w.heap.size+1+1,3,none⟩ (.string ⟨#[]⟩)).setCell ⟨w.heap.size+1+1,4,none⟩ (.bool false)).setCell ⟨w.heap.size+1+1,5,none⟩ (.slice (some ⟨w2.heap.size,0,none⟩) 2 2)).heap.size=w2.heap.size:=by simp
 generalize((((((w2.setCell ⟨w.heap.size+1+1,0,none⟩ (.int .i64 10)).setCell ⟨w.heap.size+1+1,1,none⟩ (.int .i64 o)).setCell ⟨w.heap.size+1+1,2,none⟩ (.int .i64 0)).setCell ⟨w.heap.size+1+1,3,none⟩ (.string ⟨#[]⟩)).setCell ⟨w.heap.size+1+1,4,none⟩ (.bool false)).setCell ⟨w.heap.size+1+1,5,none⟩ (.slice (some ⟨w2.heap.size,0,none⟩) 2 2))=W at qz bz hs⊢;have hbz:=bz.alloc (by omega) (.cells ([.int .i64 k1,.int .i64 o1,.int .i64 z1,.string n1,.bool a1,.slice A1 m1 c1]++[.int .i64 k2,.int .i64 o2,.int .i64 z2,.string n2,.bool a2,.slice A2 m2 c2]:List Value).toArray 172);have hnew:=Blk.new W 172 ([.int .i64 k1,.int .i64 o1,.int .i64 z1,.string n1,.bool a1,.slice A1 m1 c1]++[.int .i64 k2,.int .i64 o2,.int .i64 z2,.string n2,.bool a2,.slice A2 m2 c2]:List Value).toArray;refine rm (w.heap.size+1+1) 172 _ _ rfl (by simp) (qz.alloc _) Tryz.underlying172 rfl (by kernel_rfl) ⟨⟨_,rfl,_,rfl,?_⟩,hbz⟩;refine ExC.of 10 o 0 ⟨#[]⟩ false 2 ?_;rw[<-hs];exact oq (K:=kEx) hnew (.inr ⟨by omega,by simp⟩) (ExC.aA (λb hb=>⟨.inl hb,hbz.block b (hG b hb)⟩) HX.out) (ExC.aA (λb hb=>⟨.inl hb,hbz.block b (hG b hb)⟩) HY.out)
mutual
def esz:Ex->Nat
 | .mk _ _ _ _ _ args=>1+cm args
def cm:List Ex->Nat
 |[]=>0
 |x::l=>esz x+cm l
end
mutual
def ssz:St->Nat
 | .mk _ _ ex b e=>1+cm ex+eN b+eN e
def eN:List St->Nat
 |[]=>0
 |x::l=>ssz x+eN l
end
def lsz{α:Type}(sz:α->Nat)(l:List α):Nat:=(l.map sz).sum
theorem jJ(sz:α->Nat)(l:List α)(x:α):lsz sz (l++[x])=lsz sz l+sz x:=by simp[lsz]
theorem oQ:∀l,cm l=lsz esz l
 |[]=>rfl
 |x::l=>by unfold cm;rw[oQ l];simp[lsz]
theorem lD:∀l,eN l=lsz ssz l
 |[]=>rfl
 |x::l=>by unfold eN;rw[lD l];simp[lsz]
theorem dH(k op z:Int)(nm:ByteArray)(at_:Bool)(args:List Ex):esz (.mk k op z nm at_ args)=1+lsz esz args:=by unfold esz;rw[oQ]
theorem bE(x:Ex):1<=esz x:=by cases x;rw[dH];omega
theorem di(k:Int)(nm:ByteArray)(ex:List Ex)(b e:List St):ssz (.mk k nm ex b e)=1+lsz esz ex+lsz ssz b+lsz ssz e:=by unfold ssz;rw[oQ,lD,lD]
theorem lE(x:St):1<=ssz x:=by cases x;rw[di];omega
theorem cP(sz:α->Nat):lsz sz []=0:=rfl
theorem aS(sz:α->Nat)(x:α)(l:List α):lsz sz (x::l)=sz x+lsz sz l:=by simp[lsz]
theorem oR(z:Int):esz (ge z)=1:=rfl
theorem it(k:Int)(s:ByteArray):esz (fb k s)=1:=rfl
theorem sg(k:Int)(a:Ex):esz (eUn k a)=1+esz a:=by unfold eUn;rw[dH];simp[lsz]
theorem nU(s:ByteArray)(a:Ex):esz (aR s a)=1+esz a:=by unfold aR;rw[dH];simp[lsz]
theorem tJ(o:Nat)(a b:Ex):esz (cx o a b)=1+esz a+esz b:=by unfold cx;rw[dH];simp[lsz];omega
theorem sU(k:Int)(s:ByteArray)(xs:List Ex):ssz (stE k s xs)=1+lsz esz xs:=by unfold stE;rw[di];simp[lsz]
def bI{α:Type}:α->Nat:=λ_=>1
theorem th(l:List α):lsz bI l=l.length:=by
 induction l with
 |nil=>rfl
 |cons x l ih=>simp[lsz,bI]at ih⊢;omega
def msz(m:Me):Nat:=1+m.params.length+lsz ssz m.body
def csz(c:Cl):Nat:=1+c.fields.length+lsz msz c.methods
def Bd{α:Type}(sz:α->Nat)(f:Nat->R α):Prop:=∀i x j,f i= .ok x j->i+sz x<=j
def Up{α:Type}(f:Nat->R α):Prop:=∀i x j,f i= .ok x j->i<j
theorem Bd.up{sz:α->Nat}{f:Nat->R α}(h:Bd sz f)(hp:∀x,1<=sz x):Up f:=λi x j hf=>by have:=h i x j hf;have:=hp x;omega
section
variable{T:List Tk}
theorem cQ{s:ByteArray}{u:Unit}(h:bj T s i= .ok u j):isT T s i=true/\j=i+1:=by
 unfold bj at h;split at h
 ·cases h;exact⟨‹_›,rfl⟩
 ·cases h
theorem xU{s:ByteArray}(h:bj T s i= .bad j):isT T s i=false/\j=i:=by
 unfold bj at h;split at h
 ·cases h
 ·rename_i h1;cases h;exact⟨by simpa using h1,rfl⟩
theorem dI{k:Int}{s:ByteArray}(h:bO T k i= .ok s j):(tk T i).1=k/\s=(tk T i).2.1/\j=i+1:=by
 unfold bO at h;split at h
 ·cases h;exact⟨‹_›,rfl,rfl⟩
 ·cases h
theorem sz_:type_of%(And.intro @oR (And.intro @it (And.intro @sg (And.intro @nU (And.intro @tJ (And.intro @dH (And.intro @sU (And.intro @di (And.intro @jJ (And.intro @aS @cP)))))))))):=And.intro @oR (And.intro @it (And.intro @sg (And.intro @nU (And.intro @tJ (And.intro @dH (And.intro @sU (And.intro @di (And.intro @jJ (And.intro @aS @cP)))))))))
theorem cC(s:ByteArray):Bd bI (bj T s):=λi x j h=>by have:=(cQ h).2;unfold bI;(try simp only[sz_,bI]at*);omega
theorem db(k:Int):Bd bI (bO T k):=λi x j h=>by have:=(dI h).2.2;unfold bI;(try simp only[sz_,bI]at*);omega
theorem ld{f:Nat->R Ex}{ops:List Nat}(hf:Bd esz f):∀k x i y j,dg T f ops k x i= .ok y j->i+esz y<=esz x+j
 |0,x,i,y,j,h=>by cases h
 |k+1,x,i,y,j,h=>by
  unfold dg at h;split at h
  ·cases h;omega
  ·split at h
   ·cases h
   ·have h1:=hf _ _ _ ‹_›;have h2:=ld hf k _ _ _ _ h
    (try simp only[sz_,bI]at*);omega
theorem jM{f:Nat->R Ex}{ops:List Nat}(hf:Bd esz f):Bd esz (eQ T f ops):=λi x j h=>by
 unfold eQ at h;split at h
 ·cases h
 ·have h1:=hf _ _ _ ‹_›;have h2:=ld hf _ _ _ _ _ h
  (try simp only[sz_,bI]at*);omega
theorem qd{α:Type}{f:Nat->R α}{sz:α->Nat}(hf:Bd sz f):∀k xs i ys j,dt T f k xs i= .ok ys j->i+lsz sz ys+1<=lsz sz xs+j
 |0,x,i,y,j,h=>by cases h
 |k+1,x,i,y,j,h=>by
  unfold dt at h;split at h
  ·split at h
   ·cases h
   ·have h1:=hf _ _ _ ‹_›;have h2:=qd hf k _ _ _ _ h
    (try simp only[sz_,bI]at*);omega
  ·split at h
   ·cases h
   ·cases h;have:=cC _ _ _ _ ‹bj _ _ _=_›
    (try simp only[sz_,bI]at*);omega
theorem jL{f:Nat->R α}{sz:α->Nat}(hf:Bd sz f):∀i x j,bZ T f i= .ok x j->i+lsz sz x+2<=j:=λi x j h=>by
 unfold bZ at h;split at h
 ·cases h
 ·have h0:=cC _ _ _ _ ‹bj _ _ _=_›;split at h
  ·cases h;(try simp only[sz_,bI]at*);omega
  ·split at h
   ·cases h
   ·have h1:=hf _ _ _ ‹_›;have h2:=qd hf _ _ _ _ _ h
    (try simp only[sz_,bI]at*);omega
theorem iV:∀k x i y j,cg T k x i= .ok y j->i+esz y<=esz x+j
 |0,x,i,y,j,h=>by cases h
 |k+1,x,i,y,j,h=>by
  unfold cg at h;split at h
  ·split at h
   ·cases h
   ·have h1:=db _ _ _ _ ‹_›;have h2:=iV k _ _ _ _ h
    (try simp only[sz_,bI]at*);omega
  ·cases h;omega
section
variable{rec:Nat->Nat->R Ex}(hr:∀l,Bd esz (rec l))
include hr
theorem zu:Bd esz (lu T rec):=λi x j h=>by
 unfold lu at h;split at h
 ·cases h
 ·have h0:=cC _ _ _ _ ‹bj _ _ _=_›;split at h
  ·cases h
  ·have h1:=db _ _ _ _ ‹bO _ _ _=_›;split at h
   ·cases h
   ·have h2:=jL (hr 0) _ _ _ ‹bZ _ _ _=_›;split at h
    ·split at h
     ·cases h
     ·have h3:=hr _ _ _ _ ‹rec _ _=_›;cases h;(try simp only[sz_,bI]at*);omega
    ·cases h;(try simp only[sz_,bI]at*);omega
theorem im:Bd esz (aw T rec):=λi x j h=>by
 unfold aw at h;split at h
 ·cases h;(try simp only[sz_,bI]at*);omega
 ·split at h
  ·cases h;(try simp only[sz_,bI]at*);omega
  ·split at h
   ·cases h;(try simp only[sz_,bI]at*);omega
   ·split at h
    ·cases h;(try simp only[sz_,bI]at*);omega
    ·split at h
     ·split at h
      ·cases h
      ·have h1:=hr _ _ _ _ ‹rec _ _=_›;split at h
       ·cases h
       ·have h0:=cC _ _ _ _ ‹bj _ _ _=_›;cases h;(try simp only[sz_,bI]at*);omega
     ·exact zu hr _ _ _ h
theorem kZ:Bd esz (cj T rec):=λi x j h=>by
 unfold cj at h;split at h
 ·cases h
 ·have h1:=im hr _ _ _ ‹_›;have h2:=iV _ _ _ _ _ h
  (try simp only[sz_,bI]at*);omega
theorem jE(k:Int)(l:Nat):∀i x j,ev rec k l i= .ok x j->i+esz x<=j+1:=λi x j h=>by
 unfold ev at h;split at h
 ·cases h
 ·have h1:=hr _ _ _ _ ‹rec _ _=_›;cases h;(try simp only[sz_,bI]at*);omega
theorem kh:Bd esz (co T rec):=λi x j h=>by
 unfold co at h;split at h
 ·have:=jE hr _ _ _ _ _ h;(try simp only[sz_,bI]at*);omega
 ·split at h
  ·have:=jE hr _ _ _ _ _ h;(try simp only[sz_,bI]at*);omega
  ·split at h
   ·have:=jE hr _ _ _ _ _ h;(try simp only[sz_,bI]at*);omega
   ·exact kZ hr _ _ _ h
theorem il:Bd esz (fx T rec):=jM (kh hr)
theorem lC:Bd esz (jb T rec):=jM (il hr)
theorem li:Bd esz (cz T rec):=λi x j h=>by
 unfold cz at h;split at h
 ·cases h
 ·have h1:=lC hr _ _ _ ‹jb _ _ _=_›;split at h
  ·cases h;(try simp only[sz_,bI]at*);omega
  ·split at h
   ·cases h
   ·have h2:=lC hr _ _ _ ‹jb _ _ (_+1)=_›;cases h;(try simp only[sz_,bI]at*);omega
theorem oD:Bd esz (iO T rec):=λi x j h=>by
 unfold iO at h;split at h
 ·have:=jE hr _ _ _ _ _ h;(try simp only[sz_,bI]at*);omega
 ·exact li hr _ _ _ h
theorem oZ:Bd esz (sC T rec):=jM (oD hr)
theorem xT:Bd esz (tF T rec):=jM (oZ hr)
theorem zI(l:Nat):Bd esz (fg T rec l):=λi x j h=>by
 unfold fg at h;split at h
 ·exact xT hr _ _ _ h
 ·exact oZ hr _ _ _ h
 ·exact oD hr _ _ _ h
 ·exact li hr _ _ _ h
 ·exact lC hr _ _ _ h
 ·exact il hr _ _ _ h
 ·exact kh hr _ _ _ h
 ·exact kZ hr _ _ _ h
 ·exact im hr _ _ _ h
end
theorem pi:∀n l,Bd esz (E T n l)
 |0,l=>λi x j h=>by cases h
 |n+1,l=>λi x j h=>by
  unfold E at h;exact zI (λl=>pi n l) l _ _ _ h
section
variable{ex:Nat->Nat->R Ex}{st:Nat->R St}
theorem lX(hs:Bd ssz st):∀k ss i ys j,cX T st k ss i= .ok ys j->i+lsz ssz ys+1<=lsz ssz ss+j
 |0,ss,i,ys,j,h=>by cases h
 |k+1,ss,i,ys,j,h=>by
  unfold cX at h;split at h
  ·cases h;(try simp only[sz_,bI]at*);omega
  ·split at h
   ·cases h
   ·have h1:=hs _ _ _ ‹_›;have h2:=lX hs k _ _ _ _ h
    (try simp only[sz_,bI]at*);omega
theorem iK(hs:Bd ssz st):∀i x j,d9 T st i= .ok x j->i+lsz ssz x+2<=j:=λi x j h=>by
 unfold d9 at h;split at h
 ·cases h
 ·have h0:=cC _ _ _ _ ‹bj _ _ _=_›;have h1:=lX hs _ _ _ _ _ h
  (try simp only[sz_,bI]at*);omega
variable(hx:∀l,Bd esz (ex l))
include hx
theorem nb(k:Int):Bd ssz (dm T ex k):=λi x j h=>by
 unfold dm at h;split at h
 ·cases h
 ·have h0:=db _ _ _ _ ‹bO _ _ _=_›;split at h
  ·cases h
  ·have h1:=cC _ _ _ _ ‹bj _ _ _=_›;split at h
   ·cases h
   ·have h2:=hx _ _ _ _ ‹ex _ _=_›;cases h;(try simp only[sz_,bI]at*);omega
theorem kW:∀k x i y j,cU T ex k x i= .ok y j->i+ssz y<=esz x+j
 |0,x,i,y,j,h=>by cases h
 |k+1,x,i,y,j,h=>by
  unfold cU at h;split at h
  ·cases h
  ·have h1:=cC _ _ _ _ ‹bj _ _ _=_›;split at h
   ·cases h
   ·have h0:=db _ _ _ _ ‹bO _ _ _=_›;split at h
    ·split at h
     ·cases h
     ·have h2:=jL (hx 0) _ _ _ ‹bZ _ _ _=_›;cases h;(try simp only[sz_,bI]at*);omega
    ·have:=kW k _ _ _ _ h
     (try simp only[sz_,bI]at*);omega
theorem wl:Bd ssz (gr T ex):=λi x j h=>by
 unfold gr at h;split at h
 ·cases h
 ·have h2:=hx _ _ _ _ ‹ex _ _=_›;have:=kW hx _ _ _ _ _ h
  (try simp only[sz_,bI]at*);omega
theorem xv:Bd ssz (jI T ex):=λi x j h=>by
 unfold jI at h;split at h
 ·cases h
 ·have h2:=hx _ _ _ _ ‹ex _ _=_›;split at h
  ·cases h
  ·have h1:=cC _ _ _ _ ‹bj _ _ _=_›;split at h
   ·cases h
   ·rename_i h3;have h4:=hx _ _ _ _ h3;cases h;(try simp only[sz_,bI]at*);omega
theorem tU:Bd ssz (eT T ex):=λi x j h=>by
 unfold eT at h;split at h
 ·cases h
 ·have h2:=hx _ _ _ _ ‹ex _ _=_›;split at h
  ·cases h
  ·rename_i h3;have h3:=cC _ _ _ _ h3;split at h
   ·cases h
   ·rename_i h4;have h4:=db _ _ _ _ h4;split at h
    ·cases h
    ·rename_i h5;have h5:=cC _ _ _ _ h5;split at h
     ·cases h
     ·rename_i h6;have h6:=hx _ _ _ _ h6;split at h
      ·cases h
      ·rename_i h7;have h7:=cC _ _ _ _ h7;cases h;(try simp only[sz_,bI]at*);omega
theorem ue:Bd ssz (fq T ex):=λi x j h=>by
 unfold fq at h;split at h
 ·cases h
 ·have h2:=hx _ _ _ _ ‹ex _ _=_›;split at h
  ·cases h
  ·rename_i h3;have h3:=cC _ _ _ _ h3;split at h
   ·cases h
   ·rename_i h4;have h4:=db _ _ _ _ h4;split at h
    ·cases h
    ·rename_i h5;have h5:=cC _ _ _ _ h5;split at h
     ·cases h
     ·rename_i h6;have h6:=hx _ _ _ _ h6;cases h;(try simp only[sz_,bI]at*);omega
theorem rg:Bd ssz (aV T ex):=λi x j h=>by
 unfold aV at h;split at h
 ·have:=nb hx _ _ _ _ h;(try simp only[sz_,bI]at*);omega
 ·split at h
  ·have:=wl hx _ _ _ h;(try simp only[sz_,bI]at*);omega
  ·split at h
   ·split at h
    ·cases h
    ·have h2:=hx _ _ _ _ ‹ex _ _=_›;cases h;(try simp only[sz_,bI]at*);omega
   ·split at h
    ·have:=xv hx _ _ _ h;(try simp only[sz_,bI]at*);omega
    ·split at h
     ·have:=tU hx _ _ _ h;(try simp only[sz_,bI]at*);omega
     ·split at h
      ·cases h;(try simp only[sz_,bI]at*);omega
      ·split at h
       ·exact nb hx _ _ _ _ h
       ·exact ue hx _ _ _ h
variable(hs:Bd ssz st)
include hs
theorem tT:Bd ssz (iX T ex st):=λi x j h=>by
 unfold iX at h;split at h
 ·cases h
 ·have h2:=hx _ _ _ _ ‹ex _ _=_›;split at h
  ·cases h
  ·have h3:=iK hs _ _ _ ‹d9 _ _ _=_›;cases h;(try simp only[sz_,bI]at*);omega
theorem BM:Bd ssz (ifT T ex st):=λi x j h=>by
 unfold ifT at h;split at h
 ·cases h
 ·have h2:=hx _ _ _ _ ‹ex _ _=_›;split at h
  ·cases h
  ·have h3:=iK hs _ _ _ ‹d9 _ _ _=_›;split at h
   ·split at h
    ·cases h
    ·rename_i h4;have h4:=iK hs _ _ _ h4;cases h;(try simp only[sz_,bI]at*);omega
   ·cases h;(try simp only[sz_,bI]at*);omega
theorem vY:Bd ssz (dJ T ex st):=λi x j h=>by
 unfold dJ at h;split at h
 ·have:=BM hx hs _ _ _ h;(try simp only[sz_,bI]at*);omega
 ·split at h
  ·have:=tT hx hs _ _ _ h;(try simp only[sz_,bI]at*);omega
  ·split at h
   ·cases h
   ·have h2:=rg hx _ _ _ ‹aV _ _ _=_›;split at h
    ·cases h
    ·have h3:=cC _ _ _ _ ‹bj _ _ _=_›;cases h;(try simp only[sz_,bI]at*);omega
end
theorem Cg:∀n,Bd ssz (S T n)
 |0=>λi x j h=>by cases h
 |n+1=>λi x j h=>by
  unfold S at h;exact vY (λl=>pi _ l) (Cg n) _ _ _ h
theorem kR:∀k fs i ys j,bP T k fs i= .ok ys j->i+ys.length<=fs.length+j
 |0,x,i,y,j,h=>by cases h
 |k+1,x,i,y,j,h=>by
  unfold bP at h;split at h
  ·split at h
   ·cases h
   ·have h1:=db _ _ _ _ ‹bO _ _ _=_›;split at h
    ·cases h
    ·have h0:=cC _ _ _ _ ‹bj _ _ _=_›;have h2:=kR k _ _ _ _ h;rw[DJ,Fx]at h2
     (try simp only[sz_,bI]at*);omega
  ·cases h;omega
theorem rN(n:Nat):Bd msz (ff T n):=λi x j h=>by
 unfold ff at h;split at h
 ·cases h
 ·have h0:=db _ _ _ _ ‹bO _ _ _=_›;split at h
  ·cases h
  ·have h1:=jL (db 2) _ _ _ ‹bZ _ _ _=_›;rw[th]at h1;split at h
   ·cases h
   ·have h2:=iK (Cg n) _ _ _ ‹d9 _ _ _=_›;cases h;unfold msz
    (try simp only[sz_,bI]at*);omega
theorem io(n:Nat):∀k ms i ys j,aM T n k ms i= .ok ys j->i+lsz msz ys<=lsz msz ms+j
 |0,x,i,y,j,h=>by cases h
 |k+1,x,i,y,j,h=>by
  unfold aM at h;split at h
  ·split at h
   ·cases h
   ·have h1:=rN n _ _ _ ‹_›;have h2:=io n k _ _ _ _ h
    (try simp only[sz_,bI]at*);omega
  ·cases h;omega
theorem iJ(n:Nat)(a:Bool):Bd csz (cZ T n a):=λi x j h=>by
 unfold cZ at h;split at h
 ·cases h
 ·have h0:=db _ _ _ _ ‹bO _ _ _=_›;split at h
  ·cases h
  ·rename_i h1;have h1:=cC _ _ _ _ h1;split at h
   ·cases h
   ·have h2:=kR _ _ _ _ _ ‹bP _ _ _ _=_›;rw[DO]at h2;split at h
    ·cases h
    ·rename_i _ fs l _ _ ms q hm
     have h3:l+lsz msz ms<=lsz msz []+q:=by
      split at hm
      ·exact io n _ _ _ _ _ hm
      ·cases hm;omega
     split at h
     ·cases h
     ·rename_i h4;have h4:=cC _ _ _ _ h4;cases h;unfold csz
      (try simp only[sz_,bI]at*);omega
theorem fD(n:Nat):∀k cs i ys j,cr T n k cs i= .ok ys j->i+lsz csz ys<=lsz csz cs+j
 |0,x,i,y,j,h=>by cases h
 |k+1,x,i,y,j,h=>by
  unfold cr at h;split at h
  ·split at h
   ·cases h
   ·have h1:=iJ n _ _ _ _ ‹_›;have h2:=fD n k _ _ _ _ h
    (try simp only[sz_,bI]at*);omega
  ·split at h
   ·split at h
    ·cases h
    ·have h1:=iJ n _ _ _ _ ‹_›;have h2:=fD n k _ _ _ _ h
     (try simp only[sz_,bI]at*);omega
   ·split at h
    ·cases h;omega
    ·cases h
theorem pV{cs:List Cl}(h:dr T= .ok cs j):lsz csz cs<=j:=by
 have:=fD _ _ _ _ _ _ h;rw[cP]at this;omega
theorem uZ(n l:Nat):Up (E T n l):=(pi n l).up bE
theorem Cf(n:Nat):Up (S T n):=(Cg n).up lE
end
abbrev Rv(α:Type):=World->(Nat->Prop)->α->Value->Prop
def wv:Rv ByteArray:=λ_ _ s v=>v= .string s
def rvSl{α:Type}(K:Kd α):Rv (List α):=λw G xs v=>∃A n c,v= .slice A n c/\Sl K w G xs A n
def rvC{α:Type}(K:Kd α):Rv α:=λw G x v=>∃cs,v= .agg cs.toArray/\K.rd w G x cs
theorem rvSl.aA{K:Kd α}{xs:List α}(hk:∀b,G b->G' b/\w'.heap[b]?=w.heap[b]?)(h:rvSl K w G xs v):rvSl K w' G' xs v:=by
 obtain⟨A',n,c',h1,h2⟩:=h;exact⟨A',n,c',h1,h2.aA hk⟩
theorem rvC.aA{K:Kd α}{x:α}(hk:∀b,G b->G' b/\w'.heap[b]?=w.heap[b]?)(h:rvC K w G x v):rvC K w' G' x v:=by
 obtain⟨cs,h1,h2⟩:=h;exact⟨cs,h1,K.aA hk h2⟩
def Out{α:Type}(rv:Rv α)(p:Nat)(A:Option Addr)(c:Nat)(T:List Tk)(w:World)(r:R α)(e:Ending)(w':World):Prop:=
 match r with
 | .ok x j=>(∃v,e= .returned v/\rv w' (Fr w w') x v)/\PS w' p A c T j/\Bx w.heap.size p w w'
 | .bad j=>e=gU T j/\Bx w.heap.size p w w'
section
variable{p c i:Nat}{A:Option Addr}{T:List Tk}{w w':World}
theorem Out.use{n:Nat}{args:Array Value}{rv:Rv α}{r:R α}(h:Calls Tryz.prog n args w (Out rv p A c T w r))
 (hb:∀j w',r= .bad j->Bx w.heap.size p w w'->Q (gU T j) w')
 (ho:∀x j v w',r= .ok x j->rv w' (Fr w w') x v->PS w' p A c T j->Bx w.heap.size p w w'->Q (.returned v) w'):Calls Tryz.prog n args w Q:=
 h.mono λe w' h'=>by
  cases r with
  |bad j=>obtain⟨rfl,b⟩:=h';exact hb j w' rfl b
  |ok x j=>obtain⟨⟨v,rfl,hv⟩,P,b⟩:=h';exact ho x j v w' rfl hv P b
theorem Out.bad{rv:Rv α}{r:R α}(hr:r= .bad j)(hb:Bx w.heap.size p w w'):Out rv p A c T w r (gU T j) w':=by subst hr;exact⟨rfl,hb⟩
theorem Out.ok{rv:Rv α}{r:R α}{x:α}(hr:r= .ok x j)(hv:rv w' (Fr w w') x v)(hP:PS w' p A c T j)(hb:Bx w.heap.size p w w'):Out rv p A c T w r (.returned v) w':=by
 subst hr;exact⟨⟨v,rfl,hv⟩,hP,hb⟩
theorem bg(h:PS w p A c T i)(s:ByteArray)
 (hy:isT T s i=true->∀w',PS w' p A c T (i+1)->Bx w.heap.size p w w'->Q (.returned (.bool true)) w')
 (hn:isT T s i=false->∀w',PS w' p A c T i->Bx w.heap.size p w w'->Q (.returned (.bool false)) w'):Calls Tryz.prog 210 #[.pointer (some ⟨p,0,none⟩),.string s] w Q:=by
 cases ht:isT T s i with
 |true=>exact(lT p i c A T s w h ht).mono λe w' ⟨h1,h2,h3⟩=>h1▸hy ht w' h2 h3
 |false=>exact(lA p i c A T s w h ht).mono λe w' ⟨h1,h2⟩=>h1▸hn ht w' (h.below h2) (Bx.of h2)
theorem mF(h:PS w p A c T i)(s:ByteArray)
 (hy:isT T s i=true->∀w',PS w' p A c T i->Bx w.heap.size p w w'->Q (.returned (.bool true)) w')
 (hn:isT T s i=false->∀w',PS w' p A c T i->Bx w.heap.size p w w'->Q (.returned (.bool false)) w'):Calls Tryz.prog 136 #[.pointer (some ⟨p,0,none⟩),.string s] w Q:=by
 refine(tu p i c A T s w h).mono λe w' ⟨h1,h2⟩=>?_;subst h1;cases ht:isT T s i with
 |true=>exact hy ht w' (h.below h2) (Bx.of h2)
 |false=>exact hn ht w' (h.below h2) (Bx.of h2)
theorem bV{s:ByteArray}{o c2:Nat}(h:PS w p A c T i)(hc:w.cell? ⟨g,o,none⟩=some (.string s))
 (hb:∀j w',bj T s i= .bad j->Bx w.heap.size p w w'->Q (gU T j) w')
 (ho:∀j w',bj T s i= .ok () j->PS w' p A c T j->Bx w.heap.size p w w'->Q (.returned (.tuple #[])) w'):Calls Tryz.prog 209 #[.pointer (some ⟨p,0,none⟩),.slice (some ⟨g,o,none⟩) 1 c2] w Q:=by
 cases ht:isT T s i with
 |true=>exact(zV p i c A T s g o c2 w h hc ht).mono λe w' ⟨h1,h2,h3⟩=>h1▸ho (i+1) w' (by unfold bj;rw[ht];rfl) h2 h3
 |false=>exact(BT p i c A T s g o c2 w h hc ht).mono λe w' ⟨h1,h2⟩=>h1▸hb i w' (by unfold bj;rw[ht];rfl) (Bx.of h2)
theorem po(h:PS w p A c T i)(k:Int)(h0:k≠0):Calls Tryz.prog 208 #[.pointer (some ⟨p,0,none⟩),.int .i64 k] w (Out wv p A c T w (bO T k i)):=by
 by_cases hk:(tk T i).1=k
 ·exact(pm p i c A T k w h hk h0).mono λe w' ⟨h1,h2,h3⟩=>h1▸Out.ok (by unfold bO;rw[Ed hk]) rfl h2 h3
 ·exact(sI p i c A T k w h hk).mono λe w' ⟨h1,h2⟩=>h1▸Out.bad (by unfold bO;rw[DS hk]) (Bx.of h2)
theorem ep(h:PS w p A c T i):Calls Tryz.prog 211 #[.pointer (some ⟨p,0,none⟩)] w (Out wv p A c T w (bO T 2 i)):=by
 by_cases hk:(tk T i).1=2
 ·exact(xc p i c A T w h hk).mono λe w' ⟨h1,h2,h3⟩=>h1▸Out.ok (by unfold bO;rw[Ed hk]) rfl h2 h3
 ·exact(zw p i c A T w h hk).mono λe w' ⟨h1,h2⟩=>h1▸Out.bad (by unfold bO;rw[DS hk]) (Bx.of h2)
end
def fnL:Nat->Nat
 |0=>293|1=>301|2=>308|3=>311|4=>312|5=>313|6=>303|7=>309|_=>296
def RdAt{α:Type}(rv:Rv α)(n:Nat)(T:List Tk)(f:Nat->R α)(i:Nat):Prop:=
 ∀(p c:Nat) (A:Option Addr) (w:World),PS w p A c T i->Calls Tryz.prog n #[.pointer (some ⟨p,0,none⟩)] w (Out rv p A c T w (f i))
end
end Go.Proofs.YtjpbckbpeblibaaGreatDoor
