/- part of a proof -/
import Derived.Below
import Derived.Test.YtjpbckbpeblibaaGreatDoorRows
import Derived.WalkKit
import Derived.WalkSpells
import Derived.WalkLawsBesides
import Derived.Lib.Hide
import Derived.IntWalk
import Derived.Deep.QuietTactic
import Derived.BigQuiet
import Derived.Lib.ParseIntBCases
import Derived.Deep.RegionWith
import Derived.Lib.ItoaLen
import Derived.Laws.IdiomStrings
namespace Go.Proofs.YtjpbckbpeblibaaGreatDoor
set_option linter.unusedVariables false
set_option linter.unusedSimpArgs false
set_option maxRecDepth 100000
set_option maxHeartbeats 64000000
section
open Go.RowKit
variable{A:Option Addr}{B B' g:Nat}{cs:List Value}{o:Obj}{ss:List ByteArray}{u:Value}{w w' w0:World}{zs:List Int}{α:Type}
theorem DJ:type_of% @List.length_append:=@List.length_append
theorem DK:type_of% @Nat.le_refl:=@Nat.le_refl
theorem DM:type_of% @beq_eq_false_iff_ne:=@beq_eq_false_iff_ne
theorem DN:type_of% @Below.refl:=@Below.refl
theorem DO:type_of% @List.length_nil:=@List.length_nil
theorem DP:type_of% @List.take_of_length_le:=@List.take_of_length_le
theorem DQ:type_of% @List.getElem?_eq_some_iff:=@List.getElem?_eq_some_iff
theorem DR:type_of% @Nat.lt_of_lt_of_le:=@Nat.lt_of_lt_of_le
theorem DS:type_of% @if_neg:=@if_neg
theorem DT:type_of% @List.getElem?_eq_getElem:=@List.getElem?_eq_getElem
theorem DV:type_of% @World.size_alloc:=@World.size_alloc
theorem DW:type_of% @List.mem_of_getElem?:=@List.mem_of_getElem?
theorem DX:type_of% @List.not_mem_nil:=@List.not_mem_nil
theorem DY:type_of% @List.mem_cons:=@List.mem_cons
theorem DZ:type_of% @Below.heap_setCell:=@Below.heap_setCell
theorem Ea:type_of% @Nat.zero_le:=@Nat.zero_le
theorem Ed:type_of% @if_pos:=@if_pos
theorem Ee:type_of% @Bool.and_eq_true:=@Bool.and_eq_true
theorem Ef:type_of% @Array.getElem?_eq_some_iff:=@Array.getElem?_eq_some_iff
theorem Eh:type_of% @Go.WideShapes.bytes_inj:=@Go.WideShapes.bytes_inj
theorem Ei:type_of% @Int.eq_ofNat_of_zero_le:=@Int.eq_ofNat_of_zero_le
theorem Ek:type_of% @Nat.le_trans:=@Nat.le_trans
theorem Em:type_of% @and_true:=@and_true
theorem En:type_of% @List.eq_nil_of_length_eq_zero:=@List.eq_nil_of_length_eq_zero
theorem Ep:type_of% @decide_eq_true_eq:=@decide_eq_true_eq
theorem Es:type_of% @List.getD_eq_getElem?_getD:=@List.getD_eq_getElem?_getD
theorem Eu:type_of% @List.getElem?_map:=@List.getElem?_map
theorem Ev:type_of% @Option.map_eq_some_iff:=@Option.map_eq_some_iff
theorem Ew:type_of% @or_false:=@or_false
theorem EA:type_of% @Below.heap_alloc:=@Below.heap_alloc
theorem EB:type_of% @List.mem_map:=@List.mem_map
theorem EI:type_of% @List.getElem?_append_left:=@List.getElem?_append_left
theorem EN:type_of% @ByteArray.toList_eq:=@ByteArray.toList_eq
theorem ES:type_of% @Nat.lt_or_ge:=@Nat.lt_or_ge
theorem ET:type_of% @Nat.zero_add:=@Nat.zero_add
theorem EU:type_of% @List.getElem?_append_right:=@List.getElem?_append_right
theorem Fs:type_of% @List.any_eq_true:=@List.any_eq_true
theorem Ft:type_of% @Bool.true_and:=@Bool.true_and
theorem Fw:type_of% @List.getElem?_eq_none:=@List.getElem?_eq_none
theorem Fx:type_of% @List.length_singleton:=@List.length_singleton
theorem FJ:type_of% @List.length_drop:=@List.length_drop
theorem FT:type_of% @Nat.add_assoc:=@Nat.add_assoc
theorem H_{p : Prop}(h : p) : Hid p:=Lib.hid h
theorem nm_{α : Sort _}(a : α) : ∃x,a=x:=⟨a,rfl⟩
abbrev Tk:=Int×ByteArray×Int×Int
inductive Ex where
 |mk (k op z:Int) (nm:ByteArray) (at_:Bool) (args:List Ex)
inductive St where
 |mk (k:Int) (nm:ByteArray) (ex:List Ex) (body els:List St)
structure Me where
 nm:ByteArray
 params:List ByteArray
 body:List St
structure Cl where
 nm:ByteArray
 actor:Bool
 fields:List ByteArray
 methods:List Me
inductive R(α:Type) where
 |bad (j:Nat):R α
 |ok (x:α) (j:Nat):R α
def R.aB{α β:Type}:R α->(α->Nat->R β)->R β
 | .bad j,_=> .bad j
 | .ok x j,f=>f x j
section
variable(T:List Tk)
def tk(i:Nat):Tk:=T.getD i (0,⟨#[]⟩,0,0)
def isT(s:ByteArray)(i:Nat):Bool:=decide ((tk T i).2.1=s)&&(decide ((tk T i).1=4)||decide ((tk T i).1=5))
def bj(s:ByteArray)(i:Nat):R Unit:=if isT T s i=true then .ok () (i+1)else .bad i
def bO(k:Int)(i:Nat):R ByteArray:=if(tk T i).1=k then .ok (tk T i).2.1 (i+1)else .bad i
def cG:ByteArray:=⟨#[40]⟩
def da:ByteArray:=⟨#[41]⟩
def cu:ByteArray:=⟨#[123]⟩
def ci:ByteArray:=⟨#[125]⟩
def iw:ByteArray:=⟨#[44]⟩
def DOT:ByteArray:=⟨#[46]⟩
def aN:ByteArray:=⟨#[59]⟩
def bL:ByteArray:=⟨#[61]⟩
def bK:ByteArray:=⟨#[45]⟩
def eF:ByteArray:=⟨#[97,99,116,111,114]⟩
def kAt:ByteArray:=⟨#[97,116]⟩
def kBy:ByteArray:=⟨#[98,121]⟩
def ey:ByteArray:=⟨#[101,108,115,101]⟩
def dT:ByteArray:=⟨#[103,101,116]⟩
def kIf:ByteArray:=⟨#[105,102]⟩
def gW:ByteArray:=⟨#[108,101,116]⟩
def fM:ByteArray:=⟨#[109,111,118,101]⟩
def dx:ByteArray:=⟨#[110,101,119]⟩
def gJ:ByteArray:=⟨#[110,105,108]⟩
def dE:ByteArray:=⟨#[110,111,116]⟩
def kOn:ByteArray:=⟨#[111,110]⟩
def dS:ByteArray:=⟨#[112,114,105,110,116]⟩
def et:ByteArray:=⟨#[114,101,99,111,114,100]⟩
def dQ:ByteArray:=⟨#[114,101,116,117,114,110]⟩
def fa:ByteArray:=⟨#[115,101,110,100]⟩
def ew:ByteArray:=⟨#[116,104,105,115]⟩
def kTo:ByteArray:=⟨#[116,111]⟩
def ql:ByteArray:=⟨#[118,97,114]⟩
def eE:ByteArray:=⟨#[119,97,116,99,104]⟩
def ca:ByteArray:=⟨#[119,101,97,107]⟩
def dD:ByteArray:=⟨#[119,104,105,108,101]⟩
def t8:List ByteArray:=[⟨#[43]⟩,⟨#[45]⟩,⟨#[42]⟩,⟨#[47]⟩,⟨#[37]⟩,⟨#[61,61]⟩,⟨#[33,61]⟩,⟨#[60]⟩,⟨#[60,61]⟩,⟨#[62]⟩,⟨#[62,61]⟩,⟨#[97,110,100]⟩,⟨#[111,114]⟩]
def bH(o:Nat):ByteArray:=t8.getD o ⟨#[]⟩
def opT(ops:List Nat)(i:Nat):Option Nat:=ops.find? λo=>isT T (bH o) i
def oOr:List Nat:=[12]
def wP:List Nat:=[11]
def uz:List Nat:=[5,6,7,8,9,10]
def wN:List Nat:=[0,1]
def wO:List Nat:=[2,3,4]
def ge(z:Int):Ex:= .mk 0 0 z ⟨#[]⟩ false []
def cx(o:Nat)(a b:Ex):Ex:= .mk 10 (o:Int) 0 ⟨#[]⟩ false [a,b]
def eUn(k:Int)(a:Ex):Ex:= .mk k 0 0 ⟨#[]⟩ false [a]
def aR(s:ByteArray)(a:Ex):Ex:= .mk 4 0 0 s false [a]
def fb(k:Int)(s:ByteArray):Ex:= .mk k 0 0 s false []
def dg(f:Nat->R Ex)(ops:List Nat):Nat->Ex->Nat->R Ex
 |0,_,i=> .bad i
 |k+1,x,i=>match opT T ops i with
  |none=> .ok x i
  |some o=>match f (i+1)with
   | .bad j=> .bad j
   | .ok y j=>dg f ops k (cx o x y) j
def eQ(f:Nat->R Ex)(ops:List Nat)(i:Nat):R Ex:=
 match f i with
 | .bad j=> .bad j
 | .ok x j=>dg T f ops (T.length+1) x j
def dt{α:Type}(f:Nat->R α):Nat->List α->Nat->R (List α)
 |0,_,i=> .bad i
 |k+1,xs,i=>if isT T iw i=true then(match f (i+1)with
   | .bad j=> .bad j
   | .ok y j=>dt f k (xs++[y]) j)
  else(match bj T da i with
   | .bad j=> .bad j
   | .ok _ j=> .ok xs j)
def bZ{α:Type}(f:Nat->R α)(i:Nat):R (List α):=
 match bj T cG i with
 | .bad j=> .bad j
 | .ok _ j=>if isT T da j=true then .ok [] (j+1)else match f j with
   | .bad l=> .bad l
   | .ok x l=>dt T f (T.length+1) [x] l
def cg:Nat->Ex->Nat->R Ex
 |0,_,i=> .bad i
 |k+1,x,i=>if isT T DOT i=true then(match bO T 2 (i+1)with
   | .bad j=> .bad j
   | .ok s j=>cg k (aR s x) j)
  else .ok x i
section
variable(rec:Nat->Nat->R Ex)
def lu(i:Nat):R Ex:=
 match bj T dx i with
 | .bad j=> .bad j
 | .ok _ j=>match bO T 3 j with
   | .bad l=> .bad l
   | .ok s l=>match bZ T (rec 0) l with
     | .bad m=> .bad m
     | .ok xs m=>if isT T kAt m=true then(match rec 6 (m+1)with
        | .bad q=> .bad q
        | .ok y q=> .ok (.mk 5 0 0 s true (xs++[y])) q)
       else .ok (.mk 5 0 0 s false xs) m
def aw(i:Nat):R Ex:=
 if(tk T i).1=1 then .ok (ge (tk T i).2.2.1) (i+1)
 else if(tk T i).1=2 then .ok (fb 3 (tk T i).2.1) (i+1)
 else if isT T gJ i=true then .ok (fb 1 ⟨#[]⟩) (i+1)
 else if isT T ew i=true then .ok (fb 2 ⟨#[]⟩) (i+1)
 else if isT T cG i=true then(match rec 0 (i+1)with
  | .bad j=> .bad j
  | .ok x j=>match bj T da j with
    | .bad l=> .bad l
    | .ok _ l=> .ok x l)
 else lu T rec i
def cj(i:Nat):R Ex:=
 match aw T rec i with
 | .bad j=> .bad j
 | .ok x j=>cg T (T.length+1) x j
def ev(k:Int)(l i:Nat):R Ex:=
 match rec l i with
 | .bad j=> .bad j
 | .ok x j=> .ok (eUn k x) j
def co(i:Nat):R Ex:=
 if isT T bK i=true then ev rec 8 6 (i+1)
 else if isT T ca i=true then ev rec 6 6 (i+1)
 else if isT T dT i=true then ev rec 7 6 (i+1)
 else cj T rec i
def fx(i:Nat):R Ex:=eQ T (co T rec) wO i
def jb(i:Nat):R Ex:=eQ T (fx T rec) wN i
def cz(i:Nat):R Ex:=
 match jb T rec i with
 | .bad j=> .bad j
 | .ok x j=>match opT T uz j with
   |none=> .ok x j
   |some o=>match jb T rec (j+1)with
    | .bad l=> .bad l
    | .ok y l=> .ok (cx o x y) l
def iO(i:Nat):R Ex:=if isT T dE i=true then ev rec 9 2 (i+1)else cz T rec i
def sC(i:Nat):R Ex:=eQ T (iO T rec) wP i
def tF(i:Nat):R Ex:=eQ T (sC T rec) oOr i
def fg(l:Nat)(i:Nat):R Ex:=
 match l with
 |0=>tF T rec i
 |1=>sC T rec i
 |2=>iO T rec i
 |3=>cz T rec i
 |4=>jb T rec i
 |5=>fx T rec i
 |6=>co T rec i
 |7=>cj T rec i
 |_=>aw T rec i
end
def E:Nat->Nat->Nat->R Ex
 |0,_,i=> .bad i
 |n+1,l,i=>fg T (E n) l i
def stE(k:Int)(s:ByteArray)(xs:List Ex):St:= .mk k s xs [] []
section
variable(ex:Nat->Nat->R Ex)(st:Nat->R St)
def cX:Nat->List St->Nat->R (List St)
 |0,_,i=> .bad i
 |k+1,ss,i=>if isT T ci i=true then .ok ss (i+1)else match st i with
  | .bad j=> .bad j
  | .ok s j=>cX k (ss++[s]) j
def d9(i:Nat):R (List St):=
 match bj T cu i with
 | .bad j=> .bad j
 | .ok _ j=>cX T st (T.length+1) [] j
def dm(k:Int)(i:Nat):R St:=
 match bO T 2 i with
 | .bad j=> .bad j
 | .ok s j=>match bj T bL j with
   | .bad l=> .bad l
   | .ok _ l=>match ex 0 l with
     | .bad m=> .bad m
     | .ok x m=> .ok (stE k s [x]) m
def cU:Nat->Ex->Nat->R St
 |0,_,i=> .bad i
 |k+1,x,i=>match bj T DOT i with
  | .bad j=> .bad j
  | .ok _ j=>match bO T 2 j with
    | .bad l=> .bad l
    | .ok s l=>if isT T cG l=true then(match bZ T (ex 0) l with
       | .bad m=> .bad m
       | .ok xs m=> .ok (stE 5 s (x::xs)) m)
      else cU k (aR s x) l
def gr(i:Nat):R St:=
 match ex 8 i with
 | .bad j=> .bad j
 | .ok x j=>cU T ex (T.length+1) x j
def jI(i:Nat):R St:=
 match ex 0 i with
 | .bad j=> .bad j
 | .ok x j=>match bj T kTo j with
   | .bad l=> .bad l
   | .ok _ l=>match ex 0 l with
     | .bad m=> .bad m
     | .ok y m=> .ok (stE 7 ⟨#[]⟩ [x,y]) m
def eT(i:Nat):R St:=
 match ex 0 i with
 | .bad j=> .bad j
 | .ok x j=>match bj T kBy j with
   | .bad l=> .bad l
   | .ok _ l=>match bO T 2 l with
     | .bad m=> .bad m
     | .ok s m=>match bj T cG m with
       | .bad p=> .bad p
       | .ok _ p=>match ex 0 p with
         | .bad q=> .bad q
         | .ok y q=>match bj T da q with
           | .bad r=> .bad r
           | .ok _ r=> .ok (stE 8 s [x,y]) r
def fq(i:Nat):R St:=
 match ex 8 i with
 | .bad j=> .bad j
 | .ok x j=>match bj T DOT j with
   | .bad l=> .bad l
   | .ok _ l=>match bO T 2 l with
     | .bad m=> .bad m
     | .ok s m=>match bj T bL m with
       | .bad p=> .bad p
       | .ok _ p=>match ex 0 p with
         | .bad q=> .bad q
         | .ok y q=> .ok (stE 2 s [x,y]) q
def aV(i:Nat):R St:=
 if isT T gW i=true then dm T ex 0 (i+1)
 else if isT T fa i=true then gr T ex (i+1)
 else if isT T dS i=true then(match ex 0 (i+1)with
  | .bad j=> .bad j
  | .ok x j=> .ok (stE 6 ⟨#[]⟩ [x]) j)
 else if isT T fM i=true then jI T ex (i+1)
 else if isT T eE i=true then eT T ex (i+1)
 else if isT T dQ i=true then .ok (stE 9 ⟨#[]⟩ []) (i+1)
 else if(tk T i).1=2/\(tk T (i+1)).1=5/\(tk T (i+1)).2.1=bL then dm T ex 1 i
 else fq T ex i
def iX(i:Nat):R St:=
 match ex 0 i with
 | .bad j=> .bad j
 | .ok x j=>match d9 T st j with
   | .bad l=> .bad l
   | .ok b l=> .ok (.mk 4 ⟨#[]⟩ [x] b []) l
def ifT(i:Nat):R St:=
 match ex 0 i with
 | .bad j=> .bad j
 | .ok x j=>match d9 T st j with
   | .bad l=> .bad l
   | .ok b l=>if isT T ey l=true then(match d9 T st (l+1)with
      | .bad m=> .bad m
      | .ok c m=> .ok (.mk 3 ⟨#[]⟩ [x] b c) m)
     else .ok (.mk 3 ⟨#[]⟩ [x] b []) l
def dJ(i:Nat):R St:=
 if isT T kIf i=true then ifT T ex st (i+1)
 else if isT T dD i=true then iX T ex st (i+1)
 else match aV T ex i with
  | .bad j=> .bad j
  | .ok s j=>match bj T aN j with
    | .bad l=> .bad l
    | .ok _ l=> .ok s l
end
def S:Nat->Nat->R St
 |0,i=> .bad i
 |n+1,i=>dJ T (E T (n+1)) (S n) i
def bP:Nat->List ByteArray->Nat->R (List ByteArray)
 |0,_,i=> .bad i
 |k+1,fs,i=>if isT T ql i=true then(match bO T 2 (i+1)with
   | .bad j=> .bad j
   | .ok s j=>match bj T aN j with
     | .bad l=> .bad l
     | .ok _ l=>bP k (fs++[s]) l)
  else .ok fs i
def ff(n:Nat)(i:Nat):R Me:=
 match bO T 2 i with
 | .bad j=> .bad j
 | .ok s j=>match bZ T (bO T 2) j with
   | .bad l=> .bad l
   | .ok ps l=>match d9 T (S T n) l with
     | .bad m=> .bad m
     | .ok b m=> .ok ⟨s,ps,b⟩ m
def aM(n:Nat):Nat->List Me->Nat->R (List Me)
 |0,_,i=> .bad i
 |k+1,ms,i=>if isT T kOn i=true then(match ff T n (i+1)with
   | .bad j=> .bad j
   | .ok m j=>aM n k (ms++[m]) j)
  else .ok ms i
def cZ(n:Nat)(actor:Bool)(i:Nat):R Cl:=
 match bO T 3 i with
 | .bad j=> .bad j
 | .ok s j=>match bj T cu j with
   | .bad l=> .bad l
   | .ok _ l=>match bP T (T.length+1) [] l with
     | .bad m=> .bad m
     | .ok fs m=>match(if actor=true then aM T n (T.length+1) [] m else .ok [] m)with
       | .bad p=> .bad p
       | .ok ms p=>match bj T ci p with
         | .bad q=> .bad q
         | .ok _ q=> .ok ⟨s,actor,fs,ms⟩ q
def cr(n:Nat):Nat->List Cl->Nat->R (List Cl)
 |0,_,i=> .bad i
 |k+1,cs,i=>if isT T eF i=true then(match cZ T n true (i+1)with
   | .bad j=> .bad j
   | .ok c j=>cr n k (cs++[c]) j)
  else if isT T et i=true then(match cZ T n false (i+1)with
   | .bad j=> .bad j
   | .ok c j=>cr n k (cs++[c]) j)
  else if(tk T i).1=0 then .ok cs i else .bad i
def dr:R (List Cl):=cr T (T.length+1) (T.length+1) [] 0
end
theorem sZ{k:IntKind}{a b:Int}(h:a=b):Ending.returned (.int k a)= .returned (.int k b):=by rw[h]
theorem aa{a b:Bool}(h:a=b):Ending.returned (.bool a)= .returned (.bool b):=by rw[h]
def Blk(w:World)(g:Nat)(t:TypeId)(cs:Array Value):Prop:=w.heap[g]?=some (.cells cs t (0,0))
section
variable{w w':World}{g:Nat}{t:TypeId}{cs:Array Value}
theorem Blk.lt(h:Blk w g t cs):g<w.heap.size:=by
 rcases ES g w.heap.size with hlt|hge
 ·exact hlt
 ·unfold Blk at h;rw[Array.getElem?_eq_none hge]at h;cases h
theorem Blk.cell(h:Blk w g t cs)(i:Nat):w.cell? ⟨g,i,none⟩=cs[i]?:=by
 unfold Blk at h;simp[World.cell?,h]
theorem Blk.frozen(h:Blk w g t cs)(i:Nat):w.frozen? ⟨g,i,none⟩=false:=by
 unfold Blk at h;simp[World.frozen?,h]
theorem Blk.new(w:World)(t:TypeId)(cs:Array Value):Blk (w.alloc (.cells cs t)) w.heap.size t cs:=heap_alloc_new w _
theorem Blk.alloc(h:Blk w g t cs)(o:Obj):Blk (w.alloc o) g t cs:=(EA w o g h.lt).trans h
theorem Blk.below(h:Blk w g t cs)(hb:Below B w w')(hg:g<B):Blk w' g t cs:=(hb.block g hg).trans h
theorem hbl(h:Hid (Blk w g t cs))(hb:Below w.heap.size w w'):Hid (Blk w' g t cs):=H_ (h.out.below hb h.out.lt)
theorem htr(h:Hid (Below w0.heap.size w0 w))(hb:Below w.heap.size w w'):Hid (Below w0.heap.size w0 w'):=H_ (h.out.trans (hb.mono h.out.size))
theorem htm{S:Nat}(h:Hid (Below S w0 w))(hb:Below w.heap.size w w')(hS:S<=w.heap.size:=by omega):Hid (Below S w0 w'):=H_ (h.out.trans (hb.mono hS))
theorem bal(h:w.alloc o=w'):Below w.heap.size w w':=h▸(DN _ _).alloc (DK _) _
theorem Blk.drew(h:Blk w g t cs):Blk w.drew g t cs:=h
theorem Blk.set(h:Blk w g t cs)(i:Nat)(v:Value):Blk (w.setCell ⟨g,i,none⟩ v) g t (cs.setIfInBounds i v):=by
 unfold Blk at*
 obtain⟨hlt,hg⟩:=Ef.1 h;simp[World.setCell,hlt,Array.getElem_modify,hg]
theorem Blk.other(h:Blk w g t cs)(p:Addr)(v:Value)(hne:g≠p.block):Blk (w.setCell p v) g t cs:=(DZ w p v g hne).trans h
variable{v0 v1 v2 v3 v4 v5 v6 v7 v8:Value}{l:List Value}
theorem Blk.k0(h:Blk w g t (v0::l).toArray):w.cell? ⟨g,0,none⟩=some v0:=(h.cell 0).trans (by simp)
theorem Blk.k1(h:Blk w g t (v0::v1::l).toArray):w.cell? ⟨g,1,none⟩=some v1:=(h.cell 1).trans (by simp)
theorem Blk.k2(h:Blk w g t (v0::v1::v2::l).toArray):w.cell? ⟨g,2,none⟩=some v2:=(h.cell 2).trans (by simp)
theorem Blk.k3(h:Blk w g t (v0::v1::v2::v3::l).toArray):w.cell? ⟨g,3,none⟩=some v3:=(h.cell 3).trans (by simp)
theorem Blk.k4(h:Blk w g t (v0::v1::v2::v3::v4::l).toArray):w.cell? ⟨g,4,none⟩=some v4:=(h.cell 4).trans (by simp)
theorem Blk.k5(h:Blk w g t (v0::v1::v2::v3::v4::v5::l).toArray):w.cell? ⟨g,5,none⟩=some v5:=(h.cell 5).trans (by simp)
theorem Blk.k6(h:Blk w g t (v0::v1::v2::v3::v4::v5::v6::l).toArray):w.cell? ⟨g,6,none⟩=some v6:=(h.cell 6).trans (by simp)
theorem Blk.k7(h:Blk w g t (v0::v1::v2::v3::v4::v5::v6::v7::l).toArray):w.cell? ⟨g,7,none⟩=some v7:=(h.cell 7).trans (by simp)
theorem Blk.k8(h:Blk w g t (v0::v1::v2::v3::v4::v5::v6::v7::v8::l).toArray):w.cell? ⟨g,8,none⟩=some v8:=(h.cell 8).trans (by simp)
theorem Blk.c2(h:Blk w g t (v0::v1::l).toArray):w.cell? ⟨g,0,none⟩=some v0/\w.cell? ⟨g,1,none⟩=some v1:=⟨h.k0,h.k1⟩
theorem Blk.c3(h:Blk w g t (v0::v1::v2::l).toArray):w.cell? ⟨g,0,none⟩=some v0/\w.cell? ⟨g,1,none⟩=some v1/\w.cell? ⟨g,2,none⟩=some v2:=⟨h.k0,h.k1,h.k2⟩
theorem Blk.c4(h:Blk w g t (v0::v1::v2::v3::l).toArray):w.cell? ⟨g,0,none⟩=some v0/\w.cell? ⟨g,1,none⟩=some v1/\w.cell? ⟨g,2,none⟩=some v2/\w.cell? ⟨g,3,none⟩=some v3:=⟨h.k0,h.k1,h.k2,h.k3⟩
theorem Blk.c5(h:Blk w g t (v0::v1::v2::v3::v4::l).toArray):w.cell? ⟨g,0,none⟩=some v0/\w.cell? ⟨g,1,none⟩=some v1/\w.cell? ⟨g,2,none⟩=some v2/\w.cell? ⟨g,3,none⟩=some v3/\w.cell? ⟨g,4,none⟩=some v4:=⟨h.k0,h.k1,h.k2,h.k3,h.k4⟩
theorem Blk.c6(h:Blk w g t (v0::v1::v2::v3::v4::v5::l).toArray):w.cell? ⟨g,0,none⟩=some v0/\w.cell? ⟨g,1,none⟩=some v1/\w.cell? ⟨g,2,none⟩=some v2/\w.cell? ⟨g,3,none⟩=some v3/\w.cell? ⟨g,4,none⟩=some v4/\w.cell? ⟨g,5,none⟩=some v5:=⟨h.k0,h.k1,h.k2,h.k3,h.k4,h.k5⟩
theorem Blk.c7(h:Blk w g t (v0::v1::v2::v3::v4::v5::v6::l).toArray):w.cell? ⟨g,0,none⟩=some v0/\w.cell? ⟨g,1,none⟩=some v1/\w.cell? ⟨g,2,none⟩=some v2/\w.cell? ⟨g,3,none⟩=some v3/\w.cell? ⟨g,4,none⟩=some v4/\w.cell? ⟨g,5,none⟩=some v5/\w.cell? ⟨g,6,none⟩=some v6:=⟨h.k0,h.k1,h.k2,h.k3,h.k4,h.k5,h.k6⟩
theorem Blk.c8(h:Blk w g t (v0::v1::v2::v3::v4::v5::v6::v7::l).toArray):w.cell? ⟨g,0,none⟩=some v0/\w.cell? ⟨g,1,none⟩=some v1/\w.cell? ⟨g,2,none⟩=some v2/\w.cell? ⟨g,3,none⟩=some v3/\w.cell? ⟨g,4,none⟩=some v4/\w.cell? ⟨g,5,none⟩=some v5/\w.cell? ⟨g,6,none⟩=some v6/\w.cell? ⟨g,7,none⟩=some v7:=⟨h.k0,h.k1,h.k2,h.k3,h.k4,h.k5,h.k6,h.k7⟩
theorem Blk.f2(h:Blk w g t cs):w.frozen? ⟨g,0,none⟩=false/\w.frozen? ⟨g,1,none⟩=false:=⟨h.frozen 0,h.frozen 1⟩
theorem Blk.f3(h:Blk w g t cs):w.frozen? ⟨g,0,none⟩=false/\w.frozen? ⟨g,1,none⟩=false/\w.frozen? ⟨g,2,none⟩=false:=⟨h.frozen 0,h.frozen 1,h.frozen 2⟩
theorem Blk.f4(h:Blk w g t cs):w.frozen? ⟨g,0,none⟩=false/\w.frozen? ⟨g,1,none⟩=false/\w.frozen? ⟨g,2,none⟩=false/\w.frozen? ⟨g,3,none⟩=false:=⟨h.frozen 0,h.frozen 1,h.frozen 2,h.frozen 3⟩
theorem Blk.f5(h:Blk w g t cs):w.frozen? ⟨g,0,none⟩=false/\w.frozen? ⟨g,1,none⟩=false/\w.frozen? ⟨g,2,none⟩=false/\w.frozen? ⟨g,3,none⟩=false/\w.frozen? ⟨g,4,none⟩=false:=⟨h.frozen 0,h.frozen 1,h.frozen 2,h.frozen 3,h.frozen 4⟩
theorem Blk.f6(h:Blk w g t cs):w.frozen? ⟨g,0,none⟩=false/\w.frozen? ⟨g,1,none⟩=false/\w.frozen? ⟨g,2,none⟩=false/\w.frozen? ⟨g,3,none⟩=false/\w.frozen? ⟨g,4,none⟩=false/\w.frozen? ⟨g,5,none⟩=false:=⟨h.frozen 0,h.frozen 1,h.frozen 2,h.frozen 3,h.frozen 4,h.frozen 5⟩
theorem Blk.f7(h:Blk w g t cs):w.frozen? ⟨g,0,none⟩=false/\w.frozen? ⟨g,1,none⟩=false/\w.frozen? ⟨g,2,none⟩=false/\w.frozen? ⟨g,3,none⟩=false/\w.frozen? ⟨g,4,none⟩=false/\w.frozen? ⟨g,5,none⟩=false/\w.frozen? ⟨g,6,none⟩=false:=⟨h.frozen 0,h.frozen 1,h.frozen 2,h.frozen 3,h.frozen 4,h.frozen 5,h.frozen 6⟩
theorem Blk.f8(h:Blk w g t cs):w.frozen? ⟨g,0,none⟩=false/\w.frozen? ⟨g,1,none⟩=false/\w.frozen? ⟨g,2,none⟩=false/\w.frozen? ⟨g,3,none⟩=false/\w.frozen? ⟨g,4,none⟩=false/\w.frozen? ⟨g,5,none⟩=false/\w.frozen? ⟨g,6,none⟩=false/\w.frozen? ⟨g,7,none⟩=false:=⟨h.frozen 0,h.frozen 1,h.frozen 2,h.frozen 3,h.frozen 4,h.frozen 5,h.frozen 6,h.frozen 7⟩
theorem Blk.nw(e:w.alloc (.cells cs t)=w'):Blk w' w.heap.size t cs:=e▸Blk.new w t cs
theorem Blk.ng(e:w.alloc (.cells cs t)=w')(z:w.heap.size=g):Blk w' g t cs:=z▸e▸Blk.new w t cs
theorem hnw(e:w.alloc (.cells cs t)=w'):Hid (Blk w' w.heap.size t cs):=H_ (Blk.nw e)
theorem hng(e:w.alloc (.cells cs t)=w')(z:w.heap.size=g):Hid (Blk w' g t cs):=H_ (Blk.ng e z)
theorem hba(h:w.alloc o=w'):Hid (Below w.heap.size w w'):=H_ (bal h)
theorem Blk.al(h:Blk w g t cs)(e:w.alloc o=w'):Blk w' g t cs:=e▸h.alloc o
theorem Blk.t0(h:Blk w g t (v0::l).toArray)(u:Value):Blk (w.setCell ⟨g,0,none⟩ u) g t (u::l).toArray:=by simpa using h.set 0 u
theorem Blk.s0(h:Blk w g t (v0::l).toArray)(e:w.setCell ⟨g,0,none⟩ u=w'):Blk w' g t (u::l).toArray:=e▸h.t0 u
theorem hs0(h:Hid (Blk w g t (v0::l).toArray))(e:w.setCell ⟨g,0,none⟩ u=w'):Hid (Blk w' g t (u::l).toArray):=H_ (h.out.s0 e)
theorem Blk.t1(h:Blk w g t (v0::v1::l).toArray)(u:Value):Blk (w.setCell ⟨g,1,none⟩ u) g t (v0::u::l).toArray:=by simpa using h.set 1 u
theorem Blk.s1(h:Blk w g t (v0::v1::l).toArray)(e:w.setCell ⟨g,1,none⟩ u=w'):Blk w' g t (v0::u::l).toArray:=e▸h.t1 u
theorem ht1(h:Hid (Blk w g t (v0::v1::l).toArray))(u:Value):Hid (Blk (w.setCell ⟨g,1,none⟩ u) g t (v0::u::l).toArray):=H_ (h.out.t1 u)
theorem hs1(h:Hid (Blk w g t (v0::v1::l).toArray))(e:w.setCell ⟨g,1,none⟩ u=w'):Hid (Blk w' g t (v0::u::l).toArray):=H_ (h.out.s1 e)
theorem Blk.t2(h:Blk w g t (v0::v1::v2::l).toArray)(u:Value):Blk (w.setCell ⟨g,2,none⟩ u) g t (v0::v1::u::l).toArray:=by simpa using h.set 2 u
theorem Blk.s2(h:Blk w g t (v0::v1::v2::l).toArray)(e:w.setCell ⟨g,2,none⟩ u=w'):Blk w' g t (v0::v1::u::l).toArray:=e▸h.t2 u
theorem ht2(h:Hid (Blk w g t (v0::v1::v2::l).toArray))(u:Value):Hid (Blk (w.setCell ⟨g,2,none⟩ u) g t (v0::v1::u::l).toArray):=H_ (h.out.t2 u)
theorem hs2(h:Hid (Blk w g t (v0::v1::v2::l).toArray))(e:w.setCell ⟨g,2,none⟩ u=w'):Hid (Blk w' g t (v0::v1::u::l).toArray):=H_ (h.out.s2 e)
theorem Blk.t3(h:Blk w g t (v0::v1::v2::v3::l).toArray)(u:Value):Blk (w.setCell ⟨g,3,none⟩ u) g t (v0::v1::v2::u::l).toArray:=by simpa using h.set 3 u
theorem Blk.s3(h:Blk w g t (v0::v1::v2::v3::l).toArray)(e:w.setCell ⟨g,3,none⟩ u=w'):Blk w' g t (v0::v1::v2::u::l).toArray:=e▸h.t3 u
theorem ht3(h:Hid (Blk w g t (v0::v1::v2::v3::l).toArray))(u:Value):Hid (Blk (w.setCell ⟨g,3,none⟩ u) g t (v0::v1::v2::u::l).toArray):=H_ (h.out.t3 u)
theorem hs3(h:Hid (Blk w g t (v0::v1::v2::v3::l).toArray))(e:w.setCell ⟨g,3,none⟩ u=w'):Hid (Blk w' g t (v0::v1::v2::u::l).toArray):=H_ (h.out.s3 e)
theorem Blk.t4(h:Blk w g t (v0::v1::v2::v3::v4::l).toArray)(u:Value):Blk (w.setCell ⟨g,4,none⟩ u) g t (v0::v1::v2::v3::u::l).toArray:=by simpa using h.set 4 u
theorem Blk.s4(h:Blk w g t (v0::v1::v2::v3::v4::l).toArray)(e:w.setCell ⟨g,4,none⟩ u=w'):Blk w' g t (v0::v1::v2::v3::u::l).toArray:=e▸h.t4 u
theorem hs4(h:Hid (Blk w g t (v0::v1::v2::v3::v4::l).toArray))(e:w.setCell ⟨g,4,none⟩ u=w'):Hid (Blk w' g t (v0::v1::v2::v3::u::l).toArray):=H_ (h.out.s4 e)
theorem Blk.t5(h:Blk w g t (v0::v1::v2::v3::v4::v5::l).toArray)(u:Value):Blk (w.setCell ⟨g,5,none⟩ u) g t (v0::v1::v2::v3::v4::u::l).toArray:=by simpa using h.set 5 u
theorem Blk.s5(h:Blk w g t (v0::v1::v2::v3::v4::v5::l).toArray)(e:w.setCell ⟨g,5,none⟩ u=w'):Blk w' g t (v0::v1::v2::v3::v4::u::l).toArray:=e▸h.t5 u
theorem hs5(h:Hid (Blk w g t (v0::v1::v2::v3::v4::v5::l).toArray))(e:w.setCell ⟨g,5,none⟩ u=w'):Hid (Blk w' g t (v0::v1::v2::v3::v4::u::l).toArray):=H_ (h.out.s5 e)
theorem Blk.t6(h:Blk w g t (v0::v1::v2::v3::v4::v5::v6::l).toArray)(u:Value):Blk (w.setCell ⟨g,6,none⟩ u) g t (v0::v1::v2::v3::v4::v5::u::l).toArray:=by simpa using h.set 6 u
theorem Blk.s6(h:Blk w g t (v0::v1::v2::v3::v4::v5::v6::l).toArray)(e:w.setCell ⟨g,6,none⟩ u=w'):Blk w' g t (v0::v1::v2::v3::v4::v5::u::l).toArray:=e▸h.t6 u
theorem hs6(h:Hid (Blk w g t (v0::v1::v2::v3::v4::v5::v6::l).toArray))(e:w.setCell ⟨g,6,none⟩ u=w'):Hid (Blk w' g t (v0::v1::v2::v3::v4::v5::u::l).toArray):=H_ (h.out.s6 e)
end
theorem ab(hb:Below B w w'){b:Nat}(h:b<B)(o:Nat):w'.cell? ⟨b,o,none⟩=w.cell? ⟨b,o,none⟩:=hb.cell (p:=⟨b,o,none⟩) h
def Row(w:World)(B:Nat)(A:Option Addr)(n:Nat)(cs:List Value):Prop:=
 cs.length=n/\(0<n->∃b off,A=some ⟨b,off,none⟩/\b<B/\∀j v,cs[j]?=some v->w.cell? ⟨b,off+j,none⟩=some v)
theorem Row.below{n:Nat}(h:Row w B A n cs)(hb:Below B w w'):Row w' B A n cs:=
 ⟨h.1,λh0=>by
  obtain⟨b,off,h1,h2,h3⟩:=h.2 h0;exact⟨b,off,h1,h2,λj v hv=>(ab hb h2 _).trans (h3 j v hv)⟩⟩
theorem Row.more{n:Nat}(h:Row w B A n cs)(hB:B<=B'):Row w B' A n cs:=
 ⟨h.1,λh0=>by
  obtain⟨b,off,h1,h2,h3⟩:=h.2 h0;exact⟨b,off,h1,DR h2 hB,h3⟩⟩
theorem Row.at_{n:Nat}(h:Row w B A n cs){k:Nat}(hk:k<n):
 ∃b off v,A=some ⟨b,off,none⟩/\b<B/\cs[k]?=some v/\w.cell? ⟨b,off+k,none⟩=some v:=by
 obtain⟨b,off,h1,h2,h3⟩:=h.2 (by omega);have hl:k<cs.length:=by rw[h.1];exact hk
 exact⟨b,off,cs[k],h1,h2,DT hl,h3 k _ (DT hl)⟩
def Ints(w:World)(B:Nat)(A:Option Addr)(n:Nat)(zs:List Int):Prop:=Row w B A n (zs.map (.int .i64))
def Strs(w:World)(B:Nat)(A:Option Addr)(n:Nat)(ss:List ByteArray):Prop:=Row w B A n (ss.map .string)
theorem Ints.below{n:Nat}(h:Ints w B A n zs)(hb:Below B w w'):Ints w' B A n zs:=Row.below h hb
theorem Ints.more{n:Nat}(h:Ints w B A n zs)(hB:B<=B'):Ints w B' A n zs:=Row.more h hB
theorem Ints.len{n:Nat}(h:Ints w B A n zs):zs.length=n:=by simpa using h.1
theorem Ints.at_{n:Nat}(h:Ints w B A n zs){k:Nat}(hk:k<n):
 ∃b off z,A=some ⟨b,off,none⟩/\b<B/\zs[k]?=some z/\w.cell? ⟨b,off+k,none⟩=some (.int .i64 z):=by
 obtain⟨b,off,v,h1,h2,h3,h4⟩:=Row.at_ h hk;rw[Eu]at h3;obtain⟨z,hz,rfl⟩:=Ev.1 h3;exact⟨b,off,z,h1,h2,hz,h4⟩
theorem Strs.below{n:Nat}(h:Strs w B A n ss)(hb:Below B w w'):Strs w' B A n ss:=Row.below h hb
theorem Strs.more{n:Nat}(h:Strs w B A n ss)(hB:B<=B'):Strs w B' A n ss:=Row.more h hB
theorem Strs.len{n:Nat}(h:Strs w B A n ss):ss.length=n:=by simpa using h.1
theorem Strs.at_{n:Nat}(h:Strs w B A n ss){k:Nat}(hk:k<n):
 ∃b off s,A=some ⟨b,off,none⟩/\b<B/\ss[k]?=some s/\w.cell? ⟨b,off+k,none⟩=some (.string s):=by
 obtain⟨b,off,v,h1,h2,h3,h4⟩:=Row.at_ h hk;rw[Eu]at h3;obtain⟨z,hz,rfl⟩:=Ev.1 h3;exact⟨b,off,z,h1,h2,hz,h4⟩
theorem Row.tail{b off n:Nat}{v:Value}(h:Row w B (some ⟨b,off,none⟩) (n+1) (v::cs)):Row w B (some ⟨b,off+1,none⟩) n cs:=
 ⟨by simpa using h.1,λh0=>by
  obtain⟨b',off',h1,h2,h3⟩:=h.2 (by omega);simp only[Option.some.injEq,Addr.mk.injEq,Em]at h1;obtain⟨rfl,rfl⟩:=h1;exact⟨b,off+1,rfl,h2,λj u hu=>by rw[Nat.add_right_comm,FT];exact h3 (j+1) u (by simpa using hu)⟩⟩
structure Av where
 k:Int
 a:Int
 b:Int
 nm:ByteArray
 mt:ByteArray
 A:Option Addr
 n:Nat
 c:Nat
 A2:Option Addr
 n2:Nat
 c2:Nat
def Av.cells(v:Av):Array Value:= #[.int .i64 v.k,.int .i64 v.a,.int .i64 v.b,.string v.nm,.string v.mt,.slice v.A v.n v.c,.slice v.A2 v.n2 v.c2]
theorem Blk.v7{t:TypeId}{v:Av}(h:Blk w g t v.cells):w.cell? ⟨g,0,none⟩=some (.int .i64 v.k)/\w.cell? ⟨g,1,none⟩=some (.int .i64 v.a)/\w.cell? ⟨g,2,none⟩=some (.int .i64 v.b)/\w.cell? ⟨g,3,none⟩=some (.string v.nm)/\w.cell? ⟨g,4,none⟩=some (.string v.mt)/\w.cell? ⟨g,5,none⟩=some (.slice v.A v.n v.c)/\w.cell? ⟨g,6,none⟩=some (.slice v.A2 v.n2 v.c2):=
 (show Blk w g t #[.int .i64 v.k,.int .i64 v.a,.int .i64 v.b,.string v.nm,.string v.mt,.slice v.A v.n v.c,.slice v.A2 v.n2 v.c2]from h).c7
structure Ad where
 k:Int
 a:Int
 b:Int
 nm:ByteArray
 mt:ByteArray
 args:List Int
 surv:List Int
structure Reads(w:World)(B:Nat)(v:Av)(d:Ad):Prop where
 k:v.k=d.k
 a:v.a=d.a
 b:v.b=d.b
 nm:v.nm=d.nm
 mt:v.mt=d.mt
 args:Ints w B v.A v.n d.args
 surv:Ints w B v.A2 v.n2 d.surv
theorem Reads.below{v:Av}{d:Ad}(h:Reads w B v d)(hb:Below B w w'):Reads w' B v d:=⟨h.k,h.a,h.b,h.nm,h.mt,h.args.below hb,h.surv.below hb⟩
theorem Reads.more{v:Av}{d:Ad}(h:Reads w B v d)(hB:B<=B'):Reads w B' v d:=⟨h.k,h.a,h.b,h.nm,h.mt,h.args.more hB,h.surv.more hB⟩
def bq(n:Int):Bool:=decide (1<=n)&&decide (n<=8)
def countB(n:Int):Bool:=decide (0<=n)&&decide (n<=1099511627776)
theorem kx(n:Int)(w:World):Calls Tryz.prog 71 #[.int .i64 n] w λe w'=>e= .returned (.bool (bq n))/\w=w':=by
 by_cases h1:1<=n
 ·by_cases h2:n<=8
  all_goals
   go_enter Tryz.func71,Tryz.ntmps71;go_wp2;go_ret;exact⟨aa (by simp[bq];omega),rfl⟩
 ·go_enter Tryz.func71,Tryz.ntmps71;go_wp2;go_ret;exact⟨aa (by simp[bq];omega),rfl⟩
theorem lM(n:Int)(w:World):Calls Tryz.prog 72 #[.int .i64 n] w λe w'=>e= .returned (.bool (countB n))/\w=w':=by
 by_cases h1:0<=n
 ·by_cases h2:n<=1099511627776
  all_goals
   go_enter Tryz.func72,Tryz.ntmps72;go_wp2;go_ret;exact⟨aa (by simp[countB];omega),rfl⟩
 ·go_enter Tryz.func72,Tryz.ntmps72;go_wp2;go_ret;exact⟨aa (by simp[countB];omega),rfl⟩
def eU(zs:List Int):Bool:=zs.all λz=>decide (-2305843009213693952<=z)&&decide (z<=2305843009213693951)
theorem br{p:α->Bool}{l:List α}{k:Nat}{x:α}(h:l[k]?=some x):(l.take (k+1)).all p=((l.take k).all p&&p x):=by
 have hk:=(DQ.1 h).1;rw[List.take_succ_eq_append_getElem hk,List.all_append];have:l[k]=x:=by rw[DT hk]at h;simpa using h
 simp[this]
theorem bh{p:α->Bool}{l:List α}{k:Nat}{x:α}(h:l[k]?=some x)(hp:p x=false):l.all p=false:=by
 rw[List.all_eq_false];exact⟨x,DW h,by simp[hp]⟩
theorem yx(A:Option Addr)(n c:Nat)(zs:List Int)(most:Int)(B:Nat)(w:World)(h:Ints w B A n zs)(hn:n<=1152921504606846976):
 Calls Tryz.prog 75 #[.slice A n c,.int .i64 most] w λe w'=>e= .returned (.bool (eU zs&&decide ((n:Int)<=most)))/\w=w':=by
 have hl:=h.len;have HL:=H_ hl;clear hl;go_enter Tryz.func75,Tryz.ntmps75;go_wp2;go_loop [5] (λi=>∃k:Nat,k<=n/\i= .int .i64 k/\Hid (eU (zs.take k)=true)) (λi=>n-(intOf i).toNat)
 case atStart=>exact⟨0,Ea _,rfl,H_ (by simp[eU])⟩
 case round=>
  obtain⟨k,hk,rfl,HA⟩:=hrel;by_cases hlt:k<n
  ·obtain⟨b,off,z,rfl,_,hz,hc⟩:=h.at_ hlt;have hk0:0<=(k:Int):=by omega
   have hk1:(k:Int)<n:=by omega
   have HZ:=H_ hz;clear hz;by_cases h1:z< -2305843009213693952
   ·go_wp2;go_ret;exact⟨aa (by rw[show eU zs=false from bh HZ.out (by simp;omega)];rfl),rfl⟩
   ·by_cases h2:2305843009213693951<z
    ·go_wp2;go_ret;exact⟨aa (by rw[show eU zs=false from bh HZ.out (by simp;omega)];rfl),rfl⟩
    ·go_wp2;go_round
     case rel=>exact⟨k+1,by omega,by go_num,H_ (by unfold eU at*;rw[br HZ.out,HA.out];simp;omega)⟩
     case measure=>simp[intOf];omega
  ·obtain rfl:k=n:=by omega
   go_wp2
   all_goals
    go_ret;refine⟨aa ?_,rfl⟩;have h1:=HA.out;rw[DP (by rw[HL.out];omega)]at h1;rw[h1];simp_all
def de(d:Ad)(wa wb wn wm wg ws:Bool):Bool:=(wa||decide (d.a=0))&&(wb||decide (d.b=0))&&(wn||decide (d.nm.toList=[]))&&(wm||decide (d.mt.toList=[]))&&(wg||decide (d.args.length=0))&&(ws||decide (d.surv.length=0))
def ph(wa wb wn wm wg ws:Bool):Prop:=
 (wa=true/\wb=true/\wn=false/\wm=false/\wg=false/\ws=false)\/(wa=true/\wb=false/\wn=false/\wm=false/\wg=false/\ws=false)\/
 (wa=true/\wb=false/\wn=false/\wm=false/\wg=false/\ws=true)\/(wa=true/\wb=false/\wn=true/\wm=true/\wg=true/\ws=false)\/
 (wa=false/\wb=false/\wn=true/\wm=true/\wg=true/\ws=false)\/(wa=false/\wb=false/\wn=true/\wm=false/\wg=false/\ws=false)\/
 (wa=false/\wb=true/\wn=false/\wm=false/\wg=false/\ws=false)
theorem Ds(l:List α):(((l.length:Nat):Int)==0)=decide (l=[]):=by
 cases l with
 |nil=>rfl
 |cons x xs=>simp;omega
theorem wM(v:Av)(d:Ad)(B:Nat)(wa wb wn wm wg ws:Bool)(w:World)(h:Reads w B v d)(hf:ph wa wb wn wm wg ws):
 Calls Tryz.prog 70 #[.agg v.cells,.bool wa,.bool wb,.bool wn,.bool wm,.bool wg,.bool ws] w λe w'=>e= .returned (.bool (de d wa wb wn wm wg ws))/\Below w.heap.size w w':=by
 obtain⟨k,a,b,nm,mt,zs,ys⟩:=d;obtain⟨k',a',b',nm',mt',A,n,c,A2,n2,c2⟩:=v;obtain⟨h1,h2,h3,h4,h5,ha,hs⟩:=h;dsimp only at h1 h2 h3 h4 h5 ha hs;subst h1 h2 h3 h4 h5;obtain rfl:=ha.len;obtain rfl:=hs.len;unfold Av.cells;dsimp only;clear ha hs;rcases hf with⟨rfl,rfl,rfl,rfl,rfl,rfl⟩|⟨rfl,rfl,rfl,rfl,rfl,rfl⟩|⟨rfl,rfl,rfl,rfl,rfl,rfl⟩|⟨rfl,rfl,rfl,rfl,rfl,rfl⟩|⟨rfl,rfl,rfl,rfl,rfl,rfl⟩|⟨rfl,rfl,rfl,rfl,rfl,rfl⟩|⟨rfl,rfl,rfl,rfl,rfl,rfl⟩
 all_goals
  go_enter Tryz.func70,Tryz.ntmps70;go_wp2
  all_goals
   go_ret;exact⟨aa (by simp_all [de,Ds]),(DN _ _).alloc (DK _) _⟩
theorem Ba(A A2:Option Addr)(n c n2 c2:Nat)(xs ys:List Int)(B:Nat)(w:World)(h:Ints w B A n xs)(h2:Ints w B A2 n2 ys)(hn:n<=1000000)(hn2:n2<=1000000):
 Calls Tryz.prog 58 #[.slice A n c,.slice A2 n2 c2] w λe w'=>e= .returned (.bool (decide (xs=ys)))/\∃k,w'=w.drewN k:=by
 have hl:=h.len;have hl2:=h2.len;by_cases hne:n=n2
 ·subst hne;have HL:=H_ (And.intro hl hl2);clear hl hl2;go_enter Tryz.func58,Tryz.ntmps58;go_wp2;go_loopw [5] (λi wr=>∃k q:Nat,k<=n/\i= .int .i64 k/\wr=w.drewN q/\Hid (∀j,j<k->xs[j]?=ys[j]?)) (λi _=>n-(intOf i).toNat)
  case atStart=>exact⟨0,0,Ea _,rfl,rfl,H_ (λj hj=>by omega)⟩
  case round=>
   obtain⟨k,q,hk,rfl,rfl,HA⟩:=hrel;by_cases hlt:k<n
   ·obtain⟨b,off,x,rfl,_,hx,hc⟩:=h.at_ hlt;obtain⟨b',off',y,rfl,_,hy,hc'⟩:=h2.at_ hlt;have hk0:0<=(k:Int):=by omega
    have hk1:(k:Int)<n:=by omega
    have HX:=H_ (And.intro hx hy);clear hx hy;by_cases hxy:x=y
    ·subst hxy;go_wp2;go_quiet (fail);go_wp2;go_roundw
     case rel=>exact⟨k+1,q+nq,by omega,by go_num,by simp,H_ (λj hj=>by
      rcases ES j k with h1|h1
      ·exact HA.out j h1
      ·obtain rfl:j=k:=by omega
       rw[HX.out.1,HX.out.2])⟩
     case measure=>simp[intOf];omega
    ·have hne:(x !=y)=true:=by simpa using hxy
     go_wp2;go_quiet (fail);go_wp2;go_ret;refine⟨aa ?_,q+nq,by simp⟩;symm;simp only[decide_eq_false_iff_not];intro e;subst e;have h1:=HX.out;rw[h1.1]at h1;simp at h1;exact hxy h1
   ·obtain rfl:k=n:=by omega
    go_wp2;go_ret;refine⟨aa ?_,q,rfl⟩;symm;simp only[Ep];apply List.ext_getElem?;intro j;rcases ES j k with h1|h1
    ·exact HA.out j h1
    ·rw[Fw (by rw[HL.out.1];omega),Fw (by rw[HL.out.2];omega)]
 ·have hd:((n:Int) !=(n2:Int))=true:=by simp;omega
  have hxy:decide (xs=ys)=false:=by simp;intro e;apply hne;rw[<-hl,<-hl2,e]
  have HXY:=H_ hxy;clear hxy hl hl2;go_enter Tryz.func58,Tryz.ntmps58;go_wp2;go_ret;exact⟨aa HXY.out.symm,0,rfl⟩
def ft(d e:Ad):Bool:=decide (d.k=e.k)&&decide (d.a=e.a)&&decide (d.b=e.b)&&decide (d.nm.toList=e.nm.toList)&&decide (d.mt.toList=e.mt.toList)&&decide (d.args=e.args)&&decide (d.surv=e.surv)
theorem eK{x y:ByteArray}(h:x.toList=y.toList):x=y:=by
 rw[EN,EN]at h;exact Eh h
theorem aT{a:World}(h:Below B a w)(n:Nat):Below B a (w.drewN n):=⟨h.os,h.tape,h.output,h.size,h.block⟩
theorem uo(v v2:Av)(d e:Ad)(B:Nat)(w:World)(h:Reads w B v d)(h2:Reads w B v2 e)(hB:B<=w.heap.size)(hn:v.n<=1000000)(hn2:v.n2<=1000000)(hm:v2.n<=1000000)(hm2:v2.n2<=1000000):
 Calls Tryz.prog 28 #[.agg v.cells,.agg v2.cells] w λr w'=>r= .returned (.bool (ft d e))/\Below w.heap.size w w':=by
 obtain⟨k,a,b,nm,mt,zs,ys⟩:=d;obtain⟨k',a',b',nm',mt',A,n,c,A2,n2,c2⟩:=v;obtain⟨h1,h2',h3,h4,h5,ha,hs⟩:=h;dsimp only at h1 h2' h3 h4 h5 ha hs hn hn2;subst h1 h2' h3 h4 h5;obtain⟨k,a,b,nm,mt,zs2,ys2⟩:=e;obtain⟨l',p',q',om',nt',A',m,c',A2',m2,c2'⟩:=v2;obtain⟨h1,h2',h3,h4,h5,ha2,hs2⟩:=h2;dsimp only at h1 h2' h3 h4 h5 ha2 hs2 hm hm2;subst h1 h2' h3 h4 h5;unfold Av.cells;dsimp only;have hl:=ha.len;have hl2:=ha2.len;by_cases hall:k'=l'/\a'=p'/\b'=q'/\nm'=om'/\mt'=nt'/\n=m
 ·obtain⟨rfl,rfl,rfl,rfl,rfl,rfl⟩:=hall;have HL:=H_ (And.intro hl hl2);clear hl hl2;go_enter Tryz.func28,Tryz.ntmps28;go_wp2;have b0:=(Blk.new w 48 #[.int .i64 k',.int .i64 a',.int .i64 b',.string nm',.string mt',.slice A n c,.slice A2 n2 c2]).alloc (.cells #[.int .i64 k',.int .i64 a',.int .i64 b',.string nm',.string mt',.slice A' n c',.slice A2' m2 c2'] 48);have b1:=Blk.new (w.alloc (.cells #[.int .i64 k',.int .i64 a',.int .i64 b',.string nm',.string mt',.slice A n c,.slice A2 n2 c2] 48)) 48 #[.int .i64 k',.int .i64 a',.int .i64 b',.string nm',.string mt',.slice A' n c',.slice A2' m2 c2'];rw[DV]at b1;have hbel:Below w.heap.size w ((w.alloc (.cells #[.int .i64 k',.int .i64 a',.int .i64 b',.string nm',.string mt',.slice A n c,.slice A2 n2 c2] 48)).alloc (.cells #[.int .i64 k',.int .i64 a',.int .i64 b',.string nm',.string mt',.slice A' n c',.slice A2' m2 c2'] 48)):=((DN _ _).alloc (DK _) _).alloc (by simp) _;generalize(w.alloc (.cells #[.int .i64 k',.int .i64 a',.int .i64 b',.string nm',.string mt',.slice A n c,.slice A2 n2 c2] 48)).alloc (.cells #[.int .i64 k',.int .i64 a',.int .i64 b',.string nm',.string mt',.slice A' n c',.slice A2' m2 c2'] 48)=W at*
  have x5:=b0.k5;have x6:=b0.k6;have y5:=b1.k5;have y6:=b1.k6;have ga:=ha.below (hbel.mono hB);have ga2:=ha2.below (hbel.mono hB);have gs:=hs.below (hbel.mono hB);have gs2:=hs2.below (hbel.mono hB);clear b0 b1;have HBEL:=H_ hbel;clear hbel;go_loopw [5] (λi wr=>∃k q:Nat,k<=n/\i= .int .i64 k/\wr=W.drewN q/\Hid (∀j,j<k->zs[j]?=zs2[j]?)) (λi _=>n-(intOf i).toNat)
  case atStart=>exact⟨0,0,Ea _,rfl,rfl,H_ (λj hj=>by omega)⟩
  case round=>
   obtain⟨k,q,hk,rfl,rfl,HA⟩:=hrel;by_cases hlt:k<n
   ·obtain⟨b,off,x,rfl,_,hx,hc⟩:=ga.at_ hlt;obtain⟨b2,off2,y,rfl,_,hy,hc2⟩:=ga2.at_ hlt;have hk0:0<=(k:Int):=by omega
    have hk1:(k:Int)<n:=by omega
    have HX:=H_ (And.intro hx hy);clear hx hy;by_cases hxy:x=y
    ·subst hxy;go_wp2;go_quiet (fail);go_wp2;go_roundw
     case rel=>exact⟨k+1,q+nq,by omega,by go_num,by simp,H_ (λj hj=>by
      rcases ES j k with h1|h1
      ·exact HA.out j h1
      ·obtain rfl:j=k:=by omega
       rw[HX.out.1,HX.out.2])⟩
     case measure=>simp[intOf];omega
    ·have hne:(x !=y)=true:=by simpa using hxy
     go_wp2;go_quiet (fail);go_wp2;go_ret;refine⟨aa ?_,(aT (aT HBEL.out q) nq)⟩
     have hzz:zs≠zs2:=by
      intro e;subst e;have h1:=HX.out;rw[h1.1]at h1;simp at h1;exact hxy h1
     simp[ft,hzz]
   ·obtain rfl:k=n:=by omega
    have hz:zs=zs2:=by
     apply List.ext_getElem?;intro j;rcases ES j k with h1|h1
     ·exact HA.out j h1
     ·rw[Fw (by rw[HL.out.1];omega),Fw (by rw[HL.out.2];omega)]
    have HZ:=H_ hz;clear hz;go_wp2_with fail;refine(Ba _ _ _ _ _ _ ys ys2 B _ (gs.below (aT (DN _ _) _)) (gs2.below (aT (DN _ _) _)) hn2 hm2).mono ?_;rintro r w1 ⟨rfl,q2,rfl⟩;go_wp2;go_ret;refine⟨aa ?_,by first|exact aT HBEL.out _|exact aT (aT HBEL.out q) q2⟩;simp[ft,HZ.out]
 ·have HALL:=H_ hall;have HL:=H_ (show n≠m->zs≠zs2 from λhnm e=>hnm (by rw[<-hl,<-hl2,e]));clear hall hl hl2;go_enter Tryz.func28,Tryz.ntmps28;go_wp2
  all_goals first
   |(go_ret
     refine⟨aa ?_,((DN _ _).alloc (DK _) _).alloc (by simp) _⟩
     first
     |(have h9:((n:Int) !=(m:Int))=true:=by assumption
       have h0:=HL.out (λe=>by subst e;simp at h9);simp[ft,h0])
     |(simp only[ft];simp[*]))
   |(have h9:((n:Int) !=(m:Int))=false:=by assumption
     exact absurd ⟨by assumption,by assumption,by assumption,eK (by assumption),eK (by assumption),by have h8:(n:Int)=(m:Int):=(by simpa using h9);omega⟩ HALL.out)
def kwL:List ByteArray:=[⟨#[97,99,116,111,114]⟩,⟨#[97,110,100]⟩,⟨#[97,116]⟩,⟨#[98,121]⟩,⟨#[101,108,115,101]⟩,⟨#[103,101,116]⟩,⟨#[105,102]⟩,⟨#[108,101,116]⟩,⟨#[109,111,118,101]⟩,⟨#[110,101,119]⟩,⟨#[110,105,108]⟩,⟨#[110,111,116]⟩,⟨#[111,110]⟩,⟨#[111,114]⟩,⟨#[112,114,105,110,116]⟩,⟨#[114,101,99,111,114,100]⟩,⟨#[114,101,116,117,114,110]⟩,⟨#[115,101,110,100]⟩,⟨#[116,104,105,115]⟩,⟨#[116,111]⟩,⟨#[118,97,114]⟩,⟨#[119,97,116,99,104]⟩,⟨#[119,101,97,107]⟩,⟨#[119,104,105,108,101]⟩]
def inB(ss:List ByteArray)(s:ByteArray):Bool:=ss.any λx=>x.toList==s.toList
theorem Strs.aJ(h:Blk w g 9 (ss.map Value.string).toArray)(hB:g<B):Strs w B (some ⟨g,0,none⟩) ss.length ss:=
 ⟨by simp,λ_=>⟨g,0,rfl,hB,λj v hv=>by rw[ET,h.cell];simpa using hv⟩⟩
theorem rS(w:World):Calls Tryz.prog 173 #[] w λe w'=>e= .returned (.slice (some ⟨w.heap.size,0,none⟩) 24 24)/\Below w.heap.size w w'/\Strs w' w'.heap.size (some ⟨w.heap.size,0,none⟩) 24 kwL:=by
 go_enter Tryz.func173,Tryz.ntmps173;go_wp2;go_ret;exact⟨rfl,(DN _ _).alloc (DK _) _,Strs.aJ (ss:=kwL) (Blk.new w 9 _) (by simp)⟩
theorem ni{p:α->Bool}{l:List α}{k:Nat}{x:α}(h:l[k]?=some x):(l.take (k+1)).any p=((l.take k).any p||p x):=by
 have hk:=(DQ.1 h).1;rw[List.take_succ_eq_append_getElem hk,List.any_append];have:l[k]=x:=by rw[DT hk]at h;simpa using h
 simp[this]
theorem nh{p:α->Bool}{l:List α}{k:Nat}{x:α}(h:l[k]?=some x)(hp:p x=true):l.any p=true:=by
 rw[Fs];exact⟨x,DW h,hp⟩
theorem Dt(A:Option Addr)(n c:Nat)(ss:List ByteArray)(s:ByteArray)(B:Nat)(w:World)(h:Strs w B A n ss)(hn:n<=1000000):
 Calls Tryz.prog 172 #[.slice A n c,.string s] w λe w'=>e= .returned (.bool (inB ss s))/\w=w':=by
 have HL:=H_ h.len;go_enter Tryz.func172,Tryz.ntmps172;go_wp2;go_loop [5] (λi=>∃k:Nat,k<=n/\i= .int .i64 k/\Hid (inB (ss.take k) s=false)) (λi=>n-(intOf i).toNat)
 case atStart=>exact⟨0,Ea _,rfl,H_ (by simp[inB])⟩
 case round=>
  obtain⟨k,hk,rfl,HA⟩:=hrel;by_cases hlt:k<n
  ·obtain⟨b,off,x,rfl,_,hx,hc⟩:=h.at_ hlt;have hk0:0<=(k:Int):=by omega
   have hk1:(k:Int)<n:=by omega
   have HX:=H_ hx;clear hx;by_cases hxs:x=s
   ·subst hxs;go_wp2;go_ret;exact⟨aa (nh HX.out (by simp)).symm,rfl⟩
   ·have hne:=DM.2 λe=>hxs (eK e);clear hxs;go_wp2;go_round
    case rel=>exact⟨k+1,by omega,by go_num,H_ (by unfold inB at*;rw[ni HX.out,HA.out];simp[hne])⟩
    case measure=>simp[intOf];omega
  ·obtain rfl:k=n:=by omega
   go_wp2;go_ret;have h1:=HA.out;rw[DP (by rw[HL.out];omega)]at h1;exact⟨aa h1.symm,rfl⟩
def eY(c:UInt8):Bool:=(decide (97<=(c.toNat:Int))&&decide ((c.toNat:Int)<=122))||(decide (65<=(c.toNat:Int))&&decide ((c.toNat:Int)<=90))||(decide (48<=(c.toNat:Int))&&decide ((c.toNat:Int)<=57))||decide ((c.toNat:Int)=95)
def aO(s:ByteArray)(lo hi:Int):Bool:=
 match s.data.toList with
 |[]=>false
 |c::_=>decide (s.size<=31)&&decide (lo<=(c.toNat:Int))&&decide ((c.toNat:Int)<=hi)&& !inB kwL s&&s.data.toList.all eY
theorem xd{s:ByteArray}{lo hi:Int}(h:0<s.size):aO s lo hi=(decide (s.size<=31)&&decide (lo<=(s[0].toNat:Int))&&decide ((s[0].toNat:Int)<=hi)&& !inB kwL s&&s.data.toList.all eY):=by
 unfold aO;obtain⟨⟨l⟩⟩:=s;cases l with
 |nil=>simp[ByteArray.size]at h
 |cons c l=>rfl
theorem xf(s:ByteArray)(lo hi:Int)(w:World):Calls Tryz.prog 117 #[.string s,.int .u8 lo,.int .u8 hi] w λe w'=>e= .returned (.bool (aO s lo hi))/\Below w.heap.size w w':=by
 by_cases h0:s.size=0
 ·have g0:((s.size:Int)==0)=true:=by rw[h0];rfl
  have hb:aO s lo hi=false:=by
   unfold aO;obtain⟨⟨l⟩⟩:=s;cases l with
   |nil=>rfl
   |cons c l=>simp[ByteArray.size]at h0
  have HB:=H_ hb;clear hb h0;go_enter Tryz.func117,Tryz.ntmps117;go_wp2;go_ret;exact⟨aa HB.out.symm,DN _ _⟩
 ·have hp:0<s.size:=by omega
  have hat:=H_ (xd (lo:=lo) (hi:=hi) hp);have g0:((s.size:Int)==0)=false:=by rw[DM];omega
  have g1:(0:Int)<s.size:=by omega
  by_cases h31:31<s.size
  ·have g2:decide ((31:Int)<s.size)=true:=by simp;omega
   clear h0;go_enter Tryz.func117,Tryz.ntmps117;go_wp2;go_ret;refine⟨aa ?_,DN _ _⟩;rw[hat.out];simp[show ¬s.size<=31 from by omega]
  ·have g2:decide ((31:Int)<s.size)=false:=by simp;omega
   clear h0;by_cases hlo:(s[0].toNat:Int)<lo
   ·go_enter Tryz.func117,Tryz.ntmps117;go_wp2;go_ret;refine⟨aa ?_,DN _ _⟩;rw[hat.out];simp[show ¬lo<=(s[0].toNat:Int)from by omega]
   ·by_cases hhi:hi<(s[0].toNat:Int)
    ·go_enter Tryz.func117,Tryz.ntmps117;go_wp2;go_ret;refine⟨aa ?_,DN _ _⟩;rw[hat.out];simp[show ¬(s[0].toNat:Int)<=hi from by omega]
    ·have hlo':lo<=(s[0].toNat:Int):=by omega
     have hhi':(s[0].toNat:Int)<=hi:=by omega
     have h31':s.size<=31:=by omega
     go_enter Tryz.func117,Tryz.ntmps117;go_wp2_with fail;refine(rS _).mono ?_;rintro e w1 ⟨rfl,b1,s1⟩;go_wp2_with fail;refine(Dt _ _ _ kwL s _ _ s1 (by omega)).mono ?_;rintro e w2 ⟨rfl,rfl⟩;by_cases hk:inB kwL s=true
     ·rw[hk];go_wp2_with fail;go_ret;refine⟨aa ?_,b1⟩;rw[hat.out,hk];simp
     ·have hk':inB kwL s=false:=by simpa using hk
      rw[hk'];have HK:=H_ hk';clear hk hk';go_wp2_with fail;go_loop [7] (λi=>∃k:Nat,k<=s.size/\i= .int .i64 k/\Hid ((s.data.toList.take k).all eY=true)) (λi=>s.size-(intOf i).toNat)
      case atStart=>exact⟨0,Ea _,rfl,H_ (by simp)⟩
      case round=>
       obtain⟨k,hk,rfl,HA⟩:=hrel;by_cases hlt:k<s.size
       ·have hk0:0<=(k:Int):=by omega
        have hk1:(k:Int)<s.size:=by omega
        have hx:s.data.toList[k]?=some s[k]:=by
         rw[DT (by simpa using hlt)];rfl
        have HX:=H_ hx;clear hx;go_wp2_with fail
        all_goals first
         |(go_ret
           refine⟨aa ?_,b1⟩;have hw:eY s[k]=false:=by unfold eY;simp only[bne_iff_ne,ne_eq]at*;simp;omega
           rw[hat.out,bh HX.out hw];simp)
         |(have hw:eY s[k]=true:=by unfold eY;simp only[bne_eq_false_iff_eq]at*;simp;omega
           have HW:=H_ hw;clear hw;go_round
           case rel=>exact⟨k+1,by omega,by go_num,H_ (by rw[br HX.out,HA.out,HW.out];rfl)⟩
           case measure=>simp[intOf];omega)
       ·obtain rfl:k=s.size:=by omega
        go_wp2_with fail;go_ret;refine⟨aa ?_,b1⟩;have h1:=HA.out;rw[DP (by simp)]at h1;rw[hat.out,HK.out,h1];simp[hlo',hhi',h31']
def ib(c:UInt8):Bool:=c==32||c==9||c==10||c==13
def ea(c:UInt8):Bool:=decide (48<=c.toNat)&&decide (c.toNat<=57)
def eV(c:UInt8):Bool:=(decide (97<=c.toNat)&&decide (c.toNat<=122))||(decide (65<=c.toNat)&&decide (c.toNat<=90))
def fS(c:UInt8):Bool:=eV c||ea c||c==95
def bp:Bool->List UInt8->List UInt8
 |_,[]=>[]
 |true,c::l=>if c=10 then bp false l else bp true l
 |false,c::l=>if ib c=true then bp false l else if c=35 then bp true l else c::l
def iM(l:List UInt8):Nat:=l.foldl (λa c=>a*10+(c.toNat-48)) 0
def ba(l:List UInt8):ByteArray:=⟨l.toArray⟩
inductive Lx where
 |err (e:Int):Lx
 |tok (k:Int) (t:List UInt8) (v:Int):Lx
def ku(l:List UInt8):Lx:=
 let t:=l.takeWhile ea
 if(2<=t.length/\t.head?=some 48)\/((l.dropWhile ea).head?.any λc=>eV c||c==95)=true then .err 3
 else if 2305843009213693951<iM t then .err 2 else .tok 1 t (iM t:Int)
def nP(l:List UInt8):Lx:=
 let t:=l.takeWhile fS
 if 31<t.length then .err 8
 else .tok (if inB kwL (ba t)=true then 4 else if(t.head?.any λc=>decide (c.toNat<=90))=true then 3 else 2) t 0
def bC:List ByteArray:=[⟨#[33,61]⟩,⟨#[37]⟩,⟨#[40]⟩,⟨#[41]⟩,⟨#[42]⟩,⟨#[43]⟩,⟨#[44]⟩,⟨#[45]⟩,⟨#[46]⟩,⟨#[47]⟩,⟨#[59]⟩,⟨#[60]⟩,⟨#[60,61]⟩,⟨#[61]⟩,⟨#[61,61]⟩,⟨#[62]⟩,⟨#[62,61]⟩,⟨#[123]⟩,⟨#[125]⟩]
def fL(l:List UInt8):Lx:=
 if 2<=l.length/\inB bC (ba (l.take 2))=true then .tok 5 (l.take 2) 0
 else if inB bC (ba (l.take 1))=true then .tok 5 (l.take 1) 0 else .err 3
def eB(l:List UInt8):Lx:=
 match l with
 |[]=> .err 3
 |c::r=>if eV c=true then nP (c::r)else if ea c=true then ku (c::r)else fL (c::r)
inductive Sn where
 |err (p:Nat) (e:Int):Sn
 |toks (ts:List Tk):Sn
def cV(N:Nat):Nat->List UInt8->List Tk->Sn
 |0,_,_=> .err 0 0
 |k+1,r,ts=>match bp false r with
  |[]=> .toks (ts++[(0,⟨#[]⟩,0,(N:Int))])
  |c::l=>match eB (c::l)with
   | .err e=> .err (N-(c::l).length) e
   | .tok kd t v=>cV N k ((c::l).drop t.length) (ts++[(kd,ba t,v,((N-(c::l).length:Nat):Int))])
def dK(s:List UInt8):Sn:=if 16384<s.length then .err 0 8 else cV s.length (s.length+1) s []
def qU(a:Nat)(l:List UInt8):Nat:=l.foldl (λa c=>a*10+(c.toNat-48)) a
theorem sL:∀(l:List UInt8) (a:Nat),a<=qU a l
 |[],a=>DK _
 |c::l,a=>by
  have:=sL l (a*10+(c.toNat-48));show a<=qU (a*10+(c.toNat-48)) l;omega
theorem t7:∀(l:List UInt8) (a:Nat),(∀c∈l,ea c=true)->(match Lib.parseUintM 18446744073709551615 a l with
 | .ok u=>u=qU a l
 | .range=>18446744073709551615<qU a l
 |_=>False)
 |[],a,h=>rfl
 |c::l,a,h=>by
  have hc:=h c (by simp);unfold ea at hc;simp only[Ee,Ep]at hc;have ih:=t7 l (a*10+(c.toNat-48)) (λd hd=>h d (by simp[hd]));have hge:=sL l (a*10+(c.toNat-48));have hv:qU a (c::l)=qU (a*10+(c.toNat-48)) l:=rfl;unfold Lib.parseUintM;rw[Ed hc,hv];by_cases h1:1844674407370955162<=a
  ·rw[Ed h1];show 18446744073709551615<_;omega
  ·rw[DS h1];by_cases h2:18446744073709551615<a*10+(c.toNat-48)
   ·rw[Ed h2];show 18446744073709551615<_;omega
   ·rw[DS h2];exact ih
theorem ux{l:List UInt8}(hl:l≠[])(hd:∀c∈l,ea c=true):(match Lib.parseIntB 64 l with
 | .ok v=>v=(iM l:Int)
 |_=>2305843009213693951<iM l):=by
 cases l with
 |nil=>exact absurd rfl hl
 |cons c r=>
  have hc:=hd c (by simp);unfold ea at hc;simp only[Ee,Ep]at hc;have h:=t7 (c::r) 0 hd;have hv:qU 0 (c::r)=iM (c::r):=rfl;rw[Lib.parseIntB_plain 64 c r (by omega) (by omega)]
  have hp:Lib.parseUintB 64 (c::r)=Lib.parseUintM 18446744073709551615 0 (c::r):=by
   unfold Lib.parseUintB;rw[DS (by simp)]
  rw[hp];rw[hv]at h;cases hq:Lib.parseUintM 18446744073709551615 0 (c::r)with
  |ok u=>
   rw[hq]at h;simp only at h;simp only[Lib.signlessC];by_cases h2:2^(64-1)<=u
   ·rw[Ed h2];show 2305843009213693951<_;rw[<-h];have:(2:Nat)^(64-1)=9223372036854775808:=by decide
    omega
   ·rw[DS h2];show(u:Int)=_;rw[h]
  |range=>
   rw[hq]at h;simp only at h;simp only[Lib.signlessC];show 2305843009213693951<_;omega
  |_=>
   rw[hq]at h;exact absurd h (by simp)
theorem o7{W w1:World}(hb:Below W.heap.size W w1):(∀b o,b<W.heap.size->w1.cell? ⟨b,o,none⟩=W.cell? ⟨b,o,none⟩)/\(∀b o,b<W.heap.size->w1.frozen? ⟨b,o,none⟩=W.frozen? ⟨b,o,none⟩):=
 ⟨λb o h=>hb.cell (p:=⟨b,o,none⟩) h,λb o h=>hb.frozen (p:=⟨b,o,none⟩) h⟩
def gZ(s:ByteArray):Bool:=aO s 97 122
def gN(s:ByteArray):Bool:=aO s 65 90
theorem eA(s:ByteArray)(w:World):Calls Tryz.prog 73 #[.string s] w λe w'=>e= .returned (.bool (gZ s))/\Below w.heap.size w w':=by
 go_enter Tryz.func73,Tryz.ntmps73;go_wp2_with fail;refine(xf s 97 122 _).mono ?_;rintro e w1 ⟨rfl,b1⟩;go_wp2;go_ret;exact⟨rfl,b1⟩
theorem lN(s:ByteArray)(w:World):Calls Tryz.prog 74 #[.string s] w λe w'=>e= .returned (.bool (gN s))/\Below w.heap.size w w':=by
 go_enter Tryz.func74,Tryz.ntmps74;go_wp2_with fail;refine(xf s 65 90 _).mono ?_;rintro e w1 ⟨rfl,b1⟩;go_wp2;go_ret;exact⟨rfl,b1⟩
def cB(k:Nat)(d:Ad):Bool:=
 match k with
 |0=>de d true true false false false false&&bq d.a&&countB d.b
 |1=>de d true false false false false false&&countB d.a
 |2=>de d true false false false false false&&countB d.a
 |3=>de d true false false false false false&&countB d.a
 |4=>de d true false false false false false&&bq d.a
 |5=>de d true false false false false false&&bq d.a
 |6=>de d true false false false false false&&bq d.a
 |7=>d.surv.all countB&&(de d true false false false false true&&bq d.a&&decide (d.surv.length<=20))
 |8=>de d true false false false false false&&bq d.a
 |9=>de d true false false false false false&&bq d.a
 |10=>de d true true false false false false&&bq d.a&&countB d.b
 |11=>de d true false true true true false&&bq d.a&&gZ d.nm&&gN d.mt&&(eU d.args&&decide ((d.args.length:Int)<=30))
 |12=>de d false false true true true false&&gZ d.nm&&gZ d.mt&&(eU d.args&&decide ((d.args.length:Int)<=8))
 |13=>de d false false true false false false&&gZ d.nm
 |14=>de d true true false false false false&&bq d.a&&bq d.b
 |15=>de d false true false false false false&&decide (0<=d.b)&&decide (d.b<=1000)
 |_=>false
def ay(d:Ad):Bool:=decide (0<=d.k)&&cB d.k.toNat d
theorem vo(v:Av)(d:Ad)(w:World)(h:Reads w w.heap.size v d)(hn:v.n<=1152921504606846976)(hn2:v.n2<=1152921504606846976)(q:Nat)(K:Int)(hk:v.k=K)
 (hq:(q=0/\K=0)\/(q=1/\K=1)\/(q=2/\K=2)\/(q=3/\K=3)\/(q=4/\K=4)\/(q=5/\K=5)\/(q=6/\K=6)\/(q=8/\K=8)\/(q=9/\K=9)\/(q=10/\K=10)\/(q=11/\K=11)\/(q=12/\K=12)\/(q=13/\K=13)\/(q=14/\K=14)\/(q=15/\K=15)):
 Calls Tryz.prog 40 #[.agg v.cells] w λe w'=>e= .returned (.bool (cB q d))/\Below w.heap.size w w':=by
 obtain⟨k,a,b,nm,mt,zs,ys⟩:=d;obtain⟨k',a',b',nm',mt',A,n,c,A2,n2,c2⟩:=v;obtain⟨h1,h2,h3,h4,h5,ha,hs⟩:=h;dsimp only at h1 h2 h3 h4 h5 ha hs hn hn2 hk;subst h1 h2 h3 h4 h5 hk;unfold Av.cells;dsimp only;have hbel:Below w.heap.size w (w.alloc (.cells #[.int .i64 k',.int .i64 a',.int .i64 b',.string nm',.string mt',.slice A n c,.slice A2 n2 c2] 48)):=(DN _ _).alloc (DK _) _;have hR:Reads (w.alloc (.cells #[.int .i64 k',.int .i64 a',.int .i64 b',.string nm',.string mt',.slice A n c,.slice A2 n2 c2] 48)) w.heap.size ⟨k',a',b',nm',mt',A,n,c,A2,n2,c2⟩ ⟨k',a',b',nm',mt',zs,ys⟩:=⟨rfl,rfl,rfl,rfl,rfl,ha.below hbel,hs.below hbel⟩;have HR:=H_ hR;have HB:=H_ hbel;have HA:=H_ (And.intro ha hs);clear ha hs hR hbel;have hlz:=H_ HA.out.1.len;obtain⟨rfl,rfl⟩|⟨rfl,rfl⟩|⟨rfl,rfl⟩|⟨rfl,rfl⟩|⟨rfl,rfl⟩|⟨rfl,rfl⟩|⟨rfl,rfl⟩|⟨rfl,rfl⟩|⟨rfl,rfl⟩|⟨rfl,rfl⟩|⟨rfl,rfl⟩|⟨rfl,rfl⟩|⟨rfl,rfl⟩|⟨rfl,rfl⟩|⟨rfl,rfl⟩:=hq
 all_goals
  go_enter Tryz.func40,Tryz.ntmps40
  go_wp2_with (first
   |(go_at_call 70
     refine(wM _ _ w.heap.size _ _ _ _ _ _ _ HR.out (by simp[ph])).mono ?_;rintro e w1 ⟨rfl,hb1⟩;obtain⟨hc1,hf1⟩:=o7 hb1;have hz1:w.heap.size<w1.heap.size:=by have:=hb1.size;simp at this;omega
     have HB1:=htr HB hb1;clear hb1)
   |(go_at_call 71;refine(kx _ _).mono ?_;rintro e w2 ⟨rfl,rfl⟩)
   |(go_at_call 72;refine(lM _ _).mono ?_;rintro e w2 ⟨rfl,rfl⟩)
   |(go_at_call 73
     refine(eA _ _).mono ?_;rintro e w1 ⟨rfl,hb2⟩;obtain⟨hc2,hf2⟩:=o7 hb2;have hz2:w.heap.size<w1.heap.size:=by have:=hb2.size;omega
     have HB1:=htr HB1 hb2;clear hb2)
   |(go_at_call 74
     refine(lN _ _).mono ?_;rintro e w1 ⟨rfl,hb2⟩;obtain⟨hc2,hf2⟩:=o7 hb2;have hz2:w.heap.size<w1.heap.size:=by have:=hb2.size;omega
     have HB1:=htr HB1 hb2;clear hb2)
   |(go_at_call 75
     refine(yx _ _ _ zs _ w.heap.size _ (HA.out.1.below HB1.out) hn).mono ?_;rintro e w2 ⟨rfl,rfl⟩))
  all_goals
   go_ret;refine⟨aa ?_,HB1.out⟩
   first
   |(simp_all [cB];done)
   |(have hlz:=hlz.out;simp_all [cB];done)
   |(simp_all [cB];omega)
theorem vr(v:Av)(d:Ad)(w:World)(h:Reads w w.heap.size v d)(hn:v.n<=1152921504606846976)(hn2:v.n2<=1152921504606846976)(hk:v.k=7):
 Calls Tryz.prog 40 #[.agg v.cells] w λe w'=>e= .returned (.bool (cB 7 d))/\Below w.heap.size w w':=by
 obtain⟨k,a,b,nm,mt,zs,ys⟩:=d;obtain⟨k',a',b',nm',mt',A,n,c,A2,n2,c2⟩:=v;obtain⟨h1,h2,h3,h4,h5,ha,hs⟩:=h;dsimp only at h1 h2 h3 h4 h5 ha hs hn hn2 hk;subst h1 h2 h3 h4 h5 hk;unfold Av.cells;dsimp only;have hbel:Below w.heap.size w (w.alloc (.cells #[.int .i64 7,.int .i64 a',.int .i64 b',.string nm',.string mt',.slice A n c,.slice A2 n2 c2] 48)):=(DN _ _).alloc (DK _) _;have hR:Reads (w.alloc (.cells #[.int .i64 7,.int .i64 a',.int .i64 b',.string nm',.string mt',.slice A n c,.slice A2 n2 c2] 48)) w.heap.size ⟨7,a',b',nm',mt',A,n,c,A2,n2,c2⟩ ⟨7,a',b',nm',mt',zs,ys⟩:=⟨rfl,rfl,rfl,rfl,rfl,ha.below hbel,hs.below hbel⟩;have HR:=H_ hR;have HB:=H_ hbel;have HA:=H_ (And.intro ha hs);clear ha hs hR hbel;have hsW:=HA.out.2.below HB.out;have HL:=H_ HA.out.2.len;go_enter Tryz.func40,Tryz.ntmps40;go_wp2;go_loop [3] (λi=>∃q:Nat,q<=n2/\i= .int .i64 q/\Hid ((ys.take q).all countB=true)) (λi=>n2-(intOf i).toNat)
 case atStart=>exact⟨0,Ea _,rfl,H_ (by simp)⟩
 case round=>
  obtain⟨q,hq,rfl,HAL⟩:=hrel;by_cases hlt:q<n2
  ·obtain⟨b,off,z,rfl,_,hz,hc⟩:=hsW.at_ hlt;have hk0:0<=(q:Int):=by omega
   have hk1:(q:Int)<n2:=by omega
   have HZ:=H_ hz;clear hz;go_wp2_with fail;refine(lM _ _).mono ?_;rintro e w2 ⟨rfl,rfl⟩;by_cases hcz:countB z=true
   ·rw[hcz];have HC:=H_ hcz;clear hcz;go_wp2_with fail;go_round
    case rel=>exact⟨q+1,by omega,by go_num,H_ (by rw[br HZ.out,HAL.out,HC.out];rfl)⟩
    case measure=>simp[intOf];omega
   ·have hcz':countB z=false:=by simpa using hcz
    rw[hcz'];have HC:=H_ hcz';clear hcz hcz';go_wp2_with fail;go_ret;refine⟨aa ?_,HB.out⟩;have h1:=bh HZ.out HC.out;simp[cB,h1]
  ·obtain rfl:q=n2:=by omega
   have hall:ys.all countB=true:=by
    have h1:=HAL.out;rwa[DP (by rw[HL.out];omega)]at h1
   have HALL:=H_ hall;clear hall hsW;go_wp2_with (first
   |(go_at_call 70
     refine(wM _ _ w.heap.size _ _ _ _ _ _ _ HR.out (by simp[ph])).mono ?_;rintro e w1 ⟨rfl,hb1⟩;obtain⟨hc1,hf1⟩:=o7 hb1;have hz1:w.heap.size<w1.heap.size:=by have:=hb1.size;simp at this;omega
     have HB1:=htr HB hb1;clear hb1)
   |(go_at_call 71;refine(kx _ _).mono ?_;rintro e w2 ⟨rfl,rfl⟩)
   |(go_at_call 72;refine(lM _ _).mono ?_;rintro e w2 ⟨rfl,rfl⟩)
   |(go_at_call 73
     refine(eA _ _).mono ?_;rintro e w1 ⟨rfl,hb2⟩;obtain⟨hc2,hf2⟩:=o7 hb2;have hz2:w.heap.size<w1.heap.size:=by have:=hb2.size;omega
     have HB1:=htr HB1 hb2;clear hb2)
   |(go_at_call 74
     refine(lN _ _).mono ?_;rintro e w1 ⟨rfl,hb2⟩;obtain⟨hc2,hf2⟩:=o7 hb2;have hz2:w.heap.size<w1.heap.size:=by have:=hb2.size;omega
     have HB1:=htr HB1 hb2;clear hb2)
   |(go_at_call 75
     refine(yx _ _ _ zs _ w.heap.size _ (HA.out.1.below HB1.out) hn).mono ?_;rintro e w2 ⟨rfl,rfl⟩))
   all_goals
    go_ret;refine⟨aa ?_,HB1.out⟩;have h1:=HALL.out;have h2:=HL.out;have h3:decide ((q:Int)<=20)=decide (q<=20):=by simp only[decide_eq_decide];omega
    simp only[cB,h1,h2,Ft];clear h1 h2;simp_all
theorem vq(v:Av)(d:Ad)(w:World)(h:Reads w w.heap.size v d)(hn:v.n<=1152921504606846976)(hn2:v.n2<=1152921504606846976)(hk:v.k<0\/15<v.k):
 Calls Tryz.prog 40 #[.agg v.cells] w λe w'=>e= .returned (.bool false)/\Below w.heap.size w w':=by
 obtain⟨k,a,b,nm,mt,zs,ys⟩:=d;obtain⟨k',a',b',nm',mt',A,n,c,A2,n2,c2⟩:=v;obtain⟨h1,h2,h3,h4,h5,ha,hs⟩:=h;dsimp only at h1 h2 h3 h4 h5 ha hs hn hn2 hk;subst h1 h2 h3 h4 h5;unfold Av.cells;dsimp only;clear ha hs;have g0:(k'==0)=false:=by rw[DM];omega
 have g1:(k'==1)=false:=by rw[DM];omega
 have g2:(k'==2)=false:=by rw[DM];omega
 have g3:(k'==3)=false:=by rw[DM];omega
 have g4:(k'==4)=false:=by rw[DM];omega
 have g5:(k'==5)=false:=by rw[DM];omega
 have g6:(k'==6)=false:=by rw[DM];omega
 have g7:(k'==7)=false:=by rw[DM];omega
 have g8:(k'==8)=false:=by rw[DM];omega
 have g9:(k'==9)=false:=by rw[DM];omega
 have g10:(k'==10)=false:=by rw[DM];omega
 have g11:(k'==11)=false:=by rw[DM];omega
 have g12:(k'==12)=false:=by rw[DM];omega
 have g13:(k'==13)=false:=by rw[DM];omega
 have g14:(k'==14)=false:=by rw[DM];omega
 have g15:(k'==15)=false:=by rw[DM];omega
 clear hk;go_enter Tryz.func40,Tryz.ntmps40;go_wp2;go_ret;exact⟨rfl,(DN _ _).alloc (DK _) _⟩
theorem AH(v:Av)(d:Ad)(w:World)(h:Reads w w.heap.size v d)(hn:v.n<=1152921504606846976)(hn2:v.n2<=1152921504606846976):
 Calls Tryz.prog 40 #[.agg v.cells] w λe w'=>e= .returned (.bool (ay d))/\Below w.heap.size w w':=by
 have hkd:=h.k;by_cases h0:0<=v.k/\v.k<=15
 ·obtain⟨q,hq⟩:=Ei h0.1;have hq15:q<=15:=by omega
  have hv:ay d=cB q d:=by unfold ay;rw[<-hkd,hq];simp
  rw[hv];obtain rfl|rfl|rfl|rfl|rfl|rfl|rfl|rfl|rfl|rfl|rfl|rfl|rfl|rfl|rfl|rfl:q=0\/q=1\/q=2\/q=3\/q=4\/q=5\/q=6\/q=7\/q=8\/q=9\/q=10\/q=11\/q=12\/q=13\/q=14\/q=15:=by omega
  all_goals first|exact vr v d w h hn hn2 hq|exact vo v d w h hn hn2 _ _ hq (by decide)
 ·have hv:ay d=false:=by
   unfold ay;rw[<-hkd];by_cases h1:0<=v.k
   ·obtain⟨q,hq⟩:=Ei h1;rw[hq];have h15:15<q:=by omega
    have:cB q d=false:=by
     unfold cB;split<;>first|omega|rfl
    simp[this]
   ·simp[h1]
  rw[hv];exact vq v d w h hn hn2 (by omega)
def U64(n:Nat):Prop:=n<18446744073709551616
def si(n:Nat):ByteArray:=⟨(Lib.decDigits n).toArray⟩
theorem cH{n:Nat}(h:n<10):Lib.decDigits n=[UInt8.ofNat (48+n)]:=by rw[Lib.decDigits,dif_pos h]
theorem fC{n:Nat}(h:10<=n):Lib.decDigits n=Lib.decDigits (n/10)++[UInt8.ofNat (48+n%10)]:=by rw[Lib.decDigits,dif_neg (by omega)]
def I64(n:Int):Prop:= -9223372036854775808<=n/\n<=9223372036854775807
def du(n:Int):ByteArray:=⟨(Lib.itoa n).toArray⟩
theorem dN{n:Int}(h:I64 n):(Lib.itoa n).length<=21:=Lib.itoa_length_le n h.1 h.2
theorem uI(n:Int):(du n).size=(Lib.itoa n).length:=by unfold du;simp[ByteArray.size]
theorem gg(x y:ByteArray)(h:x.size+y.size<=9000000000000000000):∃S:ByteArray,S.data.toList=x.data.toList++y.data.toList/\S.size=x.size+y.size/\∀W,(Op.stringOp .add x y).run Tryz.prog W= .ok (.string S) W:=
 ⟨x++y,by simp,by simp,λW=>run_string_add_sum W x y (by omega)⟩
def ob:List ByteArray:=[⟨#[116,117,114,110]⟩,⟨#[100,101,108,105,118,101,114]⟩,⟨#[100,114,111,112]⟩,⟨#[100,111,117,98,108,101]⟩,⟨#[116,105,99,107]⟩,⟨#[109,105,110,111,114]⟩,⟨#[109,97,106,111,114]⟩,⟨#[99,114,97,115,104]⟩,⟨#[114,101,115,116,97,114,116]⟩,⟨#[99,104,101,99,107,112,111,105,110,116]⟩,⟨#[102,97,105,108]⟩,⟨#[115,112,97,119,110]⟩,⟨#[112,111,115,116]⟩,⟨#[114,101,108,101,97,115,101]⟩,⟨#[114,101,116,105,114,101]⟩,⟨#[99,97,108,109]⟩]
end
end Go.Proofs.YtjpbckbpeblibaaGreatDoor
