/- part of a proof -/
import Derived.Below
import Derived.Test.YtjpbckbpeblibaaGreatDoorRows
import Derived.WalkKit
import Derived.WalkSpells
import Derived.WalkLawsBesides
import Derived.Lib.Hide
import Derived.IntWalk
import Derived.Deep.QuietTactic
import Derived.BigQuiet
import Derived.Lib.ParseIntBCases
import Derived.Deep.RegionWith
import Derived.Lib.ItoaLen
import Derived.Laws.IdiomStrings
namespace Go.Proofs.YtjpbckbpeblibaaGreatDoor
set_option linter.unusedVariables false
set_option linter.unusedSimpArgs false
set_option maxRecDepth 100000
set_option maxHeartbeats 64000000
section
open Go.RowKit
variable{A:Option Addr}{B B' g:Nat}{cs:List Value}{l:List UInt8}{o:Obj}{ss:List ByteArray}{u:Value}{w w' w0:World}{x:ByteArray}{zs:List Int}{α:Type}
theorem EY:type_of% @List.length_append:=@List.length_append
theorem F0:type_of% @Nat.le_refl:=@Nat.le_refl
theorem Fa:type_of% @beq_eq_false_iff_ne:=@beq_eq_false_iff_ne
theorem Fb:type_of% @Below.refl:=@Below.refl
theorem Fc:type_of% @World.size_alloc:=@World.size_alloc
theorem Fd:type_of% @List.take_of_length_le:=@List.take_of_length_le
theorem Ff:type_of% @List.getElem?_eq_some_iff:=@List.getElem?_eq_some_iff
theorem Fg:type_of% @if_neg:=@if_neg
theorem Fh:type_of% @List.getElem?_eq_getElem:=@List.getElem?_eq_getElem
theorem Fi:type_of% @List.mem_of_getElem?:=@List.mem_of_getElem?
theorem Fj:type_of% @Nat.lt_of_lt_of_le:=@Nat.lt_of_lt_of_le
theorem Fl:type_of% @Nat.zero_le:=@Nat.zero_le
theorem Fo:type_of% @Below.heap_setCell:=@Below.heap_setCell
theorem Ft:type_of% @if_pos:=@if_pos
theorem Fv:type_of% @Array.getElem?_eq_some_iff:=@Array.getElem?_eq_some_iff
theorem Fx:type_of% @Bool.and_eq_true:=@Bool.and_eq_true
theorem Fy:type_of% @Go.WideShapes.bytes_inj:=@Go.WideShapes.bytes_inj
theorem Fz:type_of% @Int.eq_ofNat_of_zero_le:=@Int.eq_ofNat_of_zero_le
theorem FC:type_of% @and_true:=@and_true
theorem FI:type_of% @decide_eq_true_eq:=@decide_eq_true_eq
theorem FN:type_of% @List.getElem?_map:=@List.getElem?_map
theorem FQ:type_of% @Option.map_eq_some_iff:=@Option.map_eq_some_iff
theorem FT:type_of% @Below.heap_alloc:=@Below.heap_alloc
theorem Gj:type_of% @ByteArray.toList_eq:=@ByteArray.toList_eq
theorem Gp:type_of% @Nat.lt_or_ge:=@Nat.lt_or_ge
theorem Gq:type_of% @Nat.zero_add:=@Nat.zero_add
theorem GM:type_of% @List.any_eq_true:=@List.any_eq_true
theorem GN:type_of% @List.take_succ_eq_append_getElem:=@List.take_succ_eq_append_getElem
theorem GO:type_of% @Bool.true_and:=@Bool.true_and
theorem GS:type_of% @List.getElem?_eq_none:=@List.getElem?_eq_none
theorem H_{p : Prop}(h : p) : Hid p:=Lib.hid h
theorem nm_{α : Sort _}(a : α) : ∃x,a=x:=⟨a,rfl⟩
abbrev Tk:=Int×ByteArray×Int×Int
inductive Ex where
 |mk (k op z:Int) (nm:ByteArray) (at_:Bool) (args:List Ex)
inductive St where
 |mk (k:Int) (nm:ByteArray) (ex:List Ex) (body els:List St)
structure Me where
 nm:ByteArray
 params:List ByteArray
 body:List St
structure Cl where
 nm:ByteArray
 actor:Bool
 fields:List ByteArray
 methods:List Me
inductive R(α:Type) where
 |bad (j:Nat):R α
 |ok (x:α) (j:Nat):R α
def R.aB{α β:Type}:R α->(α->Nat->R β)->R β
 | .bad j,_=> .bad j
 | .ok x j,f=>f x j
section
variable(T:List Tk)
def tk(i:Nat):Tk:=T.getD i (0,⟨#[]⟩,0,0)
def isT(s:ByteArray)(i:Nat):Bool:=decide ((tk T i).2.1=s)&&(decide ((tk T i).1=4)||decide ((tk T i).1=5))
def bB(s:ByteArray)(i:Nat):R Unit:=if isT T s i=true then .ok () (i+1)else .bad i
def bV(k:Int)(i:Nat):R ByteArray:=if(tk T i).1=k then .ok (tk T i).2.1 (i+1)else .bad i
def cO:ByteArray:=⟨#[40]⟩
def dv:ByteArray:=⟨#[41]⟩
def cF:ByteArray:=⟨#[123]⟩
def cv:ByteArray:=⟨#[125]⟩
def iU:ByteArray:=⟨#[44]⟩
def DOT:ByteArray:=⟨#[46]⟩
def aQ:ByteArray:=⟨#[59]⟩
def bS:ByteArray:=⟨#[61]⟩
def bR:ByteArray:=⟨#[45]⟩
def eZ:ByteArray:=⟨#[97,99,116,111,114]⟩
def kAt:ByteArray:=⟨#[97,116]⟩
def kBy:ByteArray:=⟨#[98,121]⟩
def eP:ByteArray:=⟨#[101,108,115,101]⟩
def ep:ByteArray:=⟨#[103,101,116]⟩
def kIf:ByteArray:=⟨#[105,102]⟩
def ix:ByteArray:=⟨#[108,101,116]⟩
def gw:ByteArray:=⟨#[109,111,118,101]⟩
def dM:ByteArray:=⟨#[110,101,119]⟩
def ie:ByteArray:=⟨#[110,105,108]⟩
def dV:ByteArray:=⟨#[110,111,116]⟩
def kOn:ByteArray:=⟨#[111,110]⟩
def en:ByteArray:=⟨#[112,114,105,110,116]⟩
def eJ:ByteArray:=⟨#[114,101,99,111,114,100]⟩
def ei:ByteArray:=⟨#[114,101,116,117,114,110]⟩
def fG:ByteArray:=⟨#[115,101,110,100]⟩
def eO:ByteArray:=⟨#[116,104,105,115]⟩
def kTo:ByteArray:=⟨#[116,111]⟩
def rb:ByteArray:=⟨#[118,97,114]⟩
def eY:ByteArray:=⟨#[119,97,116,99,104]⟩
def cn:ByteArray:=⟨#[119,101,97,107]⟩
def dU:ByteArray:=⟨#[119,104,105,108,101]⟩
def kj:List ByteArray:=[⟨#[43]⟩,⟨#[45]⟩,⟨#[42]⟩,⟨#[47]⟩,⟨#[37]⟩,⟨#[61,61]⟩,⟨#[33,61]⟩,⟨#[60]⟩,⟨#[60,61]⟩,⟨#[62]⟩,⟨#[62,61]⟩,⟨#[97,110,100]⟩,⟨#[111,114]⟩]
def bc(o:Nat):ByteArray:=kj.getD o ⟨#[]⟩
def opT(ops:List Nat)(i:Nat):Option Nat:=ops.find? λo=>isT T (bc o) i
def oOr:List Nat:=[12]
def xU:List Nat:=[11]
def vJ:List Nat:=[5,6,7,8,9,10]
def xS:List Nat:=[0,1]
def xT:List Nat:=[2,3,4]
def gk(z:Int):Ex:= .mk 0 0 z ⟨#[]⟩ false []
def cA(o:Nat)(a b:Ex):Ex:= .mk 10 (o:Int) 0 ⟨#[]⟩ false [a,b]
def eUn(k:Int)(a:Ex):Ex:= .mk k 0 0 ⟨#[]⟩ false [a]
def aU(s:ByteArray)(a:Ex):Ex:= .mk 4 0 0 s false [a]
def eQ(k:Int)(s:ByteArray):Ex:= .mk k 0 0 s false []
def dy(f:Nat->R Ex)(ops:List Nat):Nat->Ex->Nat->R Ex
 |0,_,i=> .bad i
 |k+1,x,i=>match opT T ops i with
  |none=> .ok x i
  |some o=>match f (i+1)with
   | .bad j=> .bad j
   | .ok y j=>dy f ops k (cA o x y) j
def fo(f:Nat->R Ex)(ops:List Nat)(i:Nat):R Ex:=
 match f i with
 | .bad j=> .bad j
 | .ok x j=>dy T f ops (T.length+1) x j
def dJ{α:Type}(f:Nat->R α):Nat->List α->Nat->R (List α)
 |0,_,i=> .bad i
 |k+1,xs,i=>if isT T iU i=true then(match f (i+1)with
   | .bad j=> .bad j
   | .ok y j=>dJ f k (xs++[y]) j)
  else(match bB T dv i with
   | .bad j=> .bad j
   | .ok _ j=> .ok xs j)
def cm{α:Type}(f:Nat->R α)(i:Nat):R (List α):=
 match bB T cO i with
 | .bad j=> .bad j
 | .ok _ j=>if isT T dv j=true then .ok [] (j+1)else match f j with
   | .bad l=> .bad l
   | .ok x l=>dJ T f (T.length+1) [x] l
def cu:Nat->Ex->Nat->R Ex
 |0,_,i=> .bad i
 |k+1,x,i=>if isT T DOT i=true then(match bV T 2 (i+1)with
   | .bad j=> .bad j
   | .ok s j=>cu k (aU s x) j)
  else .ok x i
section
variable(rec:Nat->Nat->R Ex)
def lW(i:Nat):R Ex:=
 match bB T dM i with
 | .bad j=> .bad j
 | .ok _ j=>match bV T 3 j with
   | .bad l=> .bad l
   | .ok s l=>match cm T (rec 0) l with
     | .bad m=> .bad m
     | .ok xs m=>if isT T kAt m=true then(match rec 6 (m+1)with
        | .bad q=> .bad q
        | .ok y q=> .ok (.mk 5 0 0 s true (xs++[y])) q)
       else .ok (.mk 5 0 0 s false xs) m
def aO(i:Nat):R Ex:=
 if(tk T i).1=1 then .ok (gk (tk T i).2.2.1) (i+1)
 else if(tk T i).1=2 then .ok (eQ 3 (tk T i).2.1) (i+1)
 else if isT T ie i=true then .ok (eQ 1 ⟨#[]⟩) (i+1)
 else if isT T eO i=true then .ok (eQ 2 ⟨#[]⟩) (i+1)
 else if isT T cO i=true then(match rec 0 (i+1)with
  | .bad j=> .bad j
  | .ok x j=>match bB T dv j with
    | .bad l=> .bad l
    | .ok _ l=> .ok x l)
 else lW T rec i
def cw(i:Nat):R Ex:=
 match aO T rec i with
 | .bad j=> .bad j
 | .ok x j=>cu T (T.length+1) x j
def eN(k:Int)(l i:Nat):R Ex:=
 match rec l i with
 | .bad j=> .bad j
 | .ok x j=> .ok (eUn k x) j
def cC(i:Nat):R Ex:=
 if isT T bR i=true then eN rec 8 6 (i+1)
 else if isT T cn i=true then eN rec 6 6 (i+1)
 else if isT T ep i=true then eN rec 7 6 (i+1)
 else cw T rec i
def fT(i:Nat):R Ex:=fo T (cC T rec) xT i
def jC(i:Nat):R Ex:=fo T (fT T rec) xS i
def cJ(i:Nat):R Ex:=
 match jC T rec i with
 | .bad j=> .bad j
 | .ok x j=>match opT T vJ j with
   |none=> .ok x j
   |some o=>match jC T rec (j+1)with
    | .bad l=> .bad l
    | .ok y l=> .ok (cA o x y) l
def jo(i:Nat):R Ex:=if isT T dV i=true then eN rec 9 2 (i+1)else cJ T rec i
def tL(i:Nat):R Ex:=fo T (jo T rec) xU i
def uF(i:Nat):R Ex:=fo T (tL T rec) oOr i
def fI(l:Nat)(i:Nat):R Ex:=
 match l with
 |0=>uF T rec i
 |1=>tL T rec i
 |2=>jo T rec i
 |3=>cJ T rec i
 |4=>jC T rec i
 |5=>fT T rec i
 |6=>cC T rec i
 |7=>cw T rec i
 |_=>aO T rec i
end
def E:Nat->Nat->Nat->R Ex
 |0,_,i=> .bad i
 |n+1,l,i=>fI T (E n) l i
def stE(k:Int)(s:ByteArray)(xs:List Ex):St:= .mk k s xs [] []
section
variable(ex:Nat->Nat->R Ex)(st:Nat->R St)
def dr:Nat->List St->Nat->R (List St)
 |0,_,i=> .bad i
 |k+1,ss,i=>if isT T cv i=true then .ok ss (i+1)else match st i with
  | .bad j=> .bad j
  | .ok s j=>dr k (ss++[s]) j
def du(i:Nat):R (List St):=
 match bB T cF i with
 | .bad j=> .bad j
 | .ok _ j=>dr T st (T.length+1) [] j
def dE(k:Int)(i:Nat):R St:=
 match bV T 2 i with
 | .bad j=> .bad j
 | .ok s j=>match bB T bS j with
   | .bad l=> .bad l
   | .ok _ l=>match ex 0 l with
     | .bad m=> .bad m
     | .ok x m=> .ok (stE k s [x]) m
def dh:Nat->Ex->Nat->R St
 |0,_,i=> .bad i
 |k+1,x,i=>match bB T DOT i with
  | .bad j=> .bad j
  | .ok _ j=>match bV T 2 j with
    | .bad l=> .bad l
    | .ok s l=>if isT T cO l=true then(match cm T (ex 0) l with
       | .bad m=> .bad m
       | .ok xs m=> .ok (stE 5 s (x::xs)) m)
      else dh k (aU s x) l
def gN(i:Nat):R St:=
 match ex 8 i with
 | .bad j=> .bad j
 | .ok x j=>dh T ex (T.length+1) x j
def kp(i:Nat):R St:=
 match ex 0 i with
 | .bad j=> .bad j
 | .ok x j=>match bB T kTo j with
   | .bad l=> .bad l
   | .ok _ l=>match ex 0 l with
     | .bad m=> .bad m
     | .ok y m=> .ok (stE 7 ⟨#[]⟩ [x,y]) m
def fu(i:Nat):R St:=
 match ex 0 i with
 | .bad j=> .bad j
 | .ok x j=>match bB T kBy j with
   | .bad l=> .bad l
   | .ok _ l=>match bV T 2 l with
     | .bad m=> .bad m
     | .ok s m=>match bB T cO m with
       | .bad p=> .bad p
       | .ok _ p=>match ex 0 p with
         | .bad q=> .bad q
         | .ok y q=>match bB T dv q with
           | .bad r=> .bad r
           | .ok _ r=> .ok (stE 8 s [x,y]) r
def fQ(i:Nat):R St:=
 match ex 8 i with
 | .bad j=> .bad j
 | .ok x j=>match bB T DOT j with
   | .bad l=> .bad l
   | .ok _ l=>match bV T 2 l with
     | .bad m=> .bad m
     | .ok s m=>match bB T bS m with
       | .bad p=> .bad p
       | .ok _ p=>match ex 0 p with
         | .bad q=> .bad q
         | .ok y q=> .ok (stE 2 s [x,y]) q
def bh(i:Nat):R St:=
 if isT T ix i=true then dE T ex 0 (i+1)
 else if isT T fG i=true then gN T ex (i+1)
 else if isT T en i=true then(match ex 0 (i+1)with
  | .bad j=> .bad j
  | .ok x j=> .ok (stE 6 ⟨#[]⟩ [x]) j)
 else if isT T gw i=true then kp T ex (i+1)
 else if isT T eY i=true then fu T ex (i+1)
 else if isT T ei i=true then .ok (stE 9 ⟨#[]⟩ []) (i+1)
 else if(tk T i).1=2/\(tk T (i+1)).1=5/\(tk T (i+1)).2.1=bS then dE T ex 1 i
 else fQ T ex i
def jx(i:Nat):R St:=
 match ex 0 i with
 | .bad j=> .bad j
 | .ok x j=>match du T st j with
   | .bad l=> .bad l
   | .ok b l=> .ok (.mk 4 ⟨#[]⟩ [x] b []) l
def ifT(i:Nat):R St:=
 match ex 0 i with
 | .bad j=> .bad j
 | .ok x j=>match du T st j with
   | .bad l=> .bad l
   | .ok b l=>if isT T eP l=true then(match du T st (l+1)with
      | .bad m=> .bad m
      | .ok c m=> .ok (.mk 3 ⟨#[]⟩ [x] b c) m)
     else .ok (.mk 3 ⟨#[]⟩ [x] b []) l
def dZ(i:Nat):R St:=
 if isT T kIf i=true then ifT T ex st (i+1)
 else if isT T dU i=true then jx T ex st (i+1)
 else match bh T ex i with
  | .bad j=> .bad j
  | .ok s j=>match bB T aQ j with
    | .bad l=> .bad l
    | .ok _ l=> .ok s l
end
def S:Nat->Nat->R St
 |0,i=> .bad i
 |n+1,i=>dZ T (E T (n+1)) (S n) i
def bW:Nat->List ByteArray->Nat->R (List ByteArray)
 |0,_,i=> .bad i
 |k+1,fs,i=>if isT T rb i=true then(match bV T 2 (i+1)with
   | .bad j=> .bad j
   | .ok s j=>match bB T aQ j with
     | .bad l=> .bad l
     | .ok _ l=>bW k (fs++[s]) l)
  else .ok fs i
def fH(n:Nat)(i:Nat):R Me:=
 match bV T 2 i with
 | .bad j=> .bad j
 | .ok s j=>match cm T (bV T 2) j with
   | .bad l=> .bad l
   | .ok ps l=>match du T (S T n) l with
     | .bad m=> .bad m
     | .ok b m=> .ok ⟨s,ps,b⟩ m
def aP(n:Nat):Nat->List Me->Nat->R (List Me)
 |0,_,i=> .bad i
 |k+1,ms,i=>if isT T kOn i=true then(match fH T n (i+1)with
   | .bad j=> .bad j
   | .ok m j=>aP n k (ms++[m]) j)
  else .ok ms i
def dt(n:Nat)(actor:Bool)(i:Nat):R Cl:=
 match bV T 3 i with
 | .bad j=> .bad j
 | .ok s j=>match bB T cF j with
   | .bad l=> .bad l
   | .ok _ l=>match bW T (T.length+1) [] l with
     | .bad m=> .bad m
     | .ok fs m=>match(if actor=true then aP T n (T.length+1) [] m else .ok [] m)with
       | .bad p=> .bad p
       | .ok ms p=>match bB T cv p with
         | .bad q=> .bad q
         | .ok _ q=> .ok ⟨s,actor,fs,ms⟩ q
def cD(n:Nat):Nat->List Cl->Nat->R (List Cl)
 |0,_,i=> .bad i
 |k+1,cs,i=>if isT T eZ i=true then(match dt T n true (i+1)with
   | .bad j=> .bad j
   | .ok c j=>cD n k (cs++[c]) j)
  else if isT T eJ i=true then(match dt T n false (i+1)with
   | .bad j=> .bad j
   | .ok c j=>cD n k (cs++[c]) j)
  else if(tk T i).1=0 then .ok cs i else .bad i
def dI:R (List Cl):=cD T (T.length+1) (T.length+1) [] 0
end
theorem ug{k:IntKind}{a b:Int}(h:a=b):Ending.returned (.int k a)= .returned (.int k b):=by rw[h]
theorem ab{a b:Bool}(h:a=b):Ending.returned (.bool a)= .returned (.bool b):=by rw[h]
def Blk(w:World)(g:Nat)(t:TypeId)(cs:Array Value):Prop:=w.heap[g]?=some (.cells cs t (0,0))
section
variable{w w':World}{g:Nat}{t:TypeId}{cs:Array Value}
theorem Blk.lt(h:Blk w g t cs):g<w.heap.size:=by
 rcases Gp g w.heap.size with hlt|hge
 ·exact hlt
 ·unfold Blk at h;rw[Array.getElem?_eq_none hge]at h;cases h
theorem Blk.cell(h:Blk w g t cs)(i:Nat):w.cell? ⟨g,i,none⟩=cs[i]?:=by
 unfold Blk at h;simp[World.cell?,h]
theorem Blk.frozen(h:Blk w g t cs)(i:Nat):w.frozen? ⟨g,i,none⟩=false:=by
 unfold Blk at h;simp[World.frozen?,h]
theorem Blk.new(w:World)(t:TypeId)(cs:Array Value):Blk (w.alloc (.cells cs t)) w.heap.size t cs:=heap_alloc_new w _
theorem Blk.alloc(h:Blk w g t cs)(o:Obj):Blk (w.alloc o) g t cs:=(FT w o g h.lt).trans h
theorem Blk.below(h:Blk w g t cs)(hb:Below B w w')(hg:g<B):Blk w' g t cs:=(hb.block g hg).trans h
theorem hbl(h:Hid (Blk w g t cs))(hb:Below w.heap.size w w'):Hid (Blk w' g t cs):=H_ (h.out.below hb h.out.lt)
theorem htr(h:Hid (Below w0.heap.size w0 w))(hb:Below w.heap.size w w'):Hid (Below w0.heap.size w0 w'):=H_ (h.out.trans (hb.mono h.out.size))
theorem htm{S:Nat}(h:Hid (Below S w0 w))(hb:Below w.heap.size w w')(hS:S<=w.heap.size:=by omega):Hid (Below S w0 w'):=H_ (h.out.trans (hb.mono hS))
theorem bal(h:w.alloc o=w'):Below w.heap.size w w':=h▸(Fb _ _).alloc (F0 _) _
theorem Blk.drew(h:Blk w g t cs):Blk w.drew g t cs:=h
theorem Blk.set(h:Blk w g t cs)(i:Nat)(v:Value):Blk (w.setCell ⟨g,i,none⟩ v) g t (cs.setIfInBounds i v):=by
 unfold Blk at*
 obtain⟨hlt,hg⟩:=Fv.1 h;simp[World.setCell,hlt,Array.getElem_modify,hg]
theorem Blk.other(h:Blk w g t cs)(p:Addr)(v:Value)(hne:g≠p.block):Blk (w.setCell p v) g t cs:=(Fo w p v g hne).trans h
variable{v0 v1 v2 v3 v4 v5 v6 v7 v8:Value}{l:List Value}
theorem Blk.k0(h:Blk w g t (v0::l).toArray):w.cell? ⟨g,0,none⟩=some v0:=(h.cell 0).trans (by simp)
theorem Blk.k1(h:Blk w g t (v0::v1::l).toArray):w.cell? ⟨g,1,none⟩=some v1:=(h.cell 1).trans (by simp)
theorem Blk.k2(h:Blk w g t (v0::v1::v2::l).toArray):w.cell? ⟨g,2,none⟩=some v2:=(h.cell 2).trans (by simp)
theorem Blk.k3(h:Blk w g t (v0::v1::v2::v3::l).toArray):w.cell? ⟨g,3,none⟩=some v3:=(h.cell 3).trans (by simp)
theorem Blk.k4(h:Blk w g t (v0::v1::v2::v3::v4::l).toArray):w.cell? ⟨g,4,none⟩=some v4:=(h.cell 4).trans (by simp)
theorem Blk.k5(h:Blk w g t (v0::v1::v2::v3::v4::v5::l).toArray):w.cell? ⟨g,5,none⟩=some v5:=(h.cell 5).trans (by simp)
theorem Blk.k6(h:Blk w g t (v0::v1::v2::v3::v4::v5::v6::l).toArray):w.cell? ⟨g,6,none⟩=some v6:=(h.cell 6).trans (by simp)
theorem Blk.k7(h:Blk w g t (v0::v1::v2::v3::v4::v5::v6::v7::l).toArray):w.cell? ⟨g,7,none⟩=some v7:=(h.cell 7).trans (by simp)
theorem Blk.k8(h:Blk w g t (v0::v1::v2::v3::v4::v5::v6::v7::v8::l).toArray):w.cell? ⟨g,8,none⟩=some v8:=(h.cell 8).trans (by simp)
theorem Blk.c2(h:Blk w g t (v0::v1::l).toArray):w.cell? ⟨g,0,none⟩=some v0/\w.cell? ⟨g,1,none⟩=some v1:=⟨h.k0,h.k1⟩
theorem Blk.c3(h:Blk w g t (v0::v1::v2::l).toArray):w.cell? ⟨g,0,none⟩=some v0/\w.cell? ⟨g,1,none⟩=some v1/\w.cell? ⟨g,2,none⟩=some v2:=⟨h.k0,h.k1,h.k2⟩
theorem Blk.c4(h:Blk w g t (v0::v1::v2::v3::l).toArray):w.cell? ⟨g,0,none⟩=some v0/\w.cell? ⟨g,1,none⟩=some v1/\w.cell? ⟨g,2,none⟩=some v2/\w.cell? ⟨g,3,none⟩=some v3:=⟨h.k0,h.k1,h.k2,h.k3⟩
theorem Blk.c5(h:Blk w g t (v0::v1::v2::v3::v4::l).toArray):w.cell? ⟨g,0,none⟩=some v0/\w.cell? ⟨g,1,none⟩=some v1/\w.cell? ⟨g,2,none⟩=some v2/\w.cell? ⟨g,3,none⟩=some v3/\w.cell? ⟨g,4,none⟩=some v4:=⟨h.k0,h.k1,h.k2,h.k3,h.k4⟩
theorem Blk.c6(h:Blk w g t (v0::v1::v2::v3::v4::v5::l).toArray):w.cell? ⟨g,0,none⟩=some v0/\w.cell? ⟨g,1,none⟩=some v1/\w.cell? ⟨g,2,none⟩=some v2/\w.cell? ⟨g,3,none⟩=some v3/\w.cell? ⟨g,4,none⟩=some v4/\w.cell? ⟨g,5,none⟩=some v5:=⟨h.k0,h.k1,h.k2,h.k3,h.k4,h.k5⟩
theorem Blk.c7(h:Blk w g t (v0::v1::v2::v3::v4::v5::v6::l).toArray):w.cell? ⟨g,0,none⟩=some v0/\w.cell? ⟨g,1,none⟩=some v1/\w.cell? ⟨g,2,none⟩=some v2/\w.cell? ⟨g,3,none⟩=some v3/\w.cell? ⟨g,4,none⟩=some v4/\w.cell? ⟨g,5,none⟩=some v5/\w.cell? ⟨g,6,none⟩=some v6:=⟨h.k0,h.k1,h.k2,h.k3,h.k4,h.k5,h.k6⟩
theorem Blk.c8(h:Blk w g t (v0::v1::v2::v3::v4::v5::v6::v7::l).toArray):w.cell? ⟨g,0,none⟩=some v0/\w.cell? ⟨g,1,none⟩=some v1/\w.cell? ⟨g,2,none⟩=some v2/\w.cell? ⟨g,3,none⟩=some v3/\w.cell? ⟨g,4,none⟩=some v4/\w.cell? ⟨g,5,none⟩=some v5/\w.cell? ⟨g,6,none⟩=some v6/\w.cell? ⟨g,7,none⟩=some v7:=⟨h.k0,h.k1,h.k2,h.k3,h.k4,h.k5,h.k6,h.k7⟩
theorem Blk.f2(h:Blk w g t cs):w.frozen? ⟨g,0,none⟩=false/\w.frozen? ⟨g,1,none⟩=false:=⟨h.frozen 0,h.frozen 1⟩
theorem Blk.f3(h:Blk w g t cs):w.frozen? ⟨g,0,none⟩=false/\w.frozen? ⟨g,1,none⟩=false/\w.frozen? ⟨g,2,none⟩=false:=⟨h.frozen 0,h.frozen 1,h.frozen 2⟩
theorem Blk.f4(h:Blk w g t cs):w.frozen? ⟨g,0,none⟩=false/\w.frozen? ⟨g,1,none⟩=false/\w.frozen? ⟨g,2,none⟩=false/\w.frozen? ⟨g,3,none⟩=false:=⟨h.frozen 0,h.frozen 1,h.frozen 2,h.frozen 3⟩
theorem Blk.f5(h:Blk w g t cs):w.frozen? ⟨g,0,none⟩=false/\w.frozen? ⟨g,1,none⟩=false/\w.frozen? ⟨g,2,none⟩=false/\w.frozen? ⟨g,3,none⟩=false/\w.frozen? ⟨g,4,none⟩=false:=⟨h.frozen 0,h.frozen 1,h.frozen 2,h.frozen 3,h.frozen 4⟩
theorem Blk.f6(h:Blk w g t cs):w.frozen? ⟨g,0,none⟩=false/\w.frozen? ⟨g,1,none⟩=false/\w.frozen? ⟨g,2,none⟩=false/\w.frozen? ⟨g,3,none⟩=false/\w.frozen? ⟨g,4,none⟩=false/\w.frozen? ⟨g,5,none⟩=false:=⟨h.frozen 0,h.frozen 1,h.frozen 2,h.frozen 3,h.frozen 4,h.frozen 5⟩
theorem Blk.f7(h:Blk w g t cs):w.frozen? ⟨g,0,none⟩=false/\w.frozen? ⟨g,1,none⟩=false/\w.frozen? ⟨g,2,none⟩=false/\w.frozen? ⟨g,3,none⟩=false/\w.frozen? ⟨g,4,none⟩=false/\w.frozen? ⟨g,5,none⟩=false/\w.frozen? ⟨g,6,none⟩=false:=⟨h.frozen 0,h.frozen 1,h.frozen 2,h.frozen 3,h.frozen 4,h.frozen 5,h.frozen 6⟩
theorem Blk.f8(h:Blk w g t cs):w.frozen? ⟨g,0,none⟩=false/\w.frozen? ⟨g,1,none⟩=false/\w.frozen? ⟨g,2,none⟩=false/\w.frozen? ⟨g,3,none⟩=false/\w.frozen? ⟨g,4,none⟩=false/\w.frozen? ⟨g,5,none⟩=false/\w.frozen? ⟨g,6,none⟩=false/\w.frozen? ⟨g,7,none⟩=false:=⟨h.frozen 0,h.frozen 1,h.frozen 2,h.frozen 3,h.frozen 4,h.frozen 5,h.frozen 6,h.frozen 7⟩
theorem Blk.nw(e:w.alloc (.cells cs t)=w'):Blk w' w.heap.size t cs:=e▸Blk.new w t cs
theorem Blk.ng(e:w.alloc (.cells cs t)=w')(z:w.heap.size=g):Blk w' g t cs:=z▸e▸Blk.new w t cs
theorem hnw(e:w.alloc (.cells cs t)=w'):Hid (Blk w' w.heap.size t cs):=H_ (Blk.nw e)
theorem hng(e:w.alloc (.cells cs t)=w')(z:w.heap.size=g):Hid (Blk w' g t cs):=H_ (Blk.ng e z)
theorem hba(h:w.alloc o=w'):Hid (Below w.heap.size w w'):=H_ (bal h)
theorem Blk.al(h:Blk w g t cs)(e:w.alloc o=w'):Blk w' g t cs:=e▸h.alloc o
theorem Blk.t0(h:Blk w g t (v0::l).toArray)(u:Value):Blk (w.setCell ⟨g,0,none⟩ u) g t (u::l).toArray:=by simpa using h.set 0 u
theorem Blk.s0(h:Blk w g t (v0::l).toArray)(e:w.setCell ⟨g,0,none⟩ u=w'):Blk w' g t (u::l).toArray:=e▸h.t0 u
theorem hs0(h:Hid (Blk w g t (v0::l).toArray))(e:w.setCell ⟨g,0,none⟩ u=w'):Hid (Blk w' g t (u::l).toArray):=H_ (h.out.s0 e)
theorem Blk.t1(h:Blk w g t (v0::v1::l).toArray)(u:Value):Blk (w.setCell ⟨g,1,none⟩ u) g t (v0::u::l).toArray:=by simpa using h.set 1 u
theorem Blk.s1(h:Blk w g t (v0::v1::l).toArray)(e:w.setCell ⟨g,1,none⟩ u=w'):Blk w' g t (v0::u::l).toArray:=e▸h.t1 u
theorem ht1(h:Hid (Blk w g t (v0::v1::l).toArray))(u:Value):Hid (Blk (w.setCell ⟨g,1,none⟩ u) g t (v0::u::l).toArray):=H_ (h.out.t1 u)
theorem hs1(h:Hid (Blk w g t (v0::v1::l).toArray))(e:w.setCell ⟨g,1,none⟩ u=w'):Hid (Blk w' g t (v0::u::l).toArray):=H_ (h.out.s1 e)
theorem Blk.t2(h:Blk w g t (v0::v1::v2::l).toArray)(u:Value):Blk (w.setCell ⟨g,2,none⟩ u) g t (v0::v1::u::l).toArray:=by simpa using h.set 2 u
theorem Blk.s2(h:Blk w g t (v0::v1::v2::l).toArray)(e:w.setCell ⟨g,2,none⟩ u=w'):Blk w' g t (v0::v1::u::l).toArray:=e▸h.t2 u
theorem ht2(h:Hid (Blk w g t (v0::v1::v2::l).toArray))(u:Value):Hid (Blk (w.setCell ⟨g,2,none⟩ u) g t (v0::v1::u::l).toArray):=H_ (h.out.t2 u)
theorem hs2(h:Hid (Blk w g t (v0::v1::v2::l).toArray))(e:w.setCell ⟨g,2,none⟩ u=w'):Hid (Blk w' g t (v0::v1::u::l).toArray):=H_ (h.out.s2 e)
theorem Blk.t3(h:Blk w g t (v0::v1::v2::v3::l).toArray)(u:Value):Blk (w.setCell ⟨g,3,none⟩ u) g t (v0::v1::v2::u::l).toArray:=by simpa using h.set 3 u
theorem Blk.s3(h:Blk w g t (v0::v1::v2::v3::l).toArray)(e:w.setCell ⟨g,3,none⟩ u=w'):Blk w' g t (v0::v1::v2::u::l).toArray:=e▸h.t3 u
theorem ht3(h:Hid (Blk w g t (v0::v1::v2::v3::l).toArray))(u:Value):Hid (Blk (w.setCell ⟨g,3,none⟩ u) g t (v0::v1::v2::u::l).toArray):=H_ (h.out.t3 u)
theorem hs3(h:Hid (Blk w g t (v0::v1::v2::v3::l).toArray))(e:w.setCell ⟨g,3,none⟩ u=w'):Hid (Blk w' g t (v0::v1::v2::u::l).toArray):=H_ (h.out.s3 e)
theorem Blk.t4(h:Blk w g t (v0::v1::v2::v3::v4::l).toArray)(u:Value):Blk (w.setCell ⟨g,4,none⟩ u) g t (v0::v1::v2::v3::u::l).toArray:=by simpa using h.set 4 u
theorem Blk.s4(h:Blk w g t (v0::v1::v2::v3::v4::l).toArray)(e:w.setCell ⟨g,4,none⟩ u=w'):Blk w' g t (v0::v1::v2::v3::u::l).toArray:=e▸h.t4 u
theorem hs4(h:Hid (Blk w g t (v0::v1::v2::v3::v4::l).toArray))(e:w.setCell ⟨g,4,none⟩ u=w'):Hid (Blk w' g t (v0::v1::v2::v3::u::l).toArray):=H_ (h.out.s4 e)
theorem Blk.t5(h:Blk w g t (v0::v1::v2::v3::v4::v5::l).toArray)(u:Value):Blk (w.setCell ⟨g,5,none⟩ u) g t (v0::v1::v2::v3::v4::u::l).toArray:=by simpa using h.set 5 u
theorem Blk.s5(h:Blk w g t (v0::v1::v2::v3::v4::v5::l).toArray)(e:w.setCell ⟨g,5,none⟩ u=w'):Blk w' g t (v0::v1::v2::v3::v4::u::l).toArray:=e▸h.t5 u
theorem hs5(h:Hid (Blk w g t (v0::v1::v2::v3::v4::v5::l).toArray))(e:w.setCell ⟨g,5,none⟩ u=w'):Hid (Blk w' g t (v0::v1::v2::v3::v4::u::l).toArray):=H_ (h.out.s5 e)
theorem Blk.t6(h:Blk w g t (v0::v1::v2::v3::v4::v5::v6::l).toArray)(u:Value):Blk (w.setCell ⟨g,6,none⟩ u) g t (v0::v1::v2::v3::v4::v5::u::l).toArray:=by simpa using h.set 6 u
theorem Blk.s6(h:Blk w g t (v0::v1::v2::v3::v4::v5::v6::l).toArray)(e:w.setCell ⟨g,6,none⟩ u=w'):Blk w' g t (v0::v1::v2::v3::v4::v5::u::l).toArray:=e▸h.t6 u
theorem hs6(h:Hid (Blk w g t (v0::v1::v2::v3::v4::v5::v6::l).toArray))(e:w.setCell ⟨g,6,none⟩ u=w'):Hid (Blk w' g t (v0::v1::v2::v3::v4::v5::u::l).toArray):=H_ (h.out.s6 e)
end
theorem aa(hb:Below B w w'){b:Nat}(h:b<B)(o:Nat):w'.cell? ⟨b,o,none⟩=w.cell? ⟨b,o,none⟩:=hb.cell (p:=⟨b,o,none⟩) h
def Row(w:World)(B:Nat)(A:Option Addr)(n:Nat)(cs:List Value):Prop:=
 cs.length=n/\(0<n->∃b off,A=some ⟨b,off,none⟩/\b<B/\∀j v,cs[j]?=some v->w.cell? ⟨b,off+j,none⟩=some v)
theorem Row.below{n:Nat}(h:Row w B A n cs)(hb:Below B w w'):Row w' B A n cs:=
 ⟨h.1,λh0=>by
  obtain⟨b,off,h1,h2,h3⟩:=h.2 h0;exact⟨b,off,h1,h2,λj v hv=>(aa hb h2 _).trans (h3 j v hv)⟩⟩
theorem Row.more{n:Nat}(h:Row w B A n cs)(hB:B<=B'):Row w B' A n cs:=
 ⟨h.1,λh0=>by
  obtain⟨b,off,h1,h2,h3⟩:=h.2 h0;exact⟨b,off,h1,Fj h2 hB,h3⟩⟩
theorem Row.at_{n:Nat}(h:Row w B A n cs){k:Nat}(hk:k<n):
 ∃b off v,A=some ⟨b,off,none⟩/\b<B/\cs[k]?=some v/\w.cell? ⟨b,off+k,none⟩=some v:=by
 obtain⟨b,off,h1,h2,h3⟩:=h.2 (by omega);have hl:k<cs.length:=by rw[h.1];exact hk
 exact⟨b,off,cs[k],h1,h2,Fh hl,h3 k _ (Fh hl)⟩
def Ints(w:World)(B:Nat)(A:Option Addr)(n:Nat)(zs:List Int):Prop:=Row w B A n (zs.map (.int .i64))
def Strs(w:World)(B:Nat)(A:Option Addr)(n:Nat)(ss:List ByteArray):Prop:=Row w B A n (ss.map .string)
theorem Ints.below{n:Nat}(h:Ints w B A n zs)(hb:Below B w w'):Ints w' B A n zs:=Row.below h hb
theorem Ints.more{n:Nat}(h:Ints w B A n zs)(hB:B<=B'):Ints w B' A n zs:=Row.more h hB
theorem Ints.len{n:Nat}(h:Ints w B A n zs):zs.length=n:=by simpa using h.1
theorem Ints.at_{n:Nat}(h:Ints w B A n zs){k:Nat}(hk:k<n):
 ∃b off z,A=some ⟨b,off,none⟩/\b<B/\zs[k]?=some z/\w.cell? ⟨b,off+k,none⟩=some (.int .i64 z):=by
 obtain⟨b,off,v,h1,h2,h3,h4⟩:=Row.at_ h hk;rw[FN]at h3;obtain⟨z,hz,rfl⟩:=FQ.1 h3;exact⟨b,off,z,h1,h2,hz,h4⟩
theorem Strs.below{n:Nat}(h:Strs w B A n ss)(hb:Below B w w'):Strs w' B A n ss:=Row.below h hb
theorem Strs.more{n:Nat}(h:Strs w B A n ss)(hB:B<=B'):Strs w B' A n ss:=Row.more h hB
theorem Strs.len{n:Nat}(h:Strs w B A n ss):ss.length=n:=by simpa using h.1
theorem Strs.at_{n:Nat}(h:Strs w B A n ss){k:Nat}(hk:k<n):
 ∃b off s,A=some ⟨b,off,none⟩/\b<B/\ss[k]?=some s/\w.cell? ⟨b,off+k,none⟩=some (.string s):=by
 obtain⟨b,off,v,h1,h2,h3,h4⟩:=Row.at_ h hk;rw[FN]at h3;obtain⟨z,hz,rfl⟩:=FQ.1 h3;exact⟨b,off,z,h1,h2,hz,h4⟩
theorem Row.tail{b off n:Nat}{v:Value}(h:Row w B (some ⟨b,off,none⟩) (n+1) (v::cs)):Row w B (some ⟨b,off+1,none⟩) n cs:=
 ⟨by simpa using h.1,λh0=>by
  obtain⟨b',off',h1,h2,h3⟩:=h.2 (by omega);simp only[Option.some.injEq,Addr.mk.injEq,FC]at h1;obtain⟨rfl,rfl⟩:=h1;exact⟨b,off+1,rfl,h2,λj u hu=>by rw[Nat.add_right_comm,Nat.add_assoc];exact h3 (j+1) u (by simpa using hu)⟩⟩
structure Av where
 k:Int
 a:Int
 b:Int
 nm:ByteArray
 mt:ByteArray
 A:Option Addr
 n:Nat
 c:Nat
 A2:Option Addr
 n2:Nat
 c2:Nat
def Av.cells(v:Av):Array Value:= #[.int .i64 v.k,.int .i64 v.a,.int .i64 v.b,.string v.nm,.string v.mt,.slice v.A v.n v.c,.slice v.A2 v.n2 v.c2]
theorem Blk.v7{t:TypeId}{v:Av}(h:Blk w g t v.cells):w.cell? ⟨g,0,none⟩=some (.int .i64 v.k)/\w.cell? ⟨g,1,none⟩=some (.int .i64 v.a)/\w.cell? ⟨g,2,none⟩=some (.int .i64 v.b)/\w.cell? ⟨g,3,none⟩=some (.string v.nm)/\w.cell? ⟨g,4,none⟩=some (.string v.mt)/\w.cell? ⟨g,5,none⟩=some (.slice v.A v.n v.c)/\w.cell? ⟨g,6,none⟩=some (.slice v.A2 v.n2 v.c2):=
 (show Blk w g t #[.int .i64 v.k,.int .i64 v.a,.int .i64 v.b,.string v.nm,.string v.mt,.slice v.A v.n v.c,.slice v.A2 v.n2 v.c2]from h).c7
structure Ad where
 k:Int
 a:Int
 b:Int
 nm:ByteArray
 mt:ByteArray
 args:List Int
 surv:List Int
structure Reads(w:World)(B:Nat)(v:Av)(d:Ad):Prop where
 k:v.k=d.k
 a:v.a=d.a
 b:v.b=d.b
 nm:v.nm=d.nm
 mt:v.mt=d.mt
 args:Ints w B v.A v.n d.args
 surv:Ints w B v.A2 v.n2 d.surv
theorem Reads.below{v:Av}{d:Ad}(h:Reads w B v d)(hb:Below B w w'):Reads w' B v d:=⟨h.k,h.a,h.b,h.nm,h.mt,h.args.below hb,h.surv.below hb⟩
theorem Reads.more{v:Av}{d:Ad}(h:Reads w B v d)(hB:B<=B'):Reads w B' v d:=⟨h.k,h.a,h.b,h.nm,h.mt,h.args.more hB,h.surv.more hB⟩
def bG(n:Int):Bool:=decide (1<=n)&&decide (n<=8)
def countB(n:Int):Bool:=decide (0<=n)&&decide (n<=1099511627776)
theorem ll(n:Int)(w:World):Calls Tryz.prog 71 #[.int .i64 n] w λe w'=>e= .returned (.bool (bG n))/\w=w':=by
 by_cases h1:1<=n
 ·by_cases h2:n<=8
  all_goals
   go_enter Tryz.func71,Tryz.ntmps71;go_wp2;go_ret;exact⟨ab (by simp[bG];omega),rfl⟩
 ·go_enter Tryz.func71,Tryz.ntmps71;go_wp2;go_ret;exact⟨ab (by simp[bG];omega),rfl⟩
theorem mq(n:Int)(w:World):Calls Tryz.prog 72 #[.int .i64 n] w λe w'=>e= .returned (.bool (countB n))/\w=w':=by
 by_cases h1:0<=n
 ·by_cases h2:n<=1099511627776
  all_goals
   go_enter Tryz.func72,Tryz.ntmps72;go_wp2;go_ret;exact⟨ab (by simp[countB];omega),rfl⟩
 ·go_enter Tryz.func72,Tryz.ntmps72;go_wp2;go_ret;exact⟨ab (by simp[countB];omega),rfl⟩
def fx(zs:List Int):Bool:=zs.all λz=>decide (-2305843009213693952<=z)&&decide (z<=2305843009213693951)
theorem bH{p:α->Bool}{l:List α}{k:Nat}{x:α}(h:l[k]?=some x):(l.take (k+1)).all p=((l.take k).all p&&p x):=by
 have hk:=(Ff.1 h).1;rw[GN hk,List.all_append];have:l[k]=x:=by rw[Fh hk]at h;simpa using h
 simp[this]
theorem br{p:α->Bool}{l:List α}{k:Nat}{x:α}(h:l[k]?=some x)(hp:p x=false):l.all p=false:=by
 rw[List.all_eq_false];exact⟨x,Fi h,by simp[hp]⟩
theorem zJ(A:Option Addr)(n c:Nat)(zs:List Int)(most:Int)(B:Nat)(w:World)(h:Ints w B A n zs)(hn:n<=1152921504606846976):
 Calls Tryz.prog 75 #[.slice A n c,.int .i64 most] w λe w'=>e= .returned (.bool (fx zs&&decide ((n:Int)<=most)))/\w=w':=by
 have hl:=h.len;have HL:=H_ hl;clear hl;go_enter Tryz.func75,Tryz.ntmps75;go_wp2;go_loop [5] (λi=>∃k:Nat,k<=n/\i= .int .i64 k/\Hid (fx (zs.take k)=true)) (λi=>n-(intOf i).toNat)
 case atStart=>exact⟨0,Fl _,rfl,H_ (by simp[fx])⟩
 case round=>
  obtain⟨k,hk,rfl,HA⟩:=hrel;by_cases hlt:k<n
  ·obtain⟨b,off,z,rfl,_,hz,hc⟩:=h.at_ hlt;have hk0:0<=(k:Int):=by omega
   have hk1:(k:Int)<n:=by omega
   have HZ:=H_ hz;clear hz;by_cases h1:z< -2305843009213693952
   ·go_wp2;go_ret;exact⟨ab (by rw[show fx zs=false from br HZ.out (by simp;omega)];rfl),rfl⟩
   ·by_cases h2:2305843009213693951<z
    ·go_wp2;go_ret;exact⟨ab (by rw[show fx zs=false from br HZ.out (by simp;omega)];rfl),rfl⟩
    ·go_wp2;go_round
     case rel=>exact⟨k+1,by omega,by go_num,H_ (by unfold fx at*;rw[bH HZ.out,HA.out];simp;omega)⟩
     case measure=>simp[intOf];omega
  ·obtain rfl:k=n:=by omega
   go_wp2
   all_goals
    go_ret;refine⟨ab ?_,rfl⟩;have h1:=HA.out;rw[Fd (by rw[HL.out];omega)]at h1;rw[h1];simp_all
def dx(d:Ad)(wa wb wn wm wg ws:Bool):Bool:=(wa||decide (d.a=0))&&(wb||decide (d.b=0))&&(wn||decide (d.nm.toList=[]))&&(wm||decide (d.mt.toList=[]))&&(wg||decide (d.args.length=0))&&(ws||decide (d.surv.length=0))
def qd(wa wb wn wm wg ws:Bool):Prop:=
 (wa=true/\wb=true/\wn=false/\wm=false/\wg=false/\ws=false)\/(wa=true/\wb=false/\wn=false/\wm=false/\wg=false/\ws=false)\/
 (wa=true/\wb=false/\wn=false/\wm=false/\wg=false/\ws=true)\/(wa=true/\wb=false/\wn=true/\wm=true/\wg=true/\ws=false)\/
 (wa=false/\wb=false/\wn=true/\wm=true/\wg=true/\ws=false)\/(wa=false/\wb=false/\wn=true/\wm=false/\wg=false/\ws=false)\/
 (wa=false/\wb=true/\wn=false/\wm=false/\wg=false/\ws=false)
theorem EG(l:List α):(((l.length:Nat):Int)==0)=decide (l=[]):=by
 cases l with
 |nil=>rfl
 |cons x xs=>simp;omega
theorem xR(v:Av)(d:Ad)(B:Nat)(wa wb wn wm wg ws:Bool)(w:World)(h:Reads w B v d)(hf:qd wa wb wn wm wg ws):
 Calls Tryz.prog 70 #[.agg v.cells,.bool wa,.bool wb,.bool wn,.bool wm,.bool wg,.bool ws] w λe w'=>e= .returned (.bool (dx d wa wb wn wm wg ws))/\Below w.heap.size w w':=by
 obtain⟨k,a,b,nm,mt,zs,ys⟩:=d;obtain⟨k',a',b',nm',mt',A,n,c,A2,n2,c2⟩:=v;obtain⟨h1,h2,h3,h4,h5,ha,hs⟩:=h;dsimp only at h1 h2 h3 h4 h5 ha hs;subst h1 h2 h3 h4 h5;obtain rfl:=ha.len;obtain rfl:=hs.len;unfold Av.cells;dsimp only;clear ha hs;rcases hf with⟨rfl,rfl,rfl,rfl,rfl,rfl⟩|⟨rfl,rfl,rfl,rfl,rfl,rfl⟩|⟨rfl,rfl,rfl,rfl,rfl,rfl⟩|⟨rfl,rfl,rfl,rfl,rfl,rfl⟩|⟨rfl,rfl,rfl,rfl,rfl,rfl⟩|⟨rfl,rfl,rfl,rfl,rfl,rfl⟩|⟨rfl,rfl,rfl,rfl,rfl,rfl⟩
 all_goals
  go_enter Tryz.func70,Tryz.ntmps70;go_wp2
  all_goals
   go_ret;exact⟨ab (by simp_all [dx,EG]),(Fb _ _).alloc (F0 _) _⟩
theorem Cj(A A2:Option Addr)(n c n2 c2:Nat)(xs ys:List Int)(B:Nat)(w:World)(h:Ints w B A n xs)(h2:Ints w B A2 n2 ys)(hn:n<=1000000)(hn2:n2<=1000000):
 Calls Tryz.prog 58 #[.slice A n c,.slice A2 n2 c2] w λe w'=>e= .returned (.bool (decide (xs=ys)))/\∃k,w'=w.drewN k:=by
 have hl:=h.len;have hl2:=h2.len;by_cases hne:n=n2
 ·subst hne;have HL:=H_ (And.intro hl hl2);clear hl hl2;go_enter Tryz.func58,Tryz.ntmps58;go_wp2;go_loopw [5] (λi wr=>∃k q:Nat,k<=n/\i= .int .i64 k/\wr=w.drewN q/\Hid (∀j,j<k->xs[j]?=ys[j]?)) (λi _=>n-(intOf i).toNat)
  case atStart=>exact⟨0,0,Fl _,rfl,rfl,H_ (λj hj=>by omega)⟩
  case round=>
   obtain⟨k,q,hk,rfl,rfl,HA⟩:=hrel;by_cases hlt:k<n
   ·obtain⟨b,off,x,rfl,_,hx,hc⟩:=h.at_ hlt;obtain⟨b',off',y,rfl,_,hy,hc'⟩:=h2.at_ hlt;have hk0:0<=(k:Int):=by omega
    have hk1:(k:Int)<n:=by omega
    have HX:=H_ (And.intro hx hy);clear hx hy;by_cases hxy:x=y
    ·subst hxy;go_wp2;go_quiet (fail);go_wp2;go_roundw
     case rel=>exact⟨k+1,q+nq,by omega,by go_num,by simp,H_ (λj hj=>by
      rcases Gp j k with h1|h1
      ·exact HA.out j h1
      ·obtain rfl:j=k:=by omega
       rw[HX.out.1,HX.out.2])⟩
     case measure=>simp[intOf];omega
    ·have hne:(x !=y)=true:=by simpa using hxy
     go_wp2;go_quiet (fail);go_wp2;go_ret;refine⟨ab ?_,q+nq,by simp⟩;symm;simp only[decide_eq_false_iff_not];intro e;subst e;have h1:=HX.out;rw[h1.1]at h1;simp at h1;exact hxy h1
   ·obtain rfl:k=n:=by omega
    go_wp2;go_ret;refine⟨ab ?_,q,rfl⟩;symm;simp only[FI];apply List.ext_getElem?;intro j;rcases Gp j k with h1|h1
    ·exact HA.out j h1
    ·rw[GS (by rw[HL.out.1];omega),GS (by rw[HL.out.2];omega)]
 ·have hd:((n:Int) !=(n2:Int))=true:=by simp;omega
  have hxy:decide (xs=ys)=false:=by simp;intro e;apply hne;rw[<-hl,<-hl2,e]
  have HXY:=H_ hxy;clear hxy hl hl2;go_enter Tryz.func58,Tryz.ntmps58;go_wp2;go_ret;exact⟨ab HXY.out.symm,0,rfl⟩
def fS(d e:Ad):Bool:=decide (d.k=e.k)&&decide (d.a=e.a)&&decide (d.b=e.b)&&decide (d.nm.toList=e.nm.toList)&&decide (d.mt.toList=e.mt.toList)&&decide (d.args=e.args)&&decide (d.surv=e.surv)
theorem ff{y:ByteArray}(h:x.toList=y.toList):x=y:=by
 rw[Gj,Gj]at h;exact Fy h
theorem aX{a:World}(h:Below B a w)(n:Nat):Below B a (w.drewN n):=⟨h.os,h.tape,h.output,h.size,h.block⟩
theorem vw(v v2:Av)(d e:Ad)(B:Nat)(w:World)(h:Reads w B v d)(h2:Reads w B v2 e)(hB:B<=w.heap.size)(hn:v.n<=1000000)(hn2:v.n2<=1000000)(hm:v2.n<=1000000)(hm2:v2.n2<=1000000):
 Calls Tryz.prog 28 #[.agg v.cells,.agg v2.cells] w λr w'=>r= .returned (.bool (fS d e))/\Below w.heap.size w w':=by
 obtain⟨k,a,b,nm,mt,zs,ys⟩:=d;obtain⟨k',a',b',nm',mt',A,n,c,A2,n2,c2⟩:=v;obtain⟨h1,h2',h3,h4,h5,ha,hs⟩:=h;dsimp only at h1 h2' h3 h4 h5 ha hs hn hn2;subst h1 h2' h3 h4 h5;obtain⟨k,a,b,nm,mt,zs2,ys2⟩:=e;obtain⟨l',p',q',om',nt',A',m,c',A2',m2,c2'⟩:=v2;obtain⟨h1,h2',h3,h4,h5,ha2,hs2⟩:=h2;dsimp only at h1 h2' h3 h4 h5 ha2 hs2 hm hm2;subst h1 h2' h3 h4 h5;unfold Av.cells;dsimp only;have hl:=ha.len;have hl2:=ha2.len;by_cases hall:k'=l'/\a'=p'/\b'=q'/\nm'=om'/\mt'=nt'/\n=m
 ·obtain⟨rfl,rfl,rfl,rfl,rfl,rfl⟩:=hall;have HL:=H_ (And.intro hl hl2);clear hl hl2;go_enter Tryz.func28,Tryz.ntmps28;go_wp2;have b0:=(Blk.new w 48 #[.int .i64 k',.int .i64 a',.int .i64 b',.string nm',.string mt',.slice A n c,.slice A2 n2 c2]).alloc (.cells #[.int .i64 k',.int .i64 a',.int .i64 b',.string nm',.string mt',.slice A' n c',.slice A2' m2 c2'] 48);have b1:=Blk.new (w.alloc (.cells #[.int .i64 k',.int .i64 a',.int .i64 b',.string nm',.string mt',.slice A n c,.slice A2 n2 c2] 48)) 48 #[.int .i64 k',.int .i64 a',.int .i64 b',.string nm',.string mt',.slice A' n c',.slice A2' m2 c2'];rw[Fc]at b1;have hbel:Below w.heap.size w ((w.alloc (.cells #[.int .i64 k',.int .i64 a',.int .i64 b',.string nm',.string mt',.slice A n c,.slice A2 n2 c2] 48)).alloc (.cells #[.int .i64 k',.int .i64 a',.int .i64 b',.string nm',.string mt',.slice A' n c',.slice A2' m2 c2'] 48)):=((Fb _ _).alloc (F0 _) _).alloc (by simp) _;generalize(w.alloc (.cells #[.int .i64 k',.int .i64 a',.int .i64 b',.string nm',.string mt',.slice A n c,.slice A2 n2 c2] 48)).alloc (.cells #[.int .i64 k',.int .i64 a',.int .i64 b',.string nm',.string mt',.slice A' n c',.slice A2' m2 c2'] 48)=W at*
  have x5:=b0.k5;have x6:=b0.k6;have y5:=b1.k5;have y6:=b1.k6;have ga:=ha.below (hbel.mono hB);have ga2:=ha2.below (hbel.mono hB);have gs:=hs.below (hbel.mono hB);have gs2:=hs2.below (hbel.mono hB);clear b0 b1;have HBEL:=H_ hbel;clear hbel;go_loopw [5] (λi wr=>∃k q:Nat,k<=n/\i= .int .i64 k/\wr=W.drewN q/\Hid (∀j,j<k->zs[j]?=zs2[j]?)) (λi _=>n-(intOf i).toNat)
  case atStart=>exact⟨0,0,Fl _,rfl,rfl,H_ (λj hj=>by omega)⟩
  case round=>
   obtain⟨k,q,hk,rfl,rfl,HA⟩:=hrel;by_cases hlt:k<n
   ·obtain⟨b,off,x,rfl,_,hx,hc⟩:=ga.at_ hlt;obtain⟨b2,off2,y,rfl,_,hy,hc2⟩:=ga2.at_ hlt;have hk0:0<=(k:Int):=by omega
    have hk1:(k:Int)<n:=by omega
    have HX:=H_ (And.intro hx hy);clear hx hy;by_cases hxy:x=y
    ·subst hxy;go_wp2;go_quiet (fail);go_wp2;go_roundw
     case rel=>exact⟨k+1,q+nq,by omega,by go_num,by simp,H_ (λj hj=>by
      rcases Gp j k with h1|h1
      ·exact HA.out j h1
      ·obtain rfl:j=k:=by omega
       rw[HX.out.1,HX.out.2])⟩
     case measure=>simp[intOf];omega
    ·have hne:(x !=y)=true:=by simpa using hxy
     go_wp2;go_quiet (fail);go_wp2;go_ret;refine⟨ab ?_,(aX (aX HBEL.out q) nq)⟩
     have hzz:zs≠zs2:=by
      intro e;subst e;have h1:=HX.out;rw[h1.1]at h1;simp at h1;exact hxy h1
     simp[fS,hzz]
   ·obtain rfl:k=n:=by omega
    have hz:zs=zs2:=by
     apply List.ext_getElem?;intro j;rcases Gp j k with h1|h1
     ·exact HA.out j h1
     ·rw[GS (by rw[HL.out.1];omega),GS (by rw[HL.out.2];omega)]
    have HZ:=H_ hz;clear hz;go_wp2_with fail;refine(Cj _ _ _ _ _ _ ys ys2 B _ (gs.below (aX (Fb _ _) _)) (gs2.below (aX (Fb _ _) _)) hn2 hm2).mono ?_;rintro r w1 ⟨rfl,q2,rfl⟩;go_wp2;go_ret;refine⟨ab ?_,by first|exact aX HBEL.out _|exact aX (aX HBEL.out q) q2⟩;simp[fS,HZ.out]
 ·have HALL:=H_ hall;have HL:=H_ (show n≠m->zs≠zs2 from λhnm e=>hnm (by rw[<-hl,<-hl2,e]));clear hall hl hl2;go_enter Tryz.func28,Tryz.ntmps28;go_wp2
  all_goals first
   |(go_ret
     refine⟨ab ?_,((Fb _ _).alloc (F0 _) _).alloc (by simp) _⟩
     first
     |(have h9:((n:Int) !=(m:Int))=true:=by assumption
       have h0:=HL.out (λe=>by subst e;simp at h9);simp[fS,h0])
     |(simp only[fS];simp[*]))
   |(have h9:((n:Int) !=(m:Int))=false:=by assumption
     exact absurd ⟨by assumption,by assumption,by assumption,ff (by assumption),ff (by assumption),by have h8:(n:Int)=(m:Int):=(by simpa using h9);omega⟩ HALL.out)
def kwL:List ByteArray:=[⟨#[97,99,116,111,114]⟩,⟨#[97,110,100]⟩,⟨#[97,116]⟩,⟨#[98,121]⟩,⟨#[101,108,115,101]⟩,⟨#[103,101,116]⟩,⟨#[105,102]⟩,⟨#[108,101,116]⟩,⟨#[109,111,118,101]⟩,⟨#[110,101,119]⟩,⟨#[110,105,108]⟩,⟨#[110,111,116]⟩,⟨#[111,110]⟩,⟨#[111,114]⟩,⟨#[112,114,105,110,116]⟩,⟨#[114,101,99,111,114,100]⟩,⟨#[114,101,116,117,114,110]⟩,⟨#[115,101,110,100]⟩,⟨#[116,104,105,115]⟩,⟨#[116,111]⟩,⟨#[118,97,114]⟩,⟨#[119,97,116,99,104]⟩,⟨#[119,101,97,107]⟩,⟨#[119,104,105,108,101]⟩]
def inB(ss:List ByteArray)(s:ByteArray):Bool:=ss.any λx=>x.toList==s.toList
theorem Strs.aJ(h:Blk w g 9 (ss.map Value.string).toArray)(hB:g<B):Strs w B (some ⟨g,0,none⟩) ss.length ss:=
 ⟨by simp,λ_=>⟨g,0,rfl,hB,λj v hv=>by rw[Gq,h.cell];simpa using hv⟩⟩
theorem tb(w:World):Calls Tryz.prog 173 #[] w λe w'=>e= .returned (.slice (some ⟨w.heap.size,0,none⟩) 24 24)/\Below w.heap.size w w'/\Strs w' w'.heap.size (some ⟨w.heap.size,0,none⟩) 24 kwL:=by
 go_enter Tryz.func173,Tryz.ntmps173;go_wp2;go_ret;exact⟨rfl,(Fb _ _).alloc (F0 _) _,Strs.aJ (ss:=kwL) (Blk.new w 9 _) (by simp)⟩
theorem o7{p:α->Bool}{l:List α}{k:Nat}{x:α}(h:l[k]?=some x):(l.take (k+1)).any p=((l.take k).any p||p x):=by
 have hk:=(Ff.1 h).1;rw[GN hk,List.any_append];have:l[k]=x:=by rw[Fh hk]at h;simpa using h
 simp[this]
theorem nZ{p:α->Bool}{l:List α}{k:Nat}{x:α}(h:l[k]?=some x)(hp:p x=true):l.any p=true:=by
 rw[GM];exact⟨x,Fi h,hp⟩
theorem EH(A:Option Addr)(n c:Nat)(ss:List ByteArray)(s:ByteArray)(B:Nat)(w:World)(h:Strs w B A n ss)(hn:n<=1000000):
 Calls Tryz.prog 172 #[.slice A n c,.string s] w λe w'=>e= .returned (.bool (inB ss s))/\w=w':=by
 have HL:=H_ h.len;go_enter Tryz.func172,Tryz.ntmps172;go_wp2;go_loop [5] (λi=>∃k:Nat,k<=n/\i= .int .i64 k/\Hid (inB (ss.take k) s=false)) (λi=>n-(intOf i).toNat)
 case atStart=>exact⟨0,Fl _,rfl,H_ (by simp[inB])⟩
 case round=>
  obtain⟨k,hk,rfl,HA⟩:=hrel;by_cases hlt:k<n
  ·obtain⟨b,off,x,rfl,_,hx,hc⟩:=h.at_ hlt;have hk0:0<=(k:Int):=by omega
   have hk1:(k:Int)<n:=by omega
   have HX:=H_ hx;clear hx;by_cases hxs:x=s
   ·subst hxs;go_wp2;go_ret;exact⟨ab (nZ HX.out (by simp)).symm,rfl⟩
   ·have hne:=Fa.2 λe=>hxs (ff e);clear hxs;go_wp2;go_round
    case rel=>exact⟨k+1,by omega,by go_num,H_ (by unfold inB at*;rw[o7 HX.out,HA.out];simp[hne])⟩
    case measure=>simp[intOf];omega
  ·obtain rfl:k=n:=by omega
   go_wp2;go_ret;have h1:=HA.out;rw[Fd (by rw[HL.out];omega)]at h1;exact⟨ab h1.symm,rfl⟩
def fD(c:UInt8):Bool:=(decide (97<=(c.toNat:Int))&&decide ((c.toNat:Int)<=122))||(decide (65<=(c.toNat:Int))&&decide ((c.toNat:Int)<=90))||(decide (48<=(c.toNat:Int))&&decide ((c.toNat:Int)<=57))||decide ((c.toNat:Int)=95)
def aR(s:ByteArray)(lo hi:Int):Bool:=
 match s.data.toList with
 |[]=>false
 |c::_=>decide (s.size<=31)&&decide (lo<=(c.toNat:Int))&&decide ((c.toNat:Int)<=hi)&& !inB kwL s&&s.data.toList.all fD
theorem yh{s:ByteArray}{lo hi:Int}(h:0<s.size):aR s lo hi=(decide (s.size<=31)&&decide (lo<=(s[0].toNat:Int))&&decide ((s[0].toNat:Int)<=hi)&& !inB kwL s&&s.data.toList.all fD):=by
 unfold aR;obtain⟨⟨l⟩⟩:=s;cases l with
 |nil=>simp[ByteArray.size]at h
 |cons c l=>rfl
theorem yi(s:ByteArray)(lo hi:Int)(w:World):Calls Tryz.prog 117 #[.string s,.int .u8 lo,.int .u8 hi] w λe w'=>e= .returned (.bool (aR s lo hi))/\Below w.heap.size w w':=by
 by_cases h0:s.size=0
 ·have g0:((s.size:Int)==0)=true:=by rw[h0];rfl
  have hb:aR s lo hi=false:=by
   unfold aR;obtain⟨⟨l⟩⟩:=s;cases l with
   |nil=>rfl
   |cons c l=>simp[ByteArray.size]at h0
  have HB:=H_ hb;clear hb h0;go_enter Tryz.func117,Tryz.ntmps117;go_wp2;go_ret;exact⟨ab HB.out.symm,Fb _ _⟩
 ·have hp:0<s.size:=by omega
  have hat:=H_ (yh (lo:=lo) (hi:=hi) hp);have g0:((s.size:Int)==0)=false:=by rw[Fa];omega
  have g1:(0:Int)<s.size:=by omega
  by_cases h31:31<s.size
  ·have g2:decide ((31:Int)<s.size)=true:=by simp;omega
   clear h0;go_enter Tryz.func117,Tryz.ntmps117;go_wp2;go_ret;refine⟨ab ?_,Fb _ _⟩;rw[hat.out];simp[show ¬s.size<=31 from by omega]
  ·have g2:decide ((31:Int)<s.size)=false:=by simp;omega
   clear h0;by_cases hlo:(s[0].toNat:Int)<lo
   ·go_enter Tryz.func117,Tryz.ntmps117;go_wp2;go_ret;refine⟨ab ?_,Fb _ _⟩;rw[hat.out];simp[show ¬lo<=(s[0].toNat:Int)from by omega]
   ·by_cases hhi:hi<(s[0].toNat:Int)
    ·go_enter Tryz.func117,Tryz.ntmps117;go_wp2;go_ret;refine⟨ab ?_,Fb _ _⟩;rw[hat.out];simp[show ¬(s[0].toNat:Int)<=hi from by omega]
    ·have hlo':lo<=(s[0].toNat:Int):=by omega
     have hhi':(s[0].toNat:Int)<=hi:=by omega
     have h31':s.size<=31:=by omega
     go_enter Tryz.func117,Tryz.ntmps117;go_wp2_with fail;refine(tb _).mono ?_;rintro e w1 ⟨rfl,b1,s1⟩;go_wp2_with fail;refine(EH _ _ _ kwL s _ _ s1 (by omega)).mono ?_;rintro e w2 ⟨rfl,rfl⟩;by_cases hk:inB kwL s=true
     ·rw[hk];go_wp2_with fail;go_ret;refine⟨ab ?_,b1⟩;rw[hat.out,hk];simp
     ·have hk':inB kwL s=false:=by simpa using hk
      rw[hk'];have HK:=H_ hk';clear hk hk';go_wp2_with fail;go_loop [7] (λi=>∃k:Nat,k<=s.size/\i= .int .i64 k/\Hid ((s.data.toList.take k).all fD=true)) (λi=>s.size-(intOf i).toNat)
      case atStart=>exact⟨0,Fl _,rfl,H_ (by simp)⟩
      case round=>
       obtain⟨k,hk,rfl,HA⟩:=hrel;by_cases hlt:k<s.size
       ·have hk0:0<=(k:Int):=by omega
        have hk1:(k:Int)<s.size:=by omega
        have hx:s.data.toList[k]?=some s[k]:=by
         rw[Fh (by simpa using hlt)];rfl
        have HX:=H_ hx;clear hx;go_wp2_with fail
        all_goals first
         |(go_ret
           refine⟨ab ?_,b1⟩;have hw:fD s[k]=false:=by unfold fD;simp only[bne_iff_ne,ne_eq]at*;simp;omega
           rw[hat.out,br HX.out hw];simp)
         |(have hw:fD s[k]=true:=by unfold fD;simp only[bne_eq_false_iff_eq]at*;simp;omega
           have HW:=H_ hw;clear hw;go_round
           case rel=>exact⟨k+1,by omega,by go_num,H_ (by rw[bH HX.out,HA.out,HW.out];rfl)⟩
           case measure=>simp[intOf];omega)
       ·obtain rfl:k=s.size:=by omega
        go_wp2_with fail;go_ret;refine⟨ab ?_,b1⟩;have h1:=HA.out;rw[Fd (by simp)]at h1;rw[hat.out,HK.out,h1];simp[hlo',hhi',h31']
def iG(c:UInt8):Bool:=c==32||c==9||c==10||c==13
def eA(c:UInt8):Bool:=decide (48<=c.toNat)&&decide (c.toNat<=57)
def fy(c:UInt8):Bool:=(decide (97<=c.toNat)&&decide (c.toNat<=122))||(decide (65<=c.toNat)&&decide (c.toNat<=90))
def gB(c:UInt8):Bool:=fy c||eA c||c==95
def bF:Bool->List UInt8->List UInt8
 |_,[]=>[]
 |true,c::l=>if c=10 then bF false l else bF true l
 |false,c::l=>if iG c=true then bF false l else if c=35 then bF true l else c::l
def jl(l:List UInt8):Nat:=l.foldl (λa c=>a*10+(c.toNat-48)) 0
def ba(l:List UInt8):ByteArray:=⟨l.toArray⟩
inductive Lx where
 |err (e:Int):Lx
 |tok (k:Int) (t:List UInt8) (v:Int):Lx
def lh(l:List UInt8):Lx:=
 let t:=l.takeWhile eA
 if(2<=t.length/\t.head?=some 48)\/((l.dropWhile eA).head?.any λc=>fy c||c==95)=true then .err 3
 else if 2305843009213693951<jl t then .err 2 else .tok 1 t (jl t:Int)
def oG(l:List UInt8):Lx:=
 let t:=l.takeWhile gB
 if 31<t.length then .err 8
 else .tok (if inB kwL (ba t)=true then 4 else if(t.head?.any λc=>decide (c.toNat<=90))=true then 3 else 2) t 0
def bL:List ByteArray:=[⟨#[33,61]⟩,⟨#[37]⟩,⟨#[40]⟩,⟨#[41]⟩,⟨#[42]⟩,⟨#[43]⟩,⟨#[44]⟩,⟨#[45]⟩,⟨#[46]⟩,⟨#[47]⟩,⟨#[59]⟩,⟨#[60]⟩,⟨#[60,61]⟩,⟨#[61]⟩,⟨#[61,61]⟩,⟨#[62]⟩,⟨#[62,61]⟩,⟨#[123]⟩,⟨#[125]⟩]
def gr(l:List UInt8):Lx:=
 if 2<=l.length/\inB bL (ba (l.take 2))=true then .tok 5 (l.take 2) 0
 else if inB bL (ba (l.take 1))=true then .tok 5 (l.take 1) 0 else .err 3
def eT(l:List UInt8):Lx:=
 match l with
 |[]=> .err 3
 |c::r=>if fy c=true then oG (c::r)else if eA c=true then lh (c::r)else gr (c::r)
inductive Sn where
 |err (p:Nat) (e:Int):Sn
 |toks (ts:List Tk):Sn
def di(N:Nat):Nat->List UInt8->List Tk->Sn
 |0,_,_=> .err 0 0
 |k+1,r,ts=>match bF false r with
  |[]=> .toks (ts++[(0,⟨#[]⟩,0,(N:Int))])
  |c::l=>match eT (c::l)with
   | .err e=> .err (N-(c::l).length) e
   | .tok kd t v=>di N k ((c::l).drop t.length) (ts++[(kd,ba t,v,((N-(c::l).length:Nat):Int))])
def eb(s:List UInt8):Sn:=if 16384<s.length then .err 0 8 else di s.length (s.length+1) s []
def rQ(a:Nat)(l:List UInt8):Nat:=l.foldl (λa c=>a*10+(c.toNat-48)) a
theorem tX:∀(l:List UInt8) (a:Nat),a<=rQ a l
 |[],a=>F0 _
 |c::l,a=>by
  have:=tX l (a*10+(c.toNat-48));show a<=rQ (a*10+(c.toNat-48)) l;omega
theorem uh:∀(l:List UInt8) (a:Nat),(∀c∈l,eA c=true)->(match Lib.parseUintM 18446744073709551615 a l with
  | .ok u=>u=rQ a l
  | .range=>18446744073709551615<rQ a l
  |_=>False)
 |[],a,h=>rfl
 |c::l,a,h=>by
  have hc:=h c (by simp);unfold eA at hc;simp only[Fx,FI]at hc;have ih:=uh l (a*10+(c.toNat-48)) (λd hd=>h d (by simp[hd]));have hge:=tX l (a*10+(c.toNat-48));have hv:rQ a (c::l)=rQ (a*10+(c.toNat-48)) l:=rfl;unfold Lib.parseUintM;rw[Ft hc,hv];by_cases h1:1844674407370955162<=a
  ·rw[Ft h1];show 18446744073709551615<_;omega
  ·rw[Fg h1];by_cases h2:18446744073709551615<a*10+(c.toNat-48)
   ·rw[Ft h2];show 18446744073709551615<_;omega
   ·rw[Fg h2];exact ih
theorem vH(hl:l≠[])(hd:∀c∈l,eA c=true):(match Lib.parseIntB 64 l with
  | .ok v=>v=(jl l:Int)
  |_=>2305843009213693951<jl l):=by
 cases l with
 |nil=>exact absurd rfl hl
 |cons c r=>
  have hc:=hd c (by simp);unfold eA at hc;simp only[Fx,FI]at hc;have h:=uh (c::r) 0 hd;have hv:rQ 0 (c::r)=jl (c::r):=rfl;rw[Lib.parseIntB_plain 64 c r (by omega) (by omega)]
  have hp:Lib.parseUintB 64 (c::r)=Lib.parseUintM 18446744073709551615 0 (c::r):=by
   unfold Lib.parseUintB;rw[Fg (by simp)]
  rw[hp];rw[hv]at h;cases hq:Lib.parseUintM 18446744073709551615 0 (c::r)with
  |ok u=>
   rw[hq]at h;simp only at h;simp only[Lib.signlessC];by_cases h2:2^(64-1)<=u
   ·rw[Ft h2];show 2305843009213693951<_;rw[<-h];have:(2:Nat)^(64-1)=9223372036854775808:=by decide
    omega
   ·rw[Fg h2];show(u:Int)=_;rw[h]
  |range=>
   rw[hq]at h;simp only at h;simp only[Lib.signlessC];show 2305843009213693951<_;omega
  |_=>
   rw[hq]at h;exact absurd h (by simp)
theorem nW{W w1:World}(hb:Below W.heap.size W w1):(∀b o,b<W.heap.size->w1.cell? ⟨b,o,none⟩=W.cell? ⟨b,o,none⟩)/\(∀b o,b<W.heap.size->w1.frozen? ⟨b,o,none⟩=W.frozen? ⟨b,o,none⟩):=
 ⟨λb o h=>hb.cell (p:=⟨b,o,none⟩) h,λb o h=>hb.frozen (p:=⟨b,o,none⟩) h⟩
def iA(s:ByteArray):Bool:=aR s 97 122
def ij(s:ByteArray):Bool:=aR s 65 90
theorem eS(s:ByteArray)(w:World):Calls Tryz.prog 73 #[.string s] w λe w'=>e= .returned (.bool (iA s))/\Below w.heap.size w w':=by
 go_enter Tryz.func73,Tryz.ntmps73;go_wp2_with fail;refine(yi s 97 122 _).mono ?_;rintro e w1 ⟨rfl,b1⟩;go_wp2;go_ret;exact⟨rfl,b1⟩
theorem mr(s:ByteArray)(w:World):Calls Tryz.prog 74 #[.string s] w λe w'=>e= .returned (.bool (ij s))/\Below w.heap.size w w':=by
 go_enter Tryz.func74,Tryz.ntmps74;go_wp2_with fail;refine(yi s 65 90 _).mono ?_;rintro e w1 ⟨rfl,b1⟩;go_wp2;go_ret;exact⟨rfl,b1⟩
def cK(k:Nat)(d:Ad):Bool:=
 match k with
 |0=>dx d true true false false false false&&bG d.a&&countB d.b
 |1=>dx d true false false false false false&&countB d.a
 |2=>dx d true false false false false false&&countB d.a
 |3=>dx d true false false false false false&&countB d.a
 |4=>dx d true false false false false false&&bG d.a
 |5=>dx d true false false false false false&&bG d.a
 |6=>dx d true false false false false false&&bG d.a
 |7=>d.surv.all countB&&(dx d true false false false false true&&bG d.a&&decide (d.surv.length<=20))
 |8=>dx d true false false false false false&&bG d.a
 |9=>dx d true false false false false false&&bG d.a
 |10=>dx d true true false false false false&&bG d.a&&countB d.b
 |11=>dx d true false true true true false&&bG d.a&&iA d.nm&&ij d.mt&&(fx d.args&&decide ((d.args.length:Int)<=30))
 |12=>dx d false false true true true false&&iA d.nm&&iA d.mt&&(fx d.args&&decide ((d.args.length:Int)<=8))
 |13=>dx d false false true false false false&&iA d.nm
 |14=>dx d true true false false false false&&bG d.a&&bG d.b
 |15=>dx d false true false false false false&&decide (0<=d.b)&&decide (d.b<=1000)
 |_=>false
def aS(d:Ad):Bool:=decide (0<=d.k)&&cK d.k.toNat d
theorem wG(v:Av)(d:Ad)(w:World)(h:Reads w w.heap.size v d)(hn:v.n<=1152921504606846976)(hn2:v.n2<=1152921504606846976)(q:Nat)(K:Int)(hk:v.k=K)
 (hq:(q=0/\K=0)\/(q=1/\K=1)\/(q=2/\K=2)\/(q=3/\K=3)\/(q=4/\K=4)\/(q=5/\K=5)\/(q=6/\K=6)\/(q=8/\K=8)\/(q=9/\K=9)\/(q=10/\K=10)\/(q=11/\K=11)\/(q=12/\K=12)\/(q=13/\K=13)\/(q=14/\K=14)\/(q=15/\K=15)):
 Calls Tryz.prog 40 #[.agg v.cells] w λe w'=>e= .returned (.bool (cK q d))/\Below w.heap.size w w':=by
 obtain⟨k,a,b,nm,mt,zs,ys⟩:=d;obtain⟨k',a',b',nm',mt',A,n,c,A2,n2,c2⟩:=v;obtain⟨h1,h2,h3,h4,h5,ha,hs⟩:=h;dsimp only at h1 h2 h3 h4 h5 ha hs hn hn2 hk;subst h1 h2 h3 h4 h5 hk;unfold Av.cells;dsimp only;have hbel:Below w.heap.size w (w.alloc (.cells #[.int .i64 k',.int .i64 a',.int .i64 b',.string nm',.string mt',.slice A n c,.slice A2 n2 c2] 48)):=(Fb _ _).alloc (F0 _) _;have hR:Reads (w.alloc (.cells #[.int .i64 k',.int .i64 a',.int .i64 b',.string nm',.string mt',.slice A n c,.slice A2 n2 c2] 48)) w.heap.size ⟨k',a',b',nm',mt',A,n,c,A2,n2,c2⟩ ⟨k',a',b',nm',mt',zs,ys⟩:=⟨rfl,rfl,rfl,rfl,rfl,ha.below hbel,hs.below hbel⟩;have HR:=H_ hR;have HB:=H_ hbel;have HA:=H_ (And.intro ha hs);clear ha hs hR hbel;have hlz:=H_ HA.out.1.len;obtain⟨rfl,rfl⟩|⟨rfl,rfl⟩|⟨rfl,rfl⟩|⟨rfl,rfl⟩|⟨rfl,rfl⟩|⟨rfl,rfl⟩|⟨rfl,rfl⟩|⟨rfl,rfl⟩|⟨rfl,rfl⟩|⟨rfl,rfl⟩|⟨rfl,rfl⟩|⟨rfl,rfl⟩|⟨rfl,rfl⟩|⟨rfl,rfl⟩|⟨rfl,rfl⟩:=hq
 all_goals
  go_enter Tryz.func40,Tryz.ntmps40
  go_wp2_with (first
   |(go_at_call 70
     refine(xR _ _ w.heap.size _ _ _ _ _ _ _ HR.out (by simp[qd])).mono ?_;rintro e w1 ⟨rfl,hb1⟩;obtain⟨hc1,hf1⟩:=nW hb1;have hz1:w.heap.size<w1.heap.size:=by have:=hb1.size;simp at this;omega
     have HB1:=htr HB hb1;clear hb1)
   |(go_at_call 71;refine(ll _ _).mono ?_;rintro e w2 ⟨rfl,rfl⟩)
   |(go_at_call 72;refine(mq _ _).mono ?_;rintro e w2 ⟨rfl,rfl⟩)
   |(go_at_call 73
     refine(eS _ _).mono ?_;rintro e w1 ⟨rfl,hb2⟩;obtain⟨hc2,hf2⟩:=nW hb2;have hz2:w.heap.size<w1.heap.size:=by have:=hb2.size;omega
     have HB1:=htr HB1 hb2;clear hb2)
   |(go_at_call 74
     refine(mr _ _).mono ?_;rintro e w1 ⟨rfl,hb2⟩;obtain⟨hc2,hf2⟩:=nW hb2;have hz2:w.heap.size<w1.heap.size:=by have:=hb2.size;omega
     have HB1:=htr HB1 hb2;clear hb2)
   |(go_at_call 75
     refine(zJ _ _ _ zs _ w.heap.size _ (HA.out.1.below HB1.out) hn).mono ?_;rintro e w2 ⟨rfl,rfl⟩))
  all_goals
   go_ret;refine⟨ab ?_,HB1.out⟩
   first
   |(simp_all [cK];done)
   |(have hlz:=hlz.out;simp_all [cK];done)
   |(simp_all [cK];omega)
theorem wI(v:Av)(d:Ad)(w:World)(h:Reads w w.heap.size v d)(hn:v.n<=1152921504606846976)(hn2:v.n2<=1152921504606846976)(hk:v.k=7):
 Calls Tryz.prog 40 #[.agg v.cells] w λe w'=>e= .returned (.bool (cK 7 d))/\Below w.heap.size w w':=by
 obtain⟨k,a,b,nm,mt,zs,ys⟩:=d;obtain⟨k',a',b',nm',mt',A,n,c,A2,n2,c2⟩:=v;obtain⟨h1,h2,h3,h4,h5,ha,hs⟩:=h;dsimp only at h1 h2 h3 h4 h5 ha hs hn hn2 hk;subst h1 h2 h3 h4 h5 hk;unfold Av.cells;dsimp only;have hbel:Below w.heap.size w (w.alloc (.cells #[.int .i64 7,.int .i64 a',.int .i64 b',.string nm',.string mt',.slice A n c,.slice A2 n2 c2] 48)):=(Fb _ _).alloc (F0 _) _;have hR:Reads (w.alloc (.cells #[.int .i64 7,.int .i64 a',.int .i64 b',.string nm',.string mt',.slice A n c,.slice A2 n2 c2] 48)) w.heap.size ⟨7,a',b',nm',mt',A,n,c,A2,n2,c2⟩ ⟨7,a',b',nm',mt',zs,ys⟩:=⟨rfl,rfl,rfl,rfl,rfl,ha.below hbel,hs.below hbel⟩;have HR:=H_ hR;have HB:=H_ hbel;have HA:=H_ (And.intro ha hs);clear ha hs hR hbel;have hsW:=HA.out.2.below HB.out;have HL:=H_ HA.out.2.len;go_enter Tryz.func40,Tryz.ntmps40;go_wp2;go_loop [3] (λi=>∃q:Nat,q<=n2/\i= .int .i64 q/\Hid ((ys.take q).all countB=true)) (λi=>n2-(intOf i).toNat)
 case atStart=>exact⟨0,Fl _,rfl,H_ (by simp)⟩
 case round=>
  obtain⟨q,hq,rfl,HAL⟩:=hrel;by_cases hlt:q<n2
  ·obtain⟨b,off,z,rfl,_,hz,hc⟩:=hsW.at_ hlt;have hk0:0<=(q:Int):=by omega
   have hk1:(q:Int)<n2:=by omega
   have HZ:=H_ hz;clear hz;go_wp2_with fail;refine(mq _ _).mono ?_;rintro e w2 ⟨rfl,rfl⟩;by_cases hcz:countB z=true
   ·rw[hcz];have HC:=H_ hcz;clear hcz;go_wp2_with fail;go_round
    case rel=>exact⟨q+1,by omega,by go_num,H_ (by rw[bH HZ.out,HAL.out,HC.out];rfl)⟩
    case measure=>simp[intOf];omega
   ·have hcz':countB z=false:=by simpa using hcz
    rw[hcz'];have HC:=H_ hcz';clear hcz hcz';go_wp2_with fail;go_ret;refine⟨ab ?_,HB.out⟩;have h1:=br HZ.out HC.out;simp[cK,h1]
  ·obtain rfl:q=n2:=by omega
   have hall:ys.all countB=true:=by
    have h1:=HAL.out;rwa[Fd (by rw[HL.out];omega)]at h1
   have HALL:=H_ hall;clear hall hsW;go_wp2_with (first
   |(go_at_call 70
     refine(xR _ _ w.heap.size _ _ _ _ _ _ _ HR.out (by simp[qd])).mono ?_;rintro e w1 ⟨rfl,hb1⟩;obtain⟨hc1,hf1⟩:=nW hb1;have hz1:w.heap.size<w1.heap.size:=by have:=hb1.size;simp at this;omega
     have HB1:=htr HB hb1;clear hb1)
   |(go_at_call 71;refine(ll _ _).mono ?_;rintro e w2 ⟨rfl,rfl⟩)
   |(go_at_call 72;refine(mq _ _).mono ?_;rintro e w2 ⟨rfl,rfl⟩)
   |(go_at_call 73
     refine(eS _ _).mono ?_;rintro e w1 ⟨rfl,hb2⟩;obtain⟨hc2,hf2⟩:=nW hb2;have hz2:w.heap.size<w1.heap.size:=by have:=hb2.size;omega
     have HB1:=htr HB1 hb2;clear hb2)
   |(go_at_call 74
     refine(mr _ _).mono ?_;rintro e w1 ⟨rfl,hb2⟩;obtain⟨hc2,hf2⟩:=nW hb2;have hz2:w.heap.size<w1.heap.size:=by have:=hb2.size;omega
     have HB1:=htr HB1 hb2;clear hb2)
   |(go_at_call 75
     refine(zJ _ _ _ zs _ w.heap.size _ (HA.out.1.below HB1.out) hn).mono ?_;rintro e w2 ⟨rfl,rfl⟩))
   all_goals
    go_ret;refine⟨ab ?_,HB1.out⟩;have h1:=HALL.out;have h2:=HL.out;have h3:decide ((q:Int)<=20)=decide (q<=20):=by simp only[decide_eq_decide];omega
    simp only[cK,h1,h2,GO];clear h1 h2;simp_all
theorem wH(v:Av)(d:Ad)(w:World)(h:Reads w w.heap.size v d)(hn:v.n<=1152921504606846976)(hn2:v.n2<=1152921504606846976)(hk:v.k<0\/15<v.k):
 Calls Tryz.prog 40 #[.agg v.cells] w λe w'=>e= .returned (.bool false)/\Below w.heap.size w w':=by
 obtain⟨k,a,b,nm,mt,zs,ys⟩:=d;obtain⟨k',a',b',nm',mt',A,n,c,A2,n2,c2⟩:=v;obtain⟨h1,h2,h3,h4,h5,ha,hs⟩:=h;dsimp only at h1 h2 h3 h4 h5 ha hs hn hn2 hk;subst h1 h2 h3 h4 h5;unfold Av.cells;dsimp only;clear ha hs;have g0:(k'==0)=false:=by rw[Fa];omega
 have g1:(k'==1)=false:=by rw[Fa];omega
 have g2:(k'==2)=false:=by rw[Fa];omega
 have g3:(k'==3)=false:=by rw[Fa];omega
 have g4:(k'==4)=false:=by rw[Fa];omega
 have g5:(k'==5)=false:=by rw[Fa];omega
 have g6:(k'==6)=false:=by rw[Fa];omega
 have g7:(k'==7)=false:=by rw[Fa];omega
 have g8:(k'==8)=false:=by rw[Fa];omega
 have g9:(k'==9)=false:=by rw[Fa];omega
 have g10:(k'==10)=false:=by rw[Fa];omega
 have g11:(k'==11)=false:=by rw[Fa];omega
 have g12:(k'==12)=false:=by rw[Fa];omega
 have g13:(k'==13)=false:=by rw[Fa];omega
 have g14:(k'==14)=false:=by rw[Fa];omega
 have g15:(k'==15)=false:=by rw[Fa];omega
 clear hk;go_enter Tryz.func40,Tryz.ntmps40;go_wp2;go_ret;exact⟨rfl,(Fb _ _).alloc (F0 _) _⟩
theorem rP(v:Av)(d:Ad)(w:World)(h:Reads w w.heap.size v d)(hn:v.n<=1152921504606846976)(hn2:v.n2<=1152921504606846976):
 Calls Tryz.prog 40 #[.agg v.cells] w λe w'=>e= .returned (.bool (aS d))/\Below w.heap.size w w':=by
 have hkd:=h.k;by_cases h0:0<=v.k/\v.k<=15
 ·obtain⟨q,hq⟩:=Fz h0.1;have hq15:q<=15:=by omega
  have hv:aS d=cK q d:=by unfold aS;rw[<-hkd,hq];simp
  rw[hv];obtain rfl|rfl|rfl|rfl|rfl|rfl|rfl|rfl|rfl|rfl|rfl|rfl|rfl|rfl|rfl|rfl:q=0\/q=1\/q=2\/q=3\/q=4\/q=5\/q=6\/q=7\/q=8\/q=9\/q=10\/q=11\/q=12\/q=13\/q=14\/q=15:=by omega
  all_goals first|exact wI v d w h hn hn2 hq|exact wG v d w h hn hn2 _ _ hq (by decide)
 ·have hv:aS d=false:=by
   unfold aS;rw[<-hkd];by_cases h1:0<=v.k
   ·obtain⟨q,hq⟩:=Fz h1;rw[hq];have h15:15<q:=by omega
    have:cK q d=false:=by
     unfold cK;split<;>first|omega|rfl
    simp[this]
   ·simp[h1]
  rw[hv];exact wH v d w h hn hn2 (by omega)
def U64(n:Nat):Prop:=n<18446744073709551616
def fp(n:Nat):ByteArray:=⟨(Lib.decDigits n).toArray⟩
theorem cq{n:Nat}(h:n<10):Lib.decDigits n=[UInt8.ofNat (48+n)]:=by rw[Lib.decDigits,dif_pos h]
theorem eK{n:Nat}(h:10<=n):Lib.decDigits n=Lib.decDigits (n/10)++[UInt8.ofNat (48+n%10)]:=by rw[Lib.decDigits,dif_neg (by omega)]
def dgc(r:Nat):UInt8:=UInt8.ofNat (48+r)
theorem oN{r:Nat}(h:r<10):((dgc r).toNat:Int)=48+(r:Int):=by unfold dgc;simp;omega
theorem tu(n:Nat):(Lib.decDigits n).length<=n+1:=by
 induction n using Nat.strongRecOn with
 |_ n ih=>
  by_cases h:n<10
  ·rw[cq h];simp
  ·rw[eK (by omega),EY];have:=ih (n/10) (by omega);simp;omega
theorem ke{a b:ByteArray}(h:a=b):Ending.returned (.string a)= .returned (.string b):=by rw[h]
theorem BI(W:World)(b:Nat)(z:Int)(c:UInt8)(hz:z=(c.toNat:Int))(h:W.cell? ⟨b,0,none⟩=some (.int .u8 z)):
 (convert 51 9 (.slice (some ⟨b,0,none⟩) 1 1)).run Tryz.prog W= .ok (.string ⟨#[c]⟩) W:=
 run_convert_bytes_back W 51 9 5 ⟨b,0,none⟩ 1 [c] Tryz.underlying51 Tryz.underlying5 Tryz.underlying9 λj hj=>by
  obtain rfl:j=0:=by simpa using hj
  have:(⟨b,0,none⟩:Addr).add 0=⟨b,0,none⟩:=by unfold Addr.add;rfl
  rw[this,h,hz];rfl
theorem nL(n:Nat)(w:World)(h:n<10):Calls Tryz.prog 37 #[.int .u64 n] w λe w'=>e= .returned (.string (fp n))/\Below w.heap.size w w':=by
 have hd:fp n=⟨#[dgc n]⟩:=by unfold fp;rw[cq h];rfl
 have hcv:=BI (w.alloc (.cells #[.int .u8 (48+(n:Int))] 5)) w.heap.size (48+(n:Int)) (dgc n) (oN h).symm ((Blk.new w 5 _).cell 0);have h0:(n:Int)<10:=by omega
 have h1:0<=(n:Int):=by omega
 have HD:=H_ hd;clear hd h;go_enter Tryz.func37,Tryz.ntmps37;go_wp2;go_ret;exact⟨ke HD.out.symm,(Fb _ _).alloc (F0 _) _⟩
theorem od(n:Nat)(w:World)(h:10<=n)(hn:U64 n)(hq:∀w,Calls Tryz.prog 37 #[.int .u64 (n/10:Nat)] w λe w'=>e= .returned (.string (fp (n/10)))/\Below w.heap.size w w'):
 Calls Tryz.prog 37 #[.int .u64 n] w λe w'=>e= .returned (.string (fp n))/\Below w.heap.size w w':=by
 have hd:decide ((n:Int)<10)=false:=by simp;omega
 unfold U64 at hn;have hq1:IntKind.u64.wrap ((n:Int)/10)=((n/10:Nat):Int):=by rw[IntWalk.u64_in _ (by omega)];omega
 have hr1:IntKind.u8.wrap (IntKind.u64.wrap (48+(n:Int).tmod 10))=48+((n%10:Nat):Int):=by
  have:(n:Int).tmod 10=((n%10:Nat):Int):=by rw[Int.tmod_eq_emod_of_nonneg (by omega)];omega
  rw[this,IntWalk.u64_in _ (by omega),IntKind.wrap_u8];omega
 have HQ:=H_ hq
 have hcv:∀W b,W.cell? ⟨b,0,none⟩=some (.int .u8 (48+((n%10:Nat):Int)))->(convert 51 9 (.slice (some ⟨b,0,none⟩) 1 1)).run Tryz.prog W= .ok (.string ⟨#[dgc (n%10)]⟩) W:=
  λW b hc=>BI W b _ _ (oN (by omega)).symm hc
 have hadd:∀W,(Op.stringOp .add (fp (n/10)) ⟨#[dgc (n%10)]⟩).run Tryz.prog W= .ok (.string (fp n)) W:=λW=>by
  have e:fp n=fp (n/10)++⟨#[dgc (n%10)]⟩:=by
   unfold fp;rw[eK h];apply Fy;simp[dgc]
  rw[e];refine run_string_add_sum W _ _ ?_;have h1:=tu (n/10);have h2:(fp (n/10)).size=(Lib.decDigits (n/10)).length:=by unfold fp;simp[ByteArray.size]
  have h3:(⟨#[dgc (n%10)]⟩:ByteArray).size=1:=rfl;omega
 clear hq hn h;go_enter Tryz.func37,Tryz.ntmps37;go_wp2
 go_region_with ((go_at_call 37
                  refine(HQ.out _).mono ?_;rintro e w1 ⟨rfl,hb1⟩;obtain⟨hc1,hf1⟩:=nW hb1;have HB1:=H_ hb1;clear hb1))
 all_goals
  go_wp2;go_ret;refine⟨rfl,?_⟩
  first
   |exact((Fb _ _).drew.alloc (F0 _) _).trans (HB1.out.mono (by simp))
   |exact((Fb w.heap.size w).drew.trans HB1.out).alloc (by have:=HB1.out.size;simpa using this) _
theorem nM(n:Nat):∀(w:World),U64 n->Calls Tryz.prog 37 #[.int .u64 n] w λe w'=>e= .returned (.string (fp n))/\Below w.heap.size w w':=by
 induction n using Nat.strongRecOn with
 |_ n ih=>
  intro w hn;by_cases h:n<10
  ·exact nL n w h
  ·exact od n w (by omega) hn λw=>ih (n/10) (by omega) w (by unfold U64 at*;omega)
def I64(n:Int):Prop:= -9223372036854775808<=n/\n<=9223372036854775807
def cV(n:Int):ByteArray:=⟨(Lib.itoa n).toArray⟩
def nd(n:Int):ByteArray:=⟨(32::Lib.itoa n).toArray⟩
theorem bM{n:Int}(h:I64 n):(Lib.itoa n).length<=21:=Lib.itoa_length_le n h.1 h.2
theorem oK(n:Int):(cV n).size=(Lib.itoa n).length:=by unfold cV;simp[ByteArray.size]
theorem fK(n:Int):(nd n).size=(Lib.itoa n).length+1:=by unfold nd;simp[ByteArray.size]
theorem fC(x y:ByteArray)(h:x.size+y.size<=9000000000000000000):∃S:ByteArray,S.data.toList=x.data.toList++y.data.toList/\S.size=x.size+y.size/\∀W,(Op.stringOp .add x y).run Tryz.prog W= .ok (.string S) W:=
 ⟨x++y,by simp,by simp,λW=>run_string_add_sum W x y (by omega)⟩
theorem zH(h:x.data.toList=l):x=⟨l.toArray⟩:=Fy (by simpa using h)
theorem ji(n:Int)(w:World)(hn:I64 n):Calls Tryz.prog 36 #[.int .i64 n] w λe w'=>e= .returned (.string (cV n))/\Below w.heap.size w w':=by
 by_cases h:n<0
 ·have hm:IntKind.u64.wrap (-IntKind.u64.wrap n)=((n.natAbs:Nat):Int):=by
   have h1:IntKind.u64.wrap n=n+18446744073709551616:=by rw[IntKind.wrap_u64];have:=hn.1;omega
   rw[h1,IntKind.wrap_u64];have:=hn.1;omega
  have hu:U64 n.natAbs:=by unfold U64;have:=hn.1;omega
  have hl:(Lib.decDigits n.natAbs).length<=21:=by
   have h1:=bM hn;unfold Lib.itoa at h1;rw[Ft h]at h1;simp at h1;omega
  obtain⟨S,hS,_,hadd⟩:=fC ⟨#[45]⟩ (fp n.natAbs) (by have:(fp n.natAbs).size=(Lib.decDigits n.natAbs).length:=by unfold fp;simp[ByteArray.size]
                                                    have h3:(⟨#[45]⟩:ByteArray).size=1:=rfl;omega)
  have hfin:S=cV n:=by
   rw[zH hS];unfold cV Lib.itoa fp;rw[Ft h];simp
  have HF:=H_ hfin
  have HU:=H_ hu;clear hfin hu hl hS hn;go_enter Tryz.func36,Tryz.ntmps36;go_wp2_with fail;refine(nM _ _ HU.out).mono ?_;rintro e w1 ⟨rfl,b1⟩;go_wp2;go_ret;exact⟨ke HF.out,b1⟩
 ·obtain⟨m,rfl⟩:=Fz (by omega:0<=n);have hm:IntKind.u64.wrap (m:Int)=(m:Int):=by rw[IntKind.wrap_u64];have:=hn.2;omega
  have hu:U64 m:=by unfold U64;have:=hn.2;omega
  have hfin:fp m=cV (m:Int):=by unfold cV fp;rw[Lib.itoa_nonneg]
  have HF:=H_ hfin
  have HU:=H_ hu;have hd:decide ((m:Int)<0)=false:=by simp
  clear hfin hu hn;go_enter Tryz.func36,Tryz.ntmps36;go_wp2_with fail;refine(nM _ _ HU.out).mono ?_;rintro e w1 ⟨rfl,b1⟩;go_wp2;go_ret;exact⟨ke HF.out,b1⟩
theorem ko(n:Int)(w:World)(hn:I64 n):Calls Tryz.prog 69 #[.int .i64 n] w λe w'=>e= .returned (.string (nd n))/\Below w.heap.size w w':=by
 obtain⟨S,hS,_,hadd⟩:=fC ⟨#[32]⟩ (cV n) (by have h1:=bM hn;have h2:=oK n;have h3:(⟨#[32]⟩:ByteArray).size=1:=rfl;omega);have hfin:S=nd n:=by rw[zH hS];unfold nd cV;simp
 have HF:=H_ hfin
 have HN:=H_ hn;clear hfin hS hn;go_enter Tryz.func69,Tryz.ntmps69;go_wp2_with fail;refine(ji _ _ HN.out).mono ?_;rintro e w1 ⟨rfl,b1⟩;go_wp2;go_ret;exact⟨ke HF.out,b1⟩
def jw:List ByteArray:=[⟨#[116,117,114,110]⟩,⟨#[100,101,108,105,118,101,114]⟩,⟨#[100,114,111,112]⟩,⟨#[100,111,117,98,108,101]⟩,⟨#[116,105,99,107]⟩,⟨#[109,105,110,111,114]⟩,⟨#[109,97,106,111,114]⟩,⟨#[99,114,97,115,104]⟩,⟨#[114,101,115,116,97,114,116]⟩,⟨#[99,104,101,99,107,112,111,105,110,116]⟩,⟨#[102,97,105,108]⟩,⟨#[115,112,97,119,110]⟩,⟨#[112,111,115,116]⟩,⟨#[114,101,108,101,97,115,101]⟩,⟨#[114,101,116,105,114,101]⟩,⟨#[99,97,108,109]⟩]
theorem zV(w:World):Calls Tryz.prog 54 #[] w λe w'=>e= .returned (.slice (some ⟨w.heap.size,0,none⟩) 16 16)/\w.alloc (.cells (jw.map Value.string).toArray 9)=w':=by
 go_enter Tryz.func54,Tryz.ntmps54;go_wp2;go_ret;exact⟨rfl,rfl⟩
end
end Go.Proofs.YtjpbckbpeblibaaGreatDoor
