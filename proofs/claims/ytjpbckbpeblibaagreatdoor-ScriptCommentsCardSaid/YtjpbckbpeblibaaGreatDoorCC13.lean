/- part of a proof -/
import Derived.Test.YtjpbckbpeblibaaGreatDoorCC12
namespace Go.Proofs.YtjpbckbpeblibaaGreatDoor
set_option linter.unusedVariables false
set_option linter.unusedSimpArgs false
set_option maxRecDepth 100000
set_option maxHeartbeats 64000000
section
open Go.RowKit Go.Shelf
variable{B d:Nat}{w w':World}
theorem FS:type_of% @Oper.upon_value:=@Oper.upon_value
theorem tA:(Tryz.prog.info? 58).map (·.size)=some 2:=by kernel_rfl
theorem zP:(Tryz.prog.info? 5).map (λi=>(i.zero,i.size,i.bytes))=some (some (.int .u8 0),1,1):=by kernel_rfl
def sD(T:TypeId)(N o:Nat):Prop:=liesAt Tryz.prog Tryz.prog.depth T (N/Tryz.prog.cellsOf T) o 58 1=true/\o<N
theorem yi(b o:Nat)(w:World)(h0:w.cell? ⟨b,o,none⟩=some (.pointer (some ⟨b,o,none⟩))):
 Calls Tryz.prog 63 #[.pointer (some ⟨b,o,none⟩)] w λe w'=>e= .returned (.tuple #[])/\w'=w:=by
 obtain⟨j,hj,_⟩:=Ev.1 tA;go_enter Tryz.func63,Tryz.ntmps63;go_wp2;rw[Lib.run_neq_ptr_same w _ Tryz.underlying56 hj];go_wp2;go_end0;exact⟨rfl,rfl⟩
theorem uS(b o T N:Nat)(w:World)(hl:sD T N o)(h0:w.cell? ⟨b,o,none⟩=some (.pointer none))(hsh:w.shape? b=some (T,N))(hfz:w.frozen? ⟨b,o,none⟩=false):
 Calls Tryz.prog 63 #[.pointer (some ⟨b,o,none⟩)] w λe w'=>e= .returned (.tuple #[])/\w'=w.setCell ⟨b,o,none⟩ (.pointer (some ⟨b,o,none⟩)):=by
 obtain⟨j,hj,hjs⟩:=Ev.1 tA;go_enter Tryz.func63,Tryz.ntmps63;go_wp2;rw[Lib.run_to_unsafe w ⟨b,o,none⟩ Tryz.underlying56 Tryz.underlying180 hj (by rw[hjs];decide) hsh hl.2];simp only[Result.andThen];rw[FS];go_wp2;rw[run_callFunc_extern Tryz.func106 (by kernel_rfl) (by kernel_rfl) (by kernel_rfl) (e:=Extern.AbiNoEscape.same) (by kernel_rfl)];rw[Lib.run_noEscape];simp only[Result.andThen];rw[FS];go_wp2;rw[Lib.run_from_unsafe w ⟨b,o,none⟩ Tryz.underlying180 Tryz.underlying56 hj hsh hl.1];simp only[Result.andThen];rw[FS];go_wp2;go_end0;exact⟨rfl,rfl⟩
section
variable{b B n o:Nat}{T:TypeId}{sa sv:Value}{cs:Array Value}
theorem Da(w:World)(hl:sD T cs.size o)(hb:Blk w b T cs)(h0:cs[o]?=some sa)(hsa:sa= .pointer none\/sa= .pointer (some ⟨b,o,none⟩)):
 Calls Tryz.prog 63 #[.pointer (some ⟨b,o,none⟩)] w λe w'=>e= .returned (.tuple #[])/\Blk w' b T (cs.setIfInBounds o (.pointer (some ⟨b,o,none⟩)))/\(∀k,k≠b->w'.heap[k]?=w.heap[k]?)/\Lk B b w w'/\w'.heap.size=w.heap.size:=by
 rcases hsa with rfl|rfl
 ·refine(uS b o T cs.size w hl ((hb.cell o).trans h0) (by unfold Blk at hb;simp[World.shape?,hb]) (hb.frozen o)).mono ?_;rintro e w' ⟨rfl,rfl⟩;exact⟨rfl,hb.set o _,λk hk=>DZ _ _ _ _ hk,(Lk.refl _ _ _).set o _,by simp[World.setCell]⟩
 ·refine(yi b o w ((hb.cell o).trans h0)).mono ?_;rintro e w' ⟨rfl,rfl⟩;refine⟨rfl,?_,λ_ _=>rfl,Lk.refl _ _ _,rfl⟩
  have:cs.setIfInBounds o (.pointer (some ⟨b,o,none⟩))=cs:=by
   refine Array.ext (by simp) λi h1 h2=>?_;rw[Array.getElem_setIfInBounds];split
   ·rename_i e;subst e;rw[Eq h2]at h0;simpa using h0.symm
   ·rfl
  rwa[this]
theorem Co(bs:List Value)(s:ByteArray)(w:World)(hl:sD T cs.size o)(hb:Blk w b T cs)(h0:cs[o]?=some sa)(h1:cs[o+1]?=some sv)(hsa:sa= .pointer none\/sa= .pointer (some ⟨b,o,none⟩))(hown:w.ownsRow B 5 1 sv n bs)(hbB:b<B)(hBw:B<=w.heap.size)(hlen:n+s.size<=1000000000):
 Calls Tryz.prog 31 #[.pointer (some ⟨b,o,none⟩),.string s] w λe w'=>e= .returned (.tuple #[.int .i64 s.size,.nilIface])/\Lk B b w w'/\
  ∃sv',Blk w' b T ((cs.setIfInBounds o (.pointer (some ⟨b,o,none⟩))).setIfInBounds (o+1) sv')/\w'.ownsRow B 5 1 sv' (n+s.size) (bs++Lib.strCells s):=by
 obtain⟨i0,hi,hz0,hz1,hz2⟩:=FY zP;have HC:=H_ (Da (B:=B) w hl hb h0 hsa);have HO:=H_ hown
 have hcs:(cs.setIfInBounds o (.pointer (some ⟨b,o,none⟩)))[o+1]?=some sv:=by
  rw[EJ (by omega)];exact h1
 have HCS:=H_ hcs;clear hb hsa hown h0 h1 hcs;go_enter Tryz.func31,Tryz.ntmps31;go_wp2_with fail;refine HC.out.mono ?_;rintro e w1 ⟨rfl,q1,hk1,l1,hs1⟩;have hown1:=ek HO.out (w':=w1) (λk hk _ _=>hk1 k (by omega));have d1:=(q1.cell (o+1)).trans HCS.out;have HQ:=H_ q1;have HL:=H_ l1;have HO1:=H_ hown1;clear q1 hk1 l1 hown1 HC HO;go_wp2_with (at_builtin;refine Lib.wpList_append_own_string _ rfl _ _ 51 9 rfl B 5 i0 Tryz.underlying51 Tryz.underlying9 hi hz0 hz1 hz2 _ _ _ rfl HO1.out s rfl (by unfold maxLen;omega) (by omega) (by omega) ?_);intro v' w2 hown' hgrow _;have hlt:=HQ.out.lt;have hnb:some b≠sv.ownBlock:=λe=>by have:=(HO1.out.lt b e.symm).1;omega
 have q2:=show Blk w2 b T (cs.setIfInBounds o (.pointer (some ⟨b,o,none⟩)))from(hgrow.block b hlt hnb).trans HQ.out;have d2:=(q2.cell (o+1)).trans HCS.out;have f2:=q2.frozen (o+1)
 have HL2:=H_ (show Lk B b w w2 from HL.out.grown hgrow λk hk=>⟨(HO1.out.lt k hk).1,by
  rcases HO1.out.2 with⟨hv,_⟩|⟨g,cap,cur,hv,_,hg,_⟩
  ·rw[hv]at hk;cases hk
  ·rw[hv]at hk;cases hk;exact⟨cur,(0,0),.inr hg⟩⟩)
 have HQ2:=H_ q2;have HO2:=H_ hown'
 obtain⟨ao,n',cap,rfl⟩:∃ao n' cap,v'= .slice ao n' cap:=by
  rcases hown'.2 with⟨hv,_⟩|⟨g,cap,cur,hv,_⟩
  ·exact⟨_,_,_,hv⟩
  ·exact⟨_,_,_,hv⟩
 clear q2 hgrow hown' HQ HL HO1 d1;go_wp2_with fail;go_ret2;exact⟨rfl,HL2.out.set (o+1) _,_,HQ2.out.set (o+1) _,ek HO2.out λk hk _ _=>DZ _ _ _ _ (show k≠b by omega)⟩
theorem vX(l:List UInt8)(w:World)(hb:Blk w b T cs)(h1:cs[o+1]?=some sv)(hown:w.ownsRow B 5 1 sv l.length (Lib.byteCells l))(h0:l=[]->sv= .slice none 0 0)(hbB:b<B)(hl:l.length<=1000000000):
 Calls Tryz.prog 35 #[.pointer (some ⟨b,o,none⟩)] w λe w'=>e= .returned (.string ⟨l.toArray⟩)/\Lk B b w w':=by
 have mixed:Tryz.prog.follows .mixedOrders=true:=by kernel_rfl
 by_cases hl0:l=[]
 ·subst hl0;obtain rfl:=h0 rfl;have hUS:∀W,(Builtin.unsafeString_ #[130,3] 9 #[.pointer none,.int .i64 0]).run Tryz.prog W= .ok (.string .empty) W:=λW=>Lib.run_unsafeString_none W _ _ _ none;have d1:=(hb.drew.cell (o+1)).trans h1;have hSD:(Builtin.unsafeSliceData_ #[51] 130 #[.slice none 0 0]).run Tryz.prog w.drew= .ok (.pointer none) w.drew:=rfl;have HB:=H_ hb;clear hb hown h0 h1;go_enter Tryz.func35,Tryz.ntmps35;go_wp2;go_region_o;all_goals(go_wp2;go_ret;exact⟨rfl,Lk.of (Below.drew (DN w.heap.size w)) (DK _)⟩)
 ·obtain⟨g,cap,cur,rfl,hbg,hg,hnc,hcm,hcs,htake⟩:∃g cap cur,sv= .slice (some ⟨g,0,none⟩) l.length cap/\B<=g/\w.heap[g]?=some (.cells cur 5 (0,0))/\l.length<=cap/\cap<=maxLen/\cur.size=cap*1/\cur.toList.take (l.length*1)=Lib.byteCells l:=by
   rcases hown.2 with⟨_,hz⟩|⟨g,cap,cur,hv,r⟩
   ·exact absurd (En hz) hl0
   ·exact⟨g,cap,cur,hv,r⟩
  have hlz:l.length≠0:=λe=>hl0 (En e);have d1:=(hb.drew.cell (o+1)).trans h1
  have hSD:(Builtin.unsafeSliceData_ #[51] 130 #[.slice (some ⟨g,0,none⟩) l.length cap]).run Tryz.prog w.drew= .ok (.pointer (some ⟨g,0,none⟩)) w.drew:=
   Lib.run_unsafeSliceData_row _ _ _ _ _ _ (by omega)
  have hUS:(Builtin.unsafeString_ #[130,3] 9 #[.pointer (some ⟨g,0,none⟩),.int .i64 l.length]).run Tryz.prog w.drew= .ok (.string ⟨l.toArray⟩) (w.drew.freeze ⟨g,0,none⟩ l.length):=by
   refine Lib.run_unsafeString_row w.drew 130 3 9 5 Tryz.underlying130 (by kernel_rfl) g cur.size (by have hg':w.drew.heap[g]?=some (.cells cur 5 (0,0)):=hg;simp[World.shape?,hg']) l hl0 (by omega) (by omega) ?_;intro j x hx;have:=hown.cells (g:=g) rfl j (.int .u8 x.toNat) (by simp[Lib.byteCells,hx]);exact this
  have hfr:∀k,k≠g->(w.drew.freeze ⟨g,0,none⟩ l.length).heap[k]?=w.heap[k]?:=λk hk=>by
   unfold World.freeze;split
   ·rfl
   ·simp only[Array.getElem?_modify];rw[DS (Ne.symm hk)];rfl
  have hfin:Lk B b w (w.drew.freeze ⟨g,0,none⟩ l.length):=by
   have hq:=Lib.below_freeze (Below.drew (DN B w)) (p:=⟨g,0,none⟩) hbg l.length;refine⟨hq.os,hq.tape,hq.output,hq.size,λk hk hkb ht=>hfr k λe=>?_⟩;subst e;exact(ht hbg cur (0,0)).2 hg
  have HF:=H_ hfin
  clear hfin hfr hb hown h0 hg htake h1;go_enter Tryz.func35,Tryz.ntmps35;go_wp2;go_region_o;all_goals(go_wp2;go_ret;exact⟨rfl,HF.out⟩)
end
structure PW(w:World)(B p d:Nat)(s:List UInt8):Prop where
 ex:∃sa sv,Blk w p 128 #[sa,sv,.int .i64 (d:Int)]/\(sa= .pointer none\/sa= .pointer (some ⟨p,0,none⟩))/\w.ownsRow B 5 1 sv s.length (Lib.byteCells s)
 lt:p<B
 le:B<=w.heap.size
theorem zH:sD 128 3 0:=⟨by kernel_rfl,by decide⟩
theorem Blk.lk{g p:Nat}{t:TypeId}{cs:Array Value}(h:Blk w g t cs)(hk:Lk B p w w')(hp:g≠p)(ht:t≠48/\t≠5:=by decide):Blk w' g t cs:=
 (hk.block g h.lt hp λ_ cs' fz=>⟨λe=>by unfold Blk at h;rw[h]at e;simp only[Option.some.injEq,Obj.cells.injEq]at e;exact ht.1 e.2.1,λe=>by unfold Blk at h;rw[h]at e;simp only[Option.some.injEq,Obj.cells.injEq]at e;exact ht.2 e.2.1⟩).trans h
theorem PW.below{p:Nat}{s:List UInt8}(h:PW w B p d s)(hb:Below w.heap.size w w'):PW w' B p d s:=by
 obtain⟨sa,sv,h1,h2,h3⟩:=h.ex;exact⟨⟨sa,sv,h1.below hb h1.lt,h2,ek h3 λk _ hk _=>hb.block k hk⟩,h.lt,Ek h.le hb.size⟩
theorem Lk.al{p:Nat}(h:Below w.heap.size w w'):Lk B p w w':=Lk.of h (DK _)
theorem PW.write{p:Nat}{s:List UInt8}(h:PW w B p d s)(x:ByteArray)(hlen:s.length+x.size<=1000000000):
 Calls Tryz.prog 31 #[.pointer (some ⟨p,0,none⟩),.string x] w λe w'=>e= .returned (.tuple #[.int .i64 x.size,.nilIface])/\Lk B p w w'/\PW w' B p d (s++x.data.toList):=by
 obtain⟨sa,sv,h1,h2,h3⟩:=h.ex;have e0:(#[sa,sv,.int .i64 (d:Int)]:Array Value)[0]?=some sa:=rfl;have e1:(#[sa,sv,.int .i64 (d:Int)]:Array Value)[0+1]?=some sv:=rfl;have hl:sD 128 (#[sa,sv,.int .i64 (d:Int)]:Array Value).size 0:=zH;refine(Co (o:=0) (Lib.byteCells s) x w hl h1 e0 e1 h2 h3 h.lt h.le hlen).mono ?_;rintro e w' ⟨rfl,l1,sv',q1,o1⟩;refine⟨rfl,l1,⟨⟨_,sv',q1,.inr rfl,?_⟩,h.lt,Ek h.le l1.size⟩⟩;have e1:(s++x.data.toList).length=s.length+x.size:=DJ;have e2:Lib.byteCells (s++x.data.toList)=Lib.byteCells s++Lib.strCells x:=by simp[Lib.byteCells,Lib.strCells]
 rw[e1,e2];exact o1
theorem PW.str{p:Nat}{s:List UInt8}(h:PW w B p d s)(hne:s≠[])(hlen:s.length<=1000000000):
 Calls Tryz.prog 35 #[.pointer (some ⟨p,0,none⟩)] w λe w'=>e= .returned (.string ⟨s.toArray⟩)/\Lk B p w w':=by
 obtain⟨sa,sv,h1,h2,h3⟩:=h.ex;have e1:(#[sa,sv,.int .i64 (d:Int)]:Array Value)[0+1]?=some sv:=rfl;exact vX (o:=0) s w h1 e1 h3 (λe=>absurd e hne) h.lt hlen
end
section
open Go.RowKit
variable{a:Ex}{d i l:Nat}{f:Nat->R Ex}{v:Int}{x:ByteArray}{α:Type}
def isK(x:ByteArray)(t:TK):Bool:=decide (t.2.1=x)&&(decide (t.1=4)||decide (t.1=5))
def opK(ops:List Nat)(t:TK):Option Nat:=ops.find? λo=>isK (bH o) t
def fH(l:Nat)(t:TK):Bool:= !isK kAt t&&((decide (7<l)|| !isK DOT t)&&((decide (5<l)||(opK wO t).isNone)&&((decide (4<l)||(opK wN t).isNone)&&
 ((decide (3<l)||(opK uz t).isNone)&&((decide (1<l)||(opK wP t).isNone)&&(decide (0<l)||(opK oOr t).isNone))))))
theorem cT{l':Nat}{t:TK}(h:fH l t=true)(hl:l<=l'):fH l' t=true:=by
 unfold fH at*
 simp only[Ee,EY,Ep]at*
 obtain⟨h1,h2,h3,h4,h5,h6,h7⟩:=h;exact⟨h1,h2.imp_left (by omega),h3.imp_left (by omega),h4.imp_left (by omega),h5.imp_left (by omega),h6.imp_left (by omega),h7.imp_left (by omega)⟩
section
variable{T:List Tk}
variable(T)in
def t3(i:Nat):TK:=((tk T i).1,(tk T i).2.1,(tk T i).2.2.1)
theorem cN(x:ByteArray)(i:Nat):isT T x i=isK x (t3 T i):=rfl
theorem iB(ops:List Nat)(i:Nat):opT T ops i=opK ops (t3 T i):=rfl
theorem fK{k:Int}{s:ByteArray}(h:t3 T i=(k,s,v))(hk:k≠0):i<T.length:=by
 rcases ES i T.length with hl|hl
 ·exact hl
 ·unfold t3 tk at h;rw[Es,Fw hl]at h;simp at h;exact absurd h.1.symm hk
variable(T)in
def AtT:Nat->List TK->Prop
 |_,[]=>True
 |i,t::l=>t3 T i=t/\AtT (i+1) l
theorem AtT.app:∀{a b:List TK} {i:Nat},AtT T i (a++b)->AtT T i a/\AtT T (i+a.length) b
 |[],b,i,h=>⟨trivial,h⟩
 |t::a,b,i,h=>by
  obtain⟨h1,h2⟩:=AtT.app h.2;refine⟨⟨h.1,h1⟩,?_⟩;rw[DL,show i+(a.length+1)=i+1+a.length by omega];exact h2
theorem bu{s:ByteArray}(h:isK s (t3 T i)=true):bj T s i= .ok () (i+1):=by unfold bj;rw[cN,Ed h]
theorem cw{k:Int}{s:ByteArray}(h:t3 T i=(k,s,v)):bO T k i= .ok s (i+1):=by
 unfold t3 at h;simp only[Prod.mk.injEq]at h;unfold bO;rw[Ed h.1,h.2.1]
section
variable{rec:Nat->Nat->R Ex}{e:Ex}{i j:Nat}
theorem iC{ops:List Nat}(h:f i= .ok e j)(hs:(opK ops (t3 T j)).isNone=true):eQ T f ops i= .ok e j:=by
 unfold eQ;rw[h];simp only;unfold dg;rw[iB,Option.isNone_iff_eq_none.1 hs]
theorem up1(hl:l<8)(h:fg T rec (l+1) i= .ok e j)(hs:fH l (t3 T j)=true)(h2:l=2->isT T dE i=false)
 (h6:l=6->isT T bK i=false/\isT T ca i=false/\isT T dT i=false):fg T rec l i= .ok e j:=by
 unfold fH at hs;simp only[Ee,EY,Ep]at hs;obtain⟨s1,s2,s3,s4,s5,s6,s7⟩:=hs
 match l,hl,h,h2,h6 with
 |0,_,h,_,_=>exact iC h (s7.resolve_left (by omega))
 |1,_,h,_,_=>exact iC h (s6.resolve_left (by omega))
 |2,_,h,h2,_=>
  show iO T rec i=_;unfold iO;rw[h2 rfl];exact h
 |3,_,h,_,_=>
  show cz T rec i=_;unfold cz;rw[show jb T rec i= .ok e j from h];simp only;rw[iB,Option.isNone_iff_eq_none.1 (s5.resolve_left (by omega))]
 |4,_,h,_,_=>exact iC h (s4.resolve_left (by omega))
 |5,_,h,_,_=>exact iC h (s3.resolve_left (by omega))
 |6,_,h,_,h6=>
  obtain⟨a,b,c⟩:=h6 rfl;show co T rec i=_;unfold co;rw[a,b,c];exact h
 |7,_,h,_,_=>
  show cj T rec i=_;unfold cj;rw[show aw T rec i= .ok e j from h];simp only;unfold cg;have hd:=s2.resolve_left (by omega);rw[cN,show isK DOT (t3 T j)=false by simpa using hd];rfl
theorem up:∀(d l l':Nat),l'=l+d->l'<=8->fg T rec l' i= .ok e j->fH l (t3 T j)=true->(l<=2->2<l'->isT T dE i=false)->
 (l<=6->6<l'->isT T bK i=false/\isT T ca i=false/\isT T dT i=false)->fg T rec l i= .ok e j
 |0,l,l',hd,_,h,_,_,_=>by rw[show l'=l by omega]at h;exact h
 |d+1,l,l',hd,h8,h,hs,h2,h6=>
  up1 (by omega) (up d (l+1) l' (by omega) h8 h (cT hs (by omega)) (λa b=>h2 (by omega) b) (λa b=>h6 (by omega) b)) hs (λa=>h2 (by omega) (by omega)) (λa=>h6 (by omega) (by omega))
end
end
def jF(l:Nat):List Nat:=if l=0 then oOr else if l=1 then wP else if l=4 then wN else wO
theorem CI:((List.range 13).all λo=>([0,1,4,5].all λl=> !(ap (o:Int)==l+1)||((opK (jF l) (opP (o:Int)).t==some o)&&fH (l+1) (opP (o:Int)).t))&&
 (!(ap (o:Int)==4)||((opK uz (opP (o:Int)).t==some o)&&fH 4 (opP (o:Int)).t))&&(opP (o:Int)).t.1 !=0)=true:=by kernel_rfl
theorem wL{o:Nat}(ho:o<=12):(∀l,l=0\/l=1\/l=4\/l=5->ap (o:Int)=l+1->opK (jF l) (opP (o:Int)).t=some o/\fH (l+1) (opP (o:Int)).t=true)/\
 (ap (o:Int)=4->opK uz (opP (o:Int)).t=some o/\fH 4 (opP (o:Int)).t=true)/\(opP (o:Int)).t.1≠0:=by
 have h:=Ec.1 CI o (FC.2 (by omega));simp only[Ee,EY,FE,DM,FG,bne_iff_ne]at h;obtain⟨⟨h1,h2⟩,h3⟩:=h;refine⟨λl hl he=>?_,λhe=>h2.resolve_left (λh=>h he),h3⟩;have:=Ec.1 h1 l (by simp;omega);simp only[Ee,EY,FE,DM,FG]at this;exact this.resolve_left (λh=>h he)
theorem fi(o:Nat)(ho:o<=12):ap (o:Int)=1\/ap (o:Int)=2\/ap (o:Int)=4\/ap (o:Int)=5\/ap (o:Int)=6:=by
 unfold ap;repeat' split
 all_goals omega
def hdP(l:List Pc):TK:=match l with|[]=>(0,⟨#[]⟩,0)|p::_=>p.t
theorem an(l:List Pc):(sp l).length=l.length:=by cases l<;>rfl
theorem iy(l:List Pc):(tks l).length=l.length:=by simp[tks]
theorem kA{a:List Pc}(b:List Pc)(h:a≠[]):hdP (a++b)=hdP a:=by cases a with|nil=>exact absurd rfl h|cons=>rfl
theorem eH{r:Nat}{x:Nat×List Pc}(h:x.2≠[]):inP r x≠[]:=by unfold inP;split<;>simp[h]
theorem cE(e:Ex):plE e≠[]:=by
 obtain⟨k,op,z,nm,at_,args⟩:=e;rw[plE];unfold cmb
 repeat' split
 all_goals simp[sp]
theorem rW:∀(m:Nat) (e:Ex),esz e<=m->vE e=true->(4<=lvl e->isK dE (hdP (plE e))=false)/\(8<=lvl e->isK bK (hdP (plE e))=false/\isK ca (hdP (plE e))=false/\isK dT (hdP (plE e))=false)
 |0,e,hm,_=>by have:=bE e;omega
 |m+1,e,hm,hv=>by
  have hin:∀(r:Nat) (a:Ex),4<=r->esz a<=m->vE a=true->isK dE (hdP (inP r (lvl a,plE a)))=false/\(8<=r->isK bK (hdP (inP r (lvl a,plE a)))=false/\isK ca (hdP (inP r (lvl a,plE a)))=false/\isK dT (hdP (inP r (lvl a,plE a)))=false):=λr a hr ha hva=>by
   unfold inP;by_cases h:lvl a<r
   ·rw[Ed h];exact⟨by show isK dE (5,cG,0)=false;kernel_rfl,λ_=>⟨by show isK bK (5,cG,0)=false;kernel_rfl,by show isK ca (5,cG,0)=false;kernel_rfl,by show isK dT (5,cG,0)=false;kernel_rfl⟩⟩
   ·rw[DS h];obtain⟨f1,f2⟩:=rW m a ha hva;exact⟨f1 (by omega),λh8=>f2 (by omega)⟩
  have kd:∀(x:ByteArray) (k:Int) (s:ByteArray) (v:Int),k≠4->k≠5->isK x (k,s,v)=false:=λx k s v h4 h5=>by unfold isK;simp[h4,h5]
  rcases dc hv with⟨z,rfl,_,_⟩|rfl|rfl|⟨s,rfl,_⟩|⟨s,a,rfl,_,ha⟩|⟨s,l,rfl,_,_⟩|⟨s,l,a,rfl,_,_,_⟩|⟨k,a,hk,rfl,ha⟩|⟨o,a,b,ho,rfl,ha,hb⟩
  ·exact⟨λ_=>kd _ 1 _ _ (by decide) (by decide),λ_=>⟨kd _ 1 _ _ (by decide) (by decide),kd _ 1 _ _ (by decide) (by decide),kd _ 1 _ _ (by decide) (by decide)⟩⟩
  ·exact⟨λ_=>by show isK dE (4,gJ,0)=false;kernel_rfl,λ_=>⟨by show isK bK (4,gJ,0)=false;kernel_rfl,by show isK ca (4,gJ,0)=false;kernel_rfl,by show isK dT (4,gJ,0)=false;kernel_rfl⟩⟩
  ·exact⟨λ_=>by show isK dE (4,ew,0)=false;kernel_rfl,λ_=>⟨by show isK bK (4,ew,0)=false;kernel_rfl,by show isK ca (4,ew,0)=false;kernel_rfl,by show isK dT (4,ew,0)=false;kernel_rfl⟩⟩
  ·exact⟨λ_=>kd _ 2 _ _ (by decide) (by decide),λ_=>⟨kd _ 2 _ _ (by decide) (by decide),kd _ 2 _ _ (by decide) (by decide),kd _ 2 _ _ (by decide) (by decide)⟩⟩
  ·have hz:esz (aR s a)=1+esz a:=by simp[aR,esz,cm]
   obtain⟨f1,f2⟩:=hin 8 a (by omega) (by omega) ha;have he:hdP (plE (aR s a))=hdP (inP 8 (lvl a,plE a)):=kA _ (eH (cE a));rw[he];exact⟨λ_=>f1,λ_=>f2 (by omega)⟩
  ·exact⟨λ_=>by show isK dE (4,dx,0)=false;kernel_rfl,λ_=>⟨by show isK bK (4,dx,0)=false;kernel_rfl,by show isK ca (4,dx,0)=false;kernel_rfl,by show isK dT (4,dx,0)=false;kernel_rfl⟩⟩
  ·exact⟨λ_=>by show isK dE (4,dx,0)=false;kernel_rfl,λ_=>⟨by show isK bK (4,dx,0)=false;kernel_rfl,by show isK ca (4,dx,0)=false;kernel_rfl,by show isK dT (4,dx,0)=false;kernel_rfl⟩⟩
  ·rcases hk with rfl|rfl|rfl|rfl
   ·exact⟨λ_=>by show isK dE (4,ca,0)=false;kernel_rfl,λh=>absurd (show 8<=7 from h) (by decide)⟩
   ·exact⟨λ_=>by show isK dE (4,dT,0)=false;kernel_rfl,λh=>absurd (show 8<=7 from h) (by decide)⟩
   ·exact⟨λ_=>by show isK dE (5,bK,0)=false;kernel_rfl,λh=>absurd (show 8<=7 from h) (by decide)⟩
   ·exact⟨λh=>absurd (show 4<=3 from h) (by decide),λh=>absurd (show 8<=3 from h) (by decide)⟩
  ·have hz:esz (cx o a b)=1+(esz a+esz b):=by simp[cx,esz,cm]
   have hl:lvl (cx o a b)=ap o:=rfl;rw[hl];refine⟨λh=>?_,λh=>by have:=fi o ho;omega⟩;obtain⟨f1,_⟩:=hin (if ap o=4 then 5 else ap o) a (by split<;>omega) (by omega) ha;have he:hdP (plE (cx o a b))=hdP (inP (if ap o=4 then 5 else ap o) (lvl a,plE a)):=kA _ (eH (cE a));rw[he];exact f1
def Beg(t:TK):Prop:=t.1=1\/t.1=2\/t∈[((4,gJ,0):TK),(4,ew,0),(4,dx,0),(4,ca,0),(4,dT,0),(4,dE,0),(5,bK,0),(5,cG,0)]
theorem sB:∀(m:Nat) (e:Ex),esz e<=m->vE e=true->Beg (hdP (plE e))
 |0,e,hm,_=>by have:=bE e;omega
 |m+1,e,hm,hv=>by
  have hin:∀(r:Nat) (a:Ex),esz a<=m->vE a=true->Beg (hdP (inP r (lvl a,plE a))):=λr a ha hva=>by
   unfold inP;by_cases h:lvl a<r
   ·rw[Ed h];exact .inr (.inr (by show((5,cG,0):TK)∈_;simp))
   ·rw[DS h];exact sB m a ha hva
  rcases dc hv with⟨z,rfl,_,_⟩|rfl|rfl|⟨s,rfl,_⟩|⟨s,a,rfl,_,ha⟩|⟨s,l,rfl,_,_⟩|⟨s,l,a,rfl,_,_,_⟩|⟨k,a,hk,rfl,ha⟩|⟨o,a,b,ho,rfl,ha,hb⟩
  ·exact .inl rfl
  ·exact .inr (.inr (by show((4,gJ,0):TK)∈_;simp))
  ·exact .inr (.inr (by show((4,ew,0):TK)∈_;simp))
  ·exact .inr (.inl rfl)
  ·have hz:esz (aR s a)=1+esz a:=by simp[aR,esz,cm]
   rw[show hdP (plE (aR s a))=hdP (inP 8 (lvl a,plE a))from kA _ (eH (cE a))];exact hin 8 a (by omega) ha
  ·exact .inr (.inr (by show((4,dx,0):TK)∈_;simp))
  ·exact .inr (.inr (by show((4,dx,0):TK)∈_;simp))
  ·rcases hk with rfl|rfl|rfl|rfl
   ·exact .inr (.inr (by show((4,ca,0):TK)∈_;simp))
   ·exact .inr (.inr (by show((4,dT,0):TK)∈_;simp))
   ·exact .inr (.inr (by show((5,bK,0):TK)∈_;simp))
   ·exact .inr (.inr (by show((4,dE,0):TK)∈_;simp))
  ·have hz:esz (cx o a b)=1+(esz a+esz b):=by simp[cx,esz,cm]
   rw[show hdP (plE (cx o a b))=hdP (inP (if ap o=4 then 5 else ap o) (lvl a,plE a))from kA _ (eH (cE a))];exact hin _ a (by omega) ha
theorem Beg.in_{e:Ex}(r:Nat)(hv:vE e=true):Beg (hdP (exP r e)):=by
 unfold exP inP;by_cases h:lvl e<r
 ·rw[Ed h];exact .inr (.inr (by show((5,cG,0):TK)∈_;simp))
 ·rw[DS h];exact sB _ e (DK _) hv
theorem Beg.not{t:TK}(h:Beg t)(hx:([gJ,ew,dx,ca,dT,dE,bK,cG].all λy=> !decide (y=x))=true):isK x t=false:=by
 rcases h with h|h|h
 ·unfold isK;rw[h];simp
 ·unfold isK;rw[h];simp
 ·have hy:=Ec.1 hx;unfold isK;simp only[DY,DX,Ew]at h;rcases h with rfl|rfl|rfl|rfl|rfl|rfl|rfl|rfl
  ·have:=hy gJ (by simp);simp at this;simp[this]
  ·have:=hy ew (by simp);simp at this;simp[this]
  ·have:=hy dx (by simp);simp at this;simp[this]
  ·have:=hy ca (by simp);simp at this;simp[this]
  ·have:=hy dT (by simp);simp at this;simp[this]
  ·have:=hy dE (by simp);simp at this;simp[this]
  ·have:=hy bK (by simp);simp at this;simp[this]
  ·have:=hy cG (by simp);simp at this;simp[this]
section
variable{T:List Tk}
variable(T)in
def AE(m:Nat):Prop:=∀(n:Nat) (e:Ex) (l i:Nat),esz e<=m->(plE e).length<=n+1->vE e=true->l+1<=lvl e->AtT T i (tks (plE e))->fH l (t3 T (i+(plE e).length))=true->
 fg T (E T n) l i= .ok e (i+(plE e).length)
theorem AtT.hd{l:List Pc}(h:AtT T i (tks l))(hne:l≠[]):t3 T i=hdP l:=by cases l with|nil=>exact absurd rfl hne|cons p l=>exact h.1
theorem AtT.app'{a b:List Pc}(h:AtT T i (tks (a++b))):AtT T i (tks a)/\AtT T (i+a.length) (tks b):=by
 rw[yR]at h;have:=AtT.app h;rwa[iy]at this
theorem AtT.sp'{a:List Pc}(h:AtT T i (tks (sp a))):AtT T i (tks a):=by rwa[AM]at h
theorem cJ{k:Int}{s:ByteArray}(h:t3 T i=(k,s,v)):(tk T i).1=k/\(tk T i).2.1=s/\(tk T i).2.2.1=v:=by
 unfold t3 at h;simpa only[Prod.mk.injEq]using h
theorem aj{s:ByteArray}{k:Int}{b:Bool}(h:t3 T i=(k,s,v))(hb:isK x (k,s,v)=b):isT T x i=b:=by rw[cN,h,hb]
section
variable{m n:Nat}(ih:AE T m)
include ih
theorem inq(hm:esz a<=m)(hn:(exP (l+1) a).length<=n+1)(hv:vE a=true)(hl:l<=8)(h:AtT T i (tks (exP (l+1) a)))(hs:fH l (t3 T (i+(exP (l+1) a).length))=true):
 fg T (E T n) l i= .ok a (i+(exP (l+1) a).length):=by
 unfold exP inP at h hs hn⊢;by_cases hlt:lvl a<l+1
 ·rw[Ed hlt]at h hs hn⊢;simp only[DL,DJ,DO]at hn;have h0:t3 T i=(5,cG,0):=h.1;obtain⟨h1,h2⟩:=AtT.app' (T:=T) (i:=i+1) (a:=plE a) (b:=[py da]) h.2;obtain⟨n,rfl⟩:∃n',n=n'+1:=⟨n-1,by have:=bE a;omega⟩;have h3:t3 T (i+1+(plE a).length)=(5,da,0):=h2.1
  have hL:1<=lvl a:=by
   obtain⟨k,op,z,nm,at_,args⟩:=a;unfold lvl ap
   repeat' split
   all_goals omega
  have hr:=ih n a 0 (i+1) hm (by omega) hv hL h1 (by rw[h3];kernel_rfl);have hlen:i+(py cG::(plE a++[py da])).length=i+1+(plE a).length+1:=by simp;omega
  rw[hlen]at hs⊢;refine up (8-l) l 8 (by omega) (DK _) ?_ hs (λ_ _=>aj h0 (by kernel_rfl)) (λ_ _=>⟨aj h0 (by kernel_rfl),aj h0 (by kernel_rfl),aj h0 (by kernel_rfl)⟩);show aw T (E T (n+1)) i=_;unfold aw
  rw[(cJ h0).1,DS (by decide),DS (by decide),DS (by rw[aj h0 (show _=false by kernel_rfl)];decide),DS (by rw[aj h0 (show _=false by kernel_rfl)];decide),Ed (aj h0 (by kernel_rfl)),
   show E T (n+1) 0 (i+1)=fg T (E T n) 0 (i+1)from rfl,hr]
  simp only;rw[bu (by rw[h3];kernel_rfl)]
 ·rw[DS hlt]at h hs hn⊢;have hn:(plE a).length<=n+1:=hn;exact ih n a l i hm (by omega) hv (by omega) h hs
theorem tL:∀(q:Nat) (a:Ex),esz a<=q->esz a<=m->vE a=true->∀(l i:Nat),(exP (l+1) a).length<=n+1->l=0\/l=1\/l=4\/l=5->AtT T i (tks (exP (l+1) a))->fH (l+1) (t3 T (i+(exP (l+1) a).length))=true->
 ∃K,T.length+1<=K+(i+(exP (l+1) a).length)/\fg T (E T n) l i=dg T (fg T (E T n) (l+1)) (jF l) K a (i+(exP (l+1) a).length)
 |0,a,hq,_,_,_,_,_,_,_,_=>by have:=bE a;omega
 |q+1,a,hq,hm,hv,l,i,hn,hl,h,hs=>by
  have hlev:∀i,fg T (E T n) l i=eQ T (fg T (E T n) (l+1)) (jF l) i:=λi=>by rcases hl with rfl|rfl|rfl|rfl<;>rfl
  by_cases hc:lvl a=l+1
  ·rcases dc hv with⟨z,rfl,_,_⟩|rfl|rfl|⟨s,rfl,_⟩|⟨s,x,rfl,_,_⟩|⟨s,xs,rfl,_,_⟩|⟨s,xs,x,rfl,_,_,_⟩|⟨k,x,hk,rfl,_⟩|⟨o,x,y,ho,rfl,hx,hy⟩
   ·exact absurd (show 9=l+1 from hc) (by omega)
   ·exact absurd (show 9=l+1 from hc) (by omega)
   ·exact absurd (show 9=l+1 from hc) (by omega)
   ·exact absurd (show 9=l+1 from hc) (by omega)
   ·exact absurd (show 8=l+1 from hc) (by omega)
   ·exact absurd (show 9=l+1 from hc) (by omega)
   ·exact absurd (show 7=l+1 from hc) (by omega)
   ·rcases hk with rfl|rfl|rfl|rfl
    ·exact absurd (show 7=l+1 from hc) (by omega)
    ·exact absurd (show 7=l+1 from hc) (by omega)
    ·exact absurd (show 7=l+1 from hc) (by omega)
    ·exact absurd (show 3=l+1 from hc) (by omega)
   ·have hz:esz (cx o x y)=1+(esz x+esz y):=by simp[cx,esz,cm]
    have hc':ap (o:Int)=l+1:=hc;obtain⟨t1,_,t3'⟩:=wL ho;obtain⟨o1,o2⟩:=t1 l hl hc'
    have hP:exP (l+1) (cx o x y)=exP (l+1) x++(sp [opP o]++sp (exP (l+2) y)):=by
     unfold exP;rw[show plE (cx o x y)=inP (if ap (o:Int)=4 then 5 else ap o) (lvl x,plE x)++(sp [opP o]++sp (inP (ap (o:Int)+1) (lvl y,plE y)))from rfl,hc',DS (by omega),show lvl (cx o x y)=l+1 from hc];unfold inP;rw[DS (Fv _)]
    rw[hP]at h hs hn⊢;obtain⟨a1,a2⟩:=AtT.app' h;obtain⟨a3,a4⟩:=AtT.app' a2;have a5:t3 T (i+(exP (l+1) x).length)=(opP o).t:=a3.1;obtain⟨K,hK,hr⟩:=tL q x (by omega) (by omega) hx l i (by simp at hn;omega) hl a1 (by rw[a5];exact o2);have hlt:=fK (T:=T) (i:=i+(exP (l+1) x).length) (k:=(opP o).t.1) (s:=(opP o).t.2.1) (v:=(opP o).t.2.2) a5 t3';obtain⟨K,rfl⟩:∃K',K=K'+1:=⟨K-1,by omega⟩;have a6:=AtT.sp' a4;have hlen:i+(exP (l+1) x++(sp [opP o]++sp (exP (l+2) y))).length=i+(exP (l+1) x).length+1+(exP (l+2) y).length:=by simp[an];omega
    rw[hlen]at hs⊢;have hy':=inq ih (n:=n) (a:=y) (l:=l+1) (i:=i+(exP (l+1) x).length+1) (by omega) (by show(exP (l+2) y).length<=n+1;simp[an]at hn;omega) hy (by omega) (by simpa[sp]using a6) hs;refine⟨K,by omega,?_⟩;rw[hr];show(match opT T (jF l) (i+(exP (l+1) x).length)with|none=>_|some o=>_)=_;rw[iB,a5,o1];simp only;rw[hy']
  ·have hP:exP (l+1) a=exP (l+1+1) a:=by
    unfold exP inP;by_cases h1:lvl a<l+1
    ·rw[Ed h1,Ed (by omega)]
    ·rw[DS h1,DS (by omega)]
   rw[hP]at h hs hn⊢;have hr:=inq ih (n:=n) (l:=l+1) hm hn hv (by omega) h hs;refine⟨T.length+1,by omega,?_⟩;rw[hlev];unfold eQ;rw[hr]
theorem xS:∀(q:Nat) (a:Ex),esz a<=q->esz a<=m->(exP 8 a).length<=n+1->vE a=true->∀(i:Nat),AtT T i (tks (exP 8 a))->fH 8 (t3 T (i+(exP 8 a).length))=true->
 ∃K,T.length+1<=K+(i+(exP 8 a).length)/\fg T (E T n) 7 i=cg T K a (i+(exP 8 a).length)
 |0,a,hq,_,_,_,_,_,_=>by have:=bE a;omega
 |q+1,a,hq,hm,hn,hv,i,h,hs=>by
  by_cases hc:lvl a=8
  ·rcases dc hv with⟨z,rfl,_,_⟩|rfl|rfl|⟨s,rfl,_⟩|⟨s,x,rfl,_,hx⟩|⟨s,xs,rfl,_,_⟩|⟨s,xs,x,rfl,_,_,_⟩|⟨k,x,hk,rfl,_⟩|⟨o,x,y,ho,rfl,hx,hy⟩
   ·exact absurd (show 9=8 from hc) (by omega)
   ·exact absurd (show 9=8 from hc) (by omega)
   ·exact absurd (show 9=8 from hc) (by omega)
   ·exact absurd (show 9=8 from hc) (by omega)
   ·have hz:esz (aR s x)=1+esz x:=by simp[aR,esz,cm]
    have hP:exP 8 (aR s x)=exP 8 x++[py DOT,pn s]:=rfl;rw[hP]at h hs hn⊢;obtain⟨a1,a2⟩:=AtT.app' h;have a5:t3 T (i+(exP 8 x).length)=(5,DOT,0):=a2.1;have a6:t3 T (i+(exP 8 x).length+1)=(2,s,0):=a2.2.1;obtain⟨K,hK,hr⟩:=xS q x (by omega) (by omega) (by simp at hn;omega) hx i a1 (by rw[a5];kernel_rfl);have hlt:=fK a5 (by decide);obtain⟨K,rfl⟩:∃K',K=K'+1:=⟨K-1,by omega⟩;have hlen:i+(exP 8 x++[py DOT,pn s]).length=i+(exP 8 x).length+1+1:=by simp;omega
    rw[hlen];refine⟨K,by omega,?_⟩;rw[hr];show(if isT T DOT (i+(exP 8 x).length)=true then _ else _)=_;rw[Ed (aj a5 (by kernel_rfl)),cw a6]
   ·exact absurd (show 9=8 from hc) (by omega)
   ·exact absurd (show 7=8 from hc) (by omega)
   ·rcases hk with rfl|rfl|rfl|rfl
    ·exact absurd (show 7=8 from hc) (by omega)
    ·exact absurd (show 7=8 from hc) (by omega)
    ·exact absurd (show 7=8 from hc) (by omega)
    ·exact absurd (show 3=8 from hc) (by omega)
   ·have:=fi o ho;exact absurd (show ap (o:Int)=8 from hc) (by omega)
  ·have hP:exP 8 a=exP 9 a:=by
    unfold exP inP;by_cases h1:lvl a<8
    ·rw[Ed h1,Ed (by omega)]
    ·rw[DS h1,DS (by omega)]
   rw[hP]at h hs hn⊢;have hr:=inq ih (n:=n) (l:=8) hm hn hv (by omega) h hs;refine⟨T.length+1,by omega,?_⟩;show cj T (E T n) i=_;unfold cj;rw[show aw T (E T n) i=_ from hr]
theorem tf:∀(l:List Ex) (xs:List Ex) (K i:Nat),(∀a∈l,esz a<=m/\(plE a).length<=n+1/\vE a=true)->T.length+1<=K+i->AtT T i (tks (dA (plL l)))->
 dt T (E T (n+1) 0) K xs i= .ok (xs++l) (i+(dA (plL l)).length)
 |[],xs,K,i,_,hK,h=>by
  have h0:t3 T i=(5,da,0):=h.1;have hlt:=fK h0 (by decide);obtain⟨K,rfl⟩:∃K',K=K'+1:=⟨K-1,by omega⟩;unfold dt;rw[DS (by rw[aj h0 (show _=false by kernel_rfl)];decide),bu (by rw[h0];kernel_rfl),Eo];rfl
 |a::l,xs,K,i,hl,hK,h=>by
  obtain⟨h1,h2,h3⟩:=hl a (by simp);have h0:t3 T i=(5,iw,0):=h.1;have hlt:=fK h0 (by decide);obtain⟨K,rfl⟩:∃K',K=K'+1:=⟨K-1,by omega⟩;obtain⟨a1,a2⟩:=AtT.app' (T:=T) (i:=i+1) (a:=sp (plE a)) (b:=dA (plL l)) h.2;have a3:=AtT.sp' a1;rw[an]at a2
  have hnx:fH 0 (t3 T (i+1+(plE a).length))=true:=by
   cases l with
   |nil=>rw[show t3 T (i+1+(plE a).length)=(5,da,0)from a2.1];kernel_rfl
   |cons b l=>rw[show t3 T (i+1+(plE a).length)=(5,iw,0)from a2.1];kernel_rfl
  have hL:1<=lvl a:=by
   obtain⟨k,op,z,nm,at_,args⟩:=a;unfold lvl ap
   repeat' split
   all_goals omega
  have hr:=ih n a 0 (i+1) h1 (by omega) h3 hL a3 hnx;unfold dt;rw[Ed (aj h0 (by kernel_rfl)),show E T (n+1) 0 (i+1)=fg T (E T n) 0 (i+1)from rfl,hr];simp only;rw[tf l (xs++[a]) K (i+1+(plE a).length) (λb hb=>hl b (by simp[hb])) (by omega) a2];simp[plL,dA,an];omega
theorem oE{l:List Ex}(hl:∀a∈l,esz a<=m/\(plE a).length<=n+1/\vE a=true)(h:AtT T i (tks (aq (plL l)))):bZ T (E T (n+1) 0) i= .ok l (i+(aq (plL l)).length):=by
 cases l with
 |nil=>
  have h0:t3 T i=(5,cG,0):=h.1;have h1:t3 T (i+1)=(5,da,0):=h.2.1;unfold bZ;rw[bu (by rw[h0];kernel_rfl)];simp only;rw[Ed (aj h1 (by kernel_rfl))];rfl
 |cons a l=>
  obtain⟨h1,h2,h3⟩:=hl a (by simp);have h0:t3 T i=(5,cG,0):=h.1;obtain⟨a3,a2⟩:=AtT.app' (T:=T) (i:=i+1) (a:=plE a) (b:=dA (plL l)) h.2
  have hnx:fH 0 (t3 T (i+1+(plE a).length))=true:=by
   cases l with
   |nil=>rw[show t3 T (i+1+(plE a).length)=(5,da,0)from a2.1];kernel_rfl
   |cons b l=>rw[show t3 T (i+1+(plE a).length)=(5,iw,0)from a2.1];kernel_rfl
  have hL:1<=lvl a:=by
   obtain⟨k,op,z,nm,at_,args⟩:=a;unfold lvl ap
   repeat' split
   all_goals omega
  have hr:=ih n a 0 (i+1) h1 (by omega) h3 hL a3 hnx
  have hf:isT T da (i+1)=false:=by
   rw[cN,a3.hd (cE a)];exact(sB _ a (DK _) h3).not (by kernel_rfl)
  unfold bZ;rw[bu (by rw[h0];kernel_rfl)];simp only;rw[DS (by rw[hf];decide),show E T (n+1) 0 (i+1)=fg T (E T n) 0 (i+1)from rfl,hr];simp only;rw[tf ih l [a] (T.length+1) (i+1+(plE a).length) (λb hb=>hl b (by simp[hb])) (by omega) a2];simp[plL,aq];omega
end
end
theorem tg(a:Ex):1<=lvl a:=by
 obtain⟨k,op,z,nm,at_,args⟩:=a;unfold lvl ap
 repeat' split
 all_goals omega
theorem iI{l:List Ex}(h:a∈l):esz a<=cm l:=by
 induction l with
 |nil=>cases h
 |cons b l ih=>
  unfold cm;rcases DY.1 h with rfl|h
  ·omega
  ·have:=ih h;omega
theorem mS(l:List Ex)(a:Ex):cm (l++[a])=cm l+esz a:=by
 induction l with
 |nil=>simp[cm]
 |cons b l ih=>rw[EK,cm,ih,cm];omega
theorem ox(l:List Ex)(a:Ex):plL (l++[a])=plL l++[(lvl a,plE a)]:=by rw[mq,mq];simp
theorem qc:∀{l:List Ex} {a:Ex},a∈l->(plE a).length+2<=(dA (plL l)).length
 |b::l,a,h=>by
  rw[plL,dA];simp only[DL,DJ,an];rcases DY.1 h with rfl|h
  ·have:1<=(dA (plL l)).length:=by cases l<;>simp[plL,dA]
   omega
  ·have:=qc h;omega
theorem jK{l:List Ex}(h:a∈l):(plE a).length+2<=(aq (plL l)).length:=by
 cases l with
 |nil=>cases h
 |cons b l=>
  rw[plL,aq];simp only[DL,DJ];rcases DY.1 h with rfl|h
  ·have:1<=(dA (plL l)).length:=by cases l<;>simp[plL,dA]
   omega
  ·have:=qc h;omega
theorem tI(r:Nat)(a:Ex):1<=(exP r a).length:=List.length_pos_iff.2 (eH (cE a))
section
variable{T:List Tk}
theorem Bp(h:AtT T i (tks (aq []))):bZ T f i= .ok [] (i+2):=by
 have h0:t3 T i=(5,cG,0):=h.1;have h1:t3 T (i+1)=(5,da,0):=h.2.1;unfold bZ;rw[bu (by rw[h0];kernel_rfl)];simp only;rw[Ed (aj h1 (by kernel_rfl))]
theorem good:∀m,AE T m
 |0,n,e,l,i,hm,_,_,_,_,_=>by have:=bE e;omega
 |m+1,n,e,l,i,hm,hn,hv,hl,h,hs=>by
  have ih:=good m
  have leaf:∀{e:Ex} {p:Pc},plE e=[p]->lvl e=9->e=e->t3 T i=p.t->aw T (E T n) i= .ok e (i+1)->(∀x,isK x p.t=false)\/(isK dE p.t=false/\isK bK p.t=false/\isK ca p.t=false/\isK dT p.t=false)->
   fH l (t3 T (i+1))=true->l<=8->fg T (E T n) l i= .ok e (i+1):=λ_ _ _ h0 ho hf hs h8=>by
   have hf':∀x,x=dE\/x=bK\/x=ca\/x=dT->isT T x i=false:=λx hx=>by
    rw[cN,h0];rcases hf with hf|⟨a,b,c,d⟩
    ·exact hf x
    ·rcases hx with rfl|rfl|rfl|rfl
     ·exact a
     ·exact b
     ·exact c
     ·exact d
   exact up (8-l) l 8 (by omega) (DK _) ho hs (λ_ _=>hf' _ (.inl rfl)) (λ_ _=>⟨hf' _ (.inr (.inl rfl)),hf' _ (.inr (.inr (.inl rfl))),hf' _ (.inr (.inr (.inr rfl)))⟩)
  have kd:∀(x:ByteArray) (k:Int) (s:ByteArray) (v:Int),k≠4->k≠5->isK x (k,s,v)=false:=λx k s v h4 h5=>by unfold isK;simp[h4,h5]
  have h8:l<=8:=by
   have:lvl e<=9:=by
    obtain⟨k,op,z,nm,at_,args⟩:=e;unfold lvl ap
    repeat' split
    all_goals omega
   omega
  rcases dc hv with⟨z,rfl,_,_⟩|rfl|rfl|⟨s,rfl,_⟩|⟨s,a,rfl,_,ha⟩|⟨s,xs,rfl,_,hxs⟩|⟨s,xs,a,rfl,_,hxs,ha⟩|⟨k,a,hk,rfl,ha⟩|⟨o,a,b,ho,rfl,ha,hb⟩
  ·have h0:t3 T i=(1,⟨(Lib.itoa z).toArray⟩,z):=h.1;refine leaf (p:=pz z) rfl rfl rfl h0 ?_ (.inl λx=>kd x 1 _ _ (by decide) (by decide)) hs h8;unfold aw;rw[Ed (cJ h0).1,(cJ h0).2.2]
  ·have h0:t3 T i=(4,gJ,0):=h.1;refine leaf (p:=pk gJ) rfl rfl rfl h0 ?_ (.inr ⟨by kernel_rfl,by kernel_rfl,by kernel_rfl,by kernel_rfl⟩) hs h8;unfold aw;rw[(cJ h0).1,DS (by decide),DS (by decide),Ed (aj h0 (by kernel_rfl))]
  ·have h0:t3 T i=(4,ew,0):=h.1;refine leaf (p:=pk ew) rfl rfl rfl h0 ?_ (.inr ⟨by kernel_rfl,by kernel_rfl,by kernel_rfl,by kernel_rfl⟩) hs h8;unfold aw;rw[(cJ h0).1,DS (by decide),DS (by decide),DS (by rw[aj h0 (show _=false by kernel_rfl)];decide),Ed (aj h0 (by kernel_rfl))]
  ·have h0:t3 T i=(2,s,0):=h.1;refine leaf (p:=pn s) rfl rfl rfl h0 ?_ (.inl λx=>kd x 2 _ _ (by decide) (by decide)) hs h8;unfold aw;rw[(cJ h0).1,DS (by decide),Ed rfl,(cJ h0).2.1]
  ·have hz:esz (aR s a)=1+esz a:=by simp[aR,esz,cm]
   have hlv:lvl (aR s a)=8:=rfl;obtain⟨f1,f2⟩:=rW _ (aR s a) (DK _) hv;have hh:=h.hd (cE _);have hP:exP 8 (aR s a)=plE (aR s a):=rfl
   obtain⟨K,hK,hr⟩:=xS ih (n:=n) (esz (aR s a)+1) a (by omega) (by omega) (by rw[show plE (aR s a)=exP 8 a++[py DOT,pn s]from rfl]at hn;simp at hn;omega) ha i (AtT.app' (a:=exP 8 a) (b:=[py DOT,pn s]) h).1 (by
    rw[show t3 T (i+(exP 8 a).length)=(5,DOT,0)from(AtT.app' (a:=exP 8 a) (b:=[py DOT,pn s]) h).2.1];kernel_rfl)
   have a5:t3 T (i+(exP 8 a).length)=(5,DOT,0):=(AtT.app' (a:=exP 8 a) (b:=[py DOT,pn s]) h).2.1;have a6:t3 T (i+(exP 8 a).length+1)=(2,s,0):=(AtT.app' (a:=exP 8 a) (b:=[py DOT,pn s]) h).2.2.1;have hlt:=fK a5 (by decide);have hlt2:=fK a6 (by decide);obtain⟨K,rfl⟩:∃K',K=K'+1:=⟨K-1,by omega⟩;obtain⟨K,rfl⟩:∃K',K=K'+1:=⟨K-1,by omega⟩;have hlen:i+(plE (aR s a)).length=i+(exP 8 a).length+1+1:=by rw[show plE (aR s a)=exP 8 a++[py DOT,pn s]from rfl];simp;omega
   rw[hlen]at hs⊢;refine up (7-l) l 7 (by omega) (by omega) ?_ hs (λ_ _=>by rw[cN,hh];exact f1 (by omega)) (λ_ _=>⟨by rw[cN,hh];exact(f2 (by omega)).1,by rw[cN,hh];exact(f2 (by omega)).2.1,by rw[cN,hh];exact(f2 (by omega)).2.2⟩);rw[hr];show(if isT T DOT (i+(exP 8 a).length)=true then _ else _)=_;rw[Ed (aj a5 (by kernel_rfl)),cw a6];simp only;have hd:=cT hs (show l<=7 by omega);unfold fH at hd;simp only[Ee,EY,Ep]at hd;have hd2:=hd.2.1.resolve_left (by omega);show(if isT T DOT (i+(exP 8 a).length+1+1)=true then _ else _)=_;rw[DS (by rw[cN];simpa using hd2)]
  ·have h0:t3 T i=(4,dx,0):=h.1;have h1:t3 T (i+1)=(3,s,0):=h.2.1;have hz:esz (.mk 5 0 0 s false xs)=1+cm xs:=by rw[esz]
   have h2:AtT T (i+1+1) (tks (aq (plL xs))):=h.2.2;have hlen:i+(plE (.mk 5 0 0 s false xs)).length=i+1+1+(aq (plL xs)).length:=by rw[show plE (.mk 5 0 0 s false xs)=pk dx::(sp [pc s]++aq (plL xs))from rfl];simp[sp];omega
   rw[hlen]at hs⊢
   have hlist:bZ T (E T n 0) (i+1+1)= .ok xs (i+1+1+(aq (plL xs)).length):=by
    cases xs with
    |nil=>exact Bp h2
    |cons x xs=>
     obtain⟨n,rfl⟩:∃n',n=n'+1:=⟨n-1,by have:2<=(aq (plL (x::xs))).length:=by{have:=jK (l:=x::xs) (a:=x) (by simp);omega};omega⟩;exact oE ih (λa ha=>by have:=iI ha;have:=jK ha;exact⟨by omega,by omega,cI hxs a ha⟩) h2
   have hat:isT T kAt (i+1+1+(aq (plL xs)).length)=false:=by
    have hd:=cT hs h8;unfold fH at hd;simp only[Ee]at hd;rw[cN];simpa using hd.1
   refine up (8-l) l 8 (by omega) (DK _) ?_ hs (λ_ _=>aj h0 (by kernel_rfl)) (λ_ _=>⟨aj h0 (by kernel_rfl),aj h0 (by kernel_rfl),aj h0 (by kernel_rfl)⟩);show aw T (E T n) i=_;unfold aw lu
   rw[(cJ h0).1,DS (by decide),DS (by decide),DS (by rw[aj h0 (show _=false by kernel_rfl)];decide),DS (by rw[aj h0 (show _=false by kernel_rfl)];decide),DS (by rw[aj h0 (show _=false by kernel_rfl)];decide),
    bu (by rw[h0];kernel_rfl)]
   simp only;rw[cw h1];simp only;rw[hlist];simp only;rw[DS (by rw[hat];decide)]
  ·have h0:t3 T i=(4,dx,0):=h.1;have h1:t3 T (i+1)=(3,s,0):=h.2.1;have hz:esz (.mk 5 0 0 s true (xs++[a]))=1+(cm xs+esz a):=by rw[esz,mS]
   have hP:plE (.mk 5 0 0 s true (xs++[a]))=pk dx::(sp [pc s]++(aq (plL xs)++(sp [pk kAt]++sp (exP 7 a)))):=by
    rw[plE,ox];show pk dx::(sp [pc s]++(aq (plL xs++[(lvl a,plE a)]).dropLast++(sp [pk kAt]++sp (inP 7 ((plL xs++[(lvl a,plE a)]).getLastD dX)))))=_;rw[List.dropLast_concat];simp[exP]
   rw[hP]at h hs hn⊢;obtain⟨a1,a2⟩:=AtT.app' (T:=T) (i:=i+1+1) (a:=aq (plL xs)) (b:=sp [pk kAt]++sp (exP 7 a)) h.2.2;have a3:t3 T (i+1+1+(aq (plL xs)).length)=(4,kAt,0):=a2.1;have a4:AtT T (i+1+1+(aq (plL xs)).length+1) (tks (exP 7 a)):=AtT.sp' a2.2;have hlen:i+(pk dx::(sp [pc s]++(aq (plL xs)++(sp [pk kAt]++sp (exP 7 a))))).length=i+1+1+(aq (plL xs)).length+1+(exP 7 a).length:=by simp[an];omega
   rw[hlen]at hs⊢;have hl6:l<=6:=by have:lvl (.mk 5 0 0 s true (xs++[a]))=7:=rfl;omega
   obtain⟨n,rfl⟩:∃n',n=n'+1:=⟨n-1,by omega⟩
   have hlist:bZ T (E T (n+1) 0) (i+1+1)= .ok xs (i+1+1+(aq (plL xs)).length):=
    oE ih (λb hb=>by have:=iI hb;have:=jK hb;exact⟨by omega,by omega,cI hxs b hb⟩) a1
   have hy:fg T (E T n) 6 (i+1+1+(aq (plL xs)).length+1)= .ok a (i+1+1+(aq (plL xs)).length+1+(exP 7 a).length):=
    inq ih (by omega) (by show(exP 7 a).length<=n+1;omega) ha (by omega) a4 (cT hs hl6)
   have hoper:aw T (E T (n+1)) i= .ok (.mk 5 0 0 s true (xs++[a])) (i+1+1+(aq (plL xs)).length+1+(exP 7 a).length):=by
    unfold aw lu
    rw[(cJ h0).1,DS (by decide),DS (by decide),DS (by rw[aj h0 (show _=false by kernel_rfl)];decide),DS (by rw[aj h0 (show _=false by kernel_rfl)];decide),DS (by rw[aj h0 (show _=false by kernel_rfl)];decide),
     bu (by rw[h0];kernel_rfl)]
    simp only;rw[cw h1];simp only;rw[hlist];simp only;rw[Ed (aj a3 (by kernel_rfl)),show E T (n+1) 6 (i+1+1+(aq (plL xs)).length+1)=fg T (E T n) 6 _ from rfl,hy]
   exact up (8-l) l 8 (by omega) (DK _) hoper hs (λ_ _=>aj h0 (by kernel_rfl)) (λ_ _=>⟨aj h0 (by kernel_rfl),aj h0 (by kernel_rfl),aj h0 (by kernel_rfl)⟩)
  ·have hz:esz (eUn k a)=1+esz a:=by simp[eUn,esz,cm]
   have p7:=tI 7 a;have p3:=tI 3 a
   obtain⟨n,rfl⟩:∃n',n=n'+1:=⟨n-1,by
    have:(plE (eUn k a)).length=1+(exP 7 a).length\/(plE (eUn k a)).length=1+(exP 3 a).length:=by
     rcases hk with rfl|rfl|rfl|rfl
     ·exact .inl (by rw[show plE (eUn 6 a)=pk ca::sp (exP 7 a)from rfl];simp[an];omega)
     ·exact .inl (by rw[show plE (eUn 7 a)=pk dT::sp (exP 7 a)from rfl];simp[an];omega)
     ·exact .inl (by rw[show plE (eUn 8 a)=py bK::exP 7 a from rfl];simp;omega)
     ·exact .inr (by rw[show plE (eUn 9 a)=pk dE::sp (exP 3 a)from rfl];simp[an];omega)
    omega⟩
   have hrec:∀(r j:Nat),(exP (r+1) a).length<=n+1->r<=8->AtT T j (tks (exP (r+1) a))->fH r (t3 T (j+(exP (r+1) a).length))=true->E T (n+1) r j= .ok a (j+(exP (r+1) a).length):=
    λr j hL hr hA hS=>inq (n:=n) ih (by omega) hL ha hr hA hS
   rcases hk with rfl|rfl|rfl|rfl
   ·have h0:t3 T i=(4,ca,0):=h.1;have h1:AtT T (i+1) (tks (exP 7 a)):=AtT.sp' h.2;have hlen:i+(plE (eUn 6 a)).length=i+1+(exP 7 a).length:=by rw[show plE (eUn 6 a)=pk ca::sp (exP 7 a)from rfl];simp[an];omega
    have hl6:l<=6:=by have:lvl (eUn 6 a)=7:=rfl;omega
    rw[hlen]at hs⊢;refine up (6-l) l 6 (by omega) (by omega) ?_ hs (λ_ _=>aj h0 (by kernel_rfl)) (λ_ h=>absurd h (by omega));show co T (E T (n+1)) i=_;unfold co ev;rw[DS (by rw[aj h0 (show _=false by kernel_rfl)];decide),Ed (aj h0 (by kernel_rfl)),hrec 6 (i+1) (by show(exP 7 a).length<=n+1;omega) (by omega) h1 (cT hs hl6)]
   ·have h0:t3 T i=(4,dT,0):=h.1;have h1:AtT T (i+1) (tks (exP 7 a)):=AtT.sp' h.2;have hlen:i+(plE (eUn 7 a)).length=i+1+(exP 7 a).length:=by rw[show plE (eUn 7 a)=pk dT::sp (exP 7 a)from rfl];simp[an];omega
    have hl6:l<=6:=by have:lvl (eUn 7 a)=7:=rfl;omega
    rw[hlen]at hs⊢;refine up (6-l) l 6 (by omega) (by omega) ?_ hs (λ_ _=>aj h0 (by kernel_rfl)) (λ_ h=>absurd h (by omega));show co T (E T (n+1)) i=_;unfold co ev;rw[DS (by rw[aj h0 (show _=false by kernel_rfl)];decide),DS (by rw[aj h0 (show _=false by kernel_rfl)];decide),Ed (aj h0 (by kernel_rfl)),hrec 6 (i+1) (by show(exP 7 a).length<=n+1;omega) (by omega) h1 (cT hs hl6)]
   ·have h0:t3 T i=(5,bK,0):=h.1;have h1:AtT T (i+1) (tks (exP 7 a)):=h.2;have hlen:i+(plE (eUn 8 a)).length=i+1+(exP 7 a).length:=by rw[show plE (eUn 8 a)=py bK::exP 7 a from rfl];simp;omega
    have hl6:l<=6:=by have:lvl (eUn 8 a)=7:=rfl;omega
    rw[hlen]at hs⊢;refine up (6-l) l 6 (by omega) (by omega) ?_ hs (λ_ _=>aj h0 (by kernel_rfl)) (λ_ h=>absurd h (by omega));show co T (E T (n+1)) i=_;unfold co ev;rw[Ed (aj h0 (by kernel_rfl)),hrec 6 (i+1) (by show(exP 7 a).length<=n+1;omega) (by omega) h1 (cT hs hl6)]
   ·have h0:t3 T i=(4,dE,0):=h.1;have h1:AtT T (i+1) (tks (exP 3 a)):=AtT.sp' h.2;have hlen:i+(plE (eUn 9 a)).length=i+1+(exP 3 a).length:=by rw[show plE (eUn 9 a)=pk dE::sp (exP 3 a)from rfl];simp[an];omega
    have hl2:l<=2:=by have:lvl (eUn 9 a)=3:=rfl;omega
    rw[hlen]at hs⊢;refine up (2-l) l 2 (by omega) (by omega) ?_ hs (λ_ h=>absurd h (by omega)) (λ_ h=>absurd h (by omega));show iO T (E T (n+1)) i=_;unfold iO ev;rw[Ed (aj h0 (by kernel_rfl)),hrec 2 (i+1) (by show(exP 3 a).length<=n+1;omega) (by omega) h1 (cT hs hl2)]
  ·have hz:esz (cx o a b)=1+(esz a+esz b):=by simp[cx,esz,cm]
   have hlv:lvl (cx o a b)=ap o:=rfl;have hf:=rW _ (cx o a b) (DK _) hv;have hh:=h.hd (cE _);obtain⟨t1,t2,t3'⟩:=wL ho;have hone:=fi o ho;by_cases h4:ap (o:Int)=4
   ·obtain⟨o1,o2⟩:=t2 h4
    have hP:plE (cx o a b)=exP 5 a++(sp [opP o]++sp (exP 5 b)):=by
     show inP (if ap (o:Int)=4 then 5 else ap o) (lvl a,plE a)++(sp [opP o]++sp (inP (ap (o:Int)+1) (lvl b,plE b)))=_;rw[h4,Ed rfl];rfl
    rw[hP]at h hs hn⊢;obtain⟨a1,a2⟩:=AtT.app' h;obtain⟨a3,a4⟩:=AtT.app' a2;have a5:t3 T (i+(exP 5 a).length)=(opP o).t:=a3.1;have a6:AtT T (i+(exP 5 a).length+1) (tks (exP 5 b)):=by simpa[sp]using AtT.sp' a4
    have hlen:i+(exP 5 a++(sp [opP o]++sp (exP 5 b))).length=i+(exP 5 a).length+1+(exP 5 b).length:=by simp[an];omega
    rw[hlen]at hs⊢;have hl3:l<=3:=by omega
    refine up (3-l) l 3 (by omega) (by omega) ?_ hs (λ_ _=>by rw[cN,hh];exact hf.1 (by omega)) (λ_ h=>absurd h (by omega));show cz T (E T n) i=_;unfold cz;rw[show jb T (E T n) i=fg T (E T n) 4 i from rfl,inq ih (n:=n) (l:=4) (by omega) (by show(exP 5 a).length<=n+1;omega) ha (by omega) a1 (by rw[a5];exact o2)];simp only;rw[iB,a5,o1];simp only;rw[show jb T (E T n) (i+(exP 5 a).length+1)=fg T (E T n) 4 _ from rfl,inq ih (n:=n) (l:=4) (by omega) (by show(exP 5 b).length<=n+1;omega) hb (by omega) a6 (cT hs (by omega))]
   ·obtain⟨q,hq,hql⟩:∃q,(q=0\/q=1\/q=4\/q=5)/\ap (o:Int)=q+1:=⟨ap (o:Int)-1,by omega,by omega⟩;have hP:exP (q+1) (cx o a b)=plE (cx o a b):=by unfold exP inP;rw[DS (by omega)]
    have hlev:fg T (E T n) q i=eQ T (fg T (E T n) (q+1)) (jF q) i:=by rcases hq with rfl|rfl|rfl|rfl<;>rfl
    have hstop:=cT hs (show l<=q by omega);obtain⟨o1,o2⟩:=t1 q hq hql
    have hP2:plE (cx o a b)=exP (q+1) a++(sp [opP o]++sp (exP (q+2) b)):=by
     show inP (if ap (o:Int)=4 then 5 else ap o) (lvl a,plE a)++(sp [opP o]++sp (inP (ap (o:Int)+1) (lvl b,plE b)))=_;rw[DS h4,hql];rfl
    rw[hP2]at h hs hn hstop⊢;obtain⟨a1,a2⟩:=AtT.app' h;obtain⟨a3,a4⟩:=AtT.app' a2;have a5:t3 T (i+(exP (q+1) a).length)=(opP o).t:=a3.1;have a6:AtT T (i+(exP (q+1) a).length+1) (tks (exP (q+2) b)):=by simpa[sp]using AtT.sp' a4
    have hlen:i+(exP (q+1) a++(sp [opP o]++sp (exP (q+2) b))).length=i+(exP (q+1) a).length+1+(exP (q+2) b).length:=by simp[an];omega
    rw[hlen]at hs hstop⊢;obtain⟨K,hK,hr⟩:=tL ih (n:=n) (esz a) a (DK _) (by omega) ha q i (by omega) hq a1 (by rw[a5];exact o2);have hlt:=fK (T:=T) (i:=i+(exP (q+1) a).length) (k:=(opP o).t.1) (s:=(opP o).t.2.1) (v:=(opP o).t.2.2) a5 t3';obtain⟨K,rfl⟩:∃K',K=K'+1:=⟨K-1,by omega⟩;have hy':=inq ih (n:=n) (a:=b) (l:=q+1) (i:=i+(exP (q+1) a).length+1) (by omega) (by show(exP (q+2) b).length<=n+1;omega) hb (by omega) a6 (cT hstop (by omega))
    have hlast:(opK (jF q) (t3 T (i+(exP (q+1) a).length+1+(exP (q+2) b).length))).isNone=true:=by
     unfold fH at hstop;simp only[Ee,EY,Ep]at hstop;obtain⟨s1,s2,s3,s4,s5,s6,s7⟩:=hstop;rcases hq with rfl|rfl|rfl|rfl
     ·exact s7.resolve_left (by omega)
     ·exact s6.resolve_left (by omega)
     ·exact s4.resolve_left (by omega)
     ·exact s3.resolve_left (by omega)
    have hKl:∃K',K=K'+1:=by
     refine⟨K-1,?_⟩;have hbl:0<(exP (q+2) b).length:=List.length_pos_iff.2 (eH (cE b));have hb0:=a6.hd (eH (cE b))
     have:i+(exP (q+1) a).length+1<T.length:=by
      have hbg:=Beg.in_ (q+2) hb;refine fK (k:=(hdP (exP (q+2) b)).1) (s:=(hdP (exP (q+2) b)).2.1) (v:=(hdP (exP (q+2) b)).2.2) hb0 ?_;rcases hbg with h|h|h
      ·omega
      ·omega
      ·simp only[DY,DX,Ew]at h;rcases h with h|h|h|h|h|h|h|h<;>rw[h]<;>decide
     omega
    obtain⟨K,rfl⟩:=hKl;refine up (q-l) l q (by omega) (by omega) ?_ hs (λhl2 hq2=>by rw[cN,hh];exact hf.1 (by omega)) (λ_ h=>absurd h (by omega));rw[hr];show(match opT T (jF q) (i+(exP (q+1) a).length)with|none=>_|some o=>_)=_;rw[iB,a5,o1];simp only;rw[hy'];simp only;show(match opT T (jF q) (i+(exP (q+1) a).length+1+(exP (q+2) b).length)with|none=>_|some o=>_)=_;rw[iB,Option.isNone_iff_eq_none.1 hlast]
end
def uu(x:List UInt8):List Pc->List Pc
 |[]=>[]
 |p::l=>{p with pre:=x++p.pre}::l
def eP(x:List UInt8):List Pc->List Pc
 |[]=>[]
 |[p]=>[{p with post:=p.post++x}]
 |p::q::l=>p::eP x (q::l)
def bi(d:Nat):List UInt8:=List.replicate (2*d) 32
def ln(d:Nat)(l:List Pc):List Pc:=uu (bi d) (eP [10] l)
theorem yQ(x:List UInt8):∀l,tks (uu x l)=tks l
 |[]=>rfl
 |_::_=>rfl
theorem pA(x:List UInt8):∀l,tks (eP x l)=tks l
 |[]=>rfl
 |[_]=>rfl
 |p::q::l=>by rw[eP];show p.t::tks (eP x (q::l))=_;rw[pA x (q::l)];rfl
theorem vF(d:Nat)(l:List Pc):tks (ln d l)=tks l:=by unfold ln;rw[yQ,pA]
theorem bn(d:Nat)(l:List Pc):(ln d l).length=l.length:=by rw[<-iy,vF,iy]
theorem qh{l:List Pc}(h:l≠[]):ln d l≠[]:=λe=>h (FB.1 (by rw[<-bn d l,e];rfl))
def stP(k:Int)(nm:ByteArray)(xs:List (Nat×List Pc))(d:Nat)(b e:List Pc)(noElse:Bool):List Pc:=
 if k=0 then ln d (pk gW::(sp [pn nm]++(sp [py bL]++(sp (inP 1 (xs.getD 0 dX))++[py aN]))))
 else if k=1 then ln d (pn nm::(sp [py bL]++(sp (inP 1 (xs.getD 0 dX))++[py aN])))
 else if k=2 then ln d (inP 9 (xs.getD 0 dX)++(py DOT::pn nm::(sp [py bL]++(sp (inP 1 (xs.getD 1 dX))++[py aN]))))
 else if k=3 then ln d (pk kIf::(sp (inP 1 (xs.getD 0 dX))++sp [py cu]))++(b++((if noElse=true then[]else ln d (py ci::(sp [pk ey]++sp [py cu]))++e)++ln d [py ci]))
 else if k=4 then ln d (pk dD::(sp (inP 1 (xs.getD 0 dX))++sp [py cu]))++(b++ln d [py ci])
 else if k=5 then ln d (pk fa::(sp (inP 8 (xs.getD 0 dX))++(py DOT::pn nm::(aq xs.tail++[py aN]))))
 else if k=6 then ln d (pk dS::(sp (inP 1 (xs.getD 0 dX))++[py aN]))
 else if k=7 then ln d (pk fM::(sp (inP 1 (xs.getD 0 dX))++(sp [pk kTo]++(sp (inP 1 (xs.getD 1 dX))++[py aN]))))
 else if k=8 then ln d (pk eE::(sp (inP 1 (xs.getD 0 dX))++(sp [pk kBy]++(sp [pn nm]++(aq xs.tail++[py aN])))))
 else ln d [pk dQ,py aN]
mutual
def plS:St->Nat->List Pc
 | .mk k nm ex b e,d=>stP k nm (plL ex) d (bX b (d+1)) (bX e (d+1)) e.isEmpty
def bX:List St->Nat->List Pc
 |[],_=>[]
 |s::l,d=>plS s d++bX l d
end
def stB(k:Int)(nm:ByteArray)(n:Nat)(b e:Bool):Bool:=
 if k=0\/k=1 then aO nm 97 122&&decide (n=1)&&b&&e
 else if k=2\/k=8 then aO nm 97 122&&decide (n=2)&&b&&e
 else if k=3 then decide (nm=⟨#[]⟩)&&decide (n=1)
 else if k=4 then decide (nm=⟨#[]⟩)&&decide (n=1)&&e
 else if k=5 then aO nm 97 122&&decide (1<=n)&&b&&e
 else if k=6 then decide (nm=⟨#[]⟩)&&decide (n=1)&&b&&e
 else if k=7 then decide (nm=⟨#[]⟩)&&decide (n=2)&&b&&e
 else if k=9 then decide (nm=⟨#[]⟩)&&decide (n=0)&&b&&e else false
mutual
def vS:St->Bool
 | .mk k nm ex b e=>stB k nm ex.length b.isEmpty e.isEmpty&&(vEs ex&&(vSs b&&vSs e))
def vSs:List St->Bool
 |[]=>true
 |s::l=>vS s&&vSs l
end
theorem oA{l:List α}(h:l.length=1):∃a,l=[a]:=by
 match l,h with
 |[a],_=>exact⟨a,rfl⟩
theorem vz{l:List α}(h:l.length=2):∃a b,l=[a,b]:=by
 match l,h with
 |[a,b],_=>exact⟨a,b,rfl⟩
theorem iY(h:vEs [a]=true):vE a=true:=cI h a (by simp)
theorem qV{b:Ex}(h:vEs [a,b]=true):vE a=true/\vE b=true:=⟨cI h a (by simp),cI h b (by simp)⟩
theorem gn{s:St}(h:vS s=true):
 (∃nm x,s=stE 0 nm [x]/\aO nm 97 122=true/\vE x=true)\/(∃nm x,s=stE 1 nm [x]/\aO nm 97 122=true/\vE x=true)\/
 (∃nm x y,s=stE 2 nm [x,y]/\aO nm 97 122=true/\vE x=true/\vE y=true)\/
 (∃x b e,s= .mk 3 ⟨#[]⟩ [x] b e/\vE x=true/\vSs b=true/\vSs e=true)\/(∃x b,s= .mk 4 ⟨#[]⟩ [x] b []/\vE x=true/\vSs b=true)\/
 (∃nm x l,s=stE 5 nm (x::l)/\aO nm 97 122=true/\vE x=true/\vEs l=true)\/(∃x,s=stE 6 ⟨#[]⟩ [x]/\vE x=true)\/
 (∃x y,s=stE 7 ⟨#[]⟩ [x,y]/\vE x=true/\vE y=true)\/(∃nm x y,s=stE 8 nm [x,y]/\aO nm 97 122=true/\vE x=true/\vE y=true)\/s=stE 9 ⟨#[]⟩ []:=by
 obtain⟨k,nm,ex,b,e⟩:=s;rw[vS]at h;obtain⟨hn,hv⟩:=Eg.1 h;obtain⟨hx,hv⟩:=Eg.1 hv;obtain⟨hb,he⟩:=Eg.1 hv;unfold stB at hn;by_cases h01:k=0\/k=1
 ·simp[h01]at hn;obtain⟨⟨⟨hnm,hl⟩,hbe⟩,hee⟩:=hn;subst hbe hee;obtain⟨a,rfl⟩:=oA hl;rcases h01 with rfl|rfl
  ·exact .inl ⟨nm,a,rfl,hnm,iY hx⟩
  ·exact .inr (.inl ⟨nm,a,rfl,hnm,iY hx⟩)
 by_cases h28:k=2\/k=8
 ·simp[h01,h28]at hn;obtain⟨⟨⟨hnm,hl⟩,hbe⟩,hee⟩:=hn;subst hbe hee;obtain⟨a,b,rfl⟩:=vz hl;rcases h28 with rfl|rfl
  ·exact .inr (.inr (.inl ⟨nm,a,b,rfl,hnm,qV hx⟩))
  ·exact .inr (.inr (.inr (.inr (.inr (.inr (.inr (.inr (.inl ⟨nm,a,b,rfl,hnm,qV hx⟩))))))))
 by_cases h3:k=3
 ·subst h3;simp at hn;obtain⟨hnm,hl⟩:=hn;subst hnm;obtain⟨a,rfl⟩:=oA hl;exact .inr (.inr (.inr (.inl ⟨a,b,e,rfl,iY hx,hb,he⟩)))
 by_cases h4:k=4
 ·subst h4;simp at hn;obtain⟨⟨hnm,hl⟩,hee⟩:=hn;subst hnm hee;obtain⟨a,rfl⟩:=oA hl;exact .inr (.inr (.inr (.inr (.inl ⟨a,b,rfl,iY hx,hb⟩))))
 by_cases h5:k=5
 ·subst h5;simp at hn;obtain⟨⟨⟨hnm,hl⟩,hbe⟩,hee⟩:=hn;subst hbe hee
  match ex,hl,hx with
  |a::l,_,hx=>
   rw[vEs]at hx;obtain⟨h1,h2⟩:=Eg.1 hx;exact .inr (.inr (.inr (.inr (.inr (.inl ⟨nm,a,l,rfl,hnm,h1,h2⟩)))))
 by_cases h6:k=6
 ·subst h6;simp at hn;obtain⟨⟨⟨hnm,hl⟩,hbe⟩,hee⟩:=hn;subst hnm hbe hee;obtain⟨a,rfl⟩:=oA hl;exact .inr (.inr (.inr (.inr (.inr (.inr (.inl ⟨a,rfl,iY hx⟩))))))
 by_cases h7:k=7
 ·subst h7;simp at hn;obtain⟨⟨⟨hnm,hl⟩,hbe⟩,hee⟩:=hn;subst hnm hbe hee;obtain⟨a,b,rfl⟩:=vz hl;exact .inr (.inr (.inr (.inr (.inr (.inr (.inr (.inl ⟨a,b,rfl,qV hx⟩)))))))
 by_cases h9:k=9
 ·subst h9;simp at hn;obtain⟨⟨⟨hnm,hl⟩,hbe⟩,hee⟩:=hn;subst hnm hbe hee hl;exact .inr (.inr (.inr (.inr (.inr (.inr (.inr (.inr (.inr rfl))))))))
 ·simp[h01,h28,h3,h4,h5,h6,h7,h9]at hn
theorem i8(s:St):1<=ssz s:=by cases s;rw[ssz];omega
theorem fe{l:List St}{a:St}(h:a∈l):ssz a<=eN l:=by
 induction l with
 |nil=>cases h
 |cons b l ih=>
  unfold eN;rcases DY.1 h with rfl|h
  ·omega
  ·have:=ih h;omega
section
variable{T:List Tk}
theorem AtT.ln'{l:List Pc}(h:AtT T i (tks (ln d l))):AtT T i (tks l):=by rwa[vF]at h
theorem dR{n r:Nat}(hn:(exP (r+1) a).length<=n+1)(hv:vE a=true)(hr:r<=8)(h:AtT T i (tks (exP (r+1) a)))(hs:fH r (t3 T (i+(exP (r+1) a).length))=true):
 E T (n+1) r i= .ok a (i+(exP (r+1) a).length):=inq (good (esz a)) (DK _) hn hv hr h hs
theorem m9{n:Nat}:∀(q:Nat) (a:Ex),esz a<=q->(exP 8 a).length<=n+1->vE a=true->∀(i:Nat),AtT T i (tks (exP 8 a))->t3 T (i+(exP 8 a).length)=(5,DOT,0)->
 ∃K,T.length+1<=K+(i+(exP 8 a).length)/\gr T (E T (n+1)) i=cU T (E T (n+1)) K a (i+(exP 8 a).length)
 |0,a,hq,_,_,_,_,_=>by have:=bE a;omega
 |q+1,a,hq,hn,hv,i,h,hs=>by
  by_cases hc:lvl a=8
  ·rcases dc hv with⟨z,rfl,_,_⟩|rfl|rfl|⟨s,rfl,_⟩|⟨s,x,rfl,_,hx⟩|⟨s,xs,rfl,_,_⟩|⟨s,xs,x,rfl,_,_,_⟩|⟨k,x,hk,rfl,_⟩|⟨o,x,y,ho,rfl,hx,hy⟩
   ·exact absurd (show 9=8 from hc) (by omega)
   ·exact absurd (show 9=8 from hc) (by omega)
   ·exact absurd (show 9=8 from hc) (by omega)
   ·exact absurd (show 9=8 from hc) (by omega)
   ·have hz:esz (aR s x)=1+esz x:=by simp[aR,esz,cm]
    have hP:exP 8 (aR s x)=exP 8 x++[py DOT,pn s]:=rfl;rw[hP]at h hs hn⊢;obtain⟨a1,a2⟩:=AtT.app' h;have a5:t3 T (i+(exP 8 x).length)=(5,DOT,0):=a2.1;have a6:t3 T (i+(exP 8 x).length+1)=(2,s,0):=a2.2.1;obtain⟨K,hK,hr⟩:=m9 (n:=n) q x (by omega) (by simp at hn;omega) hx i a1 a5;have hlt:=fK a5 (by decide);obtain⟨K,rfl⟩:∃K',K=K'+1:=⟨K-1,by omega⟩;have hlen:i+(exP 8 x++[py DOT,pn s]).length=i+(exP 8 x).length+1+1:=by simp;omega
    rw[hlen]at hs⊢;refine⟨K,by omega,?_⟩;rw[hr];show(match bj T DOT (i+(exP 8 x).length)with| .bad j=>_| .ok _ j=>_)=_;rw[bu (by rw[a5];kernel_rfl)];simp only;rw[cw a6];simp only;rw[DS (by rw[aj hs (show _=false by kernel_rfl)];decide)]
   ·exact absurd (show 9=8 from hc) (by omega)
   ·exact absurd (show 7=8 from hc) (by omega)
   ·rcases hk with rfl|rfl|rfl|rfl
    ·exact absurd (show 7=8 from hc) (by omega)
    ·exact absurd (show 7=8 from hc) (by omega)
    ·exact absurd (show 7=8 from hc) (by omega)
    ·exact absurd (show 3=8 from hc) (by omega)
   ·have:=fi o ho;exact absurd (show ap (o:Int)=8 from hc) (by omega)
  ·have hP:exP 8 a=exP 9 a:=by
    unfold exP inP;by_cases h1:lvl a<8
    ·rw[Ed h1,Ed (by omega)]
    ·rw[DS h1,DS (by omega)]
   rw[hP]at h hs hn⊢;have hr:=dR (r:=8) hn hv (by omega) h (by rw[hs];kernel_rfl);refine⟨T.length+1,by omega,?_⟩;unfold gr;rw[hr]
theorem rM{x:Ex}(hv:vE x=true)(h:(hdP (exP 9 x)).1=2):∃s,exP 9 x=[pn s]:=by
 rcases dc hv with⟨z,rfl,_,_⟩|rfl|rfl|⟨s,rfl,_⟩|⟨s,a,rfl,_,ha⟩|⟨s,xs,rfl,_,hxs⟩|⟨s,xs,a,rfl,_,hxs,ha⟩|⟨k,a,hk,rfl,ha⟩|⟨o,a,b,ho,rfl,ha,hb⟩
 ·exact absurd (show(1:Int)=2 from h) (by decide)
 ·exact absurd (show(4:Int)=2 from h) (by decide)
 ·exact absurd (show(4:Int)=2 from h) (by decide)
 ·exact⟨s,rfl⟩
 ·exact absurd (show(5:Int)=2 from h) (by decide)
 ·exact absurd (show(4:Int)=2 from h) (by decide)
 ·exact absurd (show(5:Int)=2 from h) (by decide)
 ·rcases hk with rfl|rfl|rfl|rfl<;>exact absurd (show(5:Int)=2 from h) (by decide)
 ·have hl:lvl (cx o a b)<9:=by have:=fi o ho;show ap (o:Int)<9;omega
  have:exP 9 (cx o a b)=py cG::(plE (cx o a b)++[py da]):=by unfold exP inP;rw[Ed hl]
  rw[this]at h;exact absurd (show(5:Int)=2 from h) (by decide)
variable(T)in
def Dk(m:Nat):Prop:=∀(n d:Nat) (s:St) (i:Nat),ssz s<=m->(plS s d).length<=n->vS s=true->AtT T i (tks (plS s d))->isT T ey (i+(plS s d).length)=false->
 S T n i= .ok s (i+(plS s d).length)
theorem ow(s:St)(d:Nat):plS s d≠[]:=by
 obtain⟨k,nm,ex,b,e⟩:=s;rw[plS];unfold stP
 repeat' split
 all_goals first
  |exact qh (by simp)
  |exact λh=>qh (d:=d) (by simp) (List.append_eq_nil_iff.1 h).1
theorem nD{s:St}(d:Nat)(hv:vS s=true):isK ci (hdP (plS s d))=false/\isK ey (hdP (plS s d))=false:=by
 have hd:∀(l:List Pc),hdP (ln d l)=hdP l:=λl=>by
  cases l with
  |nil=>rfl
  |cons p l=>cases l with
   |nil=>rfl
   |cons q l=>rfl
 have hda:∀(l m:List Pc),l≠[]->hdP (ln d l++m)=hdP l:=λl m hl=>by rw[kA _ (qh hl),hd]
 rcases gn hv with⟨nm,x,rfl,_,hx⟩|⟨nm,x,rfl,_,hx⟩|⟨nm,x,y,rfl,_,hx,hy⟩|⟨x,b,e,rfl,hx,hb,he⟩|⟨x,b,rfl,hx,hb⟩|⟨nm,x,l,rfl,_,hx,hl⟩|⟨x,rfl,hx⟩|⟨x,y,rfl,hx,hy⟩|⟨nm,x,y,rfl,_,hx,hy⟩|rfl
 ·rw[show hdP (plS (stE 0 nm [x]) d)=(4,gW,0)from(hd (pk gW::(sp [pn nm]++(sp [py bL]++(sp (exP 1 x)++[py aN])))):hdP (ln d _)=_)];exact⟨by kernel_rfl,by kernel_rfl⟩
 ·rw[show hdP (plS (stE 1 nm [x]) d)=(2,nm,0)from(hd (pn nm::(sp [py bL]++(sp (exP 1 x)++[py aN]))):hdP (ln d _)=_)];exact⟨by unfold isK;simp,by unfold isK;simp⟩
 ·have hb:=Beg.in_ 9 hx;rw[show hdP (plS (stE 2 nm [x,y]) d)=hdP (exP 9 x)from(hd _).trans (kA _ (eH (cE x)))];exact⟨hb.not (by kernel_rfl),hb.not (by kernel_rfl)⟩
 ·rw[show hdP (plS (.mk 3 ⟨#[]⟩ [x] b e) d)=(4,kIf,0) by rw[plS];exact hda _ _ (by simp)];exact⟨by kernel_rfl,by kernel_rfl⟩
 ·rw[show hdP (plS (.mk 4 ⟨#[]⟩ [x] b []) d)=(4,dD,0) by rw[plS];exact hda _ _ (by simp)];exact⟨by kernel_rfl,by kernel_rfl⟩
 ·rw[show hdP (plS (stE 5 nm (x::l)) d)=(4,fa,0)from hd _];exact⟨by kernel_rfl,by kernel_rfl⟩
 ·rw[show hdP (plS (stE 6 ⟨#[]⟩ [x]) d)=(4,dS,0)from hd _];exact⟨by kernel_rfl,by kernel_rfl⟩
 ·rw[show hdP (plS (stE 7 ⟨#[]⟩ [x,y]) d)=(4,fM,0)from hd _];exact⟨by kernel_rfl,by kernel_rfl⟩
 ·rw[show hdP (plS (stE 8 nm [x,y]) d)=(4,eE,0)from hd _];exact⟨by kernel_rfl,by kernel_rfl⟩
 ·rw[show hdP (plS (stE 9 ⟨#[]⟩ []) d)=(4,dQ,0)from(hd [pk dQ,py aN]:hdP (ln d _)=_)];exact⟨by kernel_rfl,by kernel_rfl⟩
end
end
end Go.Proofs.YtjpbckbpeblibaaGreatDoor
