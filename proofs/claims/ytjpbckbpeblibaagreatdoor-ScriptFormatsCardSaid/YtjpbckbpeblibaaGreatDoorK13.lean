/- part of a proof -/
import Derived.Test.YtjpbckbpeblibaaGreatDoorK12
namespace Go.Proofs.YtjpbckbpeblibaaGreatDoor
set_option linter.unusedVariables false
set_option linter.unusedSimpArgs false
set_option maxRecDepth 100000
set_option maxHeartbeats 64000000
section
open Go.RowKit Go.Shelf
variable{B d:Nat}{w w':World}
theorem uA:(Tryz.prog.info? 58).map (·.size)=some 2:=by kernel_rfl
theorem AW:(Tryz.prog.info? 5).map (λi=>(i.zero,i.size,i.bytes))=some (some (.int .u8 0),1,1):=by kernel_rfl
def tM(T:TypeId)(N o:Nat):Prop:=liesAt Tryz.prog Tryz.prog.depth T (N/Tryz.prog.cellsOf T) o 58 1=true/\o<N
theorem zu(b o:Nat)(w:World)(h0:w.cell? ⟨b,o,none⟩=some (.pointer (some ⟨b,o,none⟩))):
 Calls Tryz.prog 63 #[.pointer (some ⟨b,o,none⟩)] w λe w'=>e= .returned (.tuple #[])/\w'=w:=by
 obtain⟨j,hj,_⟩:=FQ.1 uA;go_enter Tryz.func63,Tryz.ntmps63;go_wp2;rw[Lib.run_neq_ptr_same w _ Tryz.underlying56 hj];go_wp2;go_end0;exact⟨rfl,rfl⟩
theorem wh(b o T N:Nat)(w:World)(hl:tM T N o)(h0:w.cell? ⟨b,o,none⟩=some (.pointer none))(hsh:w.shape? b=some (T,N))(hfz:w.frozen? ⟨b,o,none⟩=false):
 Calls Tryz.prog 63 #[.pointer (some ⟨b,o,none⟩)] w λe w'=>e= .returned (.tuple #[])/\w'=w.setCell ⟨b,o,none⟩ (.pointer (some ⟨b,o,none⟩)):=by
 obtain⟨j,hj,hjs⟩:=FQ.1 uA;go_enter Tryz.func63,Tryz.ntmps63;go_wp2;rw[Lib.run_to_unsafe w ⟨b,o,none⟩ Tryz.underlying56 Tryz.underlying180 hj (by rw[hjs];decide) hsh hl.2];simp only[Result.andThen];rw[Oper.upon_value];go_wp2;rw[run_callFunc_extern Tryz.func106 (by kernel_rfl) (by kernel_rfl) (by kernel_rfl) (e:=Extern.AbiNoEscape.same) (by kernel_rfl)];rw[Lib.run_noEscape];simp only[Result.andThen];rw[Oper.upon_value];go_wp2;rw[Lib.run_from_unsafe w ⟨b,o,none⟩ Tryz.underlying180 Tryz.underlying56 hj hsh hl.1];simp only[Result.andThen];rw[Oper.upon_value];go_wp2;go_end0;exact⟨rfl,rfl⟩
section
variable{b B n o:Nat}{T:TypeId}{sa sv:Value}{cs:Array Value}
theorem Em(w:World)(hl:tM T cs.size o)(hb:Blk w b T cs)(h0:cs[o]?=some sa)(hsa:sa= .pointer none\/sa= .pointer (some ⟨b,o,none⟩)):
 Calls Tryz.prog 63 #[.pointer (some ⟨b,o,none⟩)] w λe w'=>e= .returned (.tuple #[])/\Blk w' b T (cs.setIfInBounds o (.pointer (some ⟨b,o,none⟩)))/\(∀k,k≠b->w'.heap[k]?=w.heap[k]?)/\Lk B b w w'/\w'.heap.size=w.heap.size:=by
 rcases hsa with rfl|rfl
 ·refine(wh b o T cs.size w hl ((hb.cell o).trans h0) (by unfold Blk at hb;simp[World.shape?,hb]) (hb.frozen o)).mono ?_;rintro e w' ⟨rfl,rfl⟩;exact⟨rfl,hb.set o _,λk hk=>Fo _ _ _ _ hk,(Lk.refl _ _ _).set o _,by simp[World.setCell]⟩
 ·refine(zu b o w ((hb.cell o).trans h0)).mono ?_;rintro e w' ⟨rfl,rfl⟩;refine⟨rfl,?_,λ_ _=>rfl,Lk.refl _ _ _,rfl⟩
  have:cs.setIfInBounds o (.pointer (some ⟨b,o,none⟩))=cs:=by
   refine Array.ext (by simp) λi h1 h2=>?_;rw[Array.getElem_setIfInBounds];split
   ·rename_i e;subst e;rw[FK h2]at h0;simpa using h0.symm
   ·rfl
  rwa[this]
theorem Dx(bs:List Value)(s:ByteArray)(w:World)(hl:tM T cs.size o)(hb:Blk w b T cs)(h0:cs[o]?=some sa)(h1:cs[o+1]?=some sv)(hsa:sa= .pointer none\/sa= .pointer (some ⟨b,o,none⟩))(hown:w.ownsRow B 5 1 sv n bs)(hbB:b<B)(hBw:B<=w.heap.size)(hlen:n+s.size<=1000000000):
 Calls Tryz.prog 31 #[.pointer (some ⟨b,o,none⟩),.string s] w λe w'=>e= .returned (.tuple #[.int .i64 s.size,.nilIface])/\Lk B b w w'/\
  ∃sv',Blk w' b T ((cs.setIfInBounds o (.pointer (some ⟨b,o,none⟩))).setIfInBounds (o+1) sv')/\w'.ownsRow B 5 1 sv' (n+s.size) (bs++Lib.strCells s):=by
 obtain⟨i0,hi,hz0,hz1,hz2⟩:=Ho AW;have HC:=H_ (Em (B:=B) w hl hb h0 hsa);have HO:=H_ hown
 have hcs:(cs.setIfInBounds o (.pointer (some ⟨b,o,none⟩)))[o+1]?=some sv:=by
  rw[Ge (by omega)];exact h1
 have HCS:=H_ hcs;clear hb hsa hown h0 h1 hcs;go_enter Tryz.func31,Tryz.ntmps31;go_wp2_with fail;refine HC.out.mono ?_;rintro e w1 ⟨rfl,q1,hk1,l1,hs1⟩;have hown1:=eG HO.out (w':=w1) (λk hk _ _=>hk1 k (by omega));have d1:=(q1.cell (o+1)).trans HCS.out;have HQ:=H_ q1;have HL:=H_ l1;have HO1:=H_ hown1;clear q1 hk1 l1 hown1 HC HO;go_wp2_with (at_builtin;refine Lib.wpList_append_own_string _ rfl _ _ 51 9 rfl B 5 i0 Tryz.underlying51 Tryz.underlying9 hi hz0 hz1 hz2 _ _ _ rfl HO1.out s rfl (by unfold maxLen;omega) (by omega) (by omega) ?_);intro v' w2 hown' hgrow _;have hlt:=HQ.out.lt;have hnb:some b≠sv.ownBlock:=λe=>by have:=(HO1.out.lt b e.symm).1;omega
 have q2:=show Blk w2 b T (cs.setIfInBounds o (.pointer (some ⟨b,o,none⟩)))from(hgrow.block b hlt hnb).trans HQ.out;have d2:=(q2.cell (o+1)).trans HCS.out;have f2:=q2.frozen (o+1)
 have HL2:=H_ (show Lk B b w w2 from HL.out.grown hgrow λk hk=>⟨(HO1.out.lt k hk).1,by
  rcases HO1.out.2 with⟨hv,_⟩|⟨g,cap,cur,hv,_,hg,_⟩
  ·rw[hv]at hk;cases hk
  ·rw[hv]at hk;cases hk;exact⟨cur,(0,0),.inr hg⟩⟩)
 have HQ2:=H_ q2;have HO2:=H_ hown'
 obtain⟨ao,n',cap,rfl⟩:∃ao n' cap,v'= .slice ao n' cap:=by
  rcases hown'.2 with⟨hv,_⟩|⟨g,cap,cur,hv,_⟩
  ·exact⟨_,_,_,hv⟩
  ·exact⟨_,_,_,hv⟩
 clear q2 hgrow hown' HQ HL HO1 d1;go_wp2_with fail;go_ret2;exact⟨rfl,HL2.out.set (o+1) _,_,HQ2.out.set (o+1) _,eG HO2.out λk hk _ _=>Fo _ _ _ _ (show k≠b by omega)⟩
theorem xi(l:List UInt8)(w:World)(hb:Blk w b T cs)(h1:cs[o+1]?=some sv)(hown:w.ownsRow B 5 1 sv l.length (Lib.byteCells l))(h0:l=[]->sv= .slice none 0 0)(hbB:b<B)(hl:l.length<=1000000000):
 Calls Tryz.prog 35 #[.pointer (some ⟨b,o,none⟩)] w λe w'=>e= .returned (.string ⟨l.toArray⟩)/\Lk B b w w':=by
 have mixed:Tryz.prog.follows .mixedOrders=true:=by kernel_rfl
 by_cases hl0:l=[]
 ·subst hl0;obtain rfl:=h0 rfl;have hUS:∀W,(Builtin.unsafeString_ #[130,3] 9 #[.pointer none,.int .i64 0]).run Tryz.prog W= .ok (.string .empty) W:=λW=>Lib.run_unsafeString_none W _ _ _ none;have d1:=(hb.drew.cell (o+1)).trans h1;have hSD:(Builtin.unsafeSliceData_ #[51] 130 #[.slice none 0 0]).run Tryz.prog w.drew= .ok (.pointer none) w.drew:=rfl;have HB:=H_ hb;clear hb hown h0 h1;go_enter Tryz.func35,Tryz.ntmps35;go_wp2;go_region_o;all_goals(go_wp2;go_ret;exact⟨rfl,Lk.of (Below.drew (Fb w.heap.size w)) (F0 _)⟩)
 ·obtain⟨g,cap,cur,rfl,hbg,hg,hnc,hcm,hcs,htake⟩:∃g cap cur,sv= .slice (some ⟨g,0,none⟩) l.length cap/\B<=g/\w.heap[g]?=some (.cells cur 5 (0,0))/\l.length<=cap/\cap<=maxLen/\cur.size=cap*1/\cur.toList.take (l.length*1)=Lib.byteCells l:=by
   rcases hown.2 with⟨_,hz⟩|⟨g,cap,cur,hv,r⟩
   ·exact absurd (FE hz) hl0
   ·exact⟨g,cap,cur,hv,r⟩
  have hlz:l.length≠0:=λe=>hl0 (FE e);have d1:=(hb.drew.cell (o+1)).trans h1
  have hSD:(Builtin.unsafeSliceData_ #[51] 130 #[.slice (some ⟨g,0,none⟩) l.length cap]).run Tryz.prog w.drew= .ok (.pointer (some ⟨g,0,none⟩)) w.drew:=
   Lib.run_unsafeSliceData_row _ _ _ _ _ _ (by omega)
  have hUS:(Builtin.unsafeString_ #[130,3] 9 #[.pointer (some ⟨g,0,none⟩),.int .i64 l.length]).run Tryz.prog w.drew= .ok (.string ⟨l.toArray⟩) (w.drew.freeze ⟨g,0,none⟩ l.length):=by
   refine Lib.run_unsafeString_row w.drew 130 3 9 5 Tryz.underlying130 (by kernel_rfl) g cur.size (by have hg':w.drew.heap[g]?=some (.cells cur 5 (0,0)):=hg;simp[World.shape?,hg']) l hl0 (by omega) (by omega) ?_;intro j x hx;have:=hown.cells (g:=g) rfl j (.int .u8 x.toNat) (by simp[Lib.byteCells,hx]);exact this
  have hfr:∀k,k≠g->(w.drew.freeze ⟨g,0,none⟩ l.length).heap[k]?=w.heap[k]?:=λk hk=>by
   unfold World.freeze;split
   ·rfl
   ·simp only[Array.getElem?_modify];rw[Fg (Ne.symm hk)];rfl
  have hfin:Lk B b w (w.drew.freeze ⟨g,0,none⟩ l.length):=by
   have hq:=Lib.below_freeze (Below.drew (Fb B w)) (p:=⟨g,0,none⟩) hbg l.length;refine⟨hq.os,hq.tape,hq.output,hq.size,λk hk hkb ht=>hfr k λe=>?_⟩;subst e;exact(ht hbg cur (0,0)).2 hg
  have HF:=H_ hfin
  clear hfin hfr hb hown h0 hg htake h1;go_enter Tryz.func35,Tryz.ntmps35;go_wp2;go_region_o;all_goals(go_wp2;go_ret;exact⟨rfl,HF.out⟩)
end
structure PW(w:World)(B p d:Nat)(s:List UInt8):Prop where
 ex:∃sa sv,Blk w p 128 #[sa,sv,.int .i64 (d:Int)]/\(sa= .pointer none\/sa= .pointer (some ⟨p,0,none⟩))/\w.ownsRow B 5 1 sv s.length (Lib.byteCells s)
 lt:p<B
 le:B<=w.heap.size
theorem AO:tM 128 3 0:=⟨by kernel_rfl,by decide⟩
theorem Blk.lk{g p:Nat}{t:TypeId}{cs:Array Value}(h:Blk w g t cs)(hk:Lk B p w w')(hp:g≠p)(ht:t≠48/\t≠5:=by decide):Blk w' g t cs:=
 (hk.block g h.lt hp λ_ cs' fz=>⟨λe=>by unfold Blk at h;rw[h]at e;simp only[Option.some.injEq,Obj.cells.injEq]at e;exact ht.1 e.2.1,λe=>by unfold Blk at h;rw[h]at e;simp only[Option.some.injEq,Obj.cells.injEq]at e;exact ht.2 e.2.1⟩).trans h
theorem PW.below{p:Nat}{s:List UInt8}(h:PW w B p d s)(hb:Below w.heap.size w w'):PW w' B p d s:=by
 obtain⟨sa,sv,h1,h2,h3⟩:=h.ex;exact⟨⟨sa,sv,h1.below hb h1.lt,h2,eG h3 λk _ hk _=>hb.block k hk⟩,h.lt,FA h.le hb.size⟩
theorem Lk.al{p:Nat}(h:Below w.heap.size w w'):Lk B p w w':=Lk.of h (F0 _)
theorem PW.write{p:Nat}{s:List UInt8}(h:PW w B p d s)(x:ByteArray)(hlen:s.length+x.size<=1000000000):
 Calls Tryz.prog 31 #[.pointer (some ⟨p,0,none⟩),.string x] w λe w'=>e= .returned (.tuple #[.int .i64 x.size,.nilIface])/\Lk B p w w'/\PW w' B p d (s++x.data.toList):=by
 obtain⟨sa,sv,h1,h2,h3⟩:=h.ex;have e0:(#[sa,sv,.int .i64 (d:Int)]:Array Value)[0]?=some sa:=rfl;have e1:(#[sa,sv,.int .i64 (d:Int)]:Array Value)[0+1]?=some sv:=rfl;have hl:tM 128 (#[sa,sv,.int .i64 (d:Int)]:Array Value).size 0:=AO;refine(Dx (o:=0) (Lib.byteCells s) x w hl h1 e0 e1 h2 h3 h.lt h.le hlen).mono ?_;rintro e w' ⟨rfl,l1,sv',q1,o1⟩;refine⟨rfl,l1,⟨⟨_,sv',q1,.inr rfl,?_⟩,h.lt,FA h.le l1.size⟩⟩;have e1:(s++x.data.toList).length=s.length+x.size:=EY;have e2:Lib.byteCells (s++x.data.toList)=Lib.byteCells s++Lib.strCells x:=by simp[Lib.byteCells,Lib.strCells]
 rw[e1,e2];exact o1
theorem PW.str{p:Nat}{s:List UInt8}(h:PW w B p d s)(hne:s≠[])(hlen:s.length<=1000000000):
 Calls Tryz.prog 35 #[.pointer (some ⟨p,0,none⟩)] w λe w'=>e= .returned (.string ⟨s.toArray⟩)/\Lk B p w w':=by
 obtain⟨sa,sv,h1,h2,h3⟩:=h.ex;have e1:(#[sa,sv,.int .i64 (d:Int)]:Array Value)[0+1]?=some sv:=rfl;exact xi (o:=0) s w h1 e1 h3 (λe=>absurd e hne) h.lt hlen
end
section
open Go.RowKit
variable{a:Ex}{d i l:Nat}{f:Nat->R Ex}{v:Int}{x:ByteArray}{α:Type}
def isK(x:ByteArray)(t:TK):Bool:=decide (t.2.1=x)&&(decide (t.1=4)||decide (t.1=5))
def opK(ops:List Nat)(t:TK):Option Nat:=ops.find? λo=>isK (bc o) t
def gi(l:Nat)(t:TK):Bool:= !isK kAt t&&((decide (7<l)|| !isK DOT t)&&((decide (5<l)||(opK xT t).isNone)&&((decide (4<l)||(opK xS t).isNone)&&
 ((decide (3<l)||(opK vJ t).isNone)&&((decide (1<l)||(opK xU t).isNone)&&(decide (0<l)||(opK oOr t).isNone))))))
theorem dg{l':Nat}{t:TK}(h:gi l t=true)(hl:l<=l'):gi l' t=true:=by
 unfold gi at*
 simp only[Fx,Gt,FI]at*
 obtain⟨h1,h2,h3,h4,h5,h6,h7⟩:=h;exact⟨h1,h2.imp_left (by omega),h3.imp_left (by omega),h4.imp_left (by omega),h5.imp_left (by omega),h6.imp_left (by omega),h7.imp_left (by omega)⟩
section
variable{T:List Tk}
variable(T)in
def t3(i:Nat):TK:=((tk T i).1,(tk T i).2.1,(tk T i).2.2.1)
theorem cT(x:ByteArray)(i:Nat):isT T x i=isK x (t3 T i):=rfl
theorem ja(ops:List Nat)(i:Nat):opT T ops i=opK ops (t3 T i):=rfl
theorem gq{k:Int}{s:ByteArray}(h:t3 T i=(k,s,v))(hk:k≠0):i<T.length:=by
 rcases Gp i T.length with hl|hl
 ·exact hl
 ·unfold t3 tk at h;rw[FH,GS hl]at h;simp at h;exact absurd h.1.symm hk
variable(T)in
def AtT:Nat->List TK->Prop
 |_,[]=>True
 |i,t::l=>t3 T i=t/\AtT (i+1) l
theorem AtT.app:∀{a b:List TK} {i:Nat},AtT T i (a++b)->AtT T i a/\AtT T (i+a.length) b
 |[],b,i,h=>⟨trivial,h⟩
 |t::a,b,i,h=>by
  obtain⟨h1,h2⟩:=AtT.app h.2;refine⟨⟨h.1,h1⟩,?_⟩;rw[EZ,show i+(a.length+1)=i+1+a.length by omega];exact h2
theorem bI{s:ByteArray}(h:isK s (t3 T i)=true):bB T s i= .ok () (i+1):=by unfold bB;rw[cT,Ft h]
theorem cH{k:Int}{s:ByteArray}(h:t3 T i=(k,s,v)):bV T k i= .ok s (i+1):=by
 unfold t3 at h;simp only[Prod.mk.injEq]at h;unfold bV;rw[Ft h.1,h.2.1]
section
variable{rec:Nat->Nat->R Ex}{e:Ex}{i j:Nat}
theorem jb{ops:List Nat}(h:f i= .ok e j)(hs:(opK ops (t3 T j)).isNone=true):fo T f ops i= .ok e j:=by
 unfold fo;rw[h];simp only;unfold dy;rw[ja,Option.isNone_iff_eq_none.1 hs]
theorem up1(hl:l<8)(h:fI T rec (l+1) i= .ok e j)(hs:gi l (t3 T j)=true)(h2:l=2->isT T dV i=false)
 (h6:l=6->isT T bR i=false/\isT T cn i=false/\isT T ep i=false):fI T rec l i= .ok e j:=by
 unfold gi at hs;simp only[Fx,Gt,FI]at hs;obtain⟨s1,s2,s3,s4,s5,s6,s7⟩:=hs
 match l,hl,h,h2,h6 with
 |0,_,h,_,_=>exact jb h (s7.resolve_left (by omega))
 |1,_,h,_,_=>exact jb h (s6.resolve_left (by omega))
 |2,_,h,h2,_=>
  show jo T rec i=_;unfold jo;rw[h2 rfl];exact h
 |3,_,h,_,_=>
  show cJ T rec i=_;unfold cJ;rw[show jC T rec i= .ok e j from h];simp only;rw[ja,Option.isNone_iff_eq_none.1 (s5.resolve_left (by omega))]
 |4,_,h,_,_=>exact jb h (s4.resolve_left (by omega))
 |5,_,h,_,_=>exact jb h (s3.resolve_left (by omega))
 |6,_,h,_,h6=>
  obtain⟨a,b,c⟩:=h6 rfl;show cC T rec i=_;unfold cC;rw[a,b,c];exact h
 |7,_,h,_,_=>
  show cw T rec i=_;unfold cw;rw[show aO T rec i= .ok e j from h];simp only;unfold cu;have hd:=s2.resolve_left (by omega);rw[cT,show isK DOT (t3 T j)=false by simpa using hd];rfl
theorem up:∀(d l l':Nat),l'=l+d->l'<=8->fI T rec l' i= .ok e j->gi l (t3 T j)=true->(l<=2->2<l'->isT T dV i=false)->
 (l<=6->6<l'->isT T bR i=false/\isT T cn i=false/\isT T ep i=false)->fI T rec l i= .ok e j
 |0,l,l',hd,_,h,_,_,_=>by rw[show l'=l by omega]at h;exact h
 |d+1,l,l',hd,h8,h,hs,h2,h6=>
  up1 (by omega) (up d (l+1) l' (by omega) h8 h (dg hs (by omega)) (λa b=>h2 (by omega) b) (λa b=>h6 (by omega) b)) hs (λa=>h2 (by omega) (by omega)) (λa=>h6 (by omega) (by omega))
end
end
def ki(l:Nat):List Nat:=if l=0 then oOr else if l=1 then xU else if l=4 then xS else xT
theorem DR:((List.range 13).all λo=>([0,1,4,5].all λl=> !(av (o:Int)==l+1)||((opK (ki l) (opP (o:Int)).t==some o)&&gi (l+1) (opP (o:Int)).t))&&
 (!(av (o:Int)==4)||((opK vJ (opP (o:Int)).t==some o)&&gi 4 (opP (o:Int)).t))&&(opP (o:Int)).t.1 !=0)=true:=by kernel_rfl
theorem xQ{o:Nat}(ho:o<=12):(∀l,l=0\/l=1\/l=4\/l=5->av (o:Int)=l+1->opK (ki l) (opP (o:Int)).t=some o/\gi (l+1) (opP (o:Int)).t=true)/\
 (av (o:Int)=4->opK vJ (opP (o:Int)).t=some o/\gi 4 (opP (o:Int)).t=true)/\(opP (o:Int)).t.1≠0:=by
 have h:=Fu.1 DR o (Ha.2 (by omega));simp only[Fx,Gt,Hb,Fa,He,bne_iff_ne]at h;obtain⟨⟨h1,h2⟩,h3⟩:=h;refine⟨λl hl he=>?_,λhe=>h2.resolve_left (λh=>h he),h3⟩;have:=Fu.1 h1 l (by simp;omega);simp only[Fx,Gt,Hb,Fa,He]at this;exact this.resolve_left (λh=>h he)
theorem eV(o:Nat)(ho:o<=12):av (o:Int)=1\/av (o:Int)=2\/av (o:Int)=4\/av (o:Int)=5\/av (o:Int)=6:=by
 unfold av;repeat' split
 all_goals omega
def hdP(l:List Pc):TK:=match l with|[]=>(0,⟨#[]⟩,0)|p::_=>p.t
theorem au(l:List Pc):(sp l).length=l.length:=by cases l<;>rfl
theorem iW(l:List Pc):(tks l).length=l.length:=by simp[tks]
theorem lp{a:List Pc}(b:List Pc)(h:a≠[]):hdP (a++b)=hdP a:=by cases a with|nil=>exact absurd rfl h|cons=>rfl
theorem fa{r:Nat}{x:Nat×List Pc}(h:x.2≠[]):inP r x≠[]:=by unfold inP;split<;>simp[h]
theorem cM(e:Ex):plE e≠[]:=by
 obtain⟨k,op,z,nm,at_,args⟩:=e;rw[plE];unfold cmb
 repeat' split
 all_goals simp[sp]
theorem tg:∀(m:Nat) (e:Ex),esz e<=m->vE e=true->(4<=lvl e->isK dV (hdP (plE e))=false)/\(8<=lvl e->isK bR (hdP (plE e))=false/\isK cn (hdP (plE e))=false/\isK ep (hdP (plE e))=false)
 |0,e,hm,_=>by have:=bJ e;omega
 |m+1,e,hm,hv=>by
  have hin:∀(r:Nat) (a:Ex),4<=r->esz a<=m->vE a=true->isK dV (hdP (inP r (lvl a,plE a)))=false/\(8<=r->isK bR (hdP (inP r (lvl a,plE a)))=false/\isK cn (hdP (inP r (lvl a,plE a)))=false/\isK ep (hdP (inP r (lvl a,plE a)))=false):=λr a hr ha hva=>by
   unfold inP;by_cases h:lvl a<r
   ·rw[Ft h];exact⟨by show isK dV (5,cO,0)=false;kernel_rfl,λ_=>⟨by show isK bR (5,cO,0)=false;kernel_rfl,by show isK cn (5,cO,0)=false;kernel_rfl,by show isK ep (5,cO,0)=false;kernel_rfl⟩⟩
   ·rw[Fg h];obtain⟨f1,f2⟩:=tg m a ha hva;exact⟨f1 (by omega),λh8=>f2 (by omega)⟩
  have kd:∀(x:ByteArray) (k:Int) (s:ByteArray) (v:Int),k≠4->k≠5->isK x (k,s,v)=false:=λx k s v h4 h5=>by unfold isK;simp[h4,h5]
  rcases db hv with⟨z,rfl,_,_⟩|rfl|rfl|⟨s,rfl,_⟩|⟨s,a,rfl,_,ha⟩|⟨s,l,rfl,_,_⟩|⟨s,l,a,rfl,_,_,_⟩|⟨k,a,hk,rfl,ha⟩|⟨o,a,b,ho,rfl,ha,hb⟩
  ·exact⟨λ_=>kd _ 1 _ _ (by decide) (by decide),λ_=>⟨kd _ 1 _ _ (by decide) (by decide),kd _ 1 _ _ (by decide) (by decide),kd _ 1 _ _ (by decide) (by decide)⟩⟩
  ·exact⟨λ_=>by show isK dV (4,ie,0)=false;kernel_rfl,λ_=>⟨by show isK bR (4,ie,0)=false;kernel_rfl,by show isK cn (4,ie,0)=false;kernel_rfl,by show isK ep (4,ie,0)=false;kernel_rfl⟩⟩
  ·exact⟨λ_=>by show isK dV (4,eO,0)=false;kernel_rfl,λ_=>⟨by show isK bR (4,eO,0)=false;kernel_rfl,by show isK cn (4,eO,0)=false;kernel_rfl,by show isK ep (4,eO,0)=false;kernel_rfl⟩⟩
  ·exact⟨λ_=>kd _ 2 _ _ (by decide) (by decide),λ_=>⟨kd _ 2 _ _ (by decide) (by decide),kd _ 2 _ _ (by decide) (by decide),kd _ 2 _ _ (by decide) (by decide)⟩⟩
  ·have hz:esz (aU s a)=1+esz a:=by simp[aU,esz,cz]
   obtain⟨f1,f2⟩:=hin 8 a (by omega) (by omega) ha;have he:hdP (plE (aU s a))=hdP (inP 8 (lvl a,plE a)):=lp _ (fa (cM a));rw[he];exact⟨λ_=>f1,λ_=>f2 (by omega)⟩
  ·exact⟨λ_=>by show isK dV (4,dM,0)=false;kernel_rfl,λ_=>⟨by show isK bR (4,dM,0)=false;kernel_rfl,by show isK cn (4,dM,0)=false;kernel_rfl,by show isK ep (4,dM,0)=false;kernel_rfl⟩⟩
  ·exact⟨λ_=>by show isK dV (4,dM,0)=false;kernel_rfl,λ_=>⟨by show isK bR (4,dM,0)=false;kernel_rfl,by show isK cn (4,dM,0)=false;kernel_rfl,by show isK ep (4,dM,0)=false;kernel_rfl⟩⟩
  ·rcases hk with rfl|rfl|rfl|rfl
   ·exact⟨λ_=>by show isK dV (4,cn,0)=false;kernel_rfl,λh=>absurd (show 8<=7 from h) (by decide)⟩
   ·exact⟨λ_=>by show isK dV (4,ep,0)=false;kernel_rfl,λh=>absurd (show 8<=7 from h) (by decide)⟩
   ·exact⟨λ_=>by show isK dV (5,bR,0)=false;kernel_rfl,λh=>absurd (show 8<=7 from h) (by decide)⟩
   ·exact⟨λh=>absurd (show 4<=3 from h) (by decide),λh=>absurd (show 8<=3 from h) (by decide)⟩
  ·have hz:esz (cA o a b)=1+(esz a+esz b):=by simp[cA,esz,cz]
   have hl:lvl (cA o a b)=av o:=rfl;rw[hl];refine⟨λh=>?_,λh=>by have:=eV o ho;omega⟩;obtain⟨f1,_⟩:=hin (if av o=4 then 5 else av o) a (by split<;>omega) (by omega) ha;have he:hdP (plE (cA o a b))=hdP (inP (if av o=4 then 5 else av o) (lvl a,plE a)):=lp _ (fa (cM a));rw[he];exact f1
def Beg(t:TK):Prop:=t.1=1\/t.1=2\/t∈[((4,ie,0):TK),(4,eO,0),(4,dM,0),(4,cn,0),(4,ep,0),(4,dV,0),(5,bR,0),(5,cO,0)]
theorem tJ:∀(m:Nat) (e:Ex),esz e<=m->vE e=true->Beg (hdP (plE e))
 |0,e,hm,_=>by have:=bJ e;omega
 |m+1,e,hm,hv=>by
  have hin:∀(r:Nat) (a:Ex),esz a<=m->vE a=true->Beg (hdP (inP r (lvl a,plE a))):=λr a ha hva=>by
   unfold inP;by_cases h:lvl a<r
   ·rw[Ft h];exact .inr (.inr (by show((5,cO,0):TK)∈_;simp))
   ·rw[Fg h];exact tJ m a ha hva
  rcases db hv with⟨z,rfl,_,_⟩|rfl|rfl|⟨s,rfl,_⟩|⟨s,a,rfl,_,ha⟩|⟨s,l,rfl,_,_⟩|⟨s,l,a,rfl,_,_,_⟩|⟨k,a,hk,rfl,ha⟩|⟨o,a,b,ho,rfl,ha,hb⟩
  ·exact .inl rfl
  ·exact .inr (.inr (by show((4,ie,0):TK)∈_;simp))
  ·exact .inr (.inr (by show((4,eO,0):TK)∈_;simp))
  ·exact .inr (.inl rfl)
  ·have hz:esz (aU s a)=1+esz a:=by simp[aU,esz,cz]
   rw[show hdP (plE (aU s a))=hdP (inP 8 (lvl a,plE a))from lp _ (fa (cM a))];exact hin 8 a (by omega) ha
  ·exact .inr (.inr (by show((4,dM,0):TK)∈_;simp))
  ·exact .inr (.inr (by show((4,dM,0):TK)∈_;simp))
  ·rcases hk with rfl|rfl|rfl|rfl
   ·exact .inr (.inr (by show((4,cn,0):TK)∈_;simp))
   ·exact .inr (.inr (by show((4,ep,0):TK)∈_;simp))
   ·exact .inr (.inr (by show((5,bR,0):TK)∈_;simp))
   ·exact .inr (.inr (by show((4,dV,0):TK)∈_;simp))
  ·have hz:esz (cA o a b)=1+(esz a+esz b):=by simp[cA,esz,cz]
   rw[show hdP (plE (cA o a b))=hdP (inP (if av o=4 then 5 else av o) (lvl a,plE a))from lp _ (fa (cM a))];exact hin _ a (by omega) ha
theorem Beg.in_{e:Ex}(r:Nat)(hv:vE e=true):Beg (hdP (exP r e)):=by
 unfold exP inP;by_cases h:lvl e<r
 ·rw[Ft h];exact .inr (.inr (by show((5,cO,0):TK)∈_;simp))
 ·rw[Fg h];exact tJ _ e (F0 _) hv
theorem Beg.not{t:TK}(h:Beg t)(hx:([ie,eO,dM,cn,ep,dV,bR,cO].all λy=> !decide (y=x))=true):isK x t=false:=by
 rcases h with h|h|h
 ·unfold isK;rw[h];simp
 ·unfold isK;rw[h];simp
 ·have hy:=Fu.1 hx;unfold isK;simp only[Fp,Fm,FX]at h;rcases h with rfl|rfl|rfl|rfl|rfl|rfl|rfl|rfl
  ·have:=hy ie (by simp);simp at this;simp[this]
  ·have:=hy eO (by simp);simp at this;simp[this]
  ·have:=hy dM (by simp);simp at this;simp[this]
  ·have:=hy cn (by simp);simp at this;simp[this]
  ·have:=hy ep (by simp);simp at this;simp[this]
  ·have:=hy dV (by simp);simp at this;simp[this]
  ·have:=hy bR (by simp);simp at this;simp[this]
  ·have:=hy cO (by simp);simp at this;simp[this]
section
variable{T:List Tk}
variable(T)in
def BM(m:Nat):Prop:=∀(n:Nat) (e:Ex) (l i:Nat),esz e<=m->(plE e).length<=n+1->vE e=true->l+1<=lvl e->AtT T i (tks (plE e))->gi l (t3 T (i+(plE e).length))=true->
 fI T (E T n) l i= .ok e (i+(plE e).length)
theorem AtT.hd{l:List Pc}(h:AtT T i (tks l))(hne:l≠[]):t3 T i=hdP l:=by cases l with|nil=>exact absurd rfl hne|cons p l=>exact h.1
theorem AtT.app'{a b:List Pc}(h:AtT T i (tks (a++b))):AtT T i (tks a)/\AtT T (i+a.length) (tks b):=by
 rw[A8]at h;have:=AtT.app h;rwa[iW]at this
theorem AtT.sp'{a:List Pc}(h:AtT T i (tks (sp a))):AtT T i (tks a):=by rwa[BU]at h
theorem cP{k:Int}{s:ByteArray}(h:t3 T i=(k,s,v)):(tk T i).1=k/\(tk T i).2.1=s/\(tk T i).2.2.1=v:=by
 unfold t3 at h;simpa only[Prod.mk.injEq]using h
theorem ak{s:ByteArray}{k:Int}{b:Bool}(h:t3 T i=(k,s,v))(hb:isK x (k,s,v)=b):isT T x i=b:=by rw[cT,h,hb]
section
variable{m n:Nat}(ih:BM T m)
include ih
theorem inq(hm:esz a<=m)(hn:(exP (l+1) a).length<=n+1)(hv:vE a=true)(hl:l<=8)(h:AtT T i (tks (exP (l+1) a)))(hs:gi l (t3 T (i+(exP (l+1) a).length))=true):
 fI T (E T n) l i= .ok a (i+(exP (l+1) a).length):=by
 unfold exP inP at h hs hn⊢;by_cases hlt:lvl a<l+1
 ·rw[Ft hlt]at h hs hn⊢;simp only[EZ,EY,F1]at hn;have h0:t3 T i=(5,cO,0):=h.1;obtain⟨h1,h2⟩:=AtT.app' (T:=T) (i:=i+1) (a:=plE a) (b:=[py dv]) h.2;obtain⟨n,rfl⟩:∃n',n=n'+1:=⟨n-1,by have:=bJ a;omega⟩;have h3:t3 T (i+1+(plE a).length)=(5,dv,0):=h2.1
  have hL:1<=lvl a:=by
   obtain⟨k,op,z,nm,at_,args⟩:=a;unfold lvl av
   repeat' split
   all_goals omega
  have hr:=ih n a 0 (i+1) hm (by omega) hv hL h1 (by rw[h3];kernel_rfl);have hlen:i+(py cO::(plE a++[py dv])).length=i+1+(plE a).length+1:=by simp;omega
  rw[hlen]at hs⊢;refine up (8-l) l 8 (by omega) (F0 _) ?_ hs (λ_ _=>ak h0 (by kernel_rfl)) (λ_ _=>⟨ak h0 (by kernel_rfl),ak h0 (by kernel_rfl),ak h0 (by kernel_rfl)⟩);show aO T (E T (n+1)) i=_;unfold aO
  rw[(cP h0).1,Fg (by decide),Fg (by decide),Fg (by rw[ak h0 (show _=false by kernel_rfl)];decide),Fg (by rw[ak h0 (show _=false by kernel_rfl)];decide),Ft (ak h0 (by kernel_rfl)),
   show E T (n+1) 0 (i+1)=fI T (E T n) 0 (i+1)from rfl,hr]
  simp only;rw[bI (by rw[h3];kernel_rfl)]
 ·rw[Fg hlt]at h hs hn⊢;have hn:(plE a).length<=n+1:=hn;exact ih n a l i hm (by omega) hv (by omega) h hs
theorem uL:∀(q:Nat) (a:Ex),esz a<=q->esz a<=m->vE a=true->∀(l i:Nat),(exP (l+1) a).length<=n+1->l=0\/l=1\/l=4\/l=5->AtT T i (tks (exP (l+1) a))->gi (l+1) (t3 T (i+(exP (l+1) a).length))=true->
 ∃K,T.length+1<=K+(i+(exP (l+1) a).length)/\fI T (E T n) l i=dy T (fI T (E T n) (l+1)) (ki l) K a (i+(exP (l+1) a).length)
 |0,a,hq,_,_,_,_,_,_,_,_=>by have:=bJ a;omega
 |q+1,a,hq,hm,hv,l,i,hn,hl,h,hs=>by
  have hlev:∀i,fI T (E T n) l i=fo T (fI T (E T n) (l+1)) (ki l) i:=λi=>by rcases hl with rfl|rfl|rfl|rfl<;>rfl
  by_cases hc:lvl a=l+1
  ·rcases db hv with⟨z,rfl,_,_⟩|rfl|rfl|⟨s,rfl,_⟩|⟨s,x,rfl,_,_⟩|⟨s,xs,rfl,_,_⟩|⟨s,xs,x,rfl,_,_,_⟩|⟨k,x,hk,rfl,_⟩|⟨o,x,y,ho,rfl,hx,hy⟩
   ·exact absurd (show 9=l+1 from hc) (by omega)
   ·exact absurd (show 9=l+1 from hc) (by omega)
   ·exact absurd (show 9=l+1 from hc) (by omega)
   ·exact absurd (show 9=l+1 from hc) (by omega)
   ·exact absurd (show 8=l+1 from hc) (by omega)
   ·exact absurd (show 9=l+1 from hc) (by omega)
   ·exact absurd (show 7=l+1 from hc) (by omega)
   ·rcases hk with rfl|rfl|rfl|rfl
    ·exact absurd (show 7=l+1 from hc) (by omega)
    ·exact absurd (show 7=l+1 from hc) (by omega)
    ·exact absurd (show 7=l+1 from hc) (by omega)
    ·exact absurd (show 3=l+1 from hc) (by omega)
   ·have hz:esz (cA o x y)=1+(esz x+esz y):=by simp[cA,esz,cz]
    have hc':av (o:Int)=l+1:=hc;obtain⟨t1,_,t3'⟩:=xQ ho;obtain⟨o1,o2⟩:=t1 l hl hc'
    have hP:exP (l+1) (cA o x y)=exP (l+1) x++(sp [opP o]++sp (exP (l+2) y)):=by
     unfold exP;rw[show plE (cA o x y)=inP (if av (o:Int)=4 then 5 else av o) (lvl x,plE x)++(sp [opP o]++sp (inP (av (o:Int)+1) (lvl y,plE y)))from rfl,hc',Fg (by omega),show lvl (cA o x y)=l+1 from hc];unfold inP;rw[Fg (GR _)]
    rw[hP]at h hs hn⊢;obtain⟨a1,a2⟩:=AtT.app' h;obtain⟨a3,a4⟩:=AtT.app' a2;have a5:t3 T (i+(exP (l+1) x).length)=(opP o).t:=a3.1;obtain⟨K,hK,hr⟩:=uL q x (by omega) (by omega) hx l i (by simp at hn;omega) hl a1 (by rw[a5];exact o2);have hlt:=gq (T:=T) (i:=i+(exP (l+1) x).length) (k:=(opP o).t.1) (s:=(opP o).t.2.1) (v:=(opP o).t.2.2) a5 t3';obtain⟨K,rfl⟩:∃K',K=K'+1:=⟨K-1,by omega⟩;have a6:=AtT.sp' a4;have hlen:i+(exP (l+1) x++(sp [opP o]++sp (exP (l+2) y))).length=i+(exP (l+1) x).length+1+(exP (l+2) y).length:=by simp[au];omega
    rw[hlen]at hs⊢;have hy':=inq ih (n:=n) (a:=y) (l:=l+1) (i:=i+(exP (l+1) x).length+1) (by omega) (by show(exP (l+2) y).length<=n+1;simp[au]at hn;omega) hy (by omega) (by simpa[sp]using a6) hs;refine⟨K,by omega,?_⟩;rw[hr];show(match opT T (ki l) (i+(exP (l+1) x).length)with|none=>_|some o=>_)=_;rw[ja,a5,o1];simp only;rw[hy']
  ·have hP:exP (l+1) a=exP (l+1+1) a:=by
    unfold exP inP;by_cases h1:lvl a<l+1
    ·rw[Ft h1,Ft (by omega)]
    ·rw[Fg h1,Fg (by omega)]
   rw[hP]at h hs hn⊢;have hr:=inq ih (n:=n) (l:=l+1) hm hn hv (by omega) h hs;refine⟨T.length+1,by omega,?_⟩;rw[hlev];unfold fo;rw[hr]
theorem yY:∀(q:Nat) (a:Ex),esz a<=q->esz a<=m->(exP 8 a).length<=n+1->vE a=true->∀(i:Nat),AtT T i (tks (exP 8 a))->gi 8 (t3 T (i+(exP 8 a).length))=true->
 ∃K,T.length+1<=K+(i+(exP 8 a).length)/\fI T (E T n) 7 i=cu T K a (i+(exP 8 a).length)
 |0,a,hq,_,_,_,_,_,_=>by have:=bJ a;omega
 |q+1,a,hq,hm,hn,hv,i,h,hs=>by
  by_cases hc:lvl a=8
  ·rcases db hv with⟨z,rfl,_,_⟩|rfl|rfl|⟨s,rfl,_⟩|⟨s,x,rfl,_,hx⟩|⟨s,xs,rfl,_,_⟩|⟨s,xs,x,rfl,_,_,_⟩|⟨k,x,hk,rfl,_⟩|⟨o,x,y,ho,rfl,hx,hy⟩
   ·exact absurd (show 9=8 from hc) (by omega)
   ·exact absurd (show 9=8 from hc) (by omega)
   ·exact absurd (show 9=8 from hc) (by omega)
   ·exact absurd (show 9=8 from hc) (by omega)
   ·have hz:esz (aU s x)=1+esz x:=by simp[aU,esz,cz]
    have hP:exP 8 (aU s x)=exP 8 x++[py DOT,pn s]:=rfl;rw[hP]at h hs hn⊢;obtain⟨a1,a2⟩:=AtT.app' h;have a5:t3 T (i+(exP 8 x).length)=(5,DOT,0):=a2.1;have a6:t3 T (i+(exP 8 x).length+1)=(2,s,0):=a2.2.1;obtain⟨K,hK,hr⟩:=yY q x (by omega) (by omega) (by simp at hn;omega) hx i a1 (by rw[a5];kernel_rfl);have hlt:=gq a5 (by decide);obtain⟨K,rfl⟩:∃K',K=K'+1:=⟨K-1,by omega⟩;have hlen:i+(exP 8 x++[py DOT,pn s]).length=i+(exP 8 x).length+1+1:=by simp;omega
    rw[hlen];refine⟨K,by omega,?_⟩;rw[hr];show(if isT T DOT (i+(exP 8 x).length)=true then _ else _)=_;rw[Ft (ak a5 (by kernel_rfl)),cH a6]
   ·exact absurd (show 9=8 from hc) (by omega)
   ·exact absurd (show 7=8 from hc) (by omega)
   ·rcases hk with rfl|rfl|rfl|rfl
    ·exact absurd (show 7=8 from hc) (by omega)
    ·exact absurd (show 7=8 from hc) (by omega)
    ·exact absurd (show 7=8 from hc) (by omega)
    ·exact absurd (show 3=8 from hc) (by omega)
   ·have:=eV o ho;exact absurd (show av (o:Int)=8 from hc) (by omega)
  ·have hP:exP 8 a=exP 9 a:=by
    unfold exP inP;by_cases h1:lvl a<8
    ·rw[Ft h1,Ft (by omega)]
    ·rw[Fg h1,Fg (by omega)]
   rw[hP]at h hs hn⊢;have hr:=inq ih (n:=n) (l:=8) hm hn hv (by omega) h hs;refine⟨T.length+1,by omega,?_⟩;show cw T (E T n) i=_;unfold cw;rw[show aO T (E T n) i=_ from hr]
theorem um:∀(l:List Ex) (xs:List Ex) (K i:Nat),(∀a∈l,esz a<=m/\(plE a).length<=n+1/\vE a=true)->T.length+1<=K+i->AtT T i (tks (dR (plL l)))->
 dJ T (E T (n+1) 0) K xs i= .ok (xs++l) (i+(dR (plL l)).length)
 |[],xs,K,i,_,hK,h=>by
  have h0:t3 T i=(5,dv,0):=h.1;have hlt:=gq h0 (by decide);obtain⟨K,rfl⟩:∃K',K=K'+1:=⟨K-1,by omega⟩;unfold dJ;rw[Fg (by rw[ak h0 (show _=false by kernel_rfl)];decide),bI (by rw[h0];kernel_rfl),FJ];rfl
 |a::l,xs,K,i,hl,hK,h=>by
  obtain⟨h1,h2,h3⟩:=hl a (by simp);have h0:t3 T i=(5,iU,0):=h.1;have hlt:=gq h0 (by decide);obtain⟨K,rfl⟩:∃K',K=K'+1:=⟨K-1,by omega⟩;obtain⟨a1,a2⟩:=AtT.app' (T:=T) (i:=i+1) (a:=sp (plE a)) (b:=dR (plL l)) h.2;have a3:=AtT.sp' a1;rw[au]at a2
  have hnx:gi 0 (t3 T (i+1+(plE a).length))=true:=by
   cases l with
   |nil=>rw[show t3 T (i+1+(plE a).length)=(5,dv,0)from a2.1];kernel_rfl
   |cons b l=>rw[show t3 T (i+1+(plE a).length)=(5,iU,0)from a2.1];kernel_rfl
  have hL:1<=lvl a:=by
   obtain⟨k,op,z,nm,at_,args⟩:=a;unfold lvl av
   repeat' split
   all_goals omega
  have hr:=ih n a 0 (i+1) h1 (by omega) h3 hL a3 hnx;unfold dJ;rw[Ft (ak h0 (by kernel_rfl)),show E T (n+1) 0 (i+1)=fI T (E T n) 0 (i+1)from rfl,hr];simp only;rw[um l (xs++[a]) K (i+1+(plE a).length) (λb hb=>hl b (by simp[hb])) (by omega) a2];simp[plL,dR,au];omega
theorem pH{l:List Ex}(hl:∀a∈l,esz a<=m/\(plE a).length<=n+1/\vE a=true)(h:AtT T i (tks (ax (plL l)))):cm T (E T (n+1) 0) i= .ok l (i+(ax (plL l)).length):=by
 cases l with
 |nil=>
  have h0:t3 T i=(5,cO,0):=h.1;have h1:t3 T (i+1)=(5,dv,0):=h.2.1;unfold cm;rw[bI (by rw[h0];kernel_rfl)];simp only;rw[Ft (ak h1 (by kernel_rfl))];rfl
 |cons a l=>
  obtain⟨h1,h2,h3⟩:=hl a (by simp);have h0:t3 T i=(5,cO,0):=h.1;obtain⟨a3,a2⟩:=AtT.app' (T:=T) (i:=i+1) (a:=plE a) (b:=dR (plL l)) h.2
  have hnx:gi 0 (t3 T (i+1+(plE a).length))=true:=by
   cases l with
   |nil=>rw[show t3 T (i+1+(plE a).length)=(5,dv,0)from a2.1];kernel_rfl
   |cons b l=>rw[show t3 T (i+1+(plE a).length)=(5,iU,0)from a2.1];kernel_rfl
  have hL:1<=lvl a:=by
   obtain⟨k,op,z,nm,at_,args⟩:=a;unfold lvl av
   repeat' split
   all_goals omega
  have hr:=ih n a 0 (i+1) h1 (by omega) h3 hL a3 hnx
  have hf:isT T dv (i+1)=false:=by
   rw[cT,a3.hd (cM a)];exact(tJ _ a (F0 _) h3).not (by kernel_rfl)
  unfold cm;rw[bI (by rw[h0];kernel_rfl)];simp only;rw[Fg (by rw[hf];decide),show E T (n+1) 0 (i+1)=fI T (E T n) 0 (i+1)from rfl,hr];simp only;rw[um ih l [a] (T.length+1) (i+1+(plE a).length) (λb hb=>hl b (by simp[hb])) (by omega) a2];simp[plL,ax];omega
end
end
theorem un(a:Ex):1<=lvl a:=by
 obtain⟨k,op,z,nm,at_,args⟩:=a;unfold lvl av
 repeat' split
 all_goals omega
theorem jh{l:List Ex}(h:a∈l):esz a<=cz l:=by
 induction l with
 |nil=>cases h
 |cons b l ih=>
  unfold cz;rcases Fp.1 h with rfl|h
  ·omega
  ·have:=ih h;omega
theorem nK(l:List Ex)(a:Ex):cz (l++[a])=cz l+esz a:=by
 induction l with
 |nil=>simp[cz]
 |cons b l ih=>rw[Fq,cz,ih,cz];omega
theorem pA(l:List Ex)(a:Ex):plL (l++[a])=plL l++[(lvl a,plE a)]:=by rw[nb,nb];simp
theorem qV:∀{l:List Ex} {a:Ex},a∈l->(plE a).length+2<=(dR (plL l)).length
 |b::l,a,h=>by
  rw[plL,dR];simp only[EZ,EY,au];rcases Fp.1 h with rfl|h
  ·have:1<=(dR (plL l)).length:=by cases l<;>simp[plL,dR]
   omega
  ·have:=qV h;omega
theorem kr{l:List Ex}(h:a∈l):(plE a).length+2<=(ax (plL l)).length:=by
 cases l with
 |nil=>cases h
 |cons b l=>
  rw[plL,ax];simp only[EZ,EY];rcases Fp.1 h with rfl|h
  ·have:1<=(dR (plL l)).length:=by cases l<;>simp[plL,dR]
   omega
  ·have:=qV h;omega
theorem uI(r:Nat)(a:Ex):1<=(exP r a).length:=List.length_pos_iff.2 (fa (cM a))
section
variable{T:List Tk}
theorem Cz(h:AtT T i (tks (ax []))):cm T f i= .ok [] (i+2):=by
 have h0:t3 T i=(5,cO,0):=h.1;have h1:t3 T (i+1)=(5,dv,0):=h.2.1;unfold cm;rw[bI (by rw[h0];kernel_rfl)];simp only;rw[Ft (ak h1 (by kernel_rfl))]
theorem good:∀m,BM T m
 |0,n,e,l,i,hm,_,_,_,_,_=>by have:=bJ e;omega
 |m+1,n,e,l,i,hm,hn,hv,hl,h,hs=>by
  have ih:=good m
  have leaf:∀{e:Ex} {p:Pc},plE e=[p]->lvl e=9->e=e->t3 T i=p.t->aO T (E T n) i= .ok e (i+1)->(∀x,isK x p.t=false)\/(isK dV p.t=false/\isK bR p.t=false/\isK cn p.t=false/\isK ep p.t=false)->
   gi l (t3 T (i+1))=true->l<=8->fI T (E T n) l i= .ok e (i+1):=λ_ _ _ h0 ho hf hs h8=>by
   have hf':∀x,x=dV\/x=bR\/x=cn\/x=ep->isT T x i=false:=λx hx=>by
    rw[cT,h0];rcases hf with hf|⟨a,b,c,d⟩
    ·exact hf x
    ·rcases hx with rfl|rfl|rfl|rfl
     ·exact a
     ·exact b
     ·exact c
     ·exact d
   exact up (8-l) l 8 (by omega) (F0 _) ho hs (λ_ _=>hf' _ (.inl rfl)) (λ_ _=>⟨hf' _ (.inr (.inl rfl)),hf' _ (.inr (.inr (.inl rfl))),hf' _ (.inr (.inr (.inr rfl)))⟩)
  have kd:∀(x:ByteArray) (k:Int) (s:ByteArray) (v:Int),k≠4->k≠5->isK x (k,s,v)=false:=λx k s v h4 h5=>by unfold isK;simp[h4,h5]
  have h8:l<=8:=by
   have:lvl e<=9:=by
    obtain⟨k,op,z,nm,at_,args⟩:=e;unfold lvl av
    repeat' split
    all_goals omega
   omega
  rcases db hv with⟨z,rfl,_,_⟩|rfl|rfl|⟨s,rfl,_⟩|⟨s,a,rfl,_,ha⟩|⟨s,xs,rfl,_,hxs⟩|⟨s,xs,a,rfl,_,hxs,ha⟩|⟨k,a,hk,rfl,ha⟩|⟨o,a,b,ho,rfl,ha,hb⟩
  ·have h0:t3 T i=(1,⟨(Lib.itoa z).toArray⟩,z):=h.1;refine leaf (p:=pz z) rfl rfl rfl h0 ?_ (.inl λx=>kd x 1 _ _ (by decide) (by decide)) hs h8;unfold aO;rw[Ft (cP h0).1,(cP h0).2.2]
  ·have h0:t3 T i=(4,ie,0):=h.1;refine leaf (p:=pk ie) rfl rfl rfl h0 ?_ (.inr ⟨by kernel_rfl,by kernel_rfl,by kernel_rfl,by kernel_rfl⟩) hs h8;unfold aO;rw[(cP h0).1,Fg (by decide),Fg (by decide),Ft (ak h0 (by kernel_rfl))]
  ·have h0:t3 T i=(4,eO,0):=h.1;refine leaf (p:=pk eO) rfl rfl rfl h0 ?_ (.inr ⟨by kernel_rfl,by kernel_rfl,by kernel_rfl,by kernel_rfl⟩) hs h8;unfold aO;rw[(cP h0).1,Fg (by decide),Fg (by decide),Fg (by rw[ak h0 (show _=false by kernel_rfl)];decide),Ft (ak h0 (by kernel_rfl))]
  ·have h0:t3 T i=(2,s,0):=h.1;refine leaf (p:=pn s) rfl rfl rfl h0 ?_ (.inl λx=>kd x 2 _ _ (by decide) (by decide)) hs h8;unfold aO;rw[(cP h0).1,Fg (by decide),Ft rfl,(cP h0).2.1]
  ·have hz:esz (aU s a)=1+esz a:=by simp[aU,esz,cz]
   have hlv:lvl (aU s a)=8:=rfl;obtain⟨f1,f2⟩:=tg _ (aU s a) (F0 _) hv;have hh:=h.hd (cM _);have hP:exP 8 (aU s a)=plE (aU s a):=rfl
   obtain⟨K,hK,hr⟩:=yY ih (n:=n) (esz (aU s a)+1) a (by omega) (by omega) (by rw[show plE (aU s a)=exP 8 a++[py DOT,pn s]from rfl]at hn;simp at hn;omega) ha i (AtT.app' (a:=exP 8 a) (b:=[py DOT,pn s]) h).1 (by
    rw[show t3 T (i+(exP 8 a).length)=(5,DOT,0)from(AtT.app' (a:=exP 8 a) (b:=[py DOT,pn s]) h).2.1];kernel_rfl)
   have a5:t3 T (i+(exP 8 a).length)=(5,DOT,0):=(AtT.app' (a:=exP 8 a) (b:=[py DOT,pn s]) h).2.1;have a6:t3 T (i+(exP 8 a).length+1)=(2,s,0):=(AtT.app' (a:=exP 8 a) (b:=[py DOT,pn s]) h).2.2.1;have hlt:=gq a5 (by decide);have hlt2:=gq a6 (by decide);obtain⟨K,rfl⟩:∃K',K=K'+1:=⟨K-1,by omega⟩;obtain⟨K,rfl⟩:∃K',K=K'+1:=⟨K-1,by omega⟩;have hlen:i+(plE (aU s a)).length=i+(exP 8 a).length+1+1:=by rw[show plE (aU s a)=exP 8 a++[py DOT,pn s]from rfl];simp;omega
   rw[hlen]at hs⊢;refine up (7-l) l 7 (by omega) (by omega) ?_ hs (λ_ _=>by rw[cT,hh];exact f1 (by omega)) (λ_ _=>⟨by rw[cT,hh];exact(f2 (by omega)).1,by rw[cT,hh];exact(f2 (by omega)).2.1,by rw[cT,hh];exact(f2 (by omega)).2.2⟩);rw[hr];show(if isT T DOT (i+(exP 8 a).length)=true then _ else _)=_;rw[Ft (ak a5 (by kernel_rfl)),cH a6];simp only;have hd:=dg hs (show l<=7 by omega);unfold gi at hd;simp only[Fx,Gt,FI]at hd;have hd2:=hd.2.1.resolve_left (by omega);show(if isT T DOT (i+(exP 8 a).length+1+1)=true then _ else _)=_;rw[Fg (by rw[cT];simpa using hd2)]
  ·have h0:t3 T i=(4,dM,0):=h.1;have h1:t3 T (i+1)=(3,s,0):=h.2.1;have hz:esz (.mk 5 0 0 s false xs)=1+cz xs:=by rw[esz]
   have h2:AtT T (i+1+1) (tks (ax (plL xs))):=h.2.2;have hlen:i+(plE (.mk 5 0 0 s false xs)).length=i+1+1+(ax (plL xs)).length:=by rw[show plE (.mk 5 0 0 s false xs)=pk dM::(sp [pc s]++ax (plL xs))from rfl];simp[sp];omega
   rw[hlen]at hs⊢
   have hlist:cm T (E T n 0) (i+1+1)= .ok xs (i+1+1+(ax (plL xs)).length):=by
    cases xs with
    |nil=>exact Cz h2
    |cons x xs=>
     obtain⟨n,rfl⟩:∃n',n=n'+1:=⟨n-1,by have:2<=(ax (plL (x::xs))).length:=by{have:=kr (l:=x::xs) (a:=x) (by simp);omega};omega⟩;exact pH ih (λa ha=>by have:=jh ha;have:=kr ha;exact⟨by omega,by omega,co hxs a ha⟩) h2
   have hat:isT T kAt (i+1+1+(ax (plL xs)).length)=false:=by
    have hd:=dg hs h8;unfold gi at hd;simp only[Fx]at hd;rw[cT];simpa using hd.1
   refine up (8-l) l 8 (by omega) (F0 _) ?_ hs (λ_ _=>ak h0 (by kernel_rfl)) (λ_ _=>⟨ak h0 (by kernel_rfl),ak h0 (by kernel_rfl),ak h0 (by kernel_rfl)⟩);show aO T (E T n) i=_;unfold aO lW
   rw[(cP h0).1,Fg (by decide),Fg (by decide),Fg (by rw[ak h0 (show _=false by kernel_rfl)];decide),Fg (by rw[ak h0 (show _=false by kernel_rfl)];decide),Fg (by rw[ak h0 (show _=false by kernel_rfl)];decide),
    bI (by rw[h0];kernel_rfl)]
   simp only;rw[cH h1];simp only;rw[hlist];simp only;rw[Fg (by rw[hat];decide)]
  ·have h0:t3 T i=(4,dM,0):=h.1;have h1:t3 T (i+1)=(3,s,0):=h.2.1;have hz:esz (.mk 5 0 0 s true (xs++[a]))=1+(cz xs+esz a):=by rw[esz,nK]
   have hP:plE (.mk 5 0 0 s true (xs++[a]))=pk dM::(sp [pc s]++(ax (plL xs)++(sp [pk kAt]++sp (exP 7 a)))):=by
    rw[plE,pA];show pk dM::(sp [pc s]++(ax (plL xs++[(lvl a,plE a)]).dropLast++(sp [pk kAt]++sp (inP 7 ((plL xs++[(lvl a,plE a)]).getLastD dX)))))=_;rw[List.dropLast_concat];simp[exP]
   rw[hP]at h hs hn⊢;obtain⟨a1,a2⟩:=AtT.app' (T:=T) (i:=i+1+1) (a:=ax (plL xs)) (b:=sp [pk kAt]++sp (exP 7 a)) h.2.2;have a3:t3 T (i+1+1+(ax (plL xs)).length)=(4,kAt,0):=a2.1;have a4:AtT T (i+1+1+(ax (plL xs)).length+1) (tks (exP 7 a)):=AtT.sp' a2.2;have hlen:i+(pk dM::(sp [pc s]++(ax (plL xs)++(sp [pk kAt]++sp (exP 7 a))))).length=i+1+1+(ax (plL xs)).length+1+(exP 7 a).length:=by simp[au];omega
   rw[hlen]at hs⊢;have hl6:l<=6:=by have:lvl (.mk 5 0 0 s true (xs++[a]))=7:=rfl;omega
   obtain⟨n,rfl⟩:∃n',n=n'+1:=⟨n-1,by omega⟩
   have hlist:cm T (E T (n+1) 0) (i+1+1)= .ok xs (i+1+1+(ax (plL xs)).length):=
    pH ih (λb hb=>by have:=jh hb;have:=kr hb;exact⟨by omega,by omega,co hxs b hb⟩) a1
   have hy:fI T (E T n) 6 (i+1+1+(ax (plL xs)).length+1)= .ok a (i+1+1+(ax (plL xs)).length+1+(exP 7 a).length):=
    inq ih (by omega) (by show(exP 7 a).length<=n+1;omega) ha (by omega) a4 (dg hs hl6)
   have hoper:aO T (E T (n+1)) i= .ok (.mk 5 0 0 s true (xs++[a])) (i+1+1+(ax (plL xs)).length+1+(exP 7 a).length):=by
    unfold aO lW
    rw[(cP h0).1,Fg (by decide),Fg (by decide),Fg (by rw[ak h0 (show _=false by kernel_rfl)];decide),Fg (by rw[ak h0 (show _=false by kernel_rfl)];decide),Fg (by rw[ak h0 (show _=false by kernel_rfl)];decide),
     bI (by rw[h0];kernel_rfl)]
    simp only;rw[cH h1];simp only;rw[hlist];simp only;rw[Ft (ak a3 (by kernel_rfl)),show E T (n+1) 6 (i+1+1+(ax (plL xs)).length+1)=fI T (E T n) 6 _ from rfl,hy]
   exact up (8-l) l 8 (by omega) (F0 _) hoper hs (λ_ _=>ak h0 (by kernel_rfl)) (λ_ _=>⟨ak h0 (by kernel_rfl),ak h0 (by kernel_rfl),ak h0 (by kernel_rfl)⟩)
  ·have hz:esz (eUn k a)=1+esz a:=by simp[eUn,esz,cz]
   have p7:=uI 7 a;have p3:=uI 3 a
   obtain⟨n,rfl⟩:∃n',n=n'+1:=⟨n-1,by
    have:(plE (eUn k a)).length=1+(exP 7 a).length\/(plE (eUn k a)).length=1+(exP 3 a).length:=by
     rcases hk with rfl|rfl|rfl|rfl
     ·exact .inl (by rw[show plE (eUn 6 a)=pk cn::sp (exP 7 a)from rfl];simp[au];omega)
     ·exact .inl (by rw[show plE (eUn 7 a)=pk ep::sp (exP 7 a)from rfl];simp[au];omega)
     ·exact .inl (by rw[show plE (eUn 8 a)=py bR::exP 7 a from rfl];simp;omega)
     ·exact .inr (by rw[show plE (eUn 9 a)=pk dV::sp (exP 3 a)from rfl];simp[au];omega)
    omega⟩
   have hrec:∀(r j:Nat),(exP (r+1) a).length<=n+1->r<=8->AtT T j (tks (exP (r+1) a))->gi r (t3 T (j+(exP (r+1) a).length))=true->E T (n+1) r j= .ok a (j+(exP (r+1) a).length):=
    λr j hL hr hA hS=>inq (n:=n) ih (by omega) hL ha hr hA hS
   rcases hk with rfl|rfl|rfl|rfl
   ·have h0:t3 T i=(4,cn,0):=h.1;have h1:AtT T (i+1) (tks (exP 7 a)):=AtT.sp' h.2;have hlen:i+(plE (eUn 6 a)).length=i+1+(exP 7 a).length:=by rw[show plE (eUn 6 a)=pk cn::sp (exP 7 a)from rfl];simp[au];omega
    have hl6:l<=6:=by have:lvl (eUn 6 a)=7:=rfl;omega
    rw[hlen]at hs⊢;refine up (6-l) l 6 (by omega) (by omega) ?_ hs (λ_ _=>ak h0 (by kernel_rfl)) (λ_ h=>absurd h (by omega));show cC T (E T (n+1)) i=_;unfold cC eN;rw[Fg (by rw[ak h0 (show _=false by kernel_rfl)];decide),Ft (ak h0 (by kernel_rfl)),hrec 6 (i+1) (by show(exP 7 a).length<=n+1;omega) (by omega) h1 (dg hs hl6)]
   ·have h0:t3 T i=(4,ep,0):=h.1;have h1:AtT T (i+1) (tks (exP 7 a)):=AtT.sp' h.2;have hlen:i+(plE (eUn 7 a)).length=i+1+(exP 7 a).length:=by rw[show plE (eUn 7 a)=pk ep::sp (exP 7 a)from rfl];simp[au];omega
    have hl6:l<=6:=by have:lvl (eUn 7 a)=7:=rfl;omega
    rw[hlen]at hs⊢;refine up (6-l) l 6 (by omega) (by omega) ?_ hs (λ_ _=>ak h0 (by kernel_rfl)) (λ_ h=>absurd h (by omega));show cC T (E T (n+1)) i=_;unfold cC eN;rw[Fg (by rw[ak h0 (show _=false by kernel_rfl)];decide),Fg (by rw[ak h0 (show _=false by kernel_rfl)];decide),Ft (ak h0 (by kernel_rfl)),hrec 6 (i+1) (by show(exP 7 a).length<=n+1;omega) (by omega) h1 (dg hs hl6)]
   ·have h0:t3 T i=(5,bR,0):=h.1;have h1:AtT T (i+1) (tks (exP 7 a)):=h.2;have hlen:i+(plE (eUn 8 a)).length=i+1+(exP 7 a).length:=by rw[show plE (eUn 8 a)=py bR::exP 7 a from rfl];simp;omega
    have hl6:l<=6:=by have:lvl (eUn 8 a)=7:=rfl;omega
    rw[hlen]at hs⊢;refine up (6-l) l 6 (by omega) (by omega) ?_ hs (λ_ _=>ak h0 (by kernel_rfl)) (λ_ h=>absurd h (by omega));show cC T (E T (n+1)) i=_;unfold cC eN;rw[Ft (ak h0 (by kernel_rfl)),hrec 6 (i+1) (by show(exP 7 a).length<=n+1;omega) (by omega) h1 (dg hs hl6)]
   ·have h0:t3 T i=(4,dV,0):=h.1;have h1:AtT T (i+1) (tks (exP 3 a)):=AtT.sp' h.2;have hlen:i+(plE (eUn 9 a)).length=i+1+(exP 3 a).length:=by rw[show plE (eUn 9 a)=pk dV::sp (exP 3 a)from rfl];simp[au];omega
    have hl2:l<=2:=by have:lvl (eUn 9 a)=3:=rfl;omega
    rw[hlen]at hs⊢;refine up (2-l) l 2 (by omega) (by omega) ?_ hs (λ_ h=>absurd h (by omega)) (λ_ h=>absurd h (by omega));show jo T (E T (n+1)) i=_;unfold jo eN;rw[Ft (ak h0 (by kernel_rfl)),hrec 2 (i+1) (by show(exP 3 a).length<=n+1;omega) (by omega) h1 (dg hs hl2)]
  ·have hz:esz (cA o a b)=1+(esz a+esz b):=by simp[cA,esz,cz]
   have hlv:lvl (cA o a b)=av o:=rfl;have hf:=tg _ (cA o a b) (F0 _) hv;have hh:=h.hd (cM _);obtain⟨t1,t2,t3'⟩:=xQ ho;have hone:=eV o ho;by_cases h4:av (o:Int)=4
   ·obtain⟨o1,o2⟩:=t2 h4
    have hP:plE (cA o a b)=exP 5 a++(sp [opP o]++sp (exP 5 b)):=by
     show inP (if av (o:Int)=4 then 5 else av o) (lvl a,plE a)++(sp [opP o]++sp (inP (av (o:Int)+1) (lvl b,plE b)))=_;rw[h4,Ft rfl];rfl
    rw[hP]at h hs hn⊢;obtain⟨a1,a2⟩:=AtT.app' h;obtain⟨a3,a4⟩:=AtT.app' a2;have a5:t3 T (i+(exP 5 a).length)=(opP o).t:=a3.1;have a6:AtT T (i+(exP 5 a).length+1) (tks (exP 5 b)):=by simpa[sp]using AtT.sp' a4
    have hlen:i+(exP 5 a++(sp [opP o]++sp (exP 5 b))).length=i+(exP 5 a).length+1+(exP 5 b).length:=by simp[au];omega
    rw[hlen]at hs⊢;have hl3:l<=3:=by omega
    refine up (3-l) l 3 (by omega) (by omega) ?_ hs (λ_ _=>by rw[cT,hh];exact hf.1 (by omega)) (λ_ h=>absurd h (by omega));show cJ T (E T n) i=_;unfold cJ;rw[show jC T (E T n) i=fI T (E T n) 4 i from rfl,inq ih (n:=n) (l:=4) (by omega) (by show(exP 5 a).length<=n+1;omega) ha (by omega) a1 (by rw[a5];exact o2)];simp only;rw[ja,a5,o1];simp only;rw[show jC T (E T n) (i+(exP 5 a).length+1)=fI T (E T n) 4 _ from rfl,inq ih (n:=n) (l:=4) (by omega) (by show(exP 5 b).length<=n+1;omega) hb (by omega) a6 (dg hs (by omega))]
   ·obtain⟨q,hq,hql⟩:∃q,(q=0\/q=1\/q=4\/q=5)/\av (o:Int)=q+1:=⟨av (o:Int)-1,by omega,by omega⟩;have hP:exP (q+1) (cA o a b)=plE (cA o a b):=by unfold exP inP;rw[Fg (by omega)]
    have hlev:fI T (E T n) q i=fo T (fI T (E T n) (q+1)) (ki q) i:=by rcases hq with rfl|rfl|rfl|rfl<;>rfl
    have hstop:=dg hs (show l<=q by omega);obtain⟨o1,o2⟩:=t1 q hq hql
    have hP2:plE (cA o a b)=exP (q+1) a++(sp [opP o]++sp (exP (q+2) b)):=by
     show inP (if av (o:Int)=4 then 5 else av o) (lvl a,plE a)++(sp [opP o]++sp (inP (av (o:Int)+1) (lvl b,plE b)))=_;rw[Fg h4,hql];rfl
    rw[hP2]at h hs hn hstop⊢;obtain⟨a1,a2⟩:=AtT.app' h;obtain⟨a3,a4⟩:=AtT.app' a2;have a5:t3 T (i+(exP (q+1) a).length)=(opP o).t:=a3.1;have a6:AtT T (i+(exP (q+1) a).length+1) (tks (exP (q+2) b)):=by simpa[sp]using AtT.sp' a4
    have hlen:i+(exP (q+1) a++(sp [opP o]++sp (exP (q+2) b))).length=i+(exP (q+1) a).length+1+(exP (q+2) b).length:=by simp[au];omega
    rw[hlen]at hs hstop⊢;obtain⟨K,hK,hr⟩:=uL ih (n:=n) (esz a) a (F0 _) (by omega) ha q i (by omega) hq a1 (by rw[a5];exact o2);have hlt:=gq (T:=T) (i:=i+(exP (q+1) a).length) (k:=(opP o).t.1) (s:=(opP o).t.2.1) (v:=(opP o).t.2.2) a5 t3';obtain⟨K,rfl⟩:∃K',K=K'+1:=⟨K-1,by omega⟩;have hy':=inq ih (n:=n) (a:=b) (l:=q+1) (i:=i+(exP (q+1) a).length+1) (by omega) (by show(exP (q+2) b).length<=n+1;omega) hb (by omega) a6 (dg hstop (by omega))
    have hlast:(opK (ki q) (t3 T (i+(exP (q+1) a).length+1+(exP (q+2) b).length))).isNone=true:=by
     unfold gi at hstop;simp only[Fx,Gt,FI]at hstop;obtain⟨s1,s2,s3,s4,s5,s6,s7⟩:=hstop;rcases hq with rfl|rfl|rfl|rfl
     ·exact s7.resolve_left (by omega)
     ·exact s6.resolve_left (by omega)
     ·exact s4.resolve_left (by omega)
     ·exact s3.resolve_left (by omega)
    have hKl:∃K',K=K'+1:=by
     refine⟨K-1,?_⟩;have hbl:0<(exP (q+2) b).length:=List.length_pos_iff.2 (fa (cM b));have hb0:=a6.hd (fa (cM b))
     have:i+(exP (q+1) a).length+1<T.length:=by
      have hbg:=Beg.in_ (q+2) hb;refine gq (k:=(hdP (exP (q+2) b)).1) (s:=(hdP (exP (q+2) b)).2.1) (v:=(hdP (exP (q+2) b)).2.2) hb0 ?_;rcases hbg with h|h|h
      ·omega
      ·omega
      ·simp only[Fp,Fm,FX]at h;rcases h with h|h|h|h|h|h|h|h<;>rw[h]<;>decide
     omega
    obtain⟨K,rfl⟩:=hKl;refine up (q-l) l q (by omega) (by omega) ?_ hs (λhl2 hq2=>by rw[cT,hh];exact hf.1 (by omega)) (λ_ h=>absurd h (by omega));rw[hr];show(match opT T (ki q) (i+(exP (q+1) a).length)with|none=>_|some o=>_)=_;rw[ja,a5,o1];simp only;rw[hy'];simp only;show(match opT T (ki q) (i+(exP (q+1) a).length+1+(exP (q+2) b).length)with|none=>_|some o=>_)=_;rw[ja,Option.isNone_iff_eq_none.1 hlast]
end
def vD(x:List UInt8):List Pc->List Pc
 |[]=>[]
 |p::l=>{p with pre:=x++p.pre}::l
def fl(x:List UInt8):List Pc->List Pc
 |[]=>[]
 |[p]=>[{p with post:=p.post++x}]
 |p::q::l=>p::fl x (q::l)
def bA(d:Nat):List UInt8:=List.replicate (2*d) 32
def ln(d:Nat)(l:List Pc):List Pc:=vD (bA d) (fl [10] l)
theorem zZ(x:List UInt8):∀l,tks (vD x l)=tks l
 |[]=>rfl
 |_::_=>rfl
theorem qt(x:List UInt8):∀l,tks (fl x l)=tks l
 |[]=>rfl
 |[_]=>rfl
 |p::q::l=>by rw[fl];show p.t::tks (fl x (q::l))=_;rw[qt x (q::l)];rfl
theorem wS(d:Nat)(l:List Pc):tks (ln d l)=tks l:=by unfold ln;rw[zZ,qt]
theorem bE(d:Nat)(l:List Pc):(ln d l).length=l.length:=by rw[<-iW,wS,iW]
theorem qZ{l:List Pc}(h:l≠[]):ln d l≠[]:=λe=>h (H8.1 (by rw[<-bE d l,e];rfl))
def stP(k:Int)(nm:ByteArray)(xs:List (Nat×List Pc))(d:Nat)(b e:List Pc)(noElse:Bool):List Pc:=
 if k=0 then ln d (pk ix::(sp [pn nm]++(sp [py bS]++(sp (inP 1 (xs.getD 0 dX))++[py aQ]))))
 else if k=1 then ln d (pn nm::(sp [py bS]++(sp (inP 1 (xs.getD 0 dX))++[py aQ])))
 else if k=2 then ln d (inP 9 (xs.getD 0 dX)++(py DOT::pn nm::(sp [py bS]++(sp (inP 1 (xs.getD 1 dX))++[py aQ]))))
 else if k=3 then ln d (pk kIf::(sp (inP 1 (xs.getD 0 dX))++sp [py cF]))++(b++((if noElse=true then[]else ln d (py cv::(sp [pk eP]++sp [py cF]))++e)++ln d [py cv]))
 else if k=4 then ln d (pk dU::(sp (inP 1 (xs.getD 0 dX))++sp [py cF]))++(b++ln d [py cv])
 else if k=5 then ln d (pk fG::(sp (inP 8 (xs.getD 0 dX))++(py DOT::pn nm::(ax xs.tail++[py aQ]))))
 else if k=6 then ln d (pk en::(sp (inP 1 (xs.getD 0 dX))++[py aQ]))
 else if k=7 then ln d (pk gw::(sp (inP 1 (xs.getD 0 dX))++(sp [pk kTo]++(sp (inP 1 (xs.getD 1 dX))++[py aQ]))))
 else if k=8 then ln d (pk eY::(sp (inP 1 (xs.getD 0 dX))++(sp [pk kBy]++(sp [pn nm]++(ax xs.tail++[py aQ])))))
 else ln d [pk ei,py aQ]
mutual
def plS:St->Nat->List Pc
 | .mk k nm ex b e,d=>stP k nm (plL ex) d (cj b (d+1)) (cj e (d+1)) e.isEmpty
def cj:List St->Nat->List Pc
 |[],_=>[]
 |s::l,d=>plS s d++cj l d
end
def stB(k:Int)(nm:ByteArray)(n:Nat)(b e:Bool):Bool:=
 if k=0\/k=1 then aR nm 97 122&&decide (n=1)&&b&&e
 else if k=2\/k=8 then aR nm 97 122&&decide (n=2)&&b&&e
 else if k=3 then decide (nm=⟨#[]⟩)&&decide (n=1)
 else if k=4 then decide (nm=⟨#[]⟩)&&decide (n=1)&&e
 else if k=5 then aR nm 97 122&&decide (1<=n)&&b&&e
 else if k=6 then decide (nm=⟨#[]⟩)&&decide (n=1)&&b&&e
 else if k=7 then decide (nm=⟨#[]⟩)&&decide (n=2)&&b&&e
 else if k=9 then decide (nm=⟨#[]⟩)&&decide (n=0)&&b&&e else false
mutual
def vS:St->Bool
 | .mk k nm ex b e=>stB k nm ex.length b.isEmpty e.isEmpty&&(vEs ex&&(vSs b&&vSs e))
def vSs:List St->Bool
 |[]=>true
 |s::l=>vS s&&vSs l
end
theorem pD{l:List α}(h:l.length=1):∃a,l=[a]:=by
 match l,h with
 |[a],_=>exact⟨a,rfl⟩
theorem wN{l:List α}(h:l.length=2):∃a b,l=[a,b]:=by
 match l,h with
 |[a,b],_=>exact⟨a,b,rfl⟩
theorem jA(h:vEs [a]=true):vE a=true:=co h a (by simp)
theorem rR{b:Ex}(h:vEs [a,b]=true):vE a=true/\vE b=true:=⟨co h a (by simp),co h b (by simp)⟩
theorem fP{s:St}(h:vS s=true):
 (∃nm x,s=stE 0 nm [x]/\aR nm 97 122=true/\vE x=true)\/(∃nm x,s=stE 1 nm [x]/\aR nm 97 122=true/\vE x=true)\/
 (∃nm x y,s=stE 2 nm [x,y]/\aR nm 97 122=true/\vE x=true/\vE y=true)\/
 (∃x b e,s= .mk 3 ⟨#[]⟩ [x] b e/\vE x=true/\vSs b=true/\vSs e=true)\/(∃x b,s= .mk 4 ⟨#[]⟩ [x] b []/\vE x=true/\vSs b=true)\/
 (∃nm x l,s=stE 5 nm (x::l)/\aR nm 97 122=true/\vE x=true/\vEs l=true)\/(∃x,s=stE 6 ⟨#[]⟩ [x]/\vE x=true)\/
 (∃x y,s=stE 7 ⟨#[]⟩ [x,y]/\vE x=true/\vE y=true)\/(∃nm x y,s=stE 8 nm [x,y]/\aR nm 97 122=true/\vE x=true/\vE y=true)\/s=stE 9 ⟨#[]⟩ []:=by
 obtain⟨k,nm,ex,b,e⟩:=s;rw[vS]at h;obtain⟨hn,hv⟩:=Fw.1 h;obtain⟨hx,hv⟩:=Fw.1 hv;obtain⟨hb,he⟩:=Fw.1 hv;unfold stB at hn;by_cases h01:k=0\/k=1
 ·simp[h01]at hn;obtain⟨⟨⟨hnm,hl⟩,hbe⟩,hee⟩:=hn;subst hbe hee;obtain⟨a,rfl⟩:=pD hl;rcases h01 with rfl|rfl
  ·exact .inl ⟨nm,a,rfl,hnm,jA hx⟩
  ·exact .inr (.inl ⟨nm,a,rfl,hnm,jA hx⟩)
 by_cases h28:k=2\/k=8
 ·simp[h01,h28]at hn;obtain⟨⟨⟨hnm,hl⟩,hbe⟩,hee⟩:=hn;subst hbe hee;obtain⟨a,b,rfl⟩:=wN hl;rcases h28 with rfl|rfl
  ·exact .inr (.inr (.inl ⟨nm,a,b,rfl,hnm,rR hx⟩))
  ·exact .inr (.inr (.inr (.inr (.inr (.inr (.inr (.inr (.inl ⟨nm,a,b,rfl,hnm,rR hx⟩))))))))
 by_cases h3:k=3
 ·subst h3;simp at hn;obtain⟨hnm,hl⟩:=hn;subst hnm;obtain⟨a,rfl⟩:=pD hl;exact .inr (.inr (.inr (.inl ⟨a,b,e,rfl,jA hx,hb,he⟩)))
 by_cases h4:k=4
 ·subst h4;simp at hn;obtain⟨⟨hnm,hl⟩,hee⟩:=hn;subst hnm hee;obtain⟨a,rfl⟩:=pD hl;exact .inr (.inr (.inr (.inr (.inl ⟨a,b,rfl,jA hx,hb⟩))))
 by_cases h5:k=5
 ·subst h5;simp at hn;obtain⟨⟨⟨hnm,hl⟩,hbe⟩,hee⟩:=hn;subst hbe hee
  match ex,hl,hx with
  |a::l,_,hx=>
   rw[vEs]at hx;obtain⟨h1,h2⟩:=Fw.1 hx;exact .inr (.inr (.inr (.inr (.inr (.inl ⟨nm,a,l,rfl,hnm,h1,h2⟩)))))
 by_cases h6:k=6
 ·subst h6;simp at hn;obtain⟨⟨⟨hnm,hl⟩,hbe⟩,hee⟩:=hn;subst hnm hbe hee;obtain⟨a,rfl⟩:=pD hl;exact .inr (.inr (.inr (.inr (.inr (.inr (.inl ⟨a,rfl,jA hx⟩))))))
 by_cases h7:k=7
 ·subst h7;simp at hn;obtain⟨⟨⟨hnm,hl⟩,hbe⟩,hee⟩:=hn;subst hnm hbe hee;obtain⟨a,b,rfl⟩:=wN hl;exact .inr (.inr (.inr (.inr (.inr (.inr (.inr (.inl ⟨a,b,rfl,rR hx⟩)))))))
 by_cases h9:k=9
 ·subst h9;simp at hn;obtain⟨⟨⟨hnm,hl⟩,hbe⟩,hee⟩:=hn;subst hnm hbe hee hl;exact .inr (.inr (.inr (.inr (.inr (.inr (.inr (.inr (.inr rfl))))))))
 ·simp[h01,h28,h3,h4,h5,h6,h7,h9]at hn
theorem gL(s:St):1<=ssz s:=by cases s;rw[ssz];omega
theorem cW{l:List St}{a:St}(h:a∈l):ssz a<=eU l:=by
 induction l with
 |nil=>cases h
 |cons b l ih=>
  unfold eU;rcases Fp.1 h with rfl|h
  ·omega
  ·have:=ih h;omega
section
variable{T:List Tk}
theorem AtT.ln'{l:List Pc}(h:AtT T i (tks (ln d l))):AtT T i (tks l):=by rwa[wS]at h
theorem ej{n r:Nat}(hn:(exP (r+1) a).length<=n+1)(hv:vE a=true)(hr:r<=8)(h:AtT T i (tks (exP (r+1) a)))(hs:gi r (t3 T (i+(exP (r+1) a).length))=true):
 E T (n+1) r i= .ok a (i+(exP (r+1) a).length):=inq (good (esz a)) (F0 _) hn hv hr h hs
theorem mT{n:Nat}:∀(q:Nat) (a:Ex),esz a<=q->(exP 8 a).length<=n+1->vE a=true->∀(i:Nat),AtT T i (tks (exP 8 a))->t3 T (i+(exP 8 a).length)=(5,DOT,0)->
 ∃K,T.length+1<=K+(i+(exP 8 a).length)/\gN T (E T (n+1)) i=dh T (E T (n+1)) K a (i+(exP 8 a).length)
 |0,a,hq,_,_,_,_,_=>by have:=bJ a;omega
 |q+1,a,hq,hn,hv,i,h,hs=>by
  by_cases hc:lvl a=8
  ·rcases db hv with⟨z,rfl,_,_⟩|rfl|rfl|⟨s,rfl,_⟩|⟨s,x,rfl,_,hx⟩|⟨s,xs,rfl,_,_⟩|⟨s,xs,x,rfl,_,_,_⟩|⟨k,x,hk,rfl,_⟩|⟨o,x,y,ho,rfl,hx,hy⟩
   ·exact absurd (show 9=8 from hc) (by omega)
   ·exact absurd (show 9=8 from hc) (by omega)
   ·exact absurd (show 9=8 from hc) (by omega)
   ·exact absurd (show 9=8 from hc) (by omega)
   ·have hz:esz (aU s x)=1+esz x:=by simp[aU,esz,cz]
    have hP:exP 8 (aU s x)=exP 8 x++[py DOT,pn s]:=rfl;rw[hP]at h hs hn⊢;obtain⟨a1,a2⟩:=AtT.app' h;have a5:t3 T (i+(exP 8 x).length)=(5,DOT,0):=a2.1;have a6:t3 T (i+(exP 8 x).length+1)=(2,s,0):=a2.2.1;obtain⟨K,hK,hr⟩:=mT (n:=n) q x (by omega) (by simp at hn;omega) hx i a1 a5;have hlt:=gq a5 (by decide);obtain⟨K,rfl⟩:∃K',K=K'+1:=⟨K-1,by omega⟩;have hlen:i+(exP 8 x++[py DOT,pn s]).length=i+(exP 8 x).length+1+1:=by simp;omega
    rw[hlen]at hs⊢;refine⟨K,by omega,?_⟩;rw[hr];show(match bB T DOT (i+(exP 8 x).length)with| .bad j=>_| .ok _ j=>_)=_;rw[bI (by rw[a5];kernel_rfl)];simp only;rw[cH a6];simp only;rw[Fg (by rw[ak hs (show _=false by kernel_rfl)];decide)]
   ·exact absurd (show 9=8 from hc) (by omega)
   ·exact absurd (show 7=8 from hc) (by omega)
   ·rcases hk with rfl|rfl|rfl|rfl
    ·exact absurd (show 7=8 from hc) (by omega)
    ·exact absurd (show 7=8 from hc) (by omega)
    ·exact absurd (show 7=8 from hc) (by omega)
    ·exact absurd (show 3=8 from hc) (by omega)
   ·have:=eV o ho;exact absurd (show av (o:Int)=8 from hc) (by omega)
  ·have hP:exP 8 a=exP 9 a:=by
    unfold exP inP;by_cases h1:lvl a<8
    ·rw[Ft h1,Ft (by omega)]
    ·rw[Fg h1,Fg (by omega)]
   rw[hP]at h hs hn⊢;have hr:=ej (r:=8) hn hv (by omega) h (by rw[hs];kernel_rfl);refine⟨T.length+1,by omega,?_⟩;unfold gN;rw[hr]
theorem sW{x:Ex}(hv:vE x=true)(h:(hdP (exP 9 x)).1=2):∃s,exP 9 x=[pn s]:=by
 rcases db hv with⟨z,rfl,_,_⟩|rfl|rfl|⟨s,rfl,_⟩|⟨s,a,rfl,_,ha⟩|⟨s,xs,rfl,_,hxs⟩|⟨s,xs,a,rfl,_,hxs,ha⟩|⟨k,a,hk,rfl,ha⟩|⟨o,a,b,ho,rfl,ha,hb⟩
 ·exact absurd (show(1:Int)=2 from h) (by decide)
 ·exact absurd (show(4:Int)=2 from h) (by decide)
 ·exact absurd (show(4:Int)=2 from h) (by decide)
 ·exact⟨s,rfl⟩
 ·exact absurd (show(5:Int)=2 from h) (by decide)
 ·exact absurd (show(4:Int)=2 from h) (by decide)
 ·exact absurd (show(5:Int)=2 from h) (by decide)
 ·rcases hk with rfl|rfl|rfl|rfl<;>exact absurd (show(5:Int)=2 from h) (by decide)
 ·have hl:lvl (cA o a b)<9:=by have:=eV o ho;show av (o:Int)<9;omega
  have:exP 9 (cA o a b)=py cO::(plE (cA o a b)++[py dv]):=by unfold exP inP;rw[Ft hl]
  rw[this]at h;exact absurd (show(5:Int)=2 from h) (by decide)
variable(T)in
def Ew(m:Nat):Prop:=∀(n d:Nat) (s:St) (i:Nat),ssz s<=m->(plS s d).length<=n->vS s=true->AtT T i (tks (plS s d))->isT T eP (i+(plS s d).length)=false->
 S T n i= .ok s (i+(plS s d).length)
theorem px(s:St)(d:Nat):plS s d≠[]:=by
 obtain⟨k,nm,ex,b,e⟩:=s;rw[plS];unfold stP
 repeat' split
 all_goals first
  |exact qZ (by simp)
  |exact λh=>qZ (d:=d) (by simp) (List.append_eq_nil_iff.1 h).1
theorem ou{s:St}(d:Nat)(hv:vS s=true):isK cv (hdP (plS s d))=false/\isK eP (hdP (plS s d))=false:=by
 have hd:∀(l:List Pc),hdP (ln d l)=hdP l:=λl=>by
  cases l with
  |nil=>rfl
  |cons p l=>cases l with
   |nil=>rfl
   |cons q l=>rfl
 have hda:∀(l m:List Pc),l≠[]->hdP (ln d l++m)=hdP l:=λl m hl=>by rw[lp _ (qZ hl),hd]
 rcases fP hv with⟨nm,x,rfl,_,hx⟩|⟨nm,x,rfl,_,hx⟩|⟨nm,x,y,rfl,_,hx,hy⟩|⟨x,b,e,rfl,hx,hb,he⟩|⟨x,b,rfl,hx,hb⟩|⟨nm,x,l,rfl,_,hx,hl⟩|⟨x,rfl,hx⟩|⟨x,y,rfl,hx,hy⟩|⟨nm,x,y,rfl,_,hx,hy⟩|rfl
 ·rw[show hdP (plS (stE 0 nm [x]) d)=(4,ix,0)from(hd (pk ix::(sp [pn nm]++(sp [py bS]++(sp (exP 1 x)++[py aQ])))):hdP (ln d _)=_)];exact⟨by kernel_rfl,by kernel_rfl⟩
 ·rw[show hdP (plS (stE 1 nm [x]) d)=(2,nm,0)from(hd (pn nm::(sp [py bS]++(sp (exP 1 x)++[py aQ]))):hdP (ln d _)=_)];exact⟨by unfold isK;simp,by unfold isK;simp⟩
 ·have hb:=Beg.in_ 9 hx;rw[show hdP (plS (stE 2 nm [x,y]) d)=hdP (exP 9 x)from(hd _).trans (lp _ (fa (cM x)))];exact⟨hb.not (by kernel_rfl),hb.not (by kernel_rfl)⟩
 ·rw[show hdP (plS (.mk 3 ⟨#[]⟩ [x] b e) d)=(4,kIf,0) by rw[plS];exact hda _ _ (by simp)];exact⟨by kernel_rfl,by kernel_rfl⟩
 ·rw[show hdP (plS (.mk 4 ⟨#[]⟩ [x] b []) d)=(4,dU,0) by rw[plS];exact hda _ _ (by simp)];exact⟨by kernel_rfl,by kernel_rfl⟩
 ·rw[show hdP (plS (stE 5 nm (x::l)) d)=(4,fG,0)from hd _];exact⟨by kernel_rfl,by kernel_rfl⟩
 ·rw[show hdP (plS (stE 6 ⟨#[]⟩ [x]) d)=(4,en,0)from hd _];exact⟨by kernel_rfl,by kernel_rfl⟩
 ·rw[show hdP (plS (stE 7 ⟨#[]⟩ [x,y]) d)=(4,gw,0)from hd _];exact⟨by kernel_rfl,by kernel_rfl⟩
 ·rw[show hdP (plS (stE 8 nm [x,y]) d)=(4,eY,0)from hd _];exact⟨by kernel_rfl,by kernel_rfl⟩
 ·rw[show hdP (plS (stE 9 ⟨#[]⟩ []) d)=(4,ei,0)from(hd [pk ei,py aQ]:hdP (ln d _)=_)];exact⟨by kernel_rfl,by kernel_rfl⟩
end
end
end Go.Proofs.YtjpbckbpeblibaaGreatDoor
