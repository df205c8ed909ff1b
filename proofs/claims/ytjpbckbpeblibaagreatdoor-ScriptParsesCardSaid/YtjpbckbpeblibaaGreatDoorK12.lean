/- part of a proof -/
import Derived.Test.YtjpbckbpeblibaaGreatDoorK11
import Derived.Deep.MidRow
namespace Go.Proofs.YtjpbckbpeblibaaGreatDoor
set_option linter.unusedVariables false
set_option linter.unusedSimpArgs false
set_option maxRecDepth 100000
set_option maxHeartbeats 64000000
section
open Go.RowKit
variable{T:List Tk}{W W' w wr:World}{a c d u:Value}{base g i j n p:Nat}{v:Option Value}{xs:Nat->Option Value}{α:Type}
theorem AU:type_of% @Bool.false_eq_true:=@Bool.false_eq_true
def AllB(w:World)(b:Nat):Prop:=b<w.heap.size
theorem AllB.aA{w':World}(h:Below w.heap.size w w'):∀b,AllB w b->AllB w' b/\w'.heap[b]?=w.heap[b]?:=λb hb=>⟨AF hb h.size,h.block b hb⟩
def jS(w:World)(e:Ending)(w':World):Prop:=e= .returned (.bool true)/\Below w.heap.size w w'
theorem uj(xs:List ByteArray)(A B:Option Addr)(n c1 c2:Nat)(w:World)(h1:Sl ea w (AllB w) xs A n)(h2:Sl ea w (AllB w) xs B n)(hn:n<=1000000):Calls Tryz.prog 56 #[.slice A n c1,.slice B n c2] w (jS w):=by
 have H1:=H_ h1;have H2:=H_ h2;clear h1 h2;go_enter Tryz.func56,Tryz.ntmps56;go_wp2_with fail;go_loopw [5] (λi wr=>∃k:Nat,k<=n/\i= .int .i64 k/\Hid (Below w.heap.size w wr)) (λi _=>n-(intOf i).toNat)
 case atStart=>exact⟨0,AM _,rfl,H_ (AC _ _)⟩
 case round=>
  obtain⟨k,hk,rfl,HB⟩:=hrel;by_cases hkm:k<n
  ·have hkz:(k:Int)<(n:Int):=by omega
   obtain⟨b,off,x,cs,rfl,hgb,hx,hrd,hat⟩:=(H1.out.aA (AllB.aA HB.out)).at_ hkm;obtain⟨b',off',x',cs',rfl,hgb',hx',hrd',hat'⟩:=(H2.out.aA (AllB.aA HB.out)).at_ hkm;obtain rfl:x'=x:=Option.some.inj (hx'.symm.trans hx);obtain⟨TT,f,hne,hf,hcov⟩:=aX wr.heap.size wr;have hcs:cs=[.string x']:=hrd;have hcs':cs'=[.string x']:=hrd';subst hcs hcs';have d0:∀y,(f y).cell? ⟨b,off+k,none⟩=some (.string x'):=λy=>(a8 (hf y) hgb _).trans (by have:=hat 0 _ rfl;rwa[show ea.sz=1 from rfl,Nat.one_mul]at this);have d1:∀y,(f y).cell? ⟨b',off'+k,none⟩=some (.string x'):=λy=>(a8 (hf y) hgb' _).trans (by have:=hat' 0 _ rfl;rwa[show ea.sz=1 from rfl,Nat.one_mul]at this);have HF:=H_ (λy=>HB.out.trans ((hf y).mono HB.out.size));have HCOV:=H_ hcov;clear hat hat' hrd hrd' hf hcov HB hx hx' hgb hgb';go_upto_region 6 with fail;refine ah f (by kernel_rfl) (by kernel_rfl) (HCOV.out _ (AC _ _).drew) ?_;repeat (go_big_quiet_step (fail))
   refine BL ?_;rintro _ ⟨y,rfl⟩;go_wp2_with fail;go_roundw
   case rel=>exact⟨k+1,by omega,by go_num,H_ (HF.out y)⟩
   case measure=>simp[intOf];omega
  ·obtain rfl:k=n:=by omega
   go_wp2_with fail;go_ret;exact⟨rfl,HB.out⟩
theorem cB{P:Program}{C:World->Prop}{a:Act}{o:Oper}{K:Act->Prop}(ty:TypeId)(x:Operand)(ho:o.op= .load ty x)
 (b off:Nat) (hx:a.eval x= .pointer (some ⟨b,off,none⟩)) (cs:List Value) (d:TypeDesc) (hc:∀w,C w->w.rangeAt b off cs)
 (hu:P.underlying ty=some d) (hd:d.isRow=true) (hi:(P.info? ty).map (·.size)=some cs.length) (hk:K (a.put o.dst (.agg cs.toArray))):o.quiet P a C K:=
 ⟨_,λw hw=>by
   unfold Oper.quietAt execOp;simp only[ho,hx,Instr.loadAt,Instr.sureAddr,BC,Bv,Bi,run_loadVar_mid w b off ty cs d (hc w hw) hu hd hi];exact⟨rfl,rfl⟩,hk⟩
theorem mC(m:Nat)(IH:∀(x:Ex) (v1 v2:Value) (w:World),esz x<=m->ExV w (AllB w) x v1->ExV w (AllB w) x v2->Calls Tryz.prog 147 #[v1,v2] w (jS w))
 (xs:List Ex) (A B:Option Addr) (n c1 c2:Nat) (w:World) (h1:Sl kEx w (AllB w) xs A n) (h2:Sl kEx w (AllB w) xs B n) (hn:n<=1000000) (hm:lsz esz xs<=m):Calls Tryz.prog 95 #[.slice A n c1,.slice B n c2] w (jS w):=by
 have H1:=H_ h1;have H2:=H_ h2;have HI:=H_ IH;clear h1 h2 IH;go_enter Tryz.func95,Tryz.ntmps95;go_wp2_with fail;go_loopw [5] (λi wr=>∃k:Nat,k<=n/\i= .int .i64 k/\Hid (Below w.heap.size w wr)) (λi _=>n-(intOf i).toNat)
 case atStart=>exact⟨0,AM _,rfl,H_ (AC _ _)⟩
 case round=>
  obtain⟨k,hk,rfl,HB⟩:=hrel;by_cases hkm:k<n
  ·have hkz:(k:Int)<(n:Int):=by omega
   obtain⟨b,off,x,cs,rfl,hgb,hx,hrd,hat⟩:=(H1.out.aA (AllB.aA HB.out)).at_ hkm;obtain⟨b',off',x',cs',rfl,hgb',hx',hrd',hat'⟩:=(H2.out.aA (AllB.aA HB.out)).at_ hkm;obtain rfl:x'=x:=Option.some.inj (hx'.symm.trans hx);have hsz:=d9 esz hx;obtain⟨xk,xo,xz,xn,xa,args⟩:=x';obtain⟨A2,n2,c2',rfl,_⟩:=ExC.inv hrd;obtain⟨A3,n3,c3',rfl,_⟩:=ExC.inv hrd';obtain⟨TT,f,hne,hf,hcov⟩:=aX wr.heap.size wr;have R1:=H_ (show∀y,(f y).rangeAt b (off+k*6) [.int .i64 xk,.int .i64 xo,.int .i64 xz,.string xn,.bool xa,.slice A2 n2 c2']from λy j u hj=>(a8 (hf y) hgb _).trans (by have:=hat j u hj;rwa[show kEx.sz=6 from rfl,AQ]at this));have R2:=H_ (show∀y,(f y).rangeAt b' (off'+k*6) [.int .i64 xk,.int .i64 xo,.int .i64 xz,.string xn,.bool xa,.slice A3 n3 c3']from λy j u hj=>(a8 (hf y) hgb' _).trans (by have:=hat' j u hj;rwa[show kEx.sz=6 from rfl,AQ]at this))
   have C1:=H_ (show∀y,Calls Tryz.prog 147 #[.agg #[.int .i64 xk,.int .i64 xo,.int .i64 xz,.string xn,.bool xa,.slice A2 n2 c2'],.agg #[.int .i64 xk,.int .i64 xo,.int .i64 xz,.string xn,.bool xa,.slice A3 n3 c3']] (f y) (λe w''=>e= .returned (.bool true)/\∃z,w''=f z)from λy=>
    (HI.out (.mk xk xo xz xn xa args) _ _ (f y) (by omega) ⟨_,rfl,ExC.aA (AllB.aA (hf y)) hrd⟩ ⟨_,rfl,ExC.aA (AllB.aA (hf y)) hrd'⟩).mono λe w'' ⟨h1,h2⟩=>⟨h1,hcov _ ((hf y).trans (h2.mono (hf y).size))⟩)
   have HF:=H_ (λy=>HB.out.trans ((hf y).mono HB.out.size));have HCOV:=H_ hcov;clear hat hat' hrd hrd' hf hcov HB hx hx' hgb hgb';go_upto_region 6 with fail;refine ah f (by kernel_rfl) (by kernel_rfl) (HCOV.out _ (AC _ _).drew) ?_;repeat (go_big_quiet_step (fail))
   go_big_quiet_want;refine cB 172 (.tmp 19) rfl b (off+k*6) rfl [_,_,_,_,_,_] _ (by rintro _ ⟨y,rfl⟩;exact R1.out y) Tryz.underlying172 rfl (by kernel_rfl) ?_;go_simp;go_big_quiet_on;repeat (go_big_quiet_step (fail))
   go_big_quiet_want;refine cB 172 (.tmp 23) rfl b' (off'+k*6) rfl [_,_,_,_,_,_] _ (by rintro _ ⟨y,rfl⟩;exact R2.out y) Tryz.underlying172 rfl (by kernel_rfl) ?_;go_simp;go_big_quiet_on;repeat (go_big_quiet_step ((go_at_call 147;exact C1.out _)))
   refine BL ?_;rintro _ ⟨y,rfl⟩;go_wp2_with fail;go_roundw
   case rel=>exact⟨k+1,by omega,by go_num,H_ (HF.out y)⟩
   case measure=>simp[intOf];omega
  ·obtain rfl:k=n:=by omega
   go_wp2_with fail;go_ret;exact⟨rfl,HB.out⟩
theorem dZ{α:Type}(sz:α->Nat)(h:∀x,1<=sz x):∀l:List α,l.length<=lsz sz l
 |[]=>AB _
 |x::l=>by have:=dZ sz h l;have:=h x;rw[ep,AZ];omega
theorem qc(m:Nat)(hm0:m<=1000000)(IH:∀(x:Ex) (v1 v2:Value) (w:World),esz x<m->ExV w (AllB w) x v1->ExV w (AllB w) x v2->Calls Tryz.prog 147 #[v1,v2] w (jS w))
 (x:Ex) (v1 v2:Value) (w:World) (hm:esz x<=m) (h1:ExV w (AllB w) x v1) (h2:ExV w (AllB w) x v2):Calls Tryz.prog 147 #[v1,v2] w (jS w):=by
 obtain⟨xk,xo,xz,xn,xa,args⟩:=x;rw[fU]at hm;obtain⟨cs,rfl,hrd⟩:=h1;obtain⟨cs',rfl,hrd'⟩:=h2;obtain⟨A2,n2,c2,rfl,hs⟩:=ExC.inv hrd;obtain⟨A3,n3,c3,rfl,hs'⟩:=ExC.inv hrd';obtain rfl:n3=n2:=hs'.1.symm.trans hs.1;have hn:=dZ esz dw args;rw[hs.1]at hn;clear hrd hrd';obtain⟨w0,hw0⟩:=nm_ (w.alloc (.cells #[.int .i64 xk,.int .i64 xo,.int .i64 xz,.string xn,.bool xa,.slice A2 n3 c2] 172));obtain⟨w1,hw1⟩:=nm_ (w0.alloc (.cells #[.int .i64 xk,.int .i64 xo,.int .i64 xz,.string xn,.bool xa,.slice A3 n3 c3] 172));have hsz0:w0.heap.size=w.heap.size+1:=by rw[<-hw0];simp
 have hsz1:w1.heap.size=w.heap.size+2:=by rw[<-hw1];simp[hsz0]
 have hb0:=bal hw0;have hb1':=bal hw1;have hb1:=hb0.trans (hb1'.mono hb0.size);have p0:=Blk.nw hw0;have p1:Blk w1 w.heap.size 172 #[.int .i64 xk,.int .i64 xo,.int .i64 xz,.string xn,.bool xa,.slice A2 n3 c2]:=(hb1'.block _ (by omega)).trans p0;have p2:Blk w1 (w.heap.size+1) 172 #[.int .i64 xk,.int .i64 xo,.int .i64 xz,.string xn,.bool xa,.slice A3 n3 c3]:=by rw[<-hsz0];exact hw1▸Blk.new w0 172 _
 have C1:=mC (lsz esz args) (λy u1 u2 w' hy=>IH y u1 u2 w' (by omega)) args A2 A3 n3 c2 c3 w1 (hs.aA (AllB.aA hb1)) (hs'.aA (AllB.aA hb1)) (by omega) (AB _);generalize hp:w.heap.size=p at*
 have q0:=p1.cell 0;have q1:=p1.cell 1;have q2:=p1.cell 2;have q3:=p1.cell 3;have q4:=p1.cell 4;have q5:=p1.cell 5;have r0:=p2.cell 0;have r1:=p2.cell 1;have r2:=p2.cell 2;have r3:=p2.cell 3;have r4:=p2.cell 4;have r5:=p2.cell 5;have HB:=H_ hb1;have HY:=H_ hsz1;have HC:=H_ C1;clear C1 hb1 p0 p1 p2 hb0 hb1' hs hs' IH;go_enter Tryz.func147,Tryz.ntmps147;go_wp2_with (go_at_call 95;refine HC.out.mono ?_);rintro _ w2 ⟨rfl,hb2⟩;go_wp2_with fail;go_ret;exact⟨rfl,hp▸HB.out.trans (hb2.mono (by have:=HY.out;omega))⟩
theorem oI(m:Nat)(hm0:m<=1000000):∀(x:Ex) (v1 v2:Value) (w:World),esz x<=m->ExV w (AllB w) x v1->ExV w (AllB w) x v2->Calls Tryz.prog 147 #[v1,v2] w (jS w):=by
 induction m with
 |zero=>exact λx v1 v2 w hx=>absurd (dw x) (by omega)
 |succ m ih=>exact qc (m+1) hm0 (λx v1 v2 w hx=>ih (by omega) x v1 v2 w (by omega))
theorem yN(xs:List Ex)(A B:Option Addr)(n c1 c2:Nat)(w:World)(h1:Sl kEx w (AllB w) xs A n)(h2:Sl kEx w (AllB w) xs B n)(hm:lsz esz xs<=1000000):Calls Tryz.prog 95 #[.slice A n c1,.slice B n c2] w (jS w):=
 mC 1000000 (oI 1000000 (AB _)) xs A B n c1 c2 w h1 h2 (by have:=dZ esz dw xs;rw[h1.1]at this;omega) hm
theorem mD(m:Nat)(hm0:m<=1000000)(IH:∀(xs:List St) (A B:Option Addr) (n c1 c2:Nat) (w:World),lsz ssz xs<m->Sl kSt w (AllB w) xs A n->Sl kSt w (AllB w) xs B n->Calls Tryz.prog 57 #[.slice A n c1,.slice B n c2] w (jS w))
 (xs:List St) (A B:Option Addr) (n c1 c2:Nat) (w:World) (h1:Sl kSt w (AllB w) xs A n) (h2:Sl kSt w (AllB w) xs B n) (hm:lsz ssz xs<=m):Calls Tryz.prog 57 #[.slice A n c1,.slice B n c2] w (jS w):=by
 have hn:=dZ ssz nr xs;rw[h1.1]at hn;have hn6:n<=1000000:=by omega
 have H1:=H_ h1;have H2:=H_ h2;have HI:=H_ IH;clear h1 h2 IH;go_enter Tryz.func57,Tryz.ntmps57;go_wp2_with fail;go_loopw [5] (λi wr=>∃k:Nat,k<=n/\i= .int .i64 k/\Hid (Below w.heap.size w wr)) (λi _=>n-(intOf i).toNat)
 case atStart=>exact⟨0,AM _,rfl,H_ (AC _ _)⟩
 case round=>
  obtain⟨k,hk,rfl,HB⟩:=hrel;by_cases hkm:k<n
  ·have hkz:(k:Int)<(n:Int):=by omega
   obtain⟨b,off,x,cs,rfl,hgb,hx,hrd,hat⟩:=(H1.out.aA (AllB.aA HB.out)).at_ hkm;obtain⟨b',off',x',cs',rfl,hgb',hx',hrd',hat'⟩:=(H2.out.aA (AllB.aA HB.out)).at_ hkm;obtain rfl:x'=x:=Option.some.inj (hx'.symm.trans hx);have hsz:=d9 ssz hx;obtain⟨xk,xn,ex,bo,el⟩:=x';rw[gu]at hsz;obtain⟨A2,n2,c2',A3,n3,c3,A4,n4,c4,rfl,hs1,hs2,hs3⟩:=StC.inv hrd;obtain⟨A2',n2',c2'',A3',n3',c3',A4',n4',c4',rfl,ht1,ht2,ht3⟩:=StC.inv hrd';obtain rfl:n2'=n2:=ht1.1.symm.trans hs1.1;obtain rfl:n3'=n3:=ht2.1.symm.trans hs2.1;obtain rfl:n4'=n4:=ht3.1.symm.trans hs3.1;obtain⟨TT,f,hne,hf,hcov⟩:=aX wr.heap.size wr;have R1:=λ(y:TT) (j:Nat) (u:Value) (hj:[Value.int .i64 xk,.string xn,.slice A2 n2' c2',.slice A3 n3' c3,.slice A4 n4' c4][j]?=some u)=>(a8 (hf y) hgb _).trans (show wr.cell? ⟨b,off+k*5+j,none⟩=some u by have:=hat j u hj;rwa[show kSt.sz=5 from rfl,AQ]at this);have R2:=λ(y:TT) (j:Nat) (u:Value) (hj:[Value.int .i64 xk,.string xn,.slice A2' n2' c2'',.slice A3' n3' c3',.slice A4' n4' c4'][j]?=some u)=>(a8 (hf y) hgb' _).trans (show wr.cell? ⟨b',off'+k*5+j,none⟩=some u by have:=hat' j u hj;rwa[show kSt.sz=5 from rfl,AQ]at this);have a0:∀y,(f y).cell? ⟨b,off+k*5,none⟩=some (.int .i64 xk):=λy=>R1 y 0 _ rfl;have a1:=λy=>R1 y 1 _ rfl;have a2:=λy=>R1 y 2 _ rfl;have a3:=λy=>R1 y 3 _ rfl;have a4:=λy=>R1 y 4 _ rfl;have e0:∀y,(f y).cell? ⟨b',off'+k*5,none⟩=some (.int .i64 xk):=λy=>R2 y 0 _ rfl;have e1:=λy=>R2 y 1 _ rfl;have e2:=λy=>R2 y 2 _ rfl;have e3:=λy=>R2 y 3 _ rfl;have e4:=λy=>R2 y 4 _ rfl
   have C1:=H_ (show∀y,Calls Tryz.prog 95 #[.slice A2 n2' c2',.slice A2' n2' c2''] (f y) (λe w''=>e= .returned (.bool true)/\∃z,w''=f z)from λy=>
    (yN ex A2 A2' _ _ _ (f y) (hs1.aA (AllB.aA (hf y))) (ht1.aA (AllB.aA (hf y))) (by omega)).mono λe w'' ⟨h1,h2⟩=>⟨h1,hcov _ ((hf y).trans (h2.mono (hf y).size))⟩)
   have C2:=H_ (show∀y,Calls Tryz.prog 57 #[.slice A3 n3' c3,.slice A3' n3' c3'] (f y) (λe w''=>e= .returned (.bool true)/\∃z,w''=f z)from λy=>
    (HI.out bo A3 A3' _ _ _ (f y) (by omega) (hs2.aA (AllB.aA (hf y))) (ht2.aA (AllB.aA (hf y)))).mono λe w'' ⟨h1,h2⟩=>⟨h1,hcov _ ((hf y).trans (h2.mono (hf y).size))⟩)
   have C3:=H_ (show∀y,Calls Tryz.prog 57 #[.slice A4 n4' c4,.slice A4' n4' c4'] (f y) (λe w''=>e= .returned (.bool true)/\∃z,w''=f z)from λy=>
    (HI.out el A4 A4' _ _ _ (f y) (by omega) (hs3.aA (AllB.aA (hf y))) (ht3.aA (AllB.aA (hf y)))).mono λe w'' ⟨h1,h2⟩=>⟨h1,hcov _ ((hf y).trans (h2.mono (hf y).size))⟩)
   have HF:=H_ (λy=>HB.out.trans ((hf y).mono HB.out.size));have HCOV:=H_ hcov;clear hat hat' hrd hrd' hf hcov HB hx hx' hgb hgb' R1 R2 hs1 hs2 hs3 ht1 ht2 ht3 hsz hm hn;go_upto_region 6 with fail;refine ah f (by kernel_rfl) (by kernel_rfl) (HCOV.out _ (AC _ _).drew) ?_;simp only[List.append_eq,BN,CC];repeat (go_big_quiet_step (fail))
   go_big_quiet_step ((go_at_call 95;exact C1.out _));repeat (go_big_quiet_step (fail))
   go_big_quiet_step ((go_at_call 57;exact C2.out _));repeat (go_big_quiet_step (fail))
   go_big_quiet_step ((go_at_call 57;exact C3.out _));repeat (go_big_quiet_step (fail))
   refine BL ?_;rintro _ ⟨y,rfl⟩;go_wp2_with fail;go_roundw
   case rel=>exact⟨k+1,by omega,by go_num,H_ (HF.out y)⟩
   case measure=>simp[intOf];omega
  ·obtain rfl:k=n:=by omega
   go_wp2_with fail;go_ret;exact⟨rfl,HB.out⟩
theorem yO(xs:List St)(A B:Option Addr)(n c1 c2:Nat)(w:World)(h1:Sl kSt w (AllB w) xs A n)(h2:Sl kSt w (AllB w) xs B n)(hm:lsz ssz xs<=1000000):Calls Tryz.prog 57 #[.slice A n c1,.slice B n c2] w (jS w):=by
 have h:∀(m:Nat),m<=1000000->∀(xs:List St) (A B:Option Addr) (n c1 c2:Nat) (w:World),lsz ssz xs<=m->Sl kSt w (AllB w) xs A n->Sl kSt w (AllB w) xs B n->Calls Tryz.prog 57 #[.slice A n c1,.slice B n c2] w (jS w):=by
  intro m;induction m with
  |zero=>exact λ_ xs A B n c1 c2 w hx h1 h2=>mD 0 (by omega) (λ_ _ _ _ _ _ _ h=>absurd h (by omega)) xs A B n c1 c2 w h1 h2 hx
  |succ m ih=>exact λh0 xs A B n c1 c2 w hx h1 h2=>mD (m+1) h0 (λxs A B n c1 c2 w h=>ih (by omega) xs A B n c1 c2 w (by omega)) xs A B n c1 c2 w h1 h2 hx
 exact h 1000000 (AB _) xs A B n c1 c2 w hm h1 h2
abbrev pt(N:Nat):Value:= .pointer (some ⟨N,0,none⟩)
def F27s(p q b off b' off' n c1 c2 k S:Nat)(d e:Value×Value×Value×Value)(i:Nat)(xs:Nat->Option Value)(W:World):Prop:=match i with
 |0=>xs 0=some (pt p)
 |1=>xs 1=some (.slice (some ⟨b,off,none⟩) n c1)
 |2=>xs 2=some (.int .i64 (k:Int))
 |3=>xs 3=some (.pointer (some ⟨b,off+k*4,none⟩))
 |4=>xs 4=some (.agg #[d.1,d.2.1,d.2.2.1,d.2.2.2])
 |5=>xs 5=some (pt q)
 |6=>xs 6=some (.slice (some ⟨b',off',none⟩) n c2)
 |7=>xs 7=some (.int .i64 (k:Int))
 |8=>xs 8=some (.pointer (some ⟨b',off'+k*4,none⟩))
 |9=>xs 9=some (.agg #[e.1,e.2.1,e.2.2.1,e.2.2.2])
 |10=>∃N u0 u1 u2 u3,xs 10=some (pt N)/\S<=N/\Blk W N 117 #[u0,u1,u2,u3]
 |11=>∃N u0 u1 u2 u3,xs 11=some (pt N)/\S<=N/\Blk W N 117 #[u0,u1,u2,u3]
 |12=>∃N,xs 10=some (pt N)/\S<=N/\Blk W N 117 #[d.1,d.2.1,d.2.2.1,d.2.2.2]
 |13=>∃N,xs 11=some (pt N)/\S<=N/\Blk W N 117 #[e.1,e.2.1,e.2.2.1,e.2.2.2]
 |_=>True
def o9(k j:Nat):Bool:=(k==12&&j==10)||(k==13&&j==11)
theorem F27s.aA{q b off b' off' c1 c2 k S:Nat}{d e:Value×Value×Value×Value}(hne:i≠j)(hd:o9 i j=false)(h:F27s p q b off b' off' n c1 c2 k S d e i xs W)
 (hA:∀N u0 u1 u2 u3,xs 10=some (pt N)->S<=N->Blk W N 117 #[u0,u1,u2,u3]->(∃v0 v1 v2 v3,Blk W' N 117 #[v0,v1,v2,v3])/\(j≠12->Blk W' N 117 #[u0,u1,u2,u3]))
 (hB:∀N u0 u1 u2 u3,xs 11=some (pt N)->S<=N->Blk W N 117 #[u0,u1,u2,u3]->(∃v0 v1 v2 v3,Blk W' N 117 #[v0,v1,v2,v3])/\(j≠13->Blk W' N 117 #[u0,u1,u2,u3])):
 F27s p q b off b' off' n c1 c2 k S d e i (au xs j v) W':=by
 by_cases hi:i<14
 rotate_left
 ·obtain⟨m,rfl⟩:∃m,i=m+14:=⟨i-14,by omega⟩;trivial
 obtain rfl|rfl|rfl|rfl|rfl|rfl|rfl|rfl|rfl|rfl|rfl|rfl|rfl|rfl:i=0\/i=1\/i=2\/i=3\/i=4\/i=5\/i=6\/i=7\/i=8\/i=9\/i=10\/i=11\/i=12\/i=13:=by omega
 rotate_right 4
 ·obtain⟨N,u0,u1,u2,u3,h1,h2,h3⟩:=h;obtain⟨v0,v1,v2,v3,h4⟩:=(hA N u0 u1 u2 u3 h1 h2 h3).1;exact⟨N,v0,v1,v2,v3,(aV xs v hne).trans h1,h2,h4⟩
 ·obtain⟨N,u0,u1,u2,u3,h1,h2,h3⟩:=h;obtain⟨v0,v1,v2,v3,h4⟩:=(hB N u0 u1 u2 u3 h1 h2 h3).1;exact⟨N,v0,v1,v2,v3,(aV xs v hne).trans h1,h2,h4⟩
 ·obtain⟨N,h1,h2,h3⟩:=h;have hj:10≠j:=λe=>by subst e;exact absurd hd (by decide)
  exact⟨N,(aV xs v hj).trans h1,h2,(hA N _ _ _ _ h1 h2 h3).2 (λe=>hne e.symm)⟩
 ·obtain⟨N,h1,h2,h3⟩:=h;have hj:11≠j:=λe=>by subst e;exact absurd hd (by decide)
  exact⟨N,(aV xs v hj).trans h1,h2,(hB N _ _ _ _ h1 h2 h3).2 (λe=>hne e.symm)⟩
 all_goals exact(aV xs v hne).trans h
def J27s(wr:World)(xs:Nat->Option Value)(W:World):Prop:=Below wr.heap.size wr W/\(∀N M,xs 10=some (pt N)->xs 11=some (pt M)->N≠M)/\(∀N,xs 10=some (pt N)->N<W.heap.size)/\∀N,xs 11=some (pt N)->N<W.heap.size
theorem J27s.same(h:J27s wr xs W)(hj:j≠10/\j≠11)(hb:Below wr.heap.size W W'):J27s wr (au xs j v) W':=by
 have e0:=aV xs v hj.1.symm;have e1:=aV xs v hj.2.symm;refine⟨h.1.trans hb,?_,?_,?_⟩
 ·rw[e0,e1];exact h.2.1
 ·rw[e0];exact λN hN=>AF (h.2.2.1 N hN) hb.size
 ·rw[e1];exact λN hN=>AF (h.2.2.2 N hN) hb.size
theorem jC{N M:Nat}(h:some (pt N)=some (pt M)):N=M:=by cases h;rfl
theorem J27s.new10(h:J27s wr xs W)(o:Obj):J27s wr (au xs 10 (some (pt W.heap.size))) (W.alloc o):=by
 refine⟨h.1.alloc h.1.size o,λN M h1 h2=>?_,λN h1=>?_,λN h1=>?_⟩
 ·have e:=jC ((bO xs 10 _).symm.trans h1);have:=h.2.2.2 M ((aV xs _ (by decide)).symm.trans h2);omega
 ·have e:=jC ((bO xs 10 _).symm.trans h1);simp;omega
 ·have:=h.2.2.2 N ((aV xs _ (by decide)).symm.trans h1);simp;omega
theorem J27s.new11(h:J27s wr xs W)(o:Obj):J27s wr (au xs 11 (some (pt W.heap.size))) (W.alloc o):=by
 refine⟨h.1.alloc h.1.size o,λN M h1 h2=>?_,λN h1=>?_,λN h1=>?_⟩
 ·have e:=jC ((bO xs 11 _).symm.trans h2);have:=h.2.2.1 N ((aV xs _ (by decide)).symm.trans h1);omega
 ·have:=h.2.2.1 N ((aV xs _ (by decide)).symm.trans h1);simp;omega
 ·have e:=jC ((bO xs 11 _).symm.trans h1);simp;omega
def ye(w:World)(g:Nat)(a b c d:Value):World:=(((w.setCell ⟨g,0,none⟩ a).setCell ⟨g,1,none⟩ b).setCell ⟨g,2,none⟩ c).setCell ⟨g,3,none⟩ d
theorem Blk.oth4{g':Nat}{t:TypeId}{cs:Array Value}(h:Blk w g' t cs)(hne:g'≠g)(a b c d:Value):Blk (ye w g a b c d) g' t cs:=
 (((h.other ⟨g,0,none⟩ a hne).other ⟨g,1,none⟩ b hne).other ⟨g,2,none⟩ c hne).other ⟨g,3,none⟩ d hne
theorem wh{S:Nat}(h:S<=g)(a b c d:Value):Below S w (ye w g a b c d):=
 ((((AC S w).setCell (p:=⟨g,0,none⟩) h a).setCell (p:=⟨g,1,none⟩) h b).setCell (p:=⟨g,2,none⟩) h c).setCell (p:=⟨g,3,none⟩) h d
theorem yP(cs:List Cl)(A B:Option Addr)(n c1 c2:Nat)(w:World)(h1:Sl kCl w (AllB w) cs A n)(h2:Sl kCl w (AllB w) cs B n)(hm:lsz csz cs<=1000000):Calls Tryz.prog 27 #[.agg #[.slice A n c1],.agg #[.slice B n c2]] w (jS w):=by
 have hn:=dZ csz (λx=>by unfold csz;omega) cs;rw[h1.1]at hn;have hn6:n<=1000000:=by omega
 obtain⟨w0,hw0⟩:=nm_ (w.alloc (.cells #[.slice A n c1] 28));obtain⟨w1,hw1⟩:=nm_ (w0.alloc (.cells #[.slice B n c2] 28));have hsz0:w0.heap.size=w.heap.size+1:=by rw[<-hw0];simp
 have hsz1:w1.heap.size=w.heap.size+2:=by rw[<-hw1];simp[hsz0]
 have hb0:=bal hw0;have hb1':Below w0.heap.size w0 w1:=hw1▸(AC _ _).alloc (AB _) _;have hb1:Below w.heap.size w w1:=hb0.trans (hb1'.mono hb0.size);have p0:Blk w0 w.heap.size 28 #[.slice A n c1]:=hw0▸Blk.new w 28 _;have P1:=H_ (show Blk w1 w.heap.size 28 #[.slice A n c1]from(hb1'.block _ (by omega)).trans p0);have P2:=H_ (show Blk w1 (w.heap.size+1) 28 #[.slice B n c2] by rw[<-hsz0];exact hw1▸Blk.new w0 28 _);have H1:=H_ (h1.aA (G':=AllB w1) (AllB.aA hb1));have H2:=H_ (h2.aA (G':=AllB w1) (AllB.aA hb1));have HB1:=H_ hb1;have HS1:=H_ hsz1;clear hb0 hb1' hb1 p0 h1 h2 hn;generalize hpz:w.heap.size=p at*
 have x1:=P1.out.cell 0;have x2:=P2.out.cell 0;go_enter Tryz.func27,Tryz.ntmps27;go_wp2_with fail;clear x1 x2;go_loopw [5] (λi wr=>∃k:Nat,k<=n/\i= .int .i64 k/\Hid (Below w1.heap.size w1 wr)) (λi _=>n-(intOf i).toNat)
 case atStart=>exact⟨0,AM _,rfl,H_ (AC _ _)⟩
 case round=>
  obtain⟨k,hk,rfl,HB⟩:=hrel;have HY:=HS1.out;have Q1:=H_ (P1.out.below HB.out (by omega));have Q2:=H_ (P2.out.below HB.out (by omega));have x1:=Q1.out.cell 0;have x2:=Q2.out.cell 0;by_cases hkm:k<n
  ·have hkz:(k:Int)<(n:Int):=by omega
   obtain⟨b,off,x,cs1,rfl,hgb,hx,hrd,hat⟩:=(H1.out.aA (AllB.aA HB.out)).at_ hkm;obtain⟨b',off',x',cs2,rfl,hgb',hx',hrd',hat'⟩:=(H2.out.aA (AllB.aA HB.out)).at_ hkm;obtain rfl:x'=x:=Option.some.inj (hx'.symm.trans hx);have hsz:=d9 csz hx;obtain⟨A2,n2,c3,A3,n3,c4,rfl,hf1,hm1⟩:=hrd;obtain⟨B2,n2',d3,B3,n3',d4,rfl,hf2,hm2⟩:=hrd';obtain rfl:n2'=n2:=hf2.1.symm.trans hf1.1;obtain rfl:n3'=n3:=hm2.1.symm.trans hm1.1;have R1:=H_ (show wr.rangeAt b (off+k*4) [.string x'.nm,.bool x'.actor,.slice A2 n2' c3,.slice A3 n3' c4]from λj u hj=>by have:=hat j u hj;rwa[show kCl.sz=4 from rfl,AQ]at this);have R2:=H_ (show wr.rangeAt b' (off'+k*4) [.string x'.nm,.bool x'.actor,.slice B2 n2' d3,.slice B3 n3' d4]from λj u hj=>by have:=hat' j u hj;rwa[show kCl.sz=4 from rfl,AQ]at this);have HF:=H_ (And.intro (And.intro hf1 hf2) (And.intro hm1 hm2));have HGB:=H_ (And.intro hgb hgb');clear hat hat' hf1 hf2 hm1 hm2 hx hx' hgb hgb';go_upto_region 6 with fail
   refine dR (λxs=>{tmps:= #[.agg #[.slice (some ⟨b,off,none⟩) n c1],.agg #[.slice (some ⟨b',off',none⟩) n c2],.pointer (some ⟨p,0,none⟩),.pointer (some ⟨p+1,0,none⟩),u4,.int .i64 ↑k,(xs 10).getD u6,(xs 11).getD u7,u8,.pointer (some ⟨p,0,none⟩),.slice (some ⟨b,off,none⟩) n c1,.int .i64 ↑n,.pointer (some ⟨p+1,0,none⟩),.slice (some ⟨b',off',none⟩) n c2,.int .i64 ↑n,.bool false,.int .i64 ↑k,.pointer (some ⟨p,0,none⟩),.slice (some ⟨b,off,none⟩) n c1,.int .i64 ↑n,.bool true,u21,u22,(xs 0).getD u23,(xs 1).getD u24,(xs 2).getD u25,(xs 3).getD u26,(xs 4).getD u27,(xs 5).getD u28,(xs 6).getD u29,(xs 7).getD u30,(xs 8).getD u31,(xs 9).getD u32,u33,u34,u35,u36,u37,u38,u39,u40,u41,u42,u43,u44,u45,u46,u47,u48,u49,u50,u51,u52,u53,u54,u55,u56,u57,u58,u59,u60,u61,u62,u63,u64,u65,u66,u67,u68,u69,u70,u71,u72,u73,u74,u75,u76,u77,u78,u79,u80,u81,u82,u83,u84,u85,u86,u87,u88,u89,u90,u91,u92,u93,u94,u95,u96,u97,u98,u99,u100,u101,u102,u103,u104,u105,u106,u107,u108,u109,u110,u111,u112,u113],defers:=[]}) (λ_=>none) (J27s wr)
    (F27s p (p+1) b off b' off' n c1 c2 k wr.heap.size (.string x'.nm,.bool x'.actor,.slice A2 n2' c3,.slice A3 n3' c4) (.string x'.nm,.bool x'.actor,.slice B2 n2' d3,.slice B3 n3' d4)) o9
    (by kernel_rfl) (by kernel_rfl) ?_ rfl ⟨(AC _ _).drew,(λ_ _ h=>by cases h),(λ_ h=>by cases h),(λ_ h=>by cases h)⟩ ?_ ?_
   ·intro k' j' hk' hd;unfold o9 at hd;simp only[Ba,CJ,CE]at hd;obtain⟨rfl,rfl⟩|⟨rfl,rfl⟩:=hd<;>kernel_rfl
   ·intro i hi xs W hJ hno _ hd;have hpw:p<wr.heap.size:=Q1.out.lt;have hpw2:p+1<wr.heap.size:=Q2.out.lt
    have still:∀(v:Value) (k':Nat),k'≠i->o9 k' i=false->i≠10->i≠11->F27s p (p+1) b off b' off' n c1 c2 k wr.heap.size (.string x'.nm,.bool x'.actor,.slice A2 n2' c3,.slice A3 n3' c4) (.string x'.nm,.bool x'.actor,.slice B2 n2' d3,.slice B3 n3' d4) k' xs W->F27s p (p+1) b off b' off' n c1 c2 k wr.heap.size (.string x'.nm,.bool x'.actor,.slice A2 n2' c3,.slice A3 n3' c4) (.string x'.nm,.bool x'.actor,.slice B2 n2' d3,.slice B3 n3' d4) k' (au xs i (some v)) W:=
     λv k' h1 h2 _ _ h=>h.aA h1 h2 (λN u0 u1 u2 u3 _ _ hq=>⟨⟨_,_,_,_,hq⟩,λ_=>hq⟩) (λN u0 u1 u2 u3 _ _ hq=>⟨⟨_,_,_,_,hq⟩,λ_=>hq⟩)
    have HST:=H_ still;have HJ:=H_ hJ;clear still;obtain rfl|rfl|rfl|rfl|rfl|rfl|rfl|rfl|rfl|rfl|rfl|rfl|rfl|rfl:i=0\/i=1\/i=2\/i=3\/i=4\/i=5\/i=6\/i=7\/i=8\/i=9\/i=10\/i=11\/i=12\/i=13:=by have:i<14:=hi;omega
    ·refine AE rfl λK hK=>?_;go_simp;exact hK _ _ ⟨some (pt p),rfl,HJ.out.same (by decide) (AC _ _),rfl,λk' h1 h2 h=>HST.out _ k' h1 h2 (by decide) (by decide) h⟩
    ·have h0:xs 0=some (pt (p)):=hd 0;have d0:=(Q1.out.below hJ.1 (by omega)).cell 0;refine AE rfl λK hK=>?_;go_simp;exact hK _ _ ⟨some (.slice (some ⟨b,off,none⟩) n c1),by simp only[au,h0];rfl,HJ.out.same (by decide) (AC _ _),rfl,λk' h1 h2 h=>HST.out _ k' h1 h2 (by decide) (by decide) h⟩
    ·refine AE rfl λK hK=>?_;go_simp;exact hK _ _ ⟨some (.int .i64 (k:Int)),rfl,HJ.out.same (by decide) (AC _ _),rfl,λk' h1 h2 h=>HST.out _ k' h1 h2 (by decide) (by decide) h⟩
    ·have h0:xs 1=some (.slice (some ⟨b,off,none⟩) n c1):=hd 1;have h1:xs 2=some (.int .i64 (k:Int)):=hd 2;refine AE rfl λK hK=>?_;go_simp;exact hK _ _ ⟨some (.pointer (some ⟨b,off+k*4,none⟩)),by simp only[au,h0,h1];rfl,HJ.out.same (by decide) (AC _ _),rfl,λk' h1 h2 h=>HST.out _ k' h1 h2 (by decide) (by decide) h⟩
    ·have h0:xs 3=some (.pointer (some ⟨b,off+k*4,none⟩)):=hd 3;have ld0:W.cell? ⟨b,off+k*4,none⟩=_:=(a8 hJ.1 HGB.out.1 _).trans (R1.out 0 _ rfl);have ld1:W.cell? ⟨b,off+k*4+1,none⟩=_:=(a8 hJ.1 HGB.out.1 _).trans (R1.out 1 _ rfl);have ld2:W.cell? ⟨b,off+k*4+2,none⟩=_:=(a8 hJ.1 HGB.out.1 _).trans (R1.out 2 _ rfl);have ld3:W.cell? ⟨b,off+k*4+3,none⟩=_:=(a8 hJ.1 HGB.out.1 _).trans (R1.out 3 _ rfl);refine AE rfl λK hK=>?_;go_simp;exact hK _ _ ⟨some (.agg #[.string x'.nm,.bool x'.actor,.slice A2 n2' c3,.slice A3 n3' c4]),by simp only[au,h0];rfl,HJ.out.same (by decide) (AC _ _),rfl,λk' h1 h2 h=>HST.out _ k' h1 h2 (by decide) (by decide) h⟩
    ·refine AE rfl λK hK=>?_;go_simp;exact hK _ _ ⟨some (pt (p+1)),rfl,HJ.out.same (by decide) (AC _ _),rfl,λk' h1 h2 h=>HST.out _ k' h1 h2 (by decide) (by decide) h⟩
    ·have h0:xs 5=some (pt (p+1)):=hd 5;have d0:=(Q2.out.below hJ.1 (by omega)).cell 0;refine AE rfl λK hK=>?_;go_simp;exact hK _ _ ⟨some (.slice (some ⟨b',off',none⟩) n c2),by simp only[au,h0];rfl,HJ.out.same (by decide) (AC _ _),rfl,λk' h1 h2 h=>HST.out _ k' h1 h2 (by decide) (by decide) h⟩
    ·refine AE rfl λK hK=>?_;go_simp;exact hK _ _ ⟨some (.int .i64 (k:Int)),rfl,HJ.out.same (by decide) (AC _ _),rfl,λk' h1 h2 h=>HST.out _ k' h1 h2 (by decide) (by decide) h⟩
    ·have h0:xs 6=some (.slice (some ⟨b',off',none⟩) n c2):=hd 6;have h1:xs 7=some (.int .i64 (k:Int)):=hd 7;refine AE rfl λK hK=>?_;go_simp;exact hK _ _ ⟨some (.pointer (some ⟨b',off'+k*4,none⟩)),by simp only[au,h0,h1];rfl,HJ.out.same (by decide) (AC _ _),rfl,λk' h1 h2 h=>HST.out _ k' h1 h2 (by decide) (by decide) h⟩
    ·have h0:xs 8=some ((.pointer (some ⟨b',off'+k*4,none⟩))):=hd 8;have ld0:W.cell? ⟨b',off'+k*4,none⟩=_:=(a8 hJ.1 HGB.out.2 _).trans (R2.out 0 _ rfl);have ld1:W.cell? ⟨b',off'+k*4+1,none⟩=_:=(a8 hJ.1 HGB.out.2 _).trans (R2.out 1 _ rfl);have ld2:W.cell? ⟨b',off'+k*4+2,none⟩=_:=(a8 hJ.1 HGB.out.2 _).trans (R2.out 2 _ rfl);have ld3:W.cell? ⟨b',off'+k*4+3,none⟩=_:=(a8 hJ.1 HGB.out.2 _).trans (R2.out 3 _ rfl);refine AE rfl λK hK=>?_;go_simp;exact hK _ _ ⟨some (.agg #[.string x'.nm,.bool x'.actor,.slice B2 n2' d3,.slice B3 n3' d4]),by simp only[au,h0];rfl,HJ.out.same (by decide) (AC _ _),rfl,λk' h1 h2 h=>HST.out _ k' h1 h2 (by decide) (by decide) h⟩
    ·have hq:=H_ (Blk.new W 117 #[.string ⟨#[]⟩,.bool false,.slice none 0 0,.slice none 0 0]);have hj:=H_ (hJ.new10 (.cells #[.string ⟨#[]⟩,.bool false,.slice none 0 0,.slice none 0 0] 117));refine AE rfl λK hK=>?_;go_simp;exact hK _ _ ⟨some (pt W.heap.size),rfl,hj.out,⟨W.heap.size,_,_,_,_,bO _ _ _,HJ.out.1.size,hq.out⟩,λk' h1 h2 h=>h.aA h1 h2 (λN u0 u1 u2 u3 _ _ hq'=>⟨⟨_,_,_,_,hq'.alloc _⟩,λ_=>hq'.alloc _⟩) (λN u0 u1 u2 u3 _ _ hq'=>⟨⟨_,_,_,_,hq'.alloc _⟩,λ_=>hq'.alloc _⟩)⟩
    ·have hq:=H_ (Blk.new W 117 #[.string ⟨#[]⟩,.bool false,.slice none 0 0,.slice none 0 0]);have hj:=H_ (hJ.new11 (.cells #[.string ⟨#[]⟩,.bool false,.slice none 0 0,.slice none 0 0] 117));refine AE rfl λK hK=>?_;go_simp;exact hK _ _ ⟨some (pt W.heap.size),rfl,hj.out,⟨W.heap.size,_,_,_,_,bO _ _ _,HJ.out.1.size,hq.out⟩,λk' h1 h2 h=>h.aA h1 h2 (λN u0 u1 u2 u3 _ _ hq'=>⟨⟨_,_,_,_,hq'.alloc _⟩,λ_=>hq'.alloc _⟩) (λN u0 u1 u2 u3 _ _ hq'=>⟨⟨_,_,_,_,hq'.alloc _⟩,λ_=>hq'.alloc _⟩)⟩
    ·obtain⟨N,u0,u1,u2,u3,h0,hN,hq⟩:=hd 10;have h1:xs 4=some (.agg #[.string x'.nm,.bool x'.actor,.slice A2 n2' c3,.slice A3 n3' c4]):=hd 4;have ld0:=hq.cell 0;have ld1:=hq.cell 1;have ld2:=hq.cell 2;have ld3:=hq.cell 3;obtain⟨fz0,fz1,fz2,fz3⟩:=hq.f4;have HQ:=H_ hq;clear hq;refine AE rfl λK hK=>?_;go_simp;exact hK _ _ ⟨none,by simp only[au,h0,h1];rfl,HJ.out.same (by decide) (wh hN (.string x'.nm) (.bool x'.actor) (.slice A2 n2' c3) (.slice A3 n3' c4)),⟨N,(aV xs _ (by decide)).trans h0,hN,HQ.out.aK⟩,λk' g1 g2 h=>h.aA g1 g2 (λN' w0 w1 w2 w3 e1 _ hq'=>by obtain rfl:=jC (h0.symm.trans e1);exact⟨⟨_,_,_,_,hq'.aK⟩,λe=>absurd rfl e⟩) (λN' w0 w1 w2 w3 e1 _ hq'=>have hne:=HJ.out.2.1 N N' h0 e1;⟨⟨_,_,_,_,hq'.oth4 hne.symm _ _ _ _⟩,λ_=>hq'.oth4 hne.symm _ _ _ _⟩)⟩
    ·obtain⟨N,u0,u1,u2,u3,h0,hN,hq⟩:=hd 11;have h1:xs 9=some (.agg #[.string x'.nm,.bool x'.actor,.slice B2 n2' d3,.slice B3 n3' d4]):=hd 9;have ld0:=hq.cell 0;have ld1:=hq.cell 1;have ld2:=hq.cell 2;have ld3:=hq.cell 3;obtain⟨fz0,fz1,fz2,fz3⟩:=hq.f4;have HQ:=H_ hq;clear hq;refine AE rfl λK hK=>?_;go_simp;exact hK _ _ ⟨none,by simp only[au,h0,h1];rfl,HJ.out.same (by decide) (wh hN (.string x'.nm) (.bool x'.actor) (.slice B2 n2' d3) (.slice B3 n3' d4)),⟨N,(aV xs _ (by decide)).trans h0,hN,HQ.out.aK⟩,λk' g1 g2 h=>h.aA g1 g2 (λN' w0 w1 w2 w3 e1 _ hq'=>have hne:=HJ.out.2.1 N' N e1 h0;⟨⟨_,_,_,_,hq'.oth4 hne _ _ _ _⟩,λ_=>hq'.oth4 hne _ _ _ _⟩) (λN' w0 w1 w2 w3 e1 _ hq'=>by obtain rfl:=jC (h0.symm.trans e1);exact⟨⟨_,_,_,_,hq'.aK⟩,λe=>absurd rfl e⟩)⟩
   ·intro xs W hJ hF;have g0:xs 0=some (pt p):=hF 0 (show 0<14 by decide);have g1:xs 1=some (.slice (some ⟨b,off,none⟩) n c1):=hF 1 (show 1<14 by decide);have g2:xs 2=some (.int .i64 (k:Int)):=hF 2 (show 2<14 by decide);have g3:xs 3=some (.pointer (some ⟨b,off+k*4,none⟩)):=hF 3 (show 3<14 by decide);have g4:xs 4=some (.agg #[.string x'.nm,.bool x'.actor,.slice A2 n2' c3,.slice A3 n3' c4]):=hF 4 (show 4<14 by decide);have g5:xs 5=some (pt (p+1)):=hF 5 (show 5<14 by decide);have g6:xs 6=some (.slice (some ⟨b',off',none⟩) n c2):=hF 6 (show 6<14 by decide);have g7:xs 7=some (.int .i64 (k:Int)):=hF 7 (show 7<14 by decide);have g8:xs 8=some (.pointer (some ⟨b',off'+k*4,none⟩)):=hF 8 (show 8<14 by decide);have g9:xs 9=some (.agg #[.string x'.nm,.bool x'.actor,.slice B2 n2' d3,.slice B3 n3' d4]):=hF 9 (show 9<14 by decide);obtain⟨N,g10,hN,hq1⟩:=hF 12 (show 12<14 by decide);obtain⟨M,g11,hM,hq2⟩:=hF 13 (show 13<14 by decide);simp only[g0,g1,g2,g3,g4,g5,g6,g7,g8,g9,g10,g11,Bz];have HBW:=H_ (HB.out.trans (hJ.1.mono HB.out.size));have hbW:=hJ.1;have hcz:csz x'=1+x'.fields.length+lsz msz x'.methods:=rfl;have hN6:n2'<=1000000:=by have h:=HF.out.1.1.1;omega
    have hM6:n3'<=1000000:=by
     have h:=dZ msz (λx=>by unfold msz;omega) x'.methods;rw[HF.out.2.1.1]at h;omega
    have hms:lsz msz x'.methods<=1000000:=by omega
    have C56:=H_ (uj x'.fields A2 B2 n2' c3 d3 W (HF.out.1.1.aA (AllB.aA hbW)) (HF.out.1.2.aA (AllB.aA hbW)) hN6);have HM:=H_ (And.intro (HF.out.2.1.aA (AllB.aA hbW)) (HF.out.2.2.aA (AllB.aA hbW)));have HQ1:=H_ hq1;have HQ2:=H_ hq2;have n0:=hq1.cell 0;have n1:=hq1.cell 1;have n2:=hq1.cell 2;have m0:=hq2.cell 0;have m1:=hq2.cell 1;have m2:=hq2.cell 2;clear g0 g1 g2 g3 g4 g5 g6 g7 g8 g9 g10 g11 hF hJ hq1 hq2 R1 R2 HF HGB hbW x1 x2;go_wp2_with fail;refine C56.out.mono ?_;rintro _ W2 ⟨rfl,b2⟩;have hs2:=b2.size;have QN:=hbl HQ1 b2;have QM:=hbl HQ2 b2;have HBW2:=htr HBW b2;have HM2:=H_ (And.intro (HM.out.1.aA (AllB.aA b2)) (HM.out.2.aA (AllB.aA b2)));clear b2 n0 n1 n2 m0 m1 m2 HQ1 HQ2 HM HBW C56;have n3:=QN.out.cell 3;have m3:=QM.out.cell 3;go_wp2_with fail;clear n3 m3;go_loopw [8] (λi wr=>∃q:Nat,q<=n3'/\i= .int .i64 q/\Hid (Below W2.heap.size W2 wr)) (λi _=>n3'-(intOf i).toNat)
    case atStart=>exact⟨0,AM _,rfl,H_ (AC _ _)⟩
    case round=>
     obtain⟨q,hq,rfl,HBq⟩:=hrel;have n3:=(QN.out.below HBq.out QN.out.lt).cell 3;have m3:=(QM.out.below HBq.out QM.out.lt).cell 3;by_cases hqm:q<n3'
     ·have hqz:(q:Int)<(n3':Int):=by omega
      have HMq:=And.intro (HM2.out.1.aA (AllB.aA HBq.out)) (HM2.out.2.aA (AllB.aA HBq.out));obtain⟨g,og,y,cs3,rfl,hgg,hy,hry,hay⟩:=HMq.1.at_ hqm;obtain⟨g',og',y',cs4,rfl,hgg',hy',hry',hay'⟩:=HMq.2.at_ hqm;obtain rfl:y'=y:=Option.some.inj (hy'.symm.trans hy);have hsy:=d9 msz hy;have hcy:msz y'=1+y'.params.length+lsz ssz y'.body:=rfl;obtain⟨A4,n4,c5,A5,n5,c6,rfl,hp1,hs1⟩:=hry;obtain⟨B4,n4',d5,B5,n5',d6,rfl,hp2,hs2⟩:=hry';obtain rfl:n4'=n4:=hp2.1.symm.trans hp1.1;obtain rfl:n5'=n5:=hs2.1.symm.trans hs1.1;have hp6:n4'<=1000000:=by have h:=hp1.1;omega
      obtain⟨TT,f,hne,hf,hcov⟩:=aX wr.heap.size wr;have R1:=λ(z:TT) (j:Nat) (u:Value) (hj:[Value.string y'.nm,.slice A4 n4' c5,.slice A5 n5' c6][j]?=some u)=>(a8 (hf z) hgg _).trans (show wr.cell? ⟨g,og+q*3+j,none⟩=some u by have:=hay j u hj;rwa[show kMe.sz=3 from rfl,AQ]at this);have R2:=λ(z:TT) (j:Nat) (u:Value) (hj:[Value.string y'.nm,.slice B4 n4' d5,.slice B5 n5' d6][j]?=some u)=>(a8 (hf z) hgg' _).trans (show wr.cell? ⟨g',og'+q*3+j,none⟩=some u by have:=hay' j u hj;rwa[show kMe.sz=3 from rfl,AQ]at this);have a0:∀z,(f z).cell? ⟨g,og+q*3,none⟩=some (.string y'.nm):=λz=>R1 z 0 _ rfl;have a1:∀z,(f z).cell? ⟨g,og+q*3+1,none⟩=some (.slice A4 n4' c5):=λz=>R1 z 1 _ rfl;have a2:∀z,(f z).cell? ⟨g,og+q*3+2,none⟩=some (.slice A5 n5' c6):=λz=>R1 z 2 _ rfl;have e0:∀z,(f z).cell? ⟨g',og'+q*3,none⟩=some (.string y'.nm):=λz=>R2 z 0 _ rfl;have e1:∀z,(f z).cell? ⟨g',og'+q*3+1,none⟩=some (.slice B4 n4' d5):=λz=>R2 z 1 _ rfl;have e2:∀z,(f z).cell? ⟨g',og'+q*3+2,none⟩=some (.slice B5 n5' d6):=λz=>R2 z 2 _ rfl;have QNq:=QN.out.below HBq.out QN.out.lt;have QMq:=QM.out.below HBq.out QM.out.lt;have nz3:∀z,(f z).cell? ⟨N,3,none⟩=some (.slice (some ⟨g,og,none⟩) n3' c4):=λz=>(QNq.below (hf z) QNq.lt).cell 3;have mz3:∀z,(f z).cell? ⟨M,3,none⟩=some (.slice (some ⟨g',og',none⟩) n3' d4):=λz=>(QMq.below (hf z) QMq.lt).cell 3
      have C1:=H_ (show∀z,Calls Tryz.prog 56 #[.slice A4 n4' c5,.slice B4 n4' d5] (f z) (λe w''=>e= .returned (.bool true)/\∃z',w''=f z')from λz=>
       (uj y'.params A4 B4 _ _ _ (f z) (hp1.aA (AllB.aA (hf z))) (hp2.aA (AllB.aA (hf z))) hp6).mono λe w'' ⟨h1,h2⟩=>⟨h1,hcov _ ((hf z).trans (h2.mono (hf z).size))⟩)
      have C2:=H_ (show∀z,Calls Tryz.prog 57 #[.slice A5 n5' c6,.slice B5 n5' d6] (f z) (λe w''=>e= .returned (.bool true)/\∃z',w''=f z')from λz=>
       (yO y'.body A5 B5 _ _ _ (f z) (hs1.aA (AllB.aA (hf z))) (hs2.aA (AllB.aA (hf z))) (by omega)).mono λe w'' ⟨h1,h2⟩=>⟨h1,hcov _ ((hf z).trans (h2.mono (hf z).size))⟩)
      have HFF:=H_ (λz=>HBq.out.trans ((hf z).mono HBq.out.size));have HCOV:=H_ hcov;clear hay hay' hf hcov hy hy' hgg hgg' R1 R2 hp1 hp2 hs1 hs2 hsy hcy QNq QMq HMq;go_upto_region 12 with fail;refine ah f (by kernel_rfl) (by kernel_rfl) (HCOV.out _ (AC _ _).drew) ?_;try simp only[List.append_eq,BN,CC]
      repeat (go_big_quiet_step (fail))
      go_big_quiet_step ((go_at_call 56;exact C1.out _));repeat (go_big_quiet_step (fail))
      go_big_quiet_step ((go_at_call 57;exact C2.out _));repeat (go_big_quiet_step (fail))
      refine BL ?_;rintro _ ⟨z,rfl⟩;go_wp2_with fail;go_roundw
      case rel=>exact⟨q+1,by omega,by go_num,H_ (HFF.out z)⟩
      case measure=>simp[intOf];omega
     ·obtain rfl:q=n3':=by omega
      go_wp2_with fail;go_roundw
      case rel=>exact⟨k+1,by omega,by go_num,H_ (HBW2.out.trans (HBq.out.mono HBW2.out.size))⟩
      case measure=>simp[intOf];omega
  ·obtain rfl:k=n:=by omega
   go_wp2_with fail;go_ret;exact⟨rfl,hpz▸HB1.out.trans (HB.out.mono (by omega))⟩
theorem yh{T:List Tk}:∀(n i:Nat),T.length-i<n->RdAt rvS 255 T (S T n) i
 |0,i,hi=>absurd hi (Dd _)
 |n+1,i,hi=> .of_lt λhiT=>by
  have hX:∀j,i<=j->RdAt rvE 293 T (E T (n+1) 0) j:=λj hj=>qL (n+1) j (by omega) 0;have hO:∀j,i<=j->RdAt rvE 296 T (E T (n+1) 8) j:=λj hj=>qL (n+1) j (by omega) 8;have hSt:∀j,i<j->RdAt rvS 255 T (S T n) j:=λj hj=>yh n j (by omega)
  have hM:RdAt rvS 278 T (ak T (E T (n+1))) i:=sw (λj hj=>hX j (by omega)) (tH _ _) (λj hj k p c A w h=>tF (λm hm=>hX m (by omega)) k p c A w h)
   (λj hj=>wO (hO j (by omega)) (tH _ _) (λm hm=>hX m (by omega)) (tH _ _)) (hO i (AB _)) (tH _ _)
  exact wJ (λj hj=>hX j (by omega)) (tH _ _) hSt (wA n) hM
theorem Vec.zf{K:Kd α}{E f:Nat}{xs:List α}(h:Vec K E base noZ w u xs)(hf:w.heap.size<=f):Vec K E base (λb=>b=f) w u xs:=by
 have hlt:=h.lt;obtain⟨hp,css,h1,h2,h3⟩:=h;exact⟨λk hk e=>by have:=(hlt k hk).2;omega,css,h1,h2,λj x cs hx hc=>K.aA (λb hG=>⟨⟨⟨hG.1.1,hG.1.2.1,λe=>by have:=hG.1.2.1;omega⟩,hG.2⟩,rfl⟩) (h3 j x cs hx hc)⟩
theorem Vec.noz{K:Kd α}{E:Nat}{Z:Nat->Prop}{xs:List α}(h:Vec K E base Z w u xs):Vec K E base noZ w u xs:=by
 obtain⟨hp,css,h1,h2,h3⟩:=h;exact⟨λk hk e=>e,css,h1,h2,λj x cs hx hc=>K.aA (λb hG=>⟨⟨⟨hG.1.1,hG.1.2.1,λe=>e⟩,hG.2⟩,rfl⟩) (h3 j x cs hx hc)⟩
theorem Blk.aH{t:TypeId}{b:Value}(h:Blk w g t #[a,b,c,d]):
 (w.cell? ⟨g,0,none⟩=some a/\w.cell? ⟨g,1,none⟩=some b/\w.cell? ⟨g,2,none⟩=some c/\w.cell? ⟨g,3,none⟩=some d)/\
 w.frozen? ⟨g,0,none⟩=false/\w.frozen? ⟨g,1,none⟩=false/\w.frozen? ⟨g,2,none⟩=false/\w.frozen? ⟨g,3,none⟩=false:=
 ⟨⟨h.cell 0,h.cell 1,h.cell 2,h.cell 3⟩,h.frozen 0,h.frozen 1,h.frozen 2,h.frozen 3⟩
theorem wR{t:TypeId}{b:Value}(q:Blk w g t #[a,b,c,d])(a' b' c' d':Value):
 Blk ((((w.setCell ⟨g,0,none⟩ a').setCell ⟨g,1,none⟩ b').setCell ⟨g,2,none⟩ c').setCell ⟨g,3,none⟩ d') g t #[a',b',c',d']/\
 Bx w.heap.size g w ((((w.setCell ⟨g,0,none⟩ a').setCell ⟨g,1,none⟩ b').setCell ⟨g,2,none⟩ c').setCell ⟨g,3,none⟩ d'):=
 ⟨(((q.set 0 a').set 1 b').set 2 c').set 3 d',((((Bx.refl _ _ _).aJ (.inr rfl) _).aJ (.inr rfl) _).aJ (.inr rfl) _).aJ (.inr rfl) _⟩
theorem Aq{c:Nat}{A:Option Addr}(h:PS w p A c T i):
 ∃w0,w.alloc (.cells #[.string ⟨#[]⟩,.bool false,.slice none 0 0,.slice none 0 0] 117)=w0/\Blk w0 w.heap.size 117 #[.string ⟨#[]⟩,.bool false,.slice none 0 0,.slice none 0 0]/\Bx w.heap.size p w w0/\PS w0 p A c T i:=
 ⟨_,rfl,Blk.new w 117 _,(Bx.refl _ _ _).new _ (AB _),h.alloc _⟩
theorem nT:(Tryz.prog.info? 117).map (·.size)=some 4:=by kernel_rfl
abbrev yS:Rv Cl:=rvC kCl
theorem pH(hn:T.length<n)(a:Bool)(ha:isT T fj i=a)(hr:a=false->isT T ei i=true)(p c:Nat)(A:Option Addr)(w:World)(h:PS w p A c T i):
 Calls Tryz.prog 137 #[.pointer (some ⟨p,0,none⟩)] w (Out yS p A c T w (cw T n a (i+1))):=by
 have hp:=h.aG.lt;have hT:=h.wf.few;have hiT:=h.lt
 have HI:=H_ (show i+1<T.length by
  cases ha':a with
  |true=>exact gE h.wf h.lt (ha.trans ha')
  |false=>exact gE h.wf h.lt (hr ha'))
 obtain⟨w0,hw0,q0,b0,P0⟩:=Aq h;have Q0:=H_ q0;have B0:=H_ b0;have HP0:=H_ P0;clear h q0 b0 P0 hr;go_enter Tryz.func137,Tryz.ntmps137;go_upto_region 1 with(fail);have hsz:=B0.out.size;have hg0:=Q0.out.lt;obtain⟨g,hgz⟩:=nm_ (w.heap.size);rw[hgz]at Q0 hg0⊢;clear hw0;go_wp2_with fail;refine(rN p i c A T fj w0 HP0.out).mono ?_;rintro e' w1 ⟨rfl,b1'⟩;have b1:Bx w0.heap.size p w0 w1:=Bx.of b1';have P1:=HP0.out.below b1';rw[ha];obtain⟨hs1,B1,Q1,hg1⟩:=fr1 B0 Q0 b1;have HP1:=H_ P1;clear Q0 B0 HP0 P1 b1 b1' ha;go_upto_region 2 with fail;obtain⟨e,hez⟩:=nm_ (w1.heap.size);rw[hez];obtain⟨w2,hw2⟩:=nm_ (w1.alloc (.cells #[.string ⟨#[]⟩,.bool a,.slice none 0 0,.slice none 0 0] 117));have E2:=H_ (show Blk w2 e 117 _ from hw2▸hez▸Blk.new w1 117 #[.string ⟨#[]⟩,.bool a,.slice none 0 0,.slice none 0 0]);have b2:Bx w1.heap.size p w1 w2:=bxn hw2;have P2:=HP1.out.al hw2;obtain⟨hs2,B2,Q2,-⟩:=fr1 B1 Q1 b2;have HP2:=H_ P2;rw[hw2];clear hw2 b2 P2 Q1 B1 HP1;have p1:=HP2.out.aG.k1;have pf:=HP2.out.aG.frozen 1;go_upto_region 3 with fail;obtain⟨w3,hw3⟩:=nm_ (w2.setCell ⟨p,1,none⟩ (.int .i64 (i+1)));have P3:=HP2.out.move HI.out;simp only[Ce,Ca]at P3;rw[hw3]at P3;have hb3:∀k,k≠p->w3.heap[k]?=w2.heap[k]?:=λk hk=>hw3▸AG _ _ _ _ (by show k≠p;exact hk);have hsz3:w3.heap.size=w2.heap.size:=by rw[<-hw3];simp
 have Q3:=H_ ((hb3 g (by omega)).trans Q2.out);have E3:=H_ ((hb3 e (by omega)).trans E2.out);have B3:=H_ (hw3▸B2.out.aJ (o:=1) (.inr rfl) (.int .i64 (i+1)));have HP3:=H_ P3;have he3:=Blk.lt E3.out;have hg3:=Blk.lt Q3.out;rw[hw3];clear hw3 P3 hb3 Q2 E2 B2 HP2 p1 pf;go_wp2_with fail;refine Out.use (ot HP3.out 3 (by decide)) (λj4 w4 hr b4=>?_) (λs j4 v w4 hr hv P4 b4=>?_)
 ·exact⟨rfl,Out.bad (by unfold cw;rw[hr]) (B3.out.trans (b4.mono (by omega)))⟩
 ·obtain rfl:v= .string s:=hv;have H4:=H_ hr;have hj4:=(dm hr).2.2;have hs4:=b4.size;have E4:=H_ (Blk.bx E3.out b4 he3 (by omega));have Q4:=H_ (Blk.bx Q3.out b4 hg3 (by omega));have B4:=H_ (B3.out.trans (b4.mono (by omega)));have HP4:=H_ P4;clear hr b4 P4 E3 Q3 B3 HP3;have e0:=E4.out.k0;have ef:=E4.out.frozen 0;go_upto_region 4 with fail;obtain⟨w5,hw5⟩:=nm_ (w4.setCell ⟨e,0,none⟩ (.string s));have bw:=bx1 hw5;have E5:=hs0 E4 hw5;have Q5:=hbx Q4 bw;have HP5:=H_ (HP4.out.put bw (by omega));have B5:=H_ (B4.out.put bw (by omega) (AB _));have hs5:=bw.size;rw[hw5];clear hw5 bw E4 Q4 HP4 B4 e0 ef;go_wp2_with fail;refine bR (s:=jT) (HP5.out.alloc _) ((Blk.new w5 _ _).cell 0) (λj6 w6 hr b6=>?_) (λj6 w6 hr P6 b6=>?_)
  ·exact⟨rfl,Out.bad (by unfold cw;rw[H4.out];simp only;rw[show ap T jT j4= .bad j6 from hr]) (B5.out.trans ((((Bx.refl w5.heap.size p w5).new _ (AB _)).aB b6).mono (by omega)))⟩
  ·have H6:=H_ hr;have hj6:=(bV hr).2;replace b6:=((Bx.refl w5.heap.size p w5).new _ (AB _)).aB b6;have E6:=hbx E5 b6;have Q6:=hbx Q5 b6;have B6:=H_ (B5.out.trans (b6.mono (by omega)));have HP6:=H_ P6;have hs6:=b6.size;clear hr b6 P6 E5 Q5 B5 HP5
   have HCL:=H_ (show cw T n a (i+1)=(match bK T (T.length+1) [] j6 with
    | .bad m=> .bad m
    | .ok fs m=>match(if a=true then aS T n (T.length+1) [] m else .ok [] m)with
      | .bad p=> .bad p
      | .ok ms p=>match ap T gn p with
        | .bad q=> .bad q
        | .ok _ q=> .ok ⟨s,a,fs,ms⟩ q) by unfold cw;rw[H4.out];simp only;rw[H6.out]<;>rfl)
   clear H4 H6;go_wp2_with fail
   go_loopg [] (T.length-j6) (λkk wr=>∃(fs:List ByteArray) (q:Nat) (A':Option Addr) (c':Nat),kk=T.length-q/\Hid (Blk wr e 117 #[.string s,.bool a,.slice A' fs.length c',.slice none 0 0])/\Hid (Vec ea 9 g (two g e) wr (.slice A' fs.length c') fs)/\
    Hid (Blk wr g 117 #[.string ⟨#[]⟩,.bool false,.slice none 0 0,.slice none 0 0])/\Hid (PS wr p A c T q)/\Hid (Bx g p w wr)/\i<q/\fs.length<=q/\Hid (∃m,T.length+1<=m+q/\bK T (T.length+1) [] j6=bK T m fs q))
   case atStart=>exact⟨[],j6,none,0,rfl,E6,H_ (Vec.nil _ _ _ _ _),Q6,HP6,hgz▸B6,by omega,by simp,H_ ⟨T.length+1,by omega,rfl⟩⟩
   case round=>
    clear E6 Q6 B6 HP6;obtain⟨fs,q,A',c',rfl,HE,HV,HG,HPr,HBr,hiq,hfq,HEr⟩:=hrel;obtain⟨m,hm,heq⟩:=HEr.out;have hqT:=HPr.out.lt;obtain⟨m,rfl⟩:∃m',m=m'+1:=⟨m-1,by omega⟩;have HE1:=H_ heq;have her:=HE.out.lt;have hgr:=HG.out.lt;have hsr:=HBr.out.size;clear HEr heq;go_wp2_with fail;refine bd HPr.out vt (λht w7 P7 b7=>?_) (λht w7 P7 b7=>?_)
    ·have HT:=H_ ht;have HE7:=hbx HE b7 her;have HG7:=hbx HG b7 hgr;have HV7:=hvk HV b7;have HB7:=H_ (HBr.out.trans (b7.mono (by omega)));have HP7:=H_ P7;have her7:=HE7.out.lt;have hgr7:=HG7.out.lt;have hs7:=b7.size;clear ht P7 b7 HE HG HV HBr HPr;go_upto_region 6 with fail;obtain⟨nm,jy,hsj⟩:=R.known (aj T 2 (q+1)) ⟨#[]⟩
     refine ay 3 5 (λys=>{tmps:= #[.pointer (some ⟨p,0,none⟩),undef,.pointer (some ⟨g,0,none⟩),.pointer (some ⟨e,0,none⟩),undef,.pointer (some ⟨p,0,none⟩),.bool a,.agg #[.string ⟨#[]⟩,.bool a,.slice none 0 0,.slice none 0 0],.pointer (some ⟨p,0,none⟩),.pointer (some ⟨p,0,none⟩),.pointer (some ⟨p,1,none⟩),.int .i64 i,.int .i64 (i+1),.pointer (some ⟨p,0,none⟩),.pointer (some ⟨p,1,none⟩),.pointer (some ⟨p,0,none⟩),.string s,.pointer (some ⟨e,0,none⟩),.pointer (some ⟨p,0,none⟩),.slice (some ⟨w5.heap.size,0,none⟩) 1 1,.tuple #[],.pointer (some ⟨p,0,none⟩),.bool true,(ys 0).getD u23,(ys 1).getD u24,(ys 2).getD u25,(ys 3).getD u26,(ys 4).getD u27,u28,u29,u30,u31,u32,undef,undef,undef,undef,undef,undef,undef,undef,undef,undef,undef,undef,undef,undef,undef,undef,undef,undef,undef,undef,undef,undef,undef,undef,undef,undef,undef],defers:=[]})
      (RJ w7 p A c T (q+1) jy (aj T 2 (q+1)= .ok nm jy)) w7.heap.size
      (λi=>match i with
        |0=>fEq (.pointer (some ⟨e,2,none⟩))
        |1=>fEq (.slice A' fs.length c')
        |2=>fEq (.pointer (some ⟨p,0,none⟩))
        |3=>fEq (.string nm)
        |_=>fRow w7.heap.size 9 #[.string nm])
      (by
        intro k
        match k with
        |0=>exact fEq.st _ _
        |1=>exact fEq.st _ _
        |2=>exact fEq.st _ _
        |3=>exact fEq.st _ _
        |_+4=>exact fRow.st _ _ _)
      (by kernel_rfl) (by kernel_rfl) (by decide) (by kernel_rfl) (by decide) rfl ⟨(Bx.refl _ _ _).drew,HP7.out.drew⟩ ?_ ?_ ?_
     ·intro i' hi hic b ys W hJ hd;obtain rfl|rfl|rfl|rfl:i'=0\/i'=1\/i'=2\/i'=4:=by omega
      ·refine AE rfl λK hK=>?_;go_simp;exact hK _ _ ⟨_,rfl,hJ,rfl,Nw.refl _ _⟩
      ·obtain⟨_,h0,rfl⟩:=hd 0;have d2:=(HE7.out.bx hJ.1 her7 (by omega)).k2;refine AE rfl λK hK=>?_;go_simp;exact hK _ _ ⟨_,by simp only[au,h0];rfl,hJ,rfl,Nw.refl _ _⟩
      ·refine AE rfl λK hK=>?_;go_simp;exact hK _ _ ⟨_,rfl,hJ,rfl,Nw.refl _ _⟩
      ·obtain⟨_,h3,rfl⟩:=hd 3;have hb:=(AC W.heap.size W).alloc (AB _) (.cells #[.string nm] 9);refine AE rfl λK hK=>?_;go_simp;exact hK _ _ ⟨.slice (some ⟨W.heap.size,0,none⟩) 1 1,by simp only[au,h3];rfl,hJ.below hb,⟨W.heap.size,rfl,hJ.1.size,Blk.new W 9 _⟩,Nw.below hb⟩
     ·intro ys W hJ hd;obtain⟨_,h2,rfl⟩:=hd 2;have hsW:=hJ.1.size;refine AE rfl λK hK=>?_;go_simp;refine Out.use (dL hJ.2) (λj13 w13 hr b13=>?_) (λx' j13 v w13 hr hv P13 b13=>?_)
      ·exact⟨rfl,Out.bad (by rw[HCL.out,HE1.out];unfold bK;rw[AP HT.out,hr]) (hgz▸HB7.out.trans ((hJ.1.aB b13).mono (by omega)))⟩
      ·obtain⟨rfl,rfl⟩:=hsj _ _ hr;obtain rfl:v= .string x':=hv;exact hK _ _ ⟨_,by simp only[au,h2];rfl,⟨hJ.1.aB b13,P13,hr⟩,rfl,Nw.of b13 (by omega)⟩
     ·intro ys W hJ hd;obtain⟨_,h0,rfl⟩:=hd 0;obtain⟨_,h1,rfl⟩:=hd 1;obtain⟨_,h2,rfl⟩:=hd 2;obtain⟨_,h3,rfl⟩:=hd 3;obtain⟨_,h4,ra,rfl,hra⟩:=hd 4;have hW:=hJ.1.size;have EW:=H_ (HE7.out.bx hJ.1 her7 (by omega));have GW:=H_ (HG7.out.bx hJ.1 hgr7 (by omega));have VW:=H_ (HV7.out.aA hJ.1.size (λk hk=>hJ.1.block k hk.2.1 (by have:=hk.1;omega)));have HJ:=H_ hJ;have HRA:=H_ hra;have HLT:=H_ HV7.out.lt;have HNZ:=H_ HV7.out.1;clear hJ hra hd HE7 HG7 HV7;rw[show List.range' 5 _=[5,6,7]from rfl,Bl];refine AE rfl λK hK=>?_;simp only[h0,h1,h2,h3,h4,Bz];rw[AP (by kernel_rfl)];refine cZ mE (.tmp 24) (.tmp 27) rfl VW.out (ys:=[nm]) (dss:=[[.string nm]]) (b:=ra) (off:=0) (c:=1) (m:=1) rfl ?_ ?_ rfl rfl rfl ?_ ?_ ?_ ?_
      ·simpa using At.aG HRA.out.2
      ·intro j' x' cs' h1' h2';cases j' with
       |zero=>
        simp at h1' h2';subst h1' h2';rfl
       |succ j'=>simp at h1'
      ·simp;omega
      ·omega
      ·exact λb hb h=>by unfold two at h;omega
      ·intro v' w14 hv14 hg14;refine hK _ _ ?_;have hs14:=hg14.size;have hown:∀k,(Value.slice A' fs.length c').ownBlock=some k->g<=k:=λk hk=>(HLT.out k hk).1;have hnz:∀k,(Value.slice A' fs.length c').ownBlock=some k->¬(k=g\/k=e):=λk hk=>HNZ.out k hk;have F14:=H_ ((hg14.block e EW.out.lt (λh=>hnz e h.symm (.inr rfl))).trans EW.out);have G14:=H_ ((hg14.block g GW.out.lt (λh=>hnz g h.symm (.inl rfl))).trans GW.out);have HP14:=H_ (HJ.out.2.1.grown hg14 (λk hk=>by have:=hown k hk;omega));have B14:=H_ ((HB7.out.trans (HJ.out.1.mono (by omega))).grown hg14 (by omega) hown);have HRJ:=H_ HJ.out.2.2;obtain⟨A15,c15,rfl,_⟩:=hv14.sl (by simp[BD];omega);rw[show(fs++[nm]).length=fs.length+1 from by simp]at hv14;have V14:=H_ hv14;clear hv14 hg14 HJ HRA EW GW VW hK K HB7 HLT HNZ hown hnz;have x2:w14.cell? ⟨e,2,none⟩=some (.slice A' fs.length c'):=Blk.cell F14.out 2;have x2f:=Blk.frozen F14.out 2;rw[Bl];refine AE rfl λK hK=>?_;go_simp;refine hK _ _ ?_;rw[Bl];refine AE rfl λK hK=>?_;go_simp;refine hK _ _ ?_;obtain⟨w15,hw15⟩:=nm_ (w14.setCell ⟨e,2,none⟩ (.slice A15 (fs.length+1) c15));have bw:=bx1 hw15;have he14:=Blk.lt F14.out;have hg14':=Blk.lt G14.out;have F15:=H_ (show Blk w15 e 117 #[.string s,.bool a,.slice A15 (fs.length+1) c15,.slice none 0 0]from hw15▸Blk.set F14.out 2 _);have G15:=H_ (Blk.bx G14.out bw hg14' (by omega));have HP15:=H_ (HP14.out.put bw (by omega));have B15:=H_ (B14.out.put bw (by omega) (by omega));have V15:=H_ (V14.out.aA bw.size (λk hk=>bw.block k hk.2.1 (λh=>hk.2.2 (.inr h))));have hs15:=bw.size;rw[hw15];clear hw15 bw F14 G14 HP14 B14 V14 x2 x2f hK K;unfold wpOps;go_wp2_with fail;refine bR (HP15.out.alloc _) ((Blk.new w15 _ _).cell 0) (λj8 w8 hr b8=>?_) (λj8 w8 hr P8 b8=>?_)
       ·exact⟨rfl,Out.bad (by rw[HCL.out,HE1.out];unfold bK;rw[AP HT.out,HRJ.out];simp only;rw[show ap T mi jy= .bad j8 from hr]) (hgz▸B15.out.trans ((((Bx.refl w15.heap.size p w15).new _ (AB _)).aB b8).mono (by omega)))⟩
       ·replace b8:=((Bx.refl w15.heap.size p w15).new _ (AB _)).aB b8;have HE8:=H_ (show bK T (T.length+1) [] j6=bK T m (fs++[nm]) j8 by rw[HE1.out];conv=>lhs;unfold bK;rw[AP HT.out,HRJ.out];simp only;rw[show ap T mi jy= .ok () j8 from hr]);have hj8:=(bV hr).2;have hjy:=(dm HRJ.out).2.2;have E8:=hbx F15 b8;have G8:=hbx G15 b8;have V8:=hvk V15 b8;have B8:=H_ (B15.out.trans (b8.mono (by omega)));have HP8:=H_ P8;have hj8T:=P8.lt;clear hr b8 P8 F15 G15 V15 B15 HP15;rw[show fs.length+1=(fs++[nm]).length from by simp]at E8 V8;go_wp2_with fail;go_roundg (T.length-j8)
        case rel=>exact⟨fs++[nm],j8,A15,c15,rfl,E8,V8,G8,HP8,B8,by omega,by simp;omega,H_ ⟨m,by omega,HE8.out⟩⟩
        case measure=>omega
    ·have HT:=H_ ht;have HE7:=hbx HE b7 her;have HG7:=hbx HG b7 hgr;have HV7:=hvk HV b7;have HB7:=H_ (HBr.out.trans (b7.mono (by omega)));have HP7:=H_ P7;have her7:=HE7.out.lt;have hgr7:=HG7.out.lt;have hs7:=b7.size;have HFS:=H_ (show bK T (T.length+1) [] j6= .ok fs q by rw[HE1.out];unfold bK;rw[AL (by rw[HT.out];simp)]);clear ht P7 b7 HE HG HV HBr HPr HE1;go_wp2_with fail
     --loop two
     have hs1:g<w7.heap.size/\e<w7.heap.size:=⟨hgr7,her7⟩;have hq7:=HP7.out.lt;have SF7:=H_ (HV7.out.slice (by unfold BD;omega));have E7:=HE7;have G7:=HG7;have B7:=HB7;have V7:=H_ (Vec.nil kMe 121 w7.heap.size noZ w7);clear HE7 HG7 HB7 HV7;rw[HFS.out]at HCL;cases a with
     |false=>
      refine D7 1 ?_;rw[Dg];have ya:=E7.out.k1;go_upto_region 13 with fail;go_wp2_with fail;refine bR (s:=gn) (HP7.out.alloc _) ((Blk.new w7 _ _).cell 0) (λjz w8 hr b8=>?_) (λjz w8 hr P8 b8=>?_)
      ·exact⟨rfl,Out.bad (by rw[HCL.out];simp only[AU,BO];rw[show ap T gn _= .bad jz from hr]) (hgz▸B7.out.trans ((((Bx.refl w7.heap.size p w7).new _ (AB _)).aB b8).mono (by omega)))⟩
      ·have HRB:=H_ (show ap T gn _= .ok () jz from hr);replace b8:=((Bx.refl w7.heap.size p w7).new _ (AB _)).aB b8;clear hr;have E8:=hbx E7 b8;have G8:=hbx G7 b8;have V8:=hvk V7 b8;have SF8:=H_ (SF7.out.aA (G':=NG g (two g e) w7) (λb hb=>⟨hb,b8.block b (by have:=hb.2.1;omega) (by have:=hb.1;omega)⟩));have B8:=H_ (B7.out.trans (b8.mono (by omega)));have HP8:=H_ P8;have hs8:=b8.size;clear b8 P8 B7 HP7 E7 G7 V7 SF7;have hel:=Blk.lt E8.out;obtain⟨y0,y1,y2,y3⟩:=(Blk.aH E8.out).1;obtain⟨⟨d0,d1,d2,d3⟩,f0,f1,f2,f3⟩:=Blk.aH G8.out;go_wp2_with fail;obtain⟨N1,N2⟩:=wR G8.out (.string s) (.bool false) (.slice A' fs.length c') (.slice none 0 0);refine lZ g 117 _ _ rfl (by simp) N1 Tryz.underlying117 rfl nT (Out.ok (by rw[HCL.out];simp only[AU,BO];rw[HRB.out]) ⟨[.string s,.bool false,.slice A' fs.length c',(.slice none 0 0)],rfl,A',fs.length,c',none,0,0,rfl,Sl.aA (G:=NG g (two g e) w7) (λb hb=>⟨⟨by have:=hb.1;omega,AF hb.2.1 (AW (show w7.heap.size<=w8.heap.size by omega) N2.size)⟩,N2.block b (by have:=hb.2.1;omega) (λh=>hb.2.2 (.inl h))⟩) SF8.out,Sl.nil _ _ _⟩ (HP8.out.put N2 (by omega)) (hgz▸B8.out.put N2 (by omega) (by omega)))
     |true=>
      go_loopg [] (T.length-q) (λkk wr=>∃(ms:List Me) (r:Nat) (A2:Option Addr) (c2:Nat),kk=T.length-r/\Hid (Blk wr e 117 #[.string s,.bool true,.slice A' fs.length c',.slice A2 ms.length c2])/\Hid (Vec kMe 121 w7.heap.size noZ wr (.slice A2 ms.length c2) ms)/\Hid (Sl ea wr (NG g (two g e) w7) fs A' fs.length)/\
       Hid (Blk wr g 117 #[.string ⟨#[]⟩,.bool false,.slice none 0 0,.slice none 0 0])/\Hid (PS wr p A c T r)/\Hid (Bx g p w wr)/\w7.heap.size<=wr.heap.size/\i<r/\ms.length<=r/\Hid (∃m,T.length+1<=m+r/\aS T n (T.length+1) [] q=aS T n m ms r))
      case atStart=>exact⟨[],q,none,0,rfl,E7,V7,SF7,G7,HP7,B7,AB _,by omega,by simp,H_ ⟨T.length+1,by omega,rfl⟩⟩
      case round=>
       clear E7 V7 SF7 G7 HP7 B7;obtain⟨ms,r,A2,c2,rfl,E0,V0,SF0,G0,HP0,B0,hsr,hir,hmr,HEr⟩:=hrel;obtain⟨m,hm,heq⟩:=HEr.out;have hrT:=HP0.out.lt;obtain⟨m,rfl⟩:∃m',m=m'+1:=⟨m-1,by omega⟩;have HE1:=H_ heq;obtain⟨w0,rfl⟩:∃w',w'=wr:=⟨_,rfl⟩;clear HEr heq;have hov:∀k,(Value.slice A2 ms.length c2).ownBlock=some k->k<w0.heap.size:=λk hk=>(V0.out.lt k hk).2;have ya:=E0.out.k1;go_wp2_with fail;refine bd HP0.out kOn (λht w1 P1 b1=>?_) (λht w1 P1 b1=>?_)
       ·have HT:=H_ ht;clear ht;have E1:=hbx E0 b1;have G1:=hbx G0 b1;have V1:=hvk V0 b1;have SF1:=H_ (SF0.out.aA (G':=NG g (two g e) w7) (λb hb=>⟨hb,b1.block b (by have:=hb.2.1;omega) (by have:=hb.1;omega)⟩));have B1:=H_ (B0.out.trans (b1.mono (by omega)));have HP1:=H_ P1;have hs1:=b1.size;clear b1 P1 B0 HP0 E0 G0 V0 SF0;go_wp2_with fail;refine Out.use (dL HP1.out) (λj2 w2 hr b2=>?_) (λnm j2 v w2 hr hv P2 b2=>?_)
        ·exact⟨rfl,Out.bad (by rw[HCL.out];simp only[if_true];rw[HE1.out];unfold aS dM;rw[AP HT.out];rw[hr]) (hgz▸B1.out.trans (b2.mono (by omega)))⟩
        ·obtain rfl:v= .string nm:=hv;have H2:=H_ hr;have hj2:=(dm hr).2.2;clear hr;have E2:=hbx E1 b2;have G2:=hbx G1 b2;have V2:=hvk V1 b2;have SF2:=H_ (SF1.out.aA (G':=NG g (two g e) w7) (λb hb=>⟨hb,b2.block b (by have:=hb.2.1;omega) (by have:=hb.1;omega)⟩));have B2:=H_ (B1.out.trans (b2.mono (by omega)));have HP2:=H_ P2;have hs2:=b2.size;clear b2 P2 B1 HP1 E1 G1 V1 SF1;go_upto_region 10 with fail;obtain⟨f,hfz⟩:=nm_ (w2.heap.size);rw[hfz];obtain⟨w3,hw3⟩:=nm_ (w2.alloc (.cells #[.string nm,.slice none 0 0,.slice none 0 0] 121));have F3:=H_ (show Blk w3 f 121 _ from hw3▸hfz▸Blk.new w2 121 #[.string nm,.slice none 0 0,.slice none 0 0]);have b3:Bx w2.heap.size p w2 w3:=bxn hw3;have P3:=HP2.out.al hw3;replace V2:=H_ (V2.out.zf (show w2.heap.size<=f by omega));have E3:=hbx E2 b3;have G3:=hbx G2 b3;have V3:=hvk V2 b3;have SF3:=H_ (SF2.out.aA (G':=NG g (two g e) w7) (λb hb=>⟨hb,b3.block b (by have:=hb.2.1;omega) (by have:=hb.1;omega)⟩));have B3:=H_ (B2.out.trans (b3.mono (by omega)));have HP3:=H_ P3;have hs3:=b3.size;clear b3 P3 B2 HP2 E2 G2 V2 SF2;have hf3:=Blk.lt F3.out;rw[hw3];clear hw3;have HLL:=H_ (xi (T:=T) (n:=211) (f:=aj T 2) (λ_ _=>by kernel_rfl) (λj hj p c A w h=>dL h) ((cK 2).up (λ_=>AB _)) p c A w3 HP3.out);go_wp2_with fail;refine Out.use HLL.out (λj4 w4 hr b4=>?_) (λps j4 v w4 hr hv P4 b4=>?_)
         ·exact⟨rfl,Out.bad (by rw[HCL.out];simp only[if_true];rw[HE1.out];unfold aS dM;rw[AP HT.out];rw[H2.out];simp only;rw[hr]) (hgz▸B3.out.trans (b4.mono (by omega)))⟩
         ·obtain⟨⟨hvec,hpl⟩,_⟩:=hv;obtain⟨A4,c4,rfl,_⟩:=hvec.sl (by unfold BD;omega);have VP4:=H_ hvec;have H4:=H_ hr;have hj4:=p7 _ _ _ ((cK 2).up (λ_=>AB _)) hr;clear hr hvec HLL;obtain⟨-,E4,-,G4,-,F4,-⟩:=fn3 E3 G3 F3 b4;have V4:=hvk V3 b4;have SF4:=H_ (SF3.out.aA (G':=NG g (two g e) w7) (λb hb=>⟨hb,b4.block b (by have:=hb.2.1;omega) (by have:=hb.1;omega)⟩));have B4:=H_ (B3.out.trans (b4.mono (by omega)));have HP4:=H_ P4;have hs4:=b4.size;clear b4 P4 B3 HP3 E3 G3 F3 V3 SF3;have hf4:=Blk.lt F4.out;have x1:=F4.out.k1;have x1f:=Blk.frozen F4.out 1;go_upto_region 11 with fail;obtain⟨w5,hw5'⟩:∃w5,w4.setCell ⟨f,1,none⟩ (.slice A4 ps.length c4)=w5:=⟨_,rfl⟩;have bw:Bx w4.heap.size f w4 w5:=hw5'▸(Bx.refl _ _ _).aJ (.inr rfl) _;have F5:=H_ (show Blk w5 f 121 #[.string nm,.slice A4 ps.length c4,.slice none 0 0]from hw5'▸Blk.set F4.out 1 _);rw[hw5'];clear hw5' x1 x1f;have E5:=hbx E4 bw;have G5:=hbx G4 bw;have V5:=H_ (V4.out.aA bw.size (λk hk=>bw.block k hk.2.1 hk.2.2));have SF5:=H_ (SF4.out.aA (G':=NG g (two g e) w7) (λb hb=>⟨hb,bw.block b (by have:=hb.2.1;omega) (λh=>by have:=hb.2.1;have:=hb.2.2;unfold two at this;omega)⟩));have VP5:=hvk VP4 bw;have B5:=H_ (B4.out.put bw (by omega) (by omega));have HP5:=H_ (HP4.out.put bw (by omega));have hs5:=bw.size;clear bw B4 HP4 E4 G4 V4 SF4 VP4;have hf5:=Blk.lt F5.out;have HBL:=H_ (jp (T:=T) (st:=S T n) (i:=j4) (λj hj=>yh n j (by omega)) (wA n) p c A w5 HP5.out);go_wp2_with fail;refine Out.use HBL.out (λj6' w6' hr b6=>?_) (λbs j6' v w6' hr hv P6 b6=>?_)
          ·exact⟨rfl,Out.bad (by rw[HCL.out];simp only[if_true];rw[HE1.out];unfold aS dM;rw[AP HT.out];rw[H2.out];simp only;rw[H4.out];simp only;rw[hr]) (hgz▸B5.out.trans (b6.mono (by omega)))⟩
          ·obtain⟨hvec,hbl⟩:=hv;obtain⟨A6,c6,rfl,_⟩:=hvec.sl (by unfold BD;omega);have VB6:=H_ hvec;have H6:=H_ hr;have hj6':=jQ _ _ _ (wA n) hr;obtain⟨w6,rfl⟩:∃w',w'=w6':=⟨_,rfl⟩;clear hr hvec HBL;obtain⟨-,E6,-,G6,-,F6,-⟩:=fn3 E5 G5 F5 b6;have V6:=hvk V5 b6;have SF6:=H_ (SF5.out.aA (G':=NG g (two g e) w7) (λb hb=>⟨hb,b6.block b (by have:=hb.2.1;omega) (by have:=hb.1;omega)⟩));have VP6:=hvk VP5 b6;have B6:=H_ (B5.out.trans (b6.mono (by omega)));have HP6:=H_ P6;have hs6:=b6.size;clear b6 P6 B5 HP5 E5 G5 F5 V5 SF5 VP5;have hf6:=Blk.lt F6.out;have x2:=F6.out.k2;have x2f:=Blk.frozen F6.out 2;go_upto_region 12 with fail;obtain⟨w8,hw8⟩:=nm_ (w6.setCell ⟨f,2,none⟩ (.slice A6 bs.length c6));have bw:=bx1 hw8;have F8:=H_ (show Blk w8 f 121 #[.string nm,.slice A4 ps.length c4,.slice A6 bs.length c6]from hw8▸Blk.set F6.out 2 _);rw[hw8];clear hw8 x2 x2f;have E8:=hbx E6 bw;have G8:=hbx G6 bw;have V8:=H_ (V6.out.aA bw.size (λk hk=>bw.block k hk.2.1 hk.2.2));have SF8:=H_ (SF6.out.aA (G':=NG g (two g e) w7) (λb hb=>⟨hb,bw.block b (by have:=hb.2.1;omega) (λh=>by have:=hb.2.1;have:=hb.2.2;unfold two at this;omega)⟩));have VP8:=hvk VP6 bw;have VB8:=hvk VB6 bw;have B8:=H_ (B6.out.put bw (by omega) (by omega));have HP8:=H_ (HP6.out.put bw (by omega));have hs8:=bw.size;clear bw B6 HP6 E6 G6 V6 SF6 VP6 VB6;have hf8:=Blk.lt F8.out;have he8:=Blk.lt E8.out;obtain⟨m0,m1,m2⟩:=F8.out.c3;have y3:=E8.out.k3;have y3f:=Blk.frozen E8.out 3;have HO:=H_ hov
           have HME:=H_ (show MeC w8 (λb=>NG w7.heap.size (λb=>b=f) w8 b/\(Value.slice A2 ms.length c2).ownBlock≠some b) ⟨nm,ps,bs⟩ [.string nm,.slice A4 ps.length c4,.slice A6 bs.length c6]from
            ⟨A4,ps.length,c4,A6,bs.length,c6,rfl,(VP8.out.slice (by unfold BD;omega)).aA (λb hb=>⟨⟨⟨by have:=hb.1;omega,hb.2.1,λh=>by have:=hb.1;omega⟩,λh=>by have:=HO.out b h;have:=hb.1;omega⟩,rfl⟩),(VB8.out.slice (by unfold BD;omega)).aA (λb hb=>⟨⟨⟨by have:=hb.1;omega,hb.2.1,λh=>by have:=hb.1;omega⟩,λh=>by have:=HO.out b h;have:=hb.1;omega⟩,rfl⟩)⟩)
           go_wp2_with (at_builtin;refine bv yl (K:=kMe) rfl (.tmp 51) (.tmp 53) rfl V8.out HME.out rfl rfl (by omega) (by omega) (λb hb h=>by omega) ?_);intro u9 w9 hv9 hg9;have hs9:=hg9.size;have hown:∀k,(Value.slice A2 ms.length c2).ownBlock=some k->w7.heap.size<=k:=λk hk=>(V8.out.lt k hk).1;have E9:=H_ ((hg9.block e he8 (λh=>by have:=hown e h.symm;omega)).trans E8.out);have G9:=H_ ((hg9.block g (by omega) (λh=>by have:=hown g h.symm;omega)).trans G8.out);have HP9:=H_ (HP8.out.grown hg9 (λk hk=>by have:=hown k hk;omega));have B9:=H_ (B8.out.grown hg9 (by omega) (λk hk=>by have:=hown k hk;omega));have SF9:=H_ (SF8.out.aA (G':=NG g (two g e) w7) (λb hb=>⟨hb,hg9.block b (by have:=hb.2.1;omega) (λh=>by have:=hown b h.symm;have:=hb.2.1;omega)⟩));obtain⟨A9,c9,rfl,_⟩:=hv9.sl (by simp[BD];omega);rw[show(ms++[(⟨nm,ps,bs⟩:Me)]).length=ms.length+1 from by simp]at hv9;have V9:=H_ hv9.noz;have he9:e<w9.heap.size:=by omega
           have x3:w9.cell? ⟨e,3,none⟩=some (.slice A2 ms.length c2):=Blk.cell E9.out 3;have x3f:=Blk.frozen E9.out 3;clear hv9 hg9 E8 G8 HP8 B8 SF8 V8 VP8 VB8 HME F8 y3 y3f m0 m1 m2;go_wp2_with fail;rw[show(ms++[(⟨nm,ps,bs⟩:Me)]).length=ms.length+1 from by simp];obtain⟨w10,hw10⟩:=nm_ (w9.setCell ⟨e,3,none⟩ (.slice A9 (ms.length+1) c9));have bw:=bx1 hw10;have E10:=H_ (show Blk w10 e 117 #[.string s,.bool true,.slice A' fs.length c',.slice A9 (ms.length+1) c9]from hw10▸Blk.set E9.out 3 _);rw[hw10];clear hw10 x3 x3f;have G10:=hbx G9 bw;have V10:=hvk V9 bw;have SF10:=H_ (SF9.out.aA (G':=NG g (two g e) w7) (λb hb=>⟨hb,bw.block b (by have:=hb.2.1;omega) (λh=>by have:=hb.2.1;have:=hb.2.2;unfold two at this;omega)⟩));have B10:=H_ (B9.out.put bw (by omega) (by omega));have HP10:=H_ (HP9.out.put bw (by omega));have hs10:=bw.size;clear bw B9 HP9 G9 V9 SF9;have HE10:=H_ (show aS T n (T.length+1) [] q=aS T n m (ms++[⟨nm,ps,bs⟩]) j6' by rw[HE1.out];conv=>lhs;unfold aS dM;rw[AP HT.out,H2.out];simp only;rw[H4.out];simp only;rw[H6.out]);have hj10:=HP10.out.lt;rw[show ms.length+1=(ms++[(⟨nm,ps,bs⟩:Me)]).length from by simp]at E10 V10;go_roundg (T.length-j6')
           case rel=>exact⟨ms++[⟨nm,ps,bs⟩],j6',A9,c9,rfl,E10,V10,SF10,G10,HP10,B10,by omega,by omega,by simp;omega,H_ ⟨m,by omega,HE10.out⟩⟩
           case measure=>omega
       ·have HT:=H_ ht;clear ht;have E1:=hbx E0 b1;have G1:=hbx G0 b1;have V1:=hvk V0 b1;have SF1:=H_ (SF0.out.aA (G':=NG g (two g e) w7) (λb hb=>⟨hb,b1.block b (by have:=hb.2.1;omega) (by have:=hb.1;omega)⟩));have B1:=H_ (B0.out.trans (b1.mono (by omega)));have HP1:=H_ P1;have hs1:=b1.size;clear b1 P1 B0 HP0 E0 G0 V0 SF0;go_wp2_with fail;refine bR (s:=gn) (HP1.out.alloc _) ((Blk.new w1 _ _).cell 0) (λjz w2 hr b2=>?_) (λjz w2 hr P2 b2=>?_)
        ·exact⟨rfl,Out.bad (by rw[HCL.out];simp only[if_true];rw[HE1.out];unfold aS;rw[AL (by rw[HT.out];simp)];simp only;rw[show ap T gn _= .bad jz from hr]) (hgz▸B1.out.trans ((((Bx.refl w1.heap.size p w1).new _ (AB _)).aB b2).mono (by omega)))⟩
        ·have HRB:=H_ (show ap T gn _= .ok () jz from hr);replace b2:=((Bx.refl w1.heap.size p w1).new _ (AB _)).aB b2;clear hr;have E2:=hbx E1 b2;have G2:=hbx G1 b2;have V2:=hvk V1 b2;have SF2:=H_ (SF1.out.aA (G':=NG g (two g e) w7) (λb hb=>⟨hb,b2.block b (by have:=hb.2.1;omega) (by have:=hb.1;omega)⟩));have B2:=H_ (B1.out.trans (b2.mono (by omega)));have HP2:=H_ P2;have hs2:=b2.size;clear b2 P2 B1 HP1 E1 G1 V1 SF1;have hel:=Blk.lt E2.out;obtain⟨y0,y1,y2,y3⟩:=(Blk.aH E2.out).1;obtain⟨⟨d0,d1,d2,d3⟩,f0,f1,f2,f3⟩:=Blk.aH G2.out;go_wp2_with fail;obtain⟨N1,N2⟩:=wR G2.out (.string s) (.bool true) (.slice A' fs.length c') (.slice A2 ms.length c2);refine lZ g 117 _ _ rfl (by simp) N1 Tryz.underlying117 rfl nT (Out.ok (by rw[HCL.out];simp only[if_true];rw[HE1.out];unfold aS;rw[AL (by rw[HT.out];simp)];simp only;rw[HRB.out]) ⟨[.string s,.bool true,.slice A' fs.length c',(.slice A2 ms.length c2)],rfl,A',fs.length,c',A2,ms.length,c2,rfl,Sl.aA (G:=NG g (two g e) w7) (λb hb=>⟨⟨by have:=hb.1;omega,AF hb.2.1 (AW (show w7.heap.size<=w2.heap.size by omega) N2.size)⟩,N2.block b (by have:=hb.2.1;omega) (λh=>hb.2.2 (.inl h))⟩) SF2.out,Sl.aA (G:=NG w7.heap.size noZ w2) (λb hb=>⟨⟨by have:=hb.1;omega,AF hb.2.1 N2.size⟩,N2.block b hb.2.1 (by have:=hb.1;omega)⟩) (V2.out.slice (by unfold BD;omega))⟩ (HP2.out.put N2 (by omega)) (hgz▸B2.out.put N2 (by omega) (by omega)))
end
end Go.Proofs.YtjpbckbpeblibaaGreatDoor
