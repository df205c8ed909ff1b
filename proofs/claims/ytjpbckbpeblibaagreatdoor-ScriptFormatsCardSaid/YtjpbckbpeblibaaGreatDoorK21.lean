/- part of a proof -/
import Derived.Test.YtjpbckbpeblibaaGreatDoorK12
import Derived.Deep.MidRow
namespace Go.Proofs.YtjpbckbpeblibaaGreatDoor
set_option linter.unusedVariables false
set_option linter.unusedSimpArgs false
set_option maxRecDepth 100000
set_option maxHeartbeats 64000000
section
open Go.RowKit
variable{W W' w:World}{g j:Nat}{v:Option Value}{xs:Nat->Option Value}
def AllB(w:World)(b:Nat):Prop:=b<w.heap.size
theorem AllB.aA{w':World}(h:Below w.heap.size w w'):∀b,AllB w b->AllB w' b/\w'.heap[b]?=w.heap[b]?:=λb hb=>⟨Fj hb h.size,h.block b hb⟩
def lC(w:World)(e:Ending)(w':World):Prop:=e= .returned (.bool true)/\Below w.heap.size w w'
theorem xy(xs:List ByteArray)(A B:Option Addr)(n c1 c2:Nat)(w:World)(h1:Sl dF w (AllB w) xs A n)(h2:Sl dF w (AllB w) xs B n)(hn:n<=1000000):Calls Tryz.prog 56 #[.slice A n c1,.slice B n c2] w (lC w):=by
 have H1:=H_ h1;have H2:=H_ h2;clear h1 h2;go_enter Tryz.func56,Tryz.ntmps56;go_wp2_with fail;go_loopw [5] (λi wr=>∃k:Nat,k<=n/\i= .int .i64 k/\Hid (Below w.heap.size w wr)) (λi _=>n-(intOf i).toNat)
 case atStart=>exact⟨0,Fl _,rfl,H_ (Fb _ _)⟩
 case round=>
  obtain⟨k,hk,rfl,HB⟩:=hrel;by_cases hkm:k<n
  ·have hkz:(k:Int)<(n:Int):=by omega
   obtain⟨b,off,x,cs,rfl,hgb,hx,hrd,hat⟩:=(H1.out.aA (AllB.aA HB.out)).at_ hkm;obtain⟨b',off',x',cs',rfl,hgb',hx',hrd',hat'⟩:=(H2.out.aA (AllB.aA HB.out)).at_ hkm;obtain rfl:x'=x:=Option.some.inj (hx'.symm.trans hx);obtain⟨TT,f,hne,hf,hcov⟩:=cg wr.heap.size wr;have hcs:cs=[.string x']:=hrd;have hcs':cs'=[.string x']:=hrd';subst hcs hcs';have d0:∀y,(f y).cell? ⟨b,off+k,none⟩=some (.string x'):=λy=>(aa (hf y) hgb _).trans (by have:=hat 0 _ rfl;rwa[show dF.sz=1 from rfl,FV]at this);have d1:∀y,(f y).cell? ⟨b',off'+k,none⟩=some (.string x'):=λy=>(aa (hf y) hgb' _).trans (by have:=hat' 0 _ rfl;rwa[show dF.sz=1 from rfl,FV]at this);have HF:=H_ (λy=>HB.out.trans ((hf y).mono HB.out.size));have HCOV:=H_ hcov;clear hat hat' hrd hrd' hf hcov HB hx hx' hgb hgb';go_upto_region 6 with fail;refine ai f (by kernel_rfl) (by kernel_rfl) (HCOV.out _ (Fb _ _).drew) ?_;repeat (go_big_quiet_step (fail))
   refine FO ?_;rintro _ ⟨y,rfl⟩;go_wp2_with fail;go_roundw
   case rel=>exact⟨k+1,by omega,by go_num,H_ (HF.out y)⟩
   case measure=>simp[intOf];omega
  ·obtain rfl:k=n:=by omega
   go_wp2_with fail;go_ret;exact⟨rfl,HB.out⟩
theorem dj{P:Program}{C:World->Prop}{a:Act}{o:Oper}{K:Act->Prop}(ty:TypeId)(x:Operand)(ho:o.op= .load ty x)
 (b off:Nat) (hx:a.eval x= .pointer (some ⟨b,off,none⟩)) (cs:List Value) (d:TypeDesc) (hc:∀w,C w->w.rangeAt b off cs)
 (hu:P.underlying ty=some d) (hd:d.isRow=true) (hi:(P.info? ty).map (·.size)=some cs.length) (hk:K (a.put o.dst (.agg cs.toArray))):o.quiet P a C K:=
 ⟨_,λw hw=>by
   unfold Oper.quietAt execOp;simp only[ho,hx,Instr.loadAt,Instr.sureAddr,GF,GH,Gi,run_loadVar_mid w b off ty cs d (hc w hw) hu hd hi];exact⟨rfl,rfl⟩,hk⟩
theorem oA(m:Nat)(IH:∀(x:Ex) (v1 v2:Value) (w:World),esz x<=m->ExV w (AllB w) x v1->ExV w (AllB w) x v2->Calls Tryz.prog 147 #[v1,v2] w (lC w))
 (xs:List Ex) (A B:Option Addr) (n c1 c2:Nat) (w:World) (h1:Sl kEx w (AllB w) xs A n) (h2:Sl kEx w (AllB w) xs B n) (hn:n<=1000000) (hm:lsz esz xs<=m):Calls Tryz.prog 95 #[.slice A n c1,.slice B n c2] w (lC w):=by
 have H1:=H_ h1;have H2:=H_ h2;have HI:=H_ IH;clear h1 h2 IH;go_enter Tryz.func95,Tryz.ntmps95;go_wp2_with fail;go_loopw [5] (λi wr=>∃k:Nat,k<=n/\i= .int .i64 k/\Hid (Below w.heap.size w wr)) (λi _=>n-(intOf i).toNat)
 case atStart=>exact⟨0,Fl _,rfl,H_ (Fb _ _)⟩
 case round=>
  obtain⟨k,hk,rfl,HB⟩:=hrel;by_cases hkm:k<n
  ·have hkz:(k:Int)<(n:Int):=by omega
   obtain⟨b,off,x,cs,rfl,hgb,hx,hrd,hat⟩:=(H1.out.aA (AllB.aA HB.out)).at_ hkm;obtain⟨b',off',x',cs',rfl,hgb',hx',hrd',hat'⟩:=(H2.out.aA (AllB.aA HB.out)).at_ hkm;obtain rfl:x'=x:=Option.some.inj (hx'.symm.trans hx);have hsz:=bq esz hx;obtain⟨xk,xo,xz,xn,xa,args⟩:=x';obtain⟨A2,n2,c2',rfl,_⟩:=ExC.inv hrd;obtain⟨A3,n3,c3',rfl,_⟩:=ExC.inv hrd';obtain⟨TT,f,hne,hf,hcov⟩:=cg wr.heap.size wr;have R1:=H_ (show∀y,(f y).rangeAt b (off+k*6) [.int .i64 xk,.int .i64 xo,.int .i64 xz,.string xn,.bool xa,.slice A2 n2 c2']from λy j u hj=>(aa (hf y) hgb _).trans (by have:=hat j u hj;rwa[show kEx.sz=6 from rfl,FG]at this));have R2:=H_ (show∀y,(f y).rangeAt b' (off'+k*6) [.int .i64 xk,.int .i64 xo,.int .i64 xz,.string xn,.bool xa,.slice A3 n3 c3']from λy j u hj=>(aa (hf y) hgb' _).trans (by have:=hat' j u hj;rwa[show kEx.sz=6 from rfl,FG]at this))
   have C1:=H_ (show∀y,Calls Tryz.prog 147 #[.agg #[.int .i64 xk,.int .i64 xo,.int .i64 xz,.string xn,.bool xa,.slice A2 n2 c2'],.agg #[.int .i64 xk,.int .i64 xo,.int .i64 xz,.string xn,.bool xa,.slice A3 n3 c3']] (f y) (λe w''=>e= .returned (.bool true)/\∃z,w''=f z)from λy=>
    (HI.out (.mk xk xo xz xn xa args) _ _ (f y) (by omega) ⟨_,rfl,ExC.aA (AllB.aA (hf y)) hrd⟩ ⟨_,rfl,ExC.aA (AllB.aA (hf y)) hrd'⟩).mono λe w'' ⟨h1,h2⟩=>⟨h1,hcov _ ((hf y).trans (h2.mono (hf y).size))⟩)
   have HF:=H_ (λy=>HB.out.trans ((hf y).mono HB.out.size));have HCOV:=H_ hcov;clear hat hat' hrd hrd' hf hcov HB hx hx' hgb hgb';go_upto_region 6 with fail;refine ai f (by kernel_rfl) (by kernel_rfl) (HCOV.out _ (Fb _ _).drew) ?_;repeat (go_big_quiet_step (fail))
   go_big_quiet_want;refine dj 172 (.tmp 19) rfl b (off+k*6) rfl [_,_,_,_,_,_] _ (by rintro _ ⟨y,rfl⟩;exact R1.out y) Tryz.underlying172 rfl (by kernel_rfl) ?_;go_simp;go_big_quiet_on;repeat (go_big_quiet_step (fail))
   go_big_quiet_want;refine dj 172 (.tmp 23) rfl b' (off'+k*6) rfl [_,_,_,_,_,_] _ (by rintro _ ⟨y,rfl⟩;exact R2.out y) Tryz.underlying172 rfl (by kernel_rfl) ?_;go_simp;go_big_quiet_on;repeat (go_big_quiet_step ((go_at_call 147;exact C1.out _)))
   refine FO ?_;rintro _ ⟨y,rfl⟩;go_wp2_with fail;go_roundw
   case rel=>exact⟨k+1,by omega,by go_num,H_ (HF.out y)⟩
   case measure=>simp[intOf];omega
  ·obtain rfl:k=n:=by omega
   go_wp2_with fail;go_ret;exact⟨rfl,HB.out⟩
theorem eX{α:Type}(sz:α->Nat)(h:∀x,1<=sz x):∀l:List α,l.length<=lsz sz l
 |[]=>F0 _
 |x::l=>by have:=eX sz h l;have:=h x;rw[aW,EZ];omega
theorem sw(m:Nat)(hm0:m<=1000000)(IH:∀(x:Ex) (v1 v2:Value) (w:World),esz x<m->ExV w (AllB w) x v1->ExV w (AllB w) x v2->Calls Tryz.prog 147 #[v1,v2] w (lC w))
 (x:Ex) (v1 v2:Value) (w:World) (hm:esz x<=m) (h1:ExV w (AllB w) x v1) (h2:ExV w (AllB w) x v2):Calls Tryz.prog 147 #[v1,v2] w (lC w):=by
 obtain⟨xk,xo,xz,xn,xa,args⟩:=x;rw[cU]at hm;obtain⟨cs,rfl,hrd⟩:=h1;obtain⟨cs',rfl,hrd'⟩:=h2;obtain⟨A2,n2,c2,rfl,hs⟩:=ExC.inv hrd;obtain⟨A3,n3,c3,rfl,hs'⟩:=ExC.inv hrd';obtain rfl:n3=n2:=hs'.1.symm.trans hs.1;have hn:=eX esz bJ args;rw[hs.1]at hn;clear hrd hrd';obtain⟨w0,hw0⟩:=nm_ (w.alloc (.cells #[.int .i64 xk,.int .i64 xo,.int .i64 xz,.string xn,.bool xa,.slice A2 n3 c2] 172));obtain⟨w1,hw1⟩:=nm_ (w0.alloc (.cells #[.int .i64 xk,.int .i64 xo,.int .i64 xz,.string xn,.bool xa,.slice A3 n3 c3] 172));have hsz0:w0.heap.size=w.heap.size+1:=by rw[<-hw0];simp
 have hsz1:w1.heap.size=w.heap.size+2:=by rw[<-hw1];simp[hsz0]
 have hb0:=bal hw0;have hb1':=bal hw1;have hb1:=hb0.trans (hb1'.mono hb0.size);have p0:=Blk.nw hw0;have p1:Blk w1 w.heap.size 172 #[.int .i64 xk,.int .i64 xo,.int .i64 xz,.string xn,.bool xa,.slice A2 n3 c2]:=(hb1'.block _ (by omega)).trans p0;have p2:Blk w1 (w.heap.size+1) 172 #[.int .i64 xk,.int .i64 xo,.int .i64 xz,.string xn,.bool xa,.slice A3 n3 c3]:=by rw[<-hsz0];exact hw1▸Blk.new w0 172 _
 have C1:=oA (lsz esz args) (λy u1 u2 w' hy=>IH y u1 u2 w' (by omega)) args A2 A3 n3 c2 c3 w1 (hs.aA (AllB.aA hb1)) (hs'.aA (AllB.aA hb1)) (by omega) (F0 _);generalize hp:w.heap.size=p at*
 have q0:=p1.cell 0;have q1:=p1.cell 1;have q2:=p1.cell 2;have q3:=p1.cell 3;have q4:=p1.cell 4;have q5:=p1.cell 5;have r0:=p2.cell 0;have r1:=p2.cell 1;have r2:=p2.cell 2;have r3:=p2.cell 3;have r4:=p2.cell 4;have r5:=p2.cell 5;have HB:=H_ hb1;have HY:=H_ hsz1;have HC:=H_ C1;clear C1 hb1 p0 p1 p2 hb0 hb1' hs hs' IH;go_enter Tryz.func147,Tryz.ntmps147;go_wp2_with (go_at_call 95;refine HC.out.mono ?_);rintro _ w2 ⟨rfl,hb2⟩;go_wp2_with fail;go_ret;exact⟨rfl,hp▸HB.out.trans (hb2.mono (by have:=HY.out;omega))⟩
theorem qH(m:Nat)(hm0:m<=1000000):∀(x:Ex) (v1 v2:Value) (w:World),esz x<=m->ExV w (AllB w) x v1->ExV w (AllB w) x v2->Calls Tryz.prog 147 #[v1,v2] w (lC w):=by
 induction m with
 |zero=>exact λx v1 v2 w hx=>absurd (bJ x) (by omega)
 |succ m ih=>exact sw (m+1) hm0 (λx v1 v2 w hx=>ih (by omega) x v1 v2 w (by omega))
theorem Cg(xs:List Ex)(A B:Option Addr)(n c1 c2:Nat)(w:World)(h1:Sl kEx w (AllB w) xs A n)(h2:Sl kEx w (AllB w) xs B n)(hm:lsz esz xs<=1000000):Calls Tryz.prog 95 #[.slice A n c1,.slice B n c2] w (lC w):=
 oA 1000000 (qH 1000000 (F0 _)) xs A B n c1 c2 w h1 h2 (by have:=eX esz bJ xs;rw[h1.1]at this;omega) hm
theorem oB(m:Nat)(hm0:m<=1000000)(IH:∀(xs:List St) (A B:Option Addr) (n c1 c2:Nat) (w:World),lsz ssz xs<m->Sl kSt w (AllB w) xs A n->Sl kSt w (AllB w) xs B n->Calls Tryz.prog 57 #[.slice A n c1,.slice B n c2] w (lC w))
 (xs:List St) (A B:Option Addr) (n c1 c2:Nat) (w:World) (h1:Sl kSt w (AllB w) xs A n) (h2:Sl kSt w (AllB w) xs B n) (hm:lsz ssz xs<=m):Calls Tryz.prog 57 #[.slice A n c1,.slice B n c2] w (lC w):=by
 have hn:=eX ssz ma xs;rw[h1.1]at hn;have hn6:n<=1000000:=by omega
 have H1:=H_ h1;have H2:=H_ h2;have HI:=H_ IH;clear h1 h2 IH;go_enter Tryz.func57,Tryz.ntmps57;go_wp2_with fail;go_loopw [5] (λi wr=>∃k:Nat,k<=n/\i= .int .i64 k/\Hid (Below w.heap.size w wr)) (λi _=>n-(intOf i).toNat)
 case atStart=>exact⟨0,Fl _,rfl,H_ (Fb _ _)⟩
 case round=>
  obtain⟨k,hk,rfl,HB⟩:=hrel;by_cases hkm:k<n
  ·have hkz:(k:Int)<(n:Int):=by omega
   obtain⟨b,off,x,cs,rfl,hgb,hx,hrd,hat⟩:=(H1.out.aA (AllB.aA HB.out)).at_ hkm;obtain⟨b',off',x',cs',rfl,hgb',hx',hrd',hat'⟩:=(H2.out.aA (AllB.aA HB.out)).at_ hkm;obtain rfl:x'=x:=Option.some.inj (hx'.symm.trans hx);have hsz:=bq ssz hx;obtain⟨xk,xn,ex,bo,el⟩:=x';rw[dC]at hsz;obtain⟨A2,n2,c2',A3,n3,c3,A4,n4,c4,rfl,hs1,hs2,hs3⟩:=StC.inv hrd;obtain⟨A2',n2',c2'',A3',n3',c3',A4',n4',c4',rfl,ht1,ht2,ht3⟩:=StC.inv hrd';obtain rfl:n2'=n2:=ht1.1.symm.trans hs1.1;obtain rfl:n3'=n3:=ht2.1.symm.trans hs2.1;obtain rfl:n4'=n4:=ht3.1.symm.trans hs3.1;obtain⟨TT,f,hne,hf,hcov⟩:=cg wr.heap.size wr;have R1:=λ(y:TT) (j:Nat) (u:Value) (hj:[Value.int .i64 xk,.string xn,.slice A2 n2' c2',.slice A3 n3' c3,.slice A4 n4' c4][j]?=some u)=>(aa (hf y) hgb _).trans (show wr.cell? ⟨b,off+k*5+j,none⟩=some u by have:=hat j u hj;rwa[show kSt.sz=5 from rfl,FG]at this);have R2:=λ(y:TT) (j:Nat) (u:Value) (hj:[Value.int .i64 xk,.string xn,.slice A2' n2' c2'',.slice A3' n3' c3',.slice A4' n4' c4'][j]?=some u)=>(aa (hf y) hgb' _).trans (show wr.cell? ⟨b',off'+k*5+j,none⟩=some u by have:=hat' j u hj;rwa[show kSt.sz=5 from rfl,FG]at this);have a0:∀y,(f y).cell? ⟨b,off+k*5,none⟩=some (.int .i64 xk):=λy=>R1 y 0 _ rfl;have a1:=λy=>R1 y 1 _ rfl;have a2:=λy=>R1 y 2 _ rfl;have a3:=λy=>R1 y 3 _ rfl;have a4:=λy=>R1 y 4 _ rfl;have e0:∀y,(f y).cell? ⟨b',off'+k*5,none⟩=some (.int .i64 xk):=λy=>R2 y 0 _ rfl;have e1:=λy=>R2 y 1 _ rfl;have e2:=λy=>R2 y 2 _ rfl;have e3:=λy=>R2 y 3 _ rfl;have e4:=λy=>R2 y 4 _ rfl
   have C1:=H_ (show∀y,Calls Tryz.prog 95 #[.slice A2 n2' c2',.slice A2' n2' c2''] (f y) (λe w''=>e= .returned (.bool true)/\∃z,w''=f z)from λy=>
    (Cg ex A2 A2' _ _ _ (f y) (hs1.aA (AllB.aA (hf y))) (ht1.aA (AllB.aA (hf y))) (by omega)).mono λe w'' ⟨h1,h2⟩=>⟨h1,hcov _ ((hf y).trans (h2.mono (hf y).size))⟩)
   have C2:=H_ (show∀y,Calls Tryz.prog 57 #[.slice A3 n3' c3,.slice A3' n3' c3'] (f y) (λe w''=>e= .returned (.bool true)/\∃z,w''=f z)from λy=>
    (HI.out bo A3 A3' _ _ _ (f y) (by omega) (hs2.aA (AllB.aA (hf y))) (ht2.aA (AllB.aA (hf y)))).mono λe w'' ⟨h1,h2⟩=>⟨h1,hcov _ ((hf y).trans (h2.mono (hf y).size))⟩)
   have C3:=H_ (show∀y,Calls Tryz.prog 57 #[.slice A4 n4' c4,.slice A4' n4' c4'] (f y) (λe w''=>e= .returned (.bool true)/\∃z,w''=f z)from λy=>
    (HI.out el A4 A4' _ _ _ (f y) (by omega) (hs3.aA (AllB.aA (hf y))) (ht3.aA (AllB.aA (hf y)))).mono λe w'' ⟨h1,h2⟩=>⟨h1,hcov _ ((hf y).trans (h2.mono (hf y).size))⟩)
   have HF:=H_ (λy=>HB.out.trans ((hf y).mono HB.out.size));have HCOV:=H_ hcov;clear hat hat' hrd hrd' hf hcov HB hx hx' hgb hgb' R1 R2 hs1 hs2 hs3 ht1 ht2 ht3 hsz hm hn;go_upto_region 6 with fail;refine ai f (by kernel_rfl) (by kernel_rfl) (HCOV.out _ (Fb _ _).drew) ?_;simp only[List.append_eq,Fq,Fs];repeat (go_big_quiet_step (fail))
   go_big_quiet_step ((go_at_call 95;exact C1.out _));repeat (go_big_quiet_step (fail))
   go_big_quiet_step ((go_at_call 57;exact C2.out _));repeat (go_big_quiet_step (fail))
   go_big_quiet_step ((go_at_call 57;exact C3.out _));repeat (go_big_quiet_step (fail))
   refine FO ?_;rintro _ ⟨y,rfl⟩;go_wp2_with fail;go_roundw
   case rel=>exact⟨k+1,by omega,by go_num,H_ (HF.out y)⟩
   case measure=>simp[intOf];omega
  ·obtain rfl:k=n:=by omega
   go_wp2_with fail;go_ret;exact⟨rfl,HB.out⟩
theorem Ch(xs:List St)(A B:Option Addr)(n c1 c2:Nat)(w:World)(h1:Sl kSt w (AllB w) xs A n)(h2:Sl kSt w (AllB w) xs B n)(hm:lsz ssz xs<=1000000):Calls Tryz.prog 57 #[.slice A n c1,.slice B n c2] w (lC w):=by
 have h:∀(m:Nat),m<=1000000->∀(xs:List St) (A B:Option Addr) (n c1 c2:Nat) (w:World),lsz ssz xs<=m->Sl kSt w (AllB w) xs A n->Sl kSt w (AllB w) xs B n->Calls Tryz.prog 57 #[.slice A n c1,.slice B n c2] w (lC w):=by
  intro m;induction m with
  |zero=>exact λ_ xs A B n c1 c2 w hx h1 h2=>oB 0 (by omega) (λ_ _ _ _ _ _ _ h=>absurd h (by omega)) xs A B n c1 c2 w h1 h2 hx
  |succ m ih=>exact λh0 xs A B n c1 c2 w hx h1 h2=>oB (m+1) h0 (λxs A B n c1 c2 w h=>ih (by omega) xs A B n c1 c2 w (by omega)) xs A B n c1 c2 w h1 h2 hx
 exact h 1000000 (F0 _) xs A B n c1 c2 w hm h1 h2
abbrev pt(N:Nat):Value:= .pointer (some ⟨N,0,none⟩)
def F27s(p q b off b' off' n c1 c2 k S:Nat)(d e:Value×Value×Value×Value)(i:Nat)(xs:Nat->Option Value)(W:World):Prop:=match i with
 |0=>xs 0=some (pt p)
 |1=>xs 1=some (.slice (some ⟨b,off,none⟩) n c1)
 |2=>xs 2=some (.int .i64 (k:Int))
 |3=>xs 3=some (.pointer (some ⟨b,off+k*4,none⟩))
 |4=>xs 4=some (.agg #[d.1,d.2.1,d.2.2.1,d.2.2.2])
 |5=>xs 5=some (pt q)
 |6=>xs 6=some (.slice (some ⟨b',off',none⟩) n c2)
 |7=>xs 7=some (.int .i64 (k:Int))
 |8=>xs 8=some (.pointer (some ⟨b',off'+k*4,none⟩))
 |9=>xs 9=some (.agg #[e.1,e.2.1,e.2.2.1,e.2.2.2])
 |10=>∃N u0 u1 u2 u3,xs 10=some (pt N)/\S<=N/\Blk W N 117 #[u0,u1,u2,u3]
 |11=>∃N u0 u1 u2 u3,xs 11=some (pt N)/\S<=N/\Blk W N 117 #[u0,u1,u2,u3]
 |12=>∃N,xs 10=some (pt N)/\S<=N/\Blk W N 117 #[d.1,d.2.1,d.2.2.1,d.2.2.2]
 |13=>∃N,xs 11=some (pt N)/\S<=N/\Blk W N 117 #[e.1,e.2.1,e.2.2.1,e.2.2.2]
 |_=>True
def pW(k j:Nat):Bool:=(k==12&&j==10)||(k==13&&j==11)
theorem F27s.aA{p q b off b' off' n c1 c2 k S i:Nat}{d e:Value×Value×Value×Value}(hne:i≠j)(hd:pW i j=false)(h:F27s p q b off b' off' n c1 c2 k S d e i xs W)
 (hA:∀N u0 u1 u2 u3,xs 10=some (pt N)->S<=N->Blk W N 117 #[u0,u1,u2,u3]->(∃v0 v1 v2 v3,Blk W' N 117 #[v0,v1,v2,v3])/\(j≠12->Blk W' N 117 #[u0,u1,u2,u3]))
 (hB:∀N u0 u1 u2 u3,xs 11=some (pt N)->S<=N->Blk W N 117 #[u0,u1,u2,u3]->(∃v0 v1 v2 v3,Blk W' N 117 #[v0,v1,v2,v3])/\(j≠13->Blk W' N 117 #[u0,u1,u2,u3])):
 F27s p q b off b' off' n c1 c2 k S d e i (bN xs j v) W':=by
 by_cases hi:i<14
 rotate_left
 ·obtain⟨m,rfl⟩:∃m,i=m+14:=⟨i-14,by omega⟩;trivial
 obtain rfl|rfl|rfl|rfl|rfl|rfl|rfl|rfl|rfl|rfl|rfl|rfl|rfl|rfl:i=0\/i=1\/i=2\/i=3\/i=4\/i=5\/i=6\/i=7\/i=8\/i=9\/i=10\/i=11\/i=12\/i=13:=by omega
 rotate_right 4
 ·obtain⟨N,u0,u1,u2,u3,h1,h2,h3⟩:=h;obtain⟨v0,v1,v2,v3,h4⟩:=(hA N u0 u1 u2 u3 h1 h2 h3).1;exact⟨N,v0,v1,v2,v3,(cB xs v hne).trans h1,h2,h4⟩
 ·obtain⟨N,u0,u1,u2,u3,h1,h2,h3⟩:=h;obtain⟨v0,v1,v2,v3,h4⟩:=(hB N u0 u1 u2 u3 h1 h2 h3).1;exact⟨N,v0,v1,v2,v3,(cB xs v hne).trans h1,h2,h4⟩
 ·obtain⟨N,h1,h2,h3⟩:=h;have hj:10≠j:=λe=>by subst e;exact absurd hd (by decide)
  exact⟨N,(cB xs v hj).trans h1,h2,(hA N _ _ _ _ h1 h2 h3).2 (λe=>hne e.symm)⟩
 ·obtain⟨N,h1,h2,h3⟩:=h;have hj:11≠j:=λe=>by subst e;exact absurd hd (by decide)
  exact⟨N,(cB xs v hj).trans h1,h2,(hB N _ _ _ _ h1 h2 h3).2 (λe=>hne e.symm)⟩
 all_goals exact(cB xs v hne).trans h
def J27s(wr:World)(xs:Nat->Option Value)(W:World):Prop:=Below wr.heap.size wr W/\(∀N M,xs 10=some (pt N)->xs 11=some (pt M)->N≠M)/\(∀N,xs 10=some (pt N)->N<W.heap.size)/\∀N,xs 11=some (pt N)->N<W.heap.size
theorem J27s.same{wr:World}(h:J27s wr xs W)(hj:j≠10/\j≠11)(hb:Below wr.heap.size W W'):J27s wr (bN xs j v) W':=by
 have e0:=cB xs v hj.1.symm;have e1:=cB xs v hj.2.symm;refine⟨h.1.trans hb,?_,?_,?_⟩
 ·rw[e0,e1];exact h.2.1
 ·rw[e0];exact λN hN=>Fj (h.2.2.1 N hN) hb.size
 ·rw[e1];exact λN hN=>Fj (h.2.2.2 N hN) hb.size
theorem kZ{N M:Nat}(h:some (pt N)=some (pt M)):N=M:=by cases h;rfl
theorem J27s.new10{wr:World}(h:J27s wr xs W)(o:Obj):J27s wr (bN xs 10 (some (pt W.heap.size))) (W.alloc o):=by
 refine⟨h.1.alloc h.1.size o,λN M h1 h2=>?_,λN h1=>?_,λN h1=>?_⟩
 ·have e:=kZ ((dL xs 10 _).symm.trans h1);have:=h.2.2.2 M ((cB xs _ (by decide)).symm.trans h2);omega
 ·have e:=kZ ((dL xs 10 _).symm.trans h1);simp;omega
 ·have:=h.2.2.2 N ((cB xs _ (by decide)).symm.trans h1);simp;omega
theorem J27s.new11{wr:World}(h:J27s wr xs W)(o:Obj):J27s wr (bN xs 11 (some (pt W.heap.size))) (W.alloc o):=by
 refine⟨h.1.alloc h.1.size o,λN M h1 h2=>?_,λN h1=>?_,λN h1=>?_⟩
 ·have e:=kZ ((dL xs 11 _).symm.trans h2);have:=h.2.2.1 N ((cB xs _ (by decide)).symm.trans h1);omega
 ·have:=h.2.2.1 N ((cB xs _ (by decide)).symm.trans h1);simp;omega
 ·have e:=kZ ((dL xs 11 _).symm.trans h1);simp;omega
def Bw(w:World)(g:Nat)(a b c d:Value):World:=(((w.setCell ⟨g,0,none⟩ a).setCell ⟨g,1,none⟩ b).setCell ⟨g,2,none⟩ c).setCell ⟨g,3,none⟩ d
theorem Blk.oth4{g':Nat}{t:TypeId}{cs:Array Value}(h:Blk w g' t cs)(hne:g'≠g)(a b c d:Value):Blk (Bw w g a b c d) g' t cs:=
 (((h.other ⟨g,0,none⟩ a hne).other ⟨g,1,none⟩ b hne).other ⟨g,2,none⟩ c hne).other ⟨g,3,none⟩ d hne
theorem zF{S:Nat}(h:S<=g)(a b c d:Value):Below S w (Bw w g a b c d):=
 ((((Fb S w).setCell (p:=⟨g,0,none⟩) h a).setCell (p:=⟨g,1,none⟩) h b).setCell (p:=⟨g,2,none⟩) h c).setCell (p:=⟨g,3,none⟩) h d
theorem Ci(cs:List Cl)(A B:Option Addr)(n c1 c2:Nat)(w:World)(h1:Sl kCl w (AllB w) cs A n)(h2:Sl kCl w (AllB w) cs B n)(hm:lsz csz cs<=1000000):Calls Tryz.prog 27 #[.agg #[.slice A n c1],.agg #[.slice B n c2]] w (lC w):=by
 have hn:=eX csz (λx=>by unfold csz;omega) cs;rw[h1.1]at hn;have hn6:n<=1000000:=by omega
 obtain⟨w0,hw0⟩:=nm_ (w.alloc (.cells #[.slice A n c1] 28));obtain⟨w1,hw1⟩:=nm_ (w0.alloc (.cells #[.slice B n c2] 28));have hsz0:w0.heap.size=w.heap.size+1:=by rw[<-hw0];simp
 have hsz1:w1.heap.size=w.heap.size+2:=by rw[<-hw1];simp[hsz0]
 have hb0:=bal hw0;have hb1':Below w0.heap.size w0 w1:=hw1▸(Fb _ _).alloc (F0 _) _;have hb1:Below w.heap.size w w1:=hb0.trans (hb1'.mono hb0.size);have p0:Blk w0 w.heap.size 28 #[.slice A n c1]:=hw0▸Blk.new w 28 _;have P1:=H_ (show Blk w1 w.heap.size 28 #[.slice A n c1]from(hb1'.block _ (by omega)).trans p0);have P2:=H_ (show Blk w1 (w.heap.size+1) 28 #[.slice B n c2] by rw[<-hsz0];exact hw1▸Blk.new w0 28 _);have H1:=H_ (h1.aA (G':=AllB w1) (AllB.aA hb1));have H2:=H_ (h2.aA (G':=AllB w1) (AllB.aA hb1));have HB1:=H_ hb1;have HS1:=H_ hsz1;clear hb0 hb1' hb1 p0 h1 h2 hn;generalize hpz:w.heap.size=p at*
 have x1:=P1.out.cell 0;have x2:=P2.out.cell 0;go_enter Tryz.func27,Tryz.ntmps27;go_wp2_with fail;clear x1 x2;go_loopw [5] (λi wr=>∃k:Nat,k<=n/\i= .int .i64 k/\Hid (Below w1.heap.size w1 wr)) (λi _=>n-(intOf i).toNat)
 case atStart=>exact⟨0,Fl _,rfl,H_ (Fb _ _)⟩
 case round=>
  obtain⟨k,hk,rfl,HB⟩:=hrel;have HY:=HS1.out;have Q1:=H_ (P1.out.below HB.out (by omega));have Q2:=H_ (P2.out.below HB.out (by omega));have x1:=Q1.out.cell 0;have x2:=Q2.out.cell 0;by_cases hkm:k<n
  ·have hkz:(k:Int)<(n:Int):=by omega
   obtain⟨b,off,x,cs1,rfl,hgb,hx,hrd,hat⟩:=(H1.out.aA (AllB.aA HB.out)).at_ hkm;obtain⟨b',off',x',cs2,rfl,hgb',hx',hrd',hat'⟩:=(H2.out.aA (AllB.aA HB.out)).at_ hkm;obtain rfl:x'=x:=Option.some.inj (hx'.symm.trans hx);have hsz:=bq csz hx;obtain⟨A2,n2,c3,A3,n3,c4,rfl,hf1,hm1⟩:=hrd;obtain⟨B2,n2',d3,B3,n3',d4,rfl,hf2,hm2⟩:=hrd';obtain rfl:n2'=n2:=hf2.1.symm.trans hf1.1;obtain rfl:n3'=n3:=hm2.1.symm.trans hm1.1;have R1:=H_ (show wr.rangeAt b (off+k*4) [.string x'.nm,.bool x'.actor,.slice A2 n2' c3,.slice A3 n3' c4]from λj u hj=>by have:=hat j u hj;rwa[show kCl.sz=4 from rfl,FG]at this);have R2:=H_ (show wr.rangeAt b' (off'+k*4) [.string x'.nm,.bool x'.actor,.slice B2 n2' d3,.slice B3 n3' d4]from λj u hj=>by have:=hat' j u hj;rwa[show kCl.sz=4 from rfl,FG]at this);have HF:=H_ (And.intro (And.intro hf1 hf2) (And.intro hm1 hm2));have HGB:=H_ (And.intro hgb hgb');clear hat hat' hf1 hf2 hm1 hm2 hx hx' hgb hgb';go_upto_region 6 with fail
   refine kM (λxs=>{tmps:= #[.agg #[.slice (some ⟨b,off,none⟩) n c1],.agg #[.slice (some ⟨b',off',none⟩) n c2],.pointer (some ⟨p,0,none⟩),.pointer (some ⟨p+1,0,none⟩),u4,.int .i64 ↑k,(xs 10).getD u6,(xs 11).getD u7,u8,.pointer (some ⟨p,0,none⟩),.slice (some ⟨b,off,none⟩) n c1,.int .i64 ↑n,.pointer (some ⟨p+1,0,none⟩),.slice (some ⟨b',off',none⟩) n c2,.int .i64 ↑n,.bool false,.int .i64 ↑k,.pointer (some ⟨p,0,none⟩),.slice (some ⟨b,off,none⟩) n c1,.int .i64 ↑n,.bool true,u21,u22,(xs 0).getD u23,(xs 1).getD u24,(xs 2).getD u25,(xs 3).getD u26,(xs 4).getD u27,(xs 5).getD u28,(xs 6).getD u29,(xs 7).getD u30,(xs 8).getD u31,(xs 9).getD u32,u33,u34,u35,u36,u37,u38,u39,u40,u41,u42,u43,u44,u45,u46,u47,u48,u49,u50,u51,u52,u53,u54,u55,u56,u57,u58,u59,u60,u61,u62,u63,u64,u65,u66,u67,u68,u69,u70,u71,u72,u73,u74,u75,u76,u77,u78,u79,u80,u81,u82,u83,u84,u85,u86,u87,u88,u89,u90,u91,u92,u93,u94,u95,u96,u97,u98,u99,u100,u101,u102,u103,u104,u105,u106,u107,u108,u109,u110,u111,u112,u113],defers:=[]}) (λ_=>none) (J27s wr)
    (F27s p (p+1) b off b' off' n c1 c2 k wr.heap.size (.string x'.nm,.bool x'.actor,.slice A2 n2' c3,.slice A3 n3' c4) (.string x'.nm,.bool x'.actor,.slice B2 n2' d3,.slice B3 n3' d4)) pW
    (by kernel_rfl) (by kernel_rfl) ?_ rfl ⟨(Fb _ _).drew,(λ_ _ h=>by cases h),(λ_ h=>by cases h),(λ_ h=>by cases h)⟩ ?_ ?_
   ·intro k' j' hk' hd;unfold pW at hd;simp only[Fx,Gt,He]at hd;obtain⟨rfl,rfl⟩|⟨rfl,rfl⟩:=hd<;>kernel_rfl
   ·intro i hi xs W hJ hno _ hd;have hpw:p<wr.heap.size:=Q1.out.lt;have hpw2:p+1<wr.heap.size:=Q2.out.lt
    have still:∀(v:Value) (k':Nat),k'≠i->pW k' i=false->i≠10->i≠11->F27s p (p+1) b off b' off' n c1 c2 k wr.heap.size (.string x'.nm,.bool x'.actor,.slice A2 n2' c3,.slice A3 n3' c4) (.string x'.nm,.bool x'.actor,.slice B2 n2' d3,.slice B3 n3' d4) k' xs W->F27s p (p+1) b off b' off' n c1 c2 k wr.heap.size (.string x'.nm,.bool x'.actor,.slice A2 n2' c3,.slice A3 n3' c4) (.string x'.nm,.bool x'.actor,.slice B2 n2' d3,.slice B3 n3' d4) k' (bN xs i (some v)) W:=
     λv k' h1 h2 _ _ h=>h.aA h1 h2 (λN u0 u1 u2 u3 _ _ hq=>⟨⟨_,_,_,_,hq⟩,λ_=>hq⟩) (λN u0 u1 u2 u3 _ _ hq=>⟨⟨_,_,_,_,hq⟩,λ_=>hq⟩)
    have HST:=H_ still;have HJ:=H_ hJ;clear still;obtain rfl|rfl|rfl|rfl|rfl|rfl|rfl|rfl|rfl|rfl|rfl|rfl|rfl|rfl:i=0\/i=1\/i=2\/i=3\/i=4\/i=5\/i=6\/i=7\/i=8\/i=9\/i=10\/i=11\/i=12\/i=13:=by have:i<14:=hi;omega
    ·refine Fk rfl λK hK=>?_;go_simp;exact hK _ _ ⟨some (pt p),rfl,HJ.out.same (by decide) (Fb _ _),rfl,λk' h1 h2 h=>HST.out _ k' h1 h2 (by decide) (by decide) h⟩
    ·have h0:xs 0=some (pt (p)):=hd 0;have d0:=(Q1.out.below hJ.1 (by omega)).cell 0;refine Fk rfl λK hK=>?_;go_simp;exact hK _ _ ⟨some (.slice (some ⟨b,off,none⟩) n c1),by simp only[bN,h0];rfl,HJ.out.same (by decide) (Fb _ _),rfl,λk' h1 h2 h=>HST.out _ k' h1 h2 (by decide) (by decide) h⟩
    ·refine Fk rfl λK hK=>?_;go_simp;exact hK _ _ ⟨some (.int .i64 (k:Int)),rfl,HJ.out.same (by decide) (Fb _ _),rfl,λk' h1 h2 h=>HST.out _ k' h1 h2 (by decide) (by decide) h⟩
    ·have h0:xs 1=some (.slice (some ⟨b,off,none⟩) n c1):=hd 1;have h1:xs 2=some (.int .i64 (k:Int)):=hd 2;refine Fk rfl λK hK=>?_;go_simp;exact hK _ _ ⟨some (.pointer (some ⟨b,off+k*4,none⟩)),by simp only[bN,h0,h1];rfl,HJ.out.same (by decide) (Fb _ _),rfl,λk' h1 h2 h=>HST.out _ k' h1 h2 (by decide) (by decide) h⟩
    ·have h0:xs 3=some (.pointer (some ⟨b,off+k*4,none⟩)):=hd 3;have ld0:W.cell? ⟨b,off+k*4,none⟩=_:=(aa hJ.1 HGB.out.1 _).trans (R1.out 0 _ rfl);have ld1:W.cell? ⟨b,off+k*4+1,none⟩=_:=(aa hJ.1 HGB.out.1 _).trans (R1.out 1 _ rfl);have ld2:W.cell? ⟨b,off+k*4+2,none⟩=_:=(aa hJ.1 HGB.out.1 _).trans (R1.out 2 _ rfl);have ld3:W.cell? ⟨b,off+k*4+3,none⟩=_:=(aa hJ.1 HGB.out.1 _).trans (R1.out 3 _ rfl);refine Fk rfl λK hK=>?_;go_simp;exact hK _ _ ⟨some (.agg #[.string x'.nm,.bool x'.actor,.slice A2 n2' c3,.slice A3 n3' c4]),by simp only[bN,h0];rfl,HJ.out.same (by decide) (Fb _ _),rfl,λk' h1 h2 h=>HST.out _ k' h1 h2 (by decide) (by decide) h⟩
    ·refine Fk rfl λK hK=>?_;go_simp;exact hK _ _ ⟨some (pt (p+1)),rfl,HJ.out.same (by decide) (Fb _ _),rfl,λk' h1 h2 h=>HST.out _ k' h1 h2 (by decide) (by decide) h⟩
    ·have h0:xs 5=some (pt (p+1)):=hd 5;have d0:=(Q2.out.below hJ.1 (by omega)).cell 0;refine Fk rfl λK hK=>?_;go_simp;exact hK _ _ ⟨some (.slice (some ⟨b',off',none⟩) n c2),by simp only[bN,h0];rfl,HJ.out.same (by decide) (Fb _ _),rfl,λk' h1 h2 h=>HST.out _ k' h1 h2 (by decide) (by decide) h⟩
    ·refine Fk rfl λK hK=>?_;go_simp;exact hK _ _ ⟨some (.int .i64 (k:Int)),rfl,HJ.out.same (by decide) (Fb _ _),rfl,λk' h1 h2 h=>HST.out _ k' h1 h2 (by decide) (by decide) h⟩
    ·have h0:xs 6=some (.slice (some ⟨b',off',none⟩) n c2):=hd 6;have h1:xs 7=some (.int .i64 (k:Int)):=hd 7;refine Fk rfl λK hK=>?_;go_simp;exact hK _ _ ⟨some (.pointer (some ⟨b',off'+k*4,none⟩)),by simp only[bN,h0,h1];rfl,HJ.out.same (by decide) (Fb _ _),rfl,λk' h1 h2 h=>HST.out _ k' h1 h2 (by decide) (by decide) h⟩
    ·have h0:xs 8=some ((.pointer (some ⟨b',off'+k*4,none⟩))):=hd 8;have ld0:W.cell? ⟨b',off'+k*4,none⟩=_:=(aa hJ.1 HGB.out.2 _).trans (R2.out 0 _ rfl);have ld1:W.cell? ⟨b',off'+k*4+1,none⟩=_:=(aa hJ.1 HGB.out.2 _).trans (R2.out 1 _ rfl);have ld2:W.cell? ⟨b',off'+k*4+2,none⟩=_:=(aa hJ.1 HGB.out.2 _).trans (R2.out 2 _ rfl);have ld3:W.cell? ⟨b',off'+k*4+3,none⟩=_:=(aa hJ.1 HGB.out.2 _).trans (R2.out 3 _ rfl);refine Fk rfl λK hK=>?_;go_simp;exact hK _ _ ⟨some (.agg #[.string x'.nm,.bool x'.actor,.slice B2 n2' d3,.slice B3 n3' d4]),by simp only[bN,h0];rfl,HJ.out.same (by decide) (Fb _ _),rfl,λk' h1 h2 h=>HST.out _ k' h1 h2 (by decide) (by decide) h⟩
    ·have hq:=H_ (Blk.new W 117 #[.string ⟨#[]⟩,.bool false,.slice none 0 0,.slice none 0 0]);have hj:=H_ (hJ.new10 (.cells #[.string ⟨#[]⟩,.bool false,.slice none 0 0,.slice none 0 0] 117));refine Fk rfl λK hK=>?_;go_simp;exact hK _ _ ⟨some (pt W.heap.size),rfl,hj.out,⟨W.heap.size,_,_,_,_,dL _ _ _,HJ.out.1.size,hq.out⟩,λk' h1 h2 h=>h.aA h1 h2 (λN u0 u1 u2 u3 _ _ hq'=>⟨⟨_,_,_,_,hq'.alloc _⟩,λ_=>hq'.alloc _⟩) (λN u0 u1 u2 u3 _ _ hq'=>⟨⟨_,_,_,_,hq'.alloc _⟩,λ_=>hq'.alloc _⟩)⟩
    ·have hq:=H_ (Blk.new W 117 #[.string ⟨#[]⟩,.bool false,.slice none 0 0,.slice none 0 0]);have hj:=H_ (hJ.new11 (.cells #[.string ⟨#[]⟩,.bool false,.slice none 0 0,.slice none 0 0] 117));refine Fk rfl λK hK=>?_;go_simp;exact hK _ _ ⟨some (pt W.heap.size),rfl,hj.out,⟨W.heap.size,_,_,_,_,dL _ _ _,HJ.out.1.size,hq.out⟩,λk' h1 h2 h=>h.aA h1 h2 (λN u0 u1 u2 u3 _ _ hq'=>⟨⟨_,_,_,_,hq'.alloc _⟩,λ_=>hq'.alloc _⟩) (λN u0 u1 u2 u3 _ _ hq'=>⟨⟨_,_,_,_,hq'.alloc _⟩,λ_=>hq'.alloc _⟩)⟩
    ·obtain⟨N,u0,u1,u2,u3,h0,hN,hq⟩:=hd 10;have h1:xs 4=some (.agg #[.string x'.nm,.bool x'.actor,.slice A2 n2' c3,.slice A3 n3' c4]):=hd 4;have ld0:=hq.cell 0;have ld1:=hq.cell 1;have ld2:=hq.cell 2;have ld3:=hq.cell 3;obtain⟨fz0,fz1,fz2,fz3⟩:=hq.f4;have HQ:=H_ hq;clear hq;refine Fk rfl λK hK=>?_;go_simp;exact hK _ _ ⟨none,by simp only[bN,h0,h1];rfl,HJ.out.same (by decide) (zF hN (.string x'.nm) (.bool x'.actor) (.slice A2 n2' c3) (.slice A3 n3' c4)),⟨N,(cB xs _ (by decide)).trans h0,hN,HQ.out.aH⟩,λk' g1 g2 h=>h.aA g1 g2 (λN' w0 w1 w2 w3 e1 _ hq'=>by obtain rfl:=kZ (h0.symm.trans e1);exact⟨⟨_,_,_,_,hq'.aH⟩,λe=>absurd rfl e⟩) (λN' w0 w1 w2 w3 e1 _ hq'=>have hne:=HJ.out.2.1 N N' h0 e1;⟨⟨_,_,_,_,hq'.oth4 hne.symm _ _ _ _⟩,λ_=>hq'.oth4 hne.symm _ _ _ _⟩)⟩
    ·obtain⟨N,u0,u1,u2,u3,h0,hN,hq⟩:=hd 11;have h1:xs 9=some (.agg #[.string x'.nm,.bool x'.actor,.slice B2 n2' d3,.slice B3 n3' d4]):=hd 9;have ld0:=hq.cell 0;have ld1:=hq.cell 1;have ld2:=hq.cell 2;have ld3:=hq.cell 3;obtain⟨fz0,fz1,fz2,fz3⟩:=hq.f4;have HQ:=H_ hq;clear hq;refine Fk rfl λK hK=>?_;go_simp;exact hK _ _ ⟨none,by simp only[bN,h0,h1];rfl,HJ.out.same (by decide) (zF hN (.string x'.nm) (.bool x'.actor) (.slice B2 n2' d3) (.slice B3 n3' d4)),⟨N,(cB xs _ (by decide)).trans h0,hN,HQ.out.aH⟩,λk' g1 g2 h=>h.aA g1 g2 (λN' w0 w1 w2 w3 e1 _ hq'=>have hne:=HJ.out.2.1 N' N e1 h0;⟨⟨_,_,_,_,hq'.oth4 hne _ _ _ _⟩,λ_=>hq'.oth4 hne _ _ _ _⟩) (λN' w0 w1 w2 w3 e1 _ hq'=>by obtain rfl:=kZ (h0.symm.trans e1);exact⟨⟨_,_,_,_,hq'.aH⟩,λe=>absurd rfl e⟩)⟩
   ·intro xs W hJ hF;have g0:xs 0=some (pt p):=hF 0 (show 0<14 by decide);have g1:xs 1=some (.slice (some ⟨b,off,none⟩) n c1):=hF 1 (show 1<14 by decide);have g2:xs 2=some (.int .i64 (k:Int)):=hF 2 (show 2<14 by decide);have g3:xs 3=some (.pointer (some ⟨b,off+k*4,none⟩)):=hF 3 (show 3<14 by decide);have g4:xs 4=some (.agg #[.string x'.nm,.bool x'.actor,.slice A2 n2' c3,.slice A3 n3' c4]):=hF 4 (show 4<14 by decide);have g5:xs 5=some (pt (p+1)):=hF 5 (show 5<14 by decide);have g6:xs 6=some (.slice (some ⟨b',off',none⟩) n c2):=hF 6 (show 6<14 by decide);have g7:xs 7=some (.int .i64 (k:Int)):=hF 7 (show 7<14 by decide);have g8:xs 8=some (.pointer (some ⟨b',off'+k*4,none⟩)):=hF 8 (show 8<14 by decide);have g9:xs 9=some (.agg #[.string x'.nm,.bool x'.actor,.slice B2 n2' d3,.slice B3 n3' d4]):=hF 9 (show 9<14 by decide);obtain⟨N,g10,hN,hq1⟩:=hF 12 (show 12<14 by decide);obtain⟨M,g11,hM,hq2⟩:=hF 13 (show 13<14 by decide);simp only[g0,g1,g2,g3,g4,g5,g6,g7,g8,g9,g10,g11,GX];have HBW:=H_ (HB.out.trans (hJ.1.mono HB.out.size));have hbW:=hJ.1;have hcz:csz x'=1+x'.fields.length+lsz msz x'.methods:=rfl;have hN6:n2'<=1000000:=by have h:=HF.out.1.1.1;omega
    have hM6:n3'<=1000000:=by
     have h:=eX msz (λx=>by unfold msz;omega) x'.methods;rw[HF.out.2.1.1]at h;omega
    have hms:lsz msz x'.methods<=1000000:=by omega
    have C56:=H_ (xy x'.fields A2 B2 n2' c3 d3 W (HF.out.1.1.aA (AllB.aA hbW)) (HF.out.1.2.aA (AllB.aA hbW)) hN6);have HM:=H_ (And.intro (HF.out.2.1.aA (AllB.aA hbW)) (HF.out.2.2.aA (AllB.aA hbW)));have HQ1:=H_ hq1;have HQ2:=H_ hq2;have n0:=hq1.cell 0;have n1:=hq1.cell 1;have n2:=hq1.cell 2;have m0:=hq2.cell 0;have m1:=hq2.cell 1;have m2:=hq2.cell 2;clear g0 g1 g2 g3 g4 g5 g6 g7 g8 g9 g10 g11 hF hJ hq1 hq2 R1 R2 HF HGB hbW x1 x2;go_wp2_with fail;refine C56.out.mono ?_;rintro _ W2 ⟨rfl,b2⟩;have hs2:=b2.size;have QN:=hbl HQ1 b2;have QM:=hbl HQ2 b2;have HBW2:=htr HBW b2;have HM2:=H_ (And.intro (HM.out.1.aA (AllB.aA b2)) (HM.out.2.aA (AllB.aA b2)));clear b2 n0 n1 n2 m0 m1 m2 HQ1 HQ2 HM HBW C56;have n3:=QN.out.cell 3;have m3:=QM.out.cell 3;go_wp2_with fail;clear n3 m3;go_loopw [8] (λi wr=>∃q:Nat,q<=n3'/\i= .int .i64 q/\Hid (Below W2.heap.size W2 wr)) (λi _=>n3'-(intOf i).toNat)
    case atStart=>exact⟨0,Fl _,rfl,H_ (Fb _ _)⟩
    case round=>
     obtain⟨q,hq,rfl,HBq⟩:=hrel;have n3:=(QN.out.below HBq.out QN.out.lt).cell 3;have m3:=(QM.out.below HBq.out QM.out.lt).cell 3;by_cases hqm:q<n3'
     ·have hqz:(q:Int)<(n3':Int):=by omega
      have HMq:=And.intro (HM2.out.1.aA (AllB.aA HBq.out)) (HM2.out.2.aA (AllB.aA HBq.out));obtain⟨g,og,y,cs3,rfl,hgg,hy,hry,hay⟩:=HMq.1.at_ hqm;obtain⟨g',og',y',cs4,rfl,hgg',hy',hry',hay'⟩:=HMq.2.at_ hqm;obtain rfl:y'=y:=Option.some.inj (hy'.symm.trans hy);have hsy:=bq msz hy;have hcy:msz y'=1+y'.params.length+lsz ssz y'.body:=rfl;obtain⟨A4,n4,c5,A5,n5,c6,rfl,hp1,hs1⟩:=hry;obtain⟨B4,n4',d5,B5,n5',d6,rfl,hp2,hs2⟩:=hry';obtain rfl:n4'=n4:=hp2.1.symm.trans hp1.1;obtain rfl:n5'=n5:=hs2.1.symm.trans hs1.1;have hp6:n4'<=1000000:=by have h:=hp1.1;omega
      obtain⟨TT,f,hne,hf,hcov⟩:=cg wr.heap.size wr;have R1:=λ(z:TT) (j:Nat) (u:Value) (hj:[Value.string y'.nm,.slice A4 n4' c5,.slice A5 n5' c6][j]?=some u)=>(aa (hf z) hgg _).trans (show wr.cell? ⟨g,og+q*3+j,none⟩=some u by have:=hay j u hj;rwa[show kMe.sz=3 from rfl,FG]at this);have R2:=λ(z:TT) (j:Nat) (u:Value) (hj:[Value.string y'.nm,.slice B4 n4' d5,.slice B5 n5' d6][j]?=some u)=>(aa (hf z) hgg' _).trans (show wr.cell? ⟨g',og'+q*3+j,none⟩=some u by have:=hay' j u hj;rwa[show kMe.sz=3 from rfl,FG]at this);have a0:∀z,(f z).cell? ⟨g,og+q*3,none⟩=some (.string y'.nm):=λz=>R1 z 0 _ rfl;have a1:∀z,(f z).cell? ⟨g,og+q*3+1,none⟩=some (.slice A4 n4' c5):=λz=>R1 z 1 _ rfl;have a2:∀z,(f z).cell? ⟨g,og+q*3+2,none⟩=some (.slice A5 n5' c6):=λz=>R1 z 2 _ rfl;have e0:∀z,(f z).cell? ⟨g',og'+q*3,none⟩=some (.string y'.nm):=λz=>R2 z 0 _ rfl;have e1:∀z,(f z).cell? ⟨g',og'+q*3+1,none⟩=some (.slice B4 n4' d5):=λz=>R2 z 1 _ rfl;have e2:∀z,(f z).cell? ⟨g',og'+q*3+2,none⟩=some (.slice B5 n5' d6):=λz=>R2 z 2 _ rfl;have QNq:=QN.out.below HBq.out QN.out.lt;have QMq:=QM.out.below HBq.out QM.out.lt;have nz3:∀z,(f z).cell? ⟨N,3,none⟩=some (.slice (some ⟨g,og,none⟩) n3' c4):=λz=>(QNq.below (hf z) QNq.lt).cell 3;have mz3:∀z,(f z).cell? ⟨M,3,none⟩=some (.slice (some ⟨g',og',none⟩) n3' d4):=λz=>(QMq.below (hf z) QMq.lt).cell 3
      have C1:=H_ (show∀z,Calls Tryz.prog 56 #[.slice A4 n4' c5,.slice B4 n4' d5] (f z) (λe w''=>e= .returned (.bool true)/\∃z',w''=f z')from λz=>
       (xy y'.params A4 B4 _ _ _ (f z) (hp1.aA (AllB.aA (hf z))) (hp2.aA (AllB.aA (hf z))) hp6).mono λe w'' ⟨h1,h2⟩=>⟨h1,hcov _ ((hf z).trans (h2.mono (hf z).size))⟩)
      have C2:=H_ (show∀z,Calls Tryz.prog 57 #[.slice A5 n5' c6,.slice B5 n5' d6] (f z) (λe w''=>e= .returned (.bool true)/\∃z',w''=f z')from λz=>
       (Ch y'.body A5 B5 _ _ _ (f z) (hs1.aA (AllB.aA (hf z))) (hs2.aA (AllB.aA (hf z))) (by omega)).mono λe w'' ⟨h1,h2⟩=>⟨h1,hcov _ ((hf z).trans (h2.mono (hf z).size))⟩)
      have HFF:=H_ (λz=>HBq.out.trans ((hf z).mono HBq.out.size));have HCOV:=H_ hcov;clear hay hay' hf hcov hy hy' hgg hgg' R1 R2 hp1 hp2 hs1 hs2 hsy hcy QNq QMq HMq;go_upto_region 12 with fail;refine ai f (by kernel_rfl) (by kernel_rfl) (HCOV.out _ (Fb _ _).drew) ?_;try simp only[List.append_eq,Fq,Fs]
      repeat (go_big_quiet_step (fail))
      go_big_quiet_step ((go_at_call 56;exact C1.out _));repeat (go_big_quiet_step (fail))
      go_big_quiet_step ((go_at_call 57;exact C2.out _));repeat (go_big_quiet_step (fail))
      refine FO ?_;rintro _ ⟨z,rfl⟩;go_wp2_with fail;go_roundw
      case rel=>exact⟨q+1,by omega,by go_num,H_ (HFF.out z)⟩
      case measure=>simp[intOf];omega
     ·obtain rfl:q=n3':=by omega
      go_wp2_with fail;go_roundw
      case rel=>exact⟨k+1,by omega,by go_num,H_ (HBW2.out.trans (HBq.out.mono HBW2.out.size))⟩
      case measure=>simp[intOf];omega
  ·obtain rfl:k=n:=by omega
   go_wp2_with fail;go_ret;exact⟨rfl,hpz▸HB1.out.trans (HB.out.mono (by omega))⟩
end
section
open Go.RowKit Go.Shelf
theorem yM:(Tryz.prog.info? 58).map (·.size)=some 2:=by kernel_rfl
theorem CM:liesAt Tryz.prog Tryz.prog.depth 60 (9/Tryz.prog.cellsOf 60) 6 58 1=true:=by kernel_rfl
theorem CY:(Tryz.prog.info? 5).map (λi=>(i.zero,i.size,i.bytes))=some (some (.int .u8 0),1,1):=by kernel_rfl
theorem pX(b:Nat)(w:World)(h0:w.cell? ⟨b,6,none⟩=some (.pointer (some ⟨b,6,none⟩))):
 Calls Tryz.prog 63 #[.pointer (some ⟨b,6,none⟩)] w λe w'=>e= .returned (.tuple #[])/\w'=w:=by
 obtain⟨j,hj,_⟩:=FQ.1 yM;go_enter Tryz.func63,Tryz.ntmps63;go_wp2;rw[Lib.run_neq_ptr_same w _ Tryz.underlying56 hj];go_wp2;go_end0;exact⟨rfl,rfl⟩
theorem oe(b:Nat)(w:World)(h0:w.cell? ⟨b,6,none⟩=some (.pointer none))(hsh:w.shape? b=some (60,9))(hfz:w.frozen? ⟨b,6,none⟩=false):
 Calls Tryz.prog 63 #[.pointer (some ⟨b,6,none⟩)] w λe w'=>e= .returned (.tuple #[])/\w'=w.setCell ⟨b,6,none⟩ (.pointer (some ⟨b,6,none⟩)):=by
 obtain⟨j,hj,hjs⟩:=FQ.1 yM;go_enter Tryz.func63,Tryz.ntmps63;go_wp2;rw[Lib.run_to_unsafe w ⟨b,6,none⟩ Tryz.underlying56 Tryz.underlying180 hj (by rw[hjs];decide) hsh (by show 6<9;decide)];simp only[Result.andThen];rw[Oper.upon_value];go_wp2;rw[run_callFunc_extern Tryz.func106 (by kernel_rfl) (by kernel_rfl) (by kernel_rfl) (e:=Extern.AbiNoEscape.same) (by kernel_rfl)];rw[Lib.run_noEscape];simp only[Result.andThen];rw[Oper.upon_value];go_wp2;rw[Lib.run_from_unsafe w ⟨b,6,none⟩ Tryz.underlying180 Tryz.underlying56 hj hsh CM];simp only[Result.andThen];rw[Oper.upon_value];go_wp2;go_end0;exact⟨rfl,rfl⟩
section
variable{b B n:Nat}{sa sv c0 c1 c2 c3 c4 c5 c8:Value}
theorem Bp(w:World)(hb:Blk w b 60 #[c0,c1,c2,c3,c4,c5,sa,sv,c8])(hsa:sa= .pointer none\/sa= .pointer (some ⟨b,6,none⟩)):
 Calls Tryz.prog 63 #[.pointer (some ⟨b,6,none⟩)] w λe w'=>e= .returned (.tuple #[])/\Blk w' b 60 #[c0,c1,c2,c3,c4,c5,.pointer (some ⟨b,6,none⟩),sv,c8]/\(∀k,k≠b->w'.heap[k]?=w.heap[k]?)/\Lk B b w w'/\w'.heap.size=w.heap.size:=by
 rcases hsa with rfl|rfl
 ·refine(oe b w (hb.cell 6) (by unfold Blk at hb;simp[World.shape?,hb]) (hb.frozen 6)).mono ?_;rintro e w' ⟨rfl,rfl⟩;exact⟨rfl,hb.set 6 _,λk hk=>Fo _ _ _ _ hk,(Lk.refl _ _ _).set 6 _,by simp[World.setCell]⟩
 ·refine(pX b w (hb.cell 6)).mono ?_;rintro e w' ⟨rfl,rfl⟩;exact⟨rfl,hb,λ_ _=>rfl,Lk.refl _ _ _,rfl⟩
theorem zS(bs:List Value)(s:ByteArray)(w:World)(hb:Blk w b 60 #[c0,c1,c2,c3,c4,c5,sa,sv,c8])(hsa:sa= .pointer none\/sa= .pointer (some ⟨b,6,none⟩))(hown:w.ownsRow B 5 1 sv n bs)(hbB:b<B)(hBw:B<=w.heap.size)(hlen:n+s.size<=4000000000):
 Calls Tryz.prog 31 #[.pointer (some ⟨b,6,none⟩),.string s] w λe w'=>e= .returned (.tuple #[.int .i64 s.size,.nilIface])/\Lk B b w w'/\
  ∃sv',Blk w' b 60 #[c0,c1,c2,c3,c4,c5,.pointer (some ⟨b,6,none⟩),sv',c8]/\w'.ownsRow B 5 1 sv' (n+s.size) (bs++Lib.strCells s):=by
 obtain⟨i0,hi,hz0,hz1,hz2⟩:=Ho CY;have HC:=H_ (Bp (B:=B) w hb hsa);have HO:=H_ hown;clear hb hsa hown;go_enter Tryz.func31,Tryz.ntmps31;go_wp2_with fail;refine HC.out.mono ?_;rintro e w1 ⟨rfl,q1,hk1,l1,hs1⟩;have hown1:=eG HO.out (w':=w1) (λk hk _ _=>hk1 k (by omega));have d1:=q1.k7;have HQ:=H_ q1;have HL:=H_ l1;have HO1:=H_ hown1;clear q1 hk1 l1 hown1 HC HO;go_wp2_with (at_builtin;refine Lib.wpList_append_own_string _ rfl _ _ 51 9 rfl B 5 i0 Tryz.underlying51 Tryz.underlying9 hi hz0 hz1 hz2 _ _ _ rfl HO1.out s rfl (by unfold maxLen;omega) (by omega) (by omega) ?_);intro v' w2 hown' hgrow _;have hlt:=HQ.out.lt;have hnb:some b≠sv.ownBlock:=λe=>by have:=(HO1.out.lt b e.symm).1;omega
 have q2:Blk w2 b 60 #[c0,c1,c2,c3,c4,c5,.pointer (some ⟨b,6,none⟩),sv,c8]:=(hgrow.block b hlt hnb).trans HQ.out;have d2:=q2.k7;have f2:=q2.frozen 7
 have HL2:=H_ (show Lk B b w w2 from HL.out.grown hgrow λk hk=>⟨(HO1.out.lt k hk).1,by
  rcases HO1.out.2 with⟨hv,_⟩|⟨g,cap,cur,hv,_,hg,_⟩
  ·rw[hv]at hk;cases hk
  ·rw[hv]at hk;cases hk;exact⟨cur,(0,0),.inr hg⟩⟩)
 have HQ2:=H_ q2;have HO2:=H_ hown'
 obtain⟨ao,n',cap,rfl⟩:∃ao n' cap,v'= .slice ao n' cap:=by
  rcases hown'.2 with⟨hv,_⟩|⟨g,cap,cur,hv,_⟩
  ·exact⟨_,_,_,hv⟩
  ·exact⟨_,_,_,hv⟩
 clear q2 hgrow hown' HQ HL HO1 d1;go_wp2_with fail;go_ret2;exact⟨rfl,HL2.out.set 7 _,_,HQ2.out.set 7 _,eG HO2.out λk hk _ _=>Fo _ _ _ _ (show k≠b by omega)⟩
theorem xg(l:List UInt8)(w:World)(hb:Blk w b 60 #[c0,c1,c2,c3,c4,c5,sa,sv,c8])(hown:w.ownsRow B 5 1 sv l.length (Lib.byteCells l))(h0:l=[]->sv= .slice none 0 0)(hbB:b<B)(hl:l.length<=4000000000):
 Calls Tryz.prog 35 #[.pointer (some ⟨b,6,none⟩)] w λe w'=>e= .returned (.string ⟨l.toArray⟩)/\Lk B b w w'/\Blk w' b 60 #[c0,c1,c2,c3,c4,c5,sa,sv,c8]:=by
 have mixed:Tryz.prog.follows .mixedOrders=true:=by kernel_rfl
 by_cases hl0:l=[]
 ·subst hl0;obtain rfl:=h0 rfl;have hUS:∀W,(Builtin.unsafeString_ #[130,3] 9 #[.pointer none,.int .i64 0]).run Tryz.prog W= .ok (.string .empty) W:=λW=>Lib.run_unsafeString_none W _ _ _ none;have d1:=hb.drew.k7;have hSD:(Builtin.unsafeSliceData_ #[51] 130 #[.slice none 0 0]).run Tryz.prog w.drew= .ok (.pointer none) w.drew:=rfl;have HB:=H_ hb;clear hb hown h0;go_enter Tryz.func35,Tryz.ntmps35;go_wp2;go_region_o;all_goals(go_wp2;go_ret;exact⟨rfl,Lk.of (Below.drew (Fb w.heap.size w)) (F0 _),HB.out.drew⟩)
 ·obtain⟨g,cap,cur,rfl,hbg,hg,hnc,hcm,hcs,htake⟩:∃g cap cur,sv= .slice (some ⟨g,0,none⟩) l.length cap/\B<=g/\w.heap[g]?=some (.cells cur 5 (0,0))/\l.length<=cap/\cap<=maxLen/\cur.size=cap*1/\cur.toList.take (l.length*1)=Lib.byteCells l:=by
   rcases hown.2 with⟨_,hz⟩|⟨g,cap,cur,hv,r⟩
   ·exact absurd (FE hz) hl0
   ·exact⟨g,cap,cur,hv,r⟩
  have hlz:l.length≠0:=λe=>hl0 (FE e);have d1:=hb.drew.k7
  have hSD:(Builtin.unsafeSliceData_ #[51] 130 #[.slice (some ⟨g,0,none⟩) l.length cap]).run Tryz.prog w.drew= .ok (.pointer (some ⟨g,0,none⟩)) w.drew:=
   Lib.run_unsafeSliceData_row _ _ _ _ _ _ (by omega)
  have hUS:(Builtin.unsafeString_ #[130,3] 9 #[.pointer (some ⟨g,0,none⟩),.int .i64 l.length]).run Tryz.prog w.drew= .ok (.string ⟨l.toArray⟩) (w.drew.freeze ⟨g,0,none⟩ l.length):=by
   refine Lib.run_unsafeString_row w.drew 130 3 9 5 Tryz.underlying130 (by kernel_rfl) g cur.size (by have hg':w.drew.heap[g]?=some (.cells cur 5 (0,0)):=hg;simp[World.shape?,hg']) l hl0 (by omega) (by omega) ?_;intro j x hx;have:=hown.cells (g:=g) rfl j (.int .u8 x.toNat) (by simp[Lib.byteCells,hx]);exact this
  have hfr:∀k,k≠g->(w.drew.freeze ⟨g,0,none⟩ l.length).heap[k]?=w.heap[k]?:=λk hk=>by
   unfold World.freeze;split
   ·rfl
   ·simp only[Array.getElem?_modify];rw[Fg (Ne.symm hk)];rfl
  have hfin:Lk B b w (w.drew.freeze ⟨g,0,none⟩ l.length)/\Blk (w.drew.freeze ⟨g,0,none⟩ l.length) b 60 #[c0,c1,c2,c3,c4,c5,sa,.slice (some ⟨g,0,none⟩) l.length cap,c8]:=by
   have hq:=Lib.below_freeze (Below.drew (Fb B w)) (p:=⟨g,0,none⟩) hbg l.length;refine⟨⟨hq.os,hq.tape,hq.output,hq.size,λk hk hkb ht=>hfr k λe=>?_⟩,(hfr b (by omega)).trans hb⟩;subst e;exact(ht hbg cur (0,0)).2 hg
  have HF:=H_ hfin
  clear hfin hfr hb hown h0 hg htake;go_enter Tryz.func35,Tryz.ntmps35;go_wp2;go_region_o;all_goals(go_wp2;go_ret;exact⟨rfl,HF.out.1,HF.out.2⟩)
end
end
section
open Go.RowKit
theorem Bi(s:ByteArray)(w:World):Calls Tryz.prog 50 #[.string s,.string ⟨#[10]⟩] w λe w'=>e= .returned (.int .i64 (s.data.toList.count 10:Nat))/\w'=w:=Any.strings_Count_one Tryz.lays138 s 10 w
def EU(B b f:Nat)(sa sv:Value)(m sd y pt:Int)(a:List UInt8)(w:World)(e:Ending)(w':World):Prop:=Lk B b w w'/\match eH a with
 | .err q er=>e= .returned (.tuple #[.int .i64 ((f+(a.take q.toNat).count 10:Nat):Int),.int .i64 er])/\er≠0
 | .ok cs=>e= .returned (.tuple #[.int .i64 0,.int .i64 0])/\∃A n c,Blk w' b 60 #[.int .i64 m,.int .u64 sd,.int .i64 y,.slice A n c,.slice none 0 0,.int .i64 pt,sa,sv,.int .i64 (f:Int)]/\Sl kCl w' (λg=>B<=g/\g<w'.heap.size) cs A n
theorem oD{b B f:Nat}{sa sv:Value}{m sd y pt:Int}(a:List UInt8)(w:World)(hb:Blk w b 60 #[.int .i64 m,.int .u64 sd,.int .i64 y,.slice none 0 0,.slice none 0 0,.int .i64 pt,sa,sv,.int .i64 (f:Int)])
 (hown:w.ownsRow B 5 1 sv a.length (Lib.byteCells a)) (h0:a=[]->sv= .slice none 0 0) (hgB:GlB w b) (hbB:b<B) (hBw:B<=w.heap.size) (hl:a.length<=3000000000) (hf:f<=1000000):
 Calls Tryz.prog 21 #[.pointer (some ⟨b,0,none⟩)] w (EU B b f sa sv m sd y pt a w):=by
 have HS:=H_ (xg a w hb hown h0 hbB (by omega));have HG:=H_ hgB;have hlt:=hb.lt;clear hb hown h0 hgB;go_enter Tryz.func21,Tryz.ntmps21;go_wp2_with fail;refine HS.out.mono ?_;rintro e w1 ⟨rfl,l1,q1⟩;have HL1:=H_ l1;have HQ1:=H_ q1;have hs1:=l1.size;have hg1:=(GlB.below HG.out (l1.below (by omega) (F0 _) (by omega))).gl;have HP:=H_ (vC ⟨a.toArray⟩ w1 hg1);clear l1 q1 hg1 HS;go_wp2_with fail;refine HP.out.mono ?_;rintro e w2 ⟨b2,v,p,er,rfl,hcase⟩;have hs2:=b2.size;have HL2:=H_ (HL1.out.trans (Lk.of b2 (F0 _)));have HQ2:=H_ (HQ1.out.below b2 (by omega));have HB2:=H_ b2;have HC:=H_ (show(match eH a with| .err q e=>p=q/\er=e/\v= .agg #[.slice none 0 0]/\er≠0| .ok cs=>p=0/\er=0/\rvP w2 (Fr w1 w2) cs v)from hcase);clear hcase b2 HL1 HQ1 HP;cases hp:eH a with
 |err q e'=>
  have hc:=HC.out;rw[hp]at hc;obtain⟨rfl,rfl,rfl,hne⟩:=hc;obtain⟨hq0,hq1⟩:=sQ hp;obtain⟨j,rfl⟩:=Fz hq0;have hjl:j<=a.length:=by omega
  clear hq0 hq1 HC;have hne2:(er==0)=false:=by simpa using hne
  obtain⟨w3,hw3⟩:=nm_ (w2.alloc (.cells #[.slice none 0 0] 28));have b3:=bal hw3;have HL3:=H_ (HL2.out.trans (Lk.of b3 (F0 _)));have Q3:=HQ2.out.below b3 HQ2.out.lt;have hs3:=b3.size;obtain⟨TT,F,_,hF,hcov⟩:=cg w3.heap.size w3;have d8:=λz=>(Q3.below (hF z) Q3.lt).k8;have hsz:(⟨a.toArray⟩:ByteArray).size=a.length:=by simp[ByteArray.size]
  have hcnt:((⟨a.toArray⟩:ByteArray).extract 0 j).data.toList.count 10=(a.take j).count 10:=by rw[pR];rfl
  have hcl:(a.take j).count 10<=3000000000:=FA List.count_le_length (by rw[GV];omega)
  have C50:=H_ (show∀z,Calls Tryz.prog 50 #[.string ((⟨a.toArray⟩:ByteArray).extract 0 j),.string ⟨#[10]⟩] (F z) (λe w''=>e= .returned (.int .i64 ((a.take j).count 10:Nat))/\∃z',w''=F z')from λz=>
   (Bi _ (F z)).mono λe w'' ⟨h1,h2⟩=>⟨by rw[h1,hcnt],z,h2⟩)
  have hj0:(0:Int)<=(j:Int):=by omega
  have hj1:(j:Int)<=((⟨a.toArray⟩:ByteArray).size:Int):=by rw[hsz];omega
  have hwr:IntKind.i64.wrap ((f:Int)+((a.take j).count 10:Nat))=(((f+(a.take j).count 10:Nat)):Int):=by rw[IntWalk.i64_in _ (by omega)];omega
  have HCOV:=H_ hcov;have HFB:=H_ hF;obtain⟨N,hN⟩:=nm_ ((a.take j).count 10);rw[hN]at C50 hwr hcl;have HNN:=H_ hN;have HW3:=H_ hw3;clear hcov hF b3 Q3 hcnt hN hs3 hw3;go_upto_region 4 with fail;rw[HW3.out];refine ai F (by kernel_rfl) (by kernel_rfl) (HCOV.out _ (Fb _ _).drew) ?_;repeat (go_big_quiet_step (fail))
  go_big_quiet_step ((go_at_call 50;exact C50.out _));repeat (go_big_quiet_step (fail))
  refine FO ?_;rintro _ ⟨z,rfl⟩;go_wp2_with fail;go_ret2;refine⟨HL3.out.trans (Lk.of (HFB.out z) (F0 _)),?_⟩;rw[hp];exact⟨by rw[Gu,HNN.out,Int.natCast_add];rfl,hne⟩
 |ok cs=>
  have hc:=HC.out;rw[hp]at hc;obtain⟨rfl,rfl,A,n,c,rfl,hsl⟩:=hc;clear HC;obtain⟨w3,hw3⟩:=nm_ (w2.alloc (.cells #[.slice A n c] 28));obtain⟨g,hgz⟩:=nm_ (w2.heap.size);have b3:=bal hw3;have HL3:=H_ (HL2.out.trans (Lk.of b3 (F0 _)));have HQ3:=hbl HQ2 b3;have hg3:=Blk.ng hw3 hgz;have d0:=hg3.cell 0;have d3:=HQ3.out.cell 3;have f3:=HQ3.out.frozen 3;have hs3:=b3.size;have hlt3:=HQ3.out.lt;have HSL:=H_ (hsl.aA (G':=λg=>B<=g/\g<w3.heap.size/\g≠b) (w':=w3) (λk hk=>⟨⟨by have:=hk.1;omega,by have:=hk.2;omega,by have:=hk.1;omega⟩,b3.block k hk.2⟩));have HW3:=H_ hw3;clear b3 hsl hg3 hw3;go_upto_region 5 with fail;rw[HW3.out];go_wp2_with fail;go_ret2;refine⟨HL3.out.set 3 _,?_⟩;rw[hp];refine⟨rfl,A,n,c,HQ3.out.set 3 _,HSL.out.aA (λk hk=>⟨⟨hk.1,by simp[World.setCell];exact hk.2.1⟩,Fo _ _ _ _ hk.2.2⟩)⟩
end
end Go.Proofs.YtjpbckbpeblibaaGreatDoor
