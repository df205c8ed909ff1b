/- part of a proof -/
import Derived.Test.YtjpbckbpeblibaaGreatDoorCC03
import Derived.Deep.CutBlock
import Derived.Lib.ParseIntBTie
import Derived.Lib.SplitLaws
import Derived.Lib.Join
import Derived.Deep.Quiet
namespace Go.Proofs.YtjpbckbpeblibaaGreatDoor
set_option linter.unusedVariables false
set_option linter.unusedSimpArgs false
set_option maxRecDepth 100000
set_option maxHeartbeats 64000000
section
open Go.RowKit
variable{P:Program}{Q:Exit->Act->World->Prop}{W W' w:World}{a:Act}{l:List (PD×List Value)}
theorem DU:type_of% @wpOp_step:=@wpOp_step
theorem Ez:type_of% @List.flatMap_cons:=@List.flatMap_cons
theorem EG:type_of% @List.nil_append:=@List.nil_append
theorem EK:type_of% @List.cons_append:=@List.cons_append
theorem EZ:type_of% @Int.toNat_natCast:=@Int.toNat_natCast
theorem Fp:type_of% @wpQuiet_nil:=@wpQuiet_nil
theorem FE:type_of% @Bool.not_eq_true':=@Bool.not_eq_true'
theorem FK:type_of% @beq_self_eq_true:=@beq_self_eq_true
theorem oL{α:Type}{f:α->List Value}{n:Nat}(hf:∀x,(f x).length=n):∀(l:List α) (i:Nat) (x:α) (j:Nat) (v:Value),l[i]?=some x->(f x)[j]?=some v->(l.flatMap f)[i*n+j]?=some v
 |[],i,x,j,v,h,_=>by simp at h
 |y::l,0,x,j,v,h,hv=>by
  simp at h;subst h;have hj:=(DQ.1 hv).1;rw[Ez,Nat.zero_mul,ET,EI hj];exact hv
 |y::l,i+1,x,j,v,h,hv=>by
  simp at h;rw[Ez,Nat.succ_mul,EU (by rw[hf];omega),hf,show i*n+n+j-n=i*n+j by omega];exact oL hf l i x j v h hv
theorem ck(l:List (PD×Value×Value×Value×Value))(h:∀x∈l,PartV W W.heap.size x.1 [x.2.1,x.2.2.1,x.2.2.2.1,x.2.2.2.2]):
 Parts (W.alloc (.cells (l.flatMap λx=>[x.2.1,x.2.2.1,x.2.2.2.1,x.2.2.2.2]).toArray 99)) (W.alloc (.cells (l.flatMap λx=>[x.2.1,x.2.2.1,x.2.2.2.1,x.2.2.2.2]).toArray 99)).heap.size W.heap.size (l.map (·.1)):=by
 have hb:Below W.heap.size W (W.alloc (.cells (l.flatMap λx=>[x.2.1,x.2.2.1,x.2.2.2.1,x.2.2.2.2]).toArray 99)):=(DN _ _).alloc (DK _) _;refine⟨by simp,λi pd hp=>?_⟩;rw[Eu]at hp;obtain⟨x,hx,rfl⟩:=Ev.1 hp;refine⟨_,((h x (DW hx)).below hb).more hb.size,λj v hv=>?_⟩;rw[(Blk.new W 99 _).cell];have:=oL (f:=λx:PD×Value×Value×Value×Value=>[x.2.1,x.2.2.1,x.2.2.2.1,x.2.2.2.2]) (n:=4) (λ_=>rfl) l i x j v hx hv;simpa using this
theorem xN(l:List (FD×Nat))(h:∀x∈l,Parts W W.heap.size x.2 x.1.pds):
 Forms (W.alloc (.cells (l.flatMap λx=>qy x.1 x.2).toArray 92)) (W.alloc (.cells (l.flatMap λx=>qy x.1 x.2).toArray 92)).heap.size W.heap.size (l.map (·.1)):=by
 have hb:Below W.heap.size W (W.alloc (.cells (l.flatMap λx=>qy x.1 x.2).toArray 92)):=(DN _ _).alloc (DK _) _;refine⟨by simp,λi fd hp=>?_⟩;rw[Eu]at hp;obtain⟨x,hx,rfl⟩:=Ev.1 hp;refine⟨x.2,((h x (DW hx)).below hb).more hb.size,λj v hv=>?_⟩;rw[(Blk.new W 92 _).cell];have:=oL (f:=λx:FD×Nat=>qy x.1 x.2) (n:=3) (λ_=>rfl) l i x j v hx hv;simpa using this
def Ps(W:World)(l:List (PD×List Value)):Prop:=∀x∈l,PartV W W.heap.size x.1 x.2
def Bs(W:World)(l:List (Nat×Array Value)):Prop:=∀x∈l,Blk W x.1 99 x.2
theorem Ps.cons{pd:PD}{vs:List Value}(h:Ps W l)(hb:Below W.heap.size W W')(hp:PartV W' W'.heap.size pd vs):Ps W' ((pd,vs)::l):=λx hx=>by
 rcases DY.1 hx with rfl|hx
 ·exact hp
 ·exact((h x hx).below hb).more hb.size
theorem Ps.below(h:Ps W l)(hb:Below W.heap.size W W'):Ps W' l:=λx hx=>((h x hx).below hb).more hb.size
theorem Bs.below{l:List (Nat×Array Value)}(h:Bs W l)(hb:Below W.heap.size W W'):Bs W' l:=λx hx=>(h x hx).below hb (h x hx).lt
theorem Bs.cons{l:List (Nat×Array Value)}{b:Nat}{cs:Array Value}(h:Bs W l)(hp:Blk W b 99 cs):Bs W ((b,cs)::l):=λx hx=>by
 rcases DY.1 hx with rfl|hx
 ·exact hp
 ·exact h x hx
theorem gH(W:World)(cs:Array Value):∃V,W.alloc (.cells cs 99)=V/\Below W.heap.size W V/\Blk V W.heap.size 99 cs/\V.heap.size=W.heap.size+1:=⟨_,rfl,(DN _ _).alloc (DK _) _,Blk.new W 99 cs,by simp⟩
theorem BK:(Tryz.prog.info? 99).map (·.size)=some 4:=by kernel_rfl
theorem ldp{e:Nat}{v0 v1 v2 v3:Value}(h:Blk w e 99 #[v0,v1,v2,v3]):(Instr.loadAt 99 (.pointer (some ⟨e,0,none⟩))).run Tryz.prog w= .ok (.agg #[v0,v1,v2,v3]) w:=by
 have h1:=run_loadVar_row (P:=Tryz.prog) w e 99 99 _ (0,0) _ h Tryz.underlying99 rfl BK;simp[Instr.loadAt,Instr.sureAddr,asAddr,Result.andThen,h1]
theorem Bk{o:Oper}{w':World}{K:Act->World->Prop}{v:Value}(hr:(execOp a.eval o).run P w= .ok (.value v) w')(h:K (a.put o.dst v) w'):Oper.wp P o a w K Q:=by
 unfold Oper.wp;rw[hr];exact h
section
variable{P:Program}{ops:Array Oper}{Q:Exit->Act->World->Prop}{i:Nat}{o:Oper}{a:Act}{W W':World}{v u:Value}{JJ:World->Prop}{FF:Value->World->Prop}{GG:Nat->Value->World->Prop}{fr':Value->Act}{t:TypeId}{x:Operand}
theorem opF(hr:(execOp a.eval o).run P W= .ok (.value v) W')(hJ:JJ W')(hF:FF v W')(hN:∀k u,GG k u W->GG k u W')(ho:ops[i]?=some o)(hg:Region.wanted o (yielded ops a.tmps)=true)(hp:a.put o.dst v=fr' v):
 wpOp P ops Q i (λa' W'=>∃v,a'=fr' v/\JJ W'/\FF v W'/\∀k u,GG k u W->GG k u W') a W:=
 DU ho λK' hK=>by rw[Ed hg];exact Bk hr (hK _ _ ⟨v,hp,hJ,hF,hN⟩)
theorem ldF(ho:ops[i]?=some o)(hm:o.op= .load t x)(hx:a.eval x=u)(hl:(Instr.loadAt t u).run P W= .ok v W)(hJ:JJ W)(hF:FF v W)(hg:Region.wanted o (yielded ops a.tmps)=true:=by exact rfl)(hp:a.put o.dst v=fr' v:=by exact rfl):
 wpOp P ops Q i (λa' W'=>∃v,a'=fr' v/\JJ W'/\FF v W'/\∀k u,GG k u W->GG k u W') a W:=opF (by simp only[execOp,hm,Fg,Fh,hx,hl,EM]) hJ hF (λ_ _ h=>h) ho hg hp
end
theorem tD(w:World):Calls Tryz.prog 78 #[] w λe w'=>∃g,e= .returned (.slice (some ⟨g,0,none⟩) 16 16)/\Forms w' w'.heap.size g au/\Below w.heap.size w w':=by
 have n38:=λlo hi w=>oC lo hi w;have n39:=λlo hi w=>oB lo hi w;have n41:=λk w=>rL k w;have n42:=λk w=>rK k w;unfold fnv at n38 n39 n41 n42;have N38:=H_ n38;have N39:=H_ n39;have N41:=H_ n41;have N42:=H_ n42;clear n38 n39 n41 n42;have HP0:=H_ (show Ps w []from λx hx=>(by cases hx));have HQ0:=H_ (show Bs w []from λx hx=>(by cases hx));have HB0:=H_ (DN w.heap.size w);go_enter Tryz.func78,Tryz.ntmps78;go_wp2_with fail;refine(N38.out _ _ _).mono ?_;rintro e w1 ⟨a1,b1,c1,d1,rfl,h1,k1⟩;have HP1:=H_ (HP0.out.cons k1 h1);have HQ1:=H_ (HQ0.out.below k1);have HB1:=htr HB0 k1;clear k1 HP0 HQ0 HB0;obtain⟨b10,b11,b12,e1,_⟩:=h1;simp only[List.cons.injEq,Em]at e1;obtain⟨rfl,rfl,rfl,rfl⟩:=e1;go_wp2_with fail;refine(N39.out _ _ _).mono ?_;rintro e w2 ⟨a2,b2,c2,d2,rfl,h2,k2⟩;have HP2:=H_ (HP1.out.cons k2 h2);have HQ2:=H_ (HQ1.out.below k2);have HB2:=htr HB1 k2;clear k2 HP1 HQ1 HB1;obtain⟨b20,b21,b22,e2,_⟩:=h2;simp only[List.cons.injEq,Em]at e2;obtain⟨rfl,rfl,rfl,rfl⟩:=e2;go_wp2_with fail;obtain⟨v1,hnb,k1,r1,z1⟩:=gH w2 #[.func (.func 175) #[] #[ptr b10],.func (.func 177) #[] #[ptr b10],.func (.func 178) #[] #[ptr b10,ptr b11,ptr b12],.func (.func 179) #[] #[ptr b10]];rw[hnb];clear hnb;have HP3:=H_ (HP2.out.below k1);have HQ3:=H_ ((HQ2.out.below k1).cons r1);have HB3:=htr HB2 k1;clear k1 r1 HP2 HQ2 HB2;obtain⟨v2,hnb,k2,r2,z2⟩:=gH v1 #[.func (.func 175) #[] #[ptr b20],.func (.func 177) #[] #[ptr b20],.func (.func 178) #[] #[ptr b20,ptr b21,ptr b22],.func (.func 179) #[] #[ptr b20]];rw[hnb];clear hnb;have HP4:=H_ (HP3.out.below k2);have HQ4:=H_ ((HQ3.out.below k2).cons r2);have HB4:=htr HB3 k2;clear k2 r2 HP3 HQ3 HB3;refine(N38.out _ _ _).mono ?_;rintro e w3 ⟨a3,b3,c3,d3,rfl,h3,k3⟩;have HP5:=H_ (HP4.out.cons k3 h3);have HQ5:=H_ (HQ4.out.below k3);have HB5:=htr HB4 k3;clear k3 HP4 HQ4 HB4;obtain⟨b30,b31,b32,e3,_⟩:=h3;simp only[List.cons.injEq,Em]at e3;obtain⟨rfl,rfl,rfl,rfl⟩:=e3;go_wp2_with fail;refine(N39.out _ _ _).mono ?_;rintro e w4 ⟨a4,b4,c4,d4,rfl,h4,k4⟩;have HP6:=H_ (HP5.out.cons k4 h4);have HQ6:=H_ (HQ5.out.below k4);have HB6:=htr HB5 k4;clear k4 HP5 HQ5 HB5;obtain⟨b40,b41,b42,e4,_⟩:=h4;simp only[List.cons.injEq,Em]at e4;obtain⟨rfl,rfl,rfl,rfl⟩:=e4;go_wp2_with fail;obtain⟨v3,hnb,k3,r3,z3⟩:=gH w4 #[.func (.func 175) #[] #[ptr b30],.func (.func 177) #[] #[ptr b30],.func (.func 178) #[] #[ptr b30,ptr b31,ptr b32],.func (.func 179) #[] #[ptr b30]];rw[hnb];clear hnb;have HP7:=H_ (HP6.out.below k3);have HQ7:=H_ ((HQ6.out.below k3).cons r3);have HB7:=htr HB6 k3;clear k3 r3 HP6 HQ6 HB6;obtain⟨v4,hnb,k4,r4,z4⟩:=gH v3 #[.func (.func 175) #[] #[ptr b40],.func (.func 177) #[] #[ptr b40],.func (.func 178) #[] #[ptr b40,ptr b41,ptr b42],.func (.func 179) #[] #[ptr b40]];rw[hnb];clear hnb;have HP8:=H_ (HP7.out.below k4);have HQ8:=H_ ((HQ7.out.below k4).cons r4);have HB8:=htr HB7 k4;clear k4 r4 HP7 HQ7 HB7;refine(N41.out _ _).mono ?_;rintro e w5 ⟨a5,b5,c5,d5,rfl,h5,k5⟩;have HP9:=H_ (HP8.out.cons k5 h5);have HQ9:=H_ (HQ8.out.below k5);have HB9:=htr HB8 k5;clear k5 HP8 HQ8 HB8;obtain⟨b50,b51,e5,_⟩:=h5;simp only[List.cons.injEq,Em]at e5;obtain⟨rfl,rfl,rfl,rfl⟩:=e5;go_wp2_with fail;refine(N42.out _ _).mono ?_;rintro e w6 ⟨a6,b6,c6,d6,rfl,h6,k6⟩;have HP10:=H_ (HP9.out.cons k6 h6);have HQ10:=H_ (HQ9.out.below k6);have HB10:=htr HB9 k6;clear k6 HP9 HQ9 HB9;obtain⟨b60,b61,e6,_⟩:=h6;simp only[List.cons.injEq,Em]at e6;obtain⟨rfl,rfl,rfl,rfl⟩:=e6;go_wp2_with fail;refine(N42.out _ _).mono ?_;rintro e w7 ⟨a7,b7,c7,d7,rfl,h7,k7⟩;have HP11:=H_ (HP10.out.cons k7 h7);have HQ11:=H_ (HQ10.out.below k7);have HB11:=htr HB10 k7;clear k7 HP10 HQ10 HB10;obtain⟨b70,b71,e7,_⟩:=h7;simp only[List.cons.injEq,Em]at e7;obtain⟨rfl,rfl,rfl,rfl⟩:=e7;go_upto_region 4 with fail;obtain⟨v5,hnb,k5,r5,z5⟩:=gH w7 #[.func (.func 180) #[] #[ptr b50],.func (.func 181) #[] #[ptr b50],.func (.func 182) #[] #[ptr b50,ptr b51],.func (.func 184) #[] #[ptr b50]];rw[hnb];clear hnb;have HP12:=H_ (HP11.out.below k5);have HQ12:=H_ ((HQ11.out.below k5).cons r5);have HB12:=htr HB11 k5;clear k5 r5 HP11 HQ11 HB11;obtain⟨v6,hnb,k6,r6,z6⟩:=gH v5 #[.func (.func 180) #[] #[ptr b60],.func (.func 181) #[] #[ptr b60],.func (.func 182) #[] #[ptr b60,ptr b61],.func (.func 184) #[] #[ptr b60]];rw[hnb];clear hnb;have HP13:=H_ (HP12.out.below k6);have HQ13:=H_ ((HQ12.out.below k6).cons r6);have HB13:=htr HB12 k6;clear k6 r6 HP12 HQ12 HB12;obtain⟨v7,hnb,k7,r7,z7⟩:=gH v6 #[.func (.func 180) #[] #[ptr b70],.func (.func 181) #[] #[ptr b70],.func (.func 182) #[] #[ptr b70,ptr b71],.func (.func 184) #[] #[ptr b70]];rw[hnb];clear hnb;have HP14:=H_ (HP13.out.below k7);have HQ14:=H_ ((HQ13.out.below k7).cons r7);have HB14:=htr HB13 k7;clear k7 r7 HP13 HQ13 HB13;have P1:=H_ (HQ14.out (w2.heap.size,#[.func (.func 175) #[] #[ptr b10],.func (.func 177) #[] #[ptr b10],.func (.func 178) #[] #[ptr b10,ptr b11,ptr b12],.func (.func 179) #[] #[ptr b10]]) (DW (i:=6) rfl));have H1:=H_ (HP14.out (.numA 1 8,[.func (.func 175) #[] #[ptr b10],.func (.func 177) #[] #[ptr b10],.func (.func 178) #[] #[ptr b10,ptr b11,ptr b12],.func (.func 179) #[] #[ptr b10]]) (DW (i:=6) rfl));have P2:=H_ (HQ14.out (v1.heap.size,#[.func (.func 175) #[] #[ptr b20],.func (.func 177) #[] #[ptr b20],.func (.func 178) #[] #[ptr b20,ptr b21,ptr b22],.func (.func 179) #[] #[ptr b20]]) (DW (i:=5) rfl));have H2:=H_ (HP14.out (.numB 1 8,[.func (.func 175) #[] #[ptr b20],.func (.func 177) #[] #[ptr b20],.func (.func 178) #[] #[ptr b20,ptr b21,ptr b22],.func (.func 179) #[] #[ptr b20]]) (DW (i:=5) rfl));have P3:=H_ (HQ14.out (w4.heap.size,#[.func (.func 175) #[] #[ptr b30],.func (.func 177) #[] #[ptr b30],.func (.func 178) #[] #[ptr b30,ptr b31,ptr b32],.func (.func 179) #[] #[ptr b30]]) (DW (i:=4) rfl));have H3:=H_ (HP14.out (.numA 0 1099511627776,[.func (.func 175) #[] #[ptr b30],.func (.func 177) #[] #[ptr b30],.func (.func 178) #[] #[ptr b30,ptr b31,ptr b32],.func (.func 179) #[] #[ptr b30]]) (DW (i:=4) rfl));have P4:=H_ (HQ14.out (v3.heap.size,#[.func (.func 175) #[] #[ptr b40],.func (.func 177) #[] #[ptr b40],.func (.func 178) #[] #[ptr b40,ptr b41,ptr b42],.func (.func 179) #[] #[ptr b40]]) (DW (i:=3) rfl));have H4:=H_ (HP14.out (.numB 0 1099511627776,[.func (.func 175) #[] #[ptr b40],.func (.func 177) #[] #[ptr b40],.func (.func 178) #[] #[ptr b40,ptr b41,ptr b42],.func (.func 179) #[] #[ptr b40]]) (DW (i:=3) rfl));have P5:=H_ (HQ14.out (w7.heap.size,#[.func (.func 180) #[] #[ptr b50],.func (.func 181) #[] #[ptr b50],.func (.func 182) #[] #[ptr b50,ptr b51],.func (.func 184) #[] #[ptr b50]]) (DW (i:=2) rfl));have H5:=H_ (HP14.out (.nam 2,[.func (.func 180) #[] #[ptr b50],.func (.func 181) #[] #[ptr b50],.func (.func 182) #[] #[ptr b50,ptr b51],.func (.func 184) #[] #[ptr b50]]) (DW (i:=2) rfl));have P6:=H_ (HQ14.out (v5.heap.size,#[.func (.func 180) #[] #[ptr b60],.func (.func 181) #[] #[ptr b60],.func (.func 182) #[] #[ptr b60,ptr b61],.func (.func 184) #[] #[ptr b60]]) (DW (i:=1) rfl));have H6:=H_ (HP14.out (.met 2,[.func (.func 180) #[] #[ptr b60],.func (.func 181) #[] #[ptr b60],.func (.func 182) #[] #[ptr b60,ptr b61],.func (.func 184) #[] #[ptr b60]]) (DW (i:=1) rfl));have P7:=H_ (HQ14.out (v6.heap.size,#[.func (.func 180) #[] #[ptr b70],.func (.func 181) #[] #[ptr b70],.func (.func 182) #[] #[ptr b70,ptr b71],.func (.func 184) #[] #[ptr b70]]) (DW (i:=0) rfl));have H7:=H_ (HP14.out (.met 3,[.func (.func 180) #[] #[ptr b70],.func (.func 181) #[] #[ptr b70],.func (.func 182) #[] #[ptr b70,ptr b71],.func (.func 184) #[] #[ptr b70]]) (DW (i:=0) rfl));dsimp only at P2;dsimp only at P4;dsimp only at P6;dsimp only at P7;replace P2:=H_ (show Blk v7 (w2.heap.size+1) 99 _ from z1▸P2.out);replace P4:=H_ (show Blk v7 (w4.heap.size+1) 99 _ from z3▸P4.out);replace P6:=H_ (show Blk v7 (w7.heap.size+1) 99 _ from z5▸P6.out);replace P7:=H_ (show Blk v7 (w7.heap.size+2) 99 _ from(z6.trans (by rw[z5]))▸P7.out);generalize(Value.func (.func 175) #[] #[ptr b10]:Value)=a1 at P1 H1⊢;generalize(Value.func (.func 177) #[] #[ptr b10]:Value)=b1 at P1 H1⊢;generalize(Value.func (.func 178) #[] #[ptr b10,ptr b11,ptr b12]:Value)=c1 at P1 H1⊢;generalize(Value.func (.func 179) #[] #[ptr b10]:Value)=d1 at P1 H1⊢;generalize(Value.func (.func 175) #[] #[ptr b20]:Value)=a2 at P2 H2⊢;generalize(Value.func (.func 177) #[] #[ptr b20]:Value)=b2 at P2 H2⊢;generalize(Value.func (.func 178) #[] #[ptr b20,ptr b21,ptr b22]:Value)=c2 at P2 H2⊢;generalize(Value.func (.func 179) #[] #[ptr b20]:Value)=d2 at P2 H2⊢;generalize(Value.func (.func 175) #[] #[ptr b30]:Value)=a3 at P3 H3⊢;generalize(Value.func (.func 177) #[] #[ptr b30]:Value)=b3 at P3 H3⊢;generalize(Value.func (.func 178) #[] #[ptr b30,ptr b31,ptr b32]:Value)=c3 at P3 H3⊢;generalize(Value.func (.func 179) #[] #[ptr b30]:Value)=d3 at P3 H3⊢;generalize(Value.func (.func 175) #[] #[ptr b40]:Value)=a4 at P4 H4⊢;generalize(Value.func (.func 177) #[] #[ptr b40]:Value)=b4 at P4 H4⊢;generalize(Value.func (.func 178) #[] #[ptr b40,ptr b41,ptr b42]:Value)=c4 at P4 H4⊢;generalize(Value.func (.func 179) #[] #[ptr b40]:Value)=d4 at P4 H4⊢;generalize(Value.func (.func 180) #[] #[ptr b50]:Value)=a5 at P5 H5⊢;generalize(Value.func (.func 181) #[] #[ptr b50]:Value)=b5 at P5 H5⊢;generalize(Value.func (.func 182) #[] #[ptr b50,ptr b51]:Value)=c5 at P5 H5⊢;generalize(Value.func (.func 184) #[] #[ptr b50]:Value)=d5 at P5 H5⊢;generalize(Value.func (.func 180) #[] #[ptr b60]:Value)=a6 at P6 H6⊢;generalize(Value.func (.func 181) #[] #[ptr b60]:Value)=b6 at P6 H6⊢;generalize(Value.func (.func 182) #[] #[ptr b60,ptr b61]:Value)=c6 at P6 H6⊢;generalize(Value.func (.func 184) #[] #[ptr b60]:Value)=d6 at P6 H6⊢;generalize(Value.func (.func 180) #[] #[ptr b70]:Value)=a7 at P7 H7⊢;generalize(Value.func (.func 181) #[] #[ptr b70]:Value)=b7 at P7 H7⊢;generalize(Value.func (.func 182) #[] #[ptr b70,ptr b71]:Value)=c7 at P7 H7⊢;generalize(Value.func (.func 184) #[] #[ptr b70]:Value)=d7 at P7 H7⊢;refine ll (λxs=>{tmps:= #[xs 58,.pointer (some ⟨w2.heap.size,0,none⟩),.pointer (some ⟨(w2.heap.size+1),0,none⟩),.pointer (some ⟨w4.heap.size,0,none⟩),.pointer (some ⟨(w4.heap.size+1),0,none⟩),.pointer (some ⟨w7.heap.size,0,none⟩),.pointer (some ⟨(w7.heap.size+1),0,none⟩),.pointer (some ⟨(w7.heap.size+2),0,none⟩),.agg #[a1,b1,c1,d1],.agg #[a2,b2,c2,d2],.agg #[a3,b3,c3,d3],.agg #[a4,b4,c4,d4],.agg #[a5,b5,c5,d5],.agg #[a6,b6,c6,d6],.agg #[a7,b7,c7,d7],xs 0,xs 1,xs 2,xs 3,xs 4,xs 5,xs 6,xs 7,xs 8,xs 9,xs 10,xs 11,xs 12,xs 13,xs 14,xs 15,xs 16,xs 17,xs 18,xs 19,xs 20,xs 21,xs 22,xs 23,xs 24,xs 25,xs 26,xs 27,xs 28,xs 29,xs 30,xs 31,xs 32,xs 33,xs 34,xs 35,xs 36,xs 37,xs 38,xs 39,xs 40,xs 41,xs 42,xs 43,xs 44,xs 45,xs 46,xs 47,xs 48,xs 49,xs 50,xs 51,xs 52,xs 53,xs 54,xs 55,xs 56,xs 57],defers:=[]}) (λj=>if j=58 then .slice none 0 0 else undef) (λW=>Below v7.heap.size v7 W) F27 (by kernel_rfl) (by kernel_rfl) rfl (DN _ _).drew ?_ ?_
 ·intro i hi xs W hJ hd;have aA:=λ(W':World) (hb:Below W.heap.size W W') (k:Nat) (u:Value) (h:F27 k u W)=>h.below hb;have hnew:=λo=>(DN W.heap.size W).alloc (DK _) o;have LD:=λ(i:Nat)=>i;clear LD;obtain rfl|rfl|rfl|rfl|rfl|rfl|rfl|rfl|rfl|rfl|rfl|rfl|rfl|rfl|rfl|rfl|rfl|rfl|rfl|rfl|rfl|rfl|rfl|rfl|rfl|rfl|rfl|rfl|rfl|rfl|rfl|rfl|rfl|rfl|rfl|rfl|rfl|rfl|rfl|rfl|rfl|rfl|rfl|rfl|rfl|rfl|rfl|rfl|rfl|rfl|rfl|rfl|rfl|rfl|rfl|rfl|rfl|rfl|rfl:i=0\/i=1\/i=2\/i=3\/i=4\/i=5\/i=6\/i=7\/i=8\/i=9\/i=10\/i=11\/i=12\/i=13\/i=14\/i=15\/i=16\/i=17\/i=18\/i=19\/i=20\/i=21\/i=22\/i=23\/i=24\/i=25\/i=26\/i=27\/i=28\/i=29\/i=30\/i=31\/i=32\/i=33\/i=34\/i=35\/i=36\/i=37\/i=38\/i=39\/i=40\/i=41\/i=42\/i=43\/i=44\/i=45\/i=46\/i=47\/i=48\/i=49\/i=50\/i=51\/i=52\/i=53\/i=54\/i=55\/i=56\/i=57\/i=58:=by simp at hi;omega
  ·exact ldF rfl rfl rfl (ldp (P1.out.below hJ P1.out.lt)) hJ ⟨_,_,_,_,rfl,(H1.out.below hJ).more hJ.size⟩
  ·exact ldF rfl rfl rfl (ldp (P4.out.below hJ P4.out.lt)) hJ ⟨_,_,_,_,rfl,(H4.out.below hJ).more hJ.size⟩
  ·obtain⟨x0,y0,z0,t0,e0,h0⟩:=hd 0;change xs 0=_ at e0;obtain⟨x1,y1,z1,t1,e1,h1⟩:=hd 1;change xs 1=_ at e1;have HH:=H_ (And.intro h0 (h1));clear h0 h1;refine DU rfl λK hK=>?_;go_simp;exact hK _ _ ⟨.slice (some ⟨W.heap.size,0,none⟩) 2 2,by rw[<-e0,<-e1];rfl,hJ.alloc hJ.size _,⟨W.heap.size,rfl,ck [(_,x0,y0,z0,t0),(_,x1,y1,z1,t1)] (by simpa using HH.out)⟩,aA _ (hnew _)⟩
  ·obtain⟨g,e,h⟩:=hd 2;change xs 2= .slice _ 2 2 at e;have HH:=H_ h;clear h;refine DU rfl λK hK=>?_;go_simp;exact hK _ _ ⟨.agg #[.int .i64 0,.string ⟨#[116,117,114,110]⟩,.slice (some ⟨g,0,none⟩) 2 2],by rw[<-e];rfl,hJ,⟨g,rfl,HH.out⟩,λ_ _ h=>h⟩
  ·exact ldF rfl rfl rfl (ldp (P3.out.below hJ P3.out.lt)) hJ ⟨_,_,_,_,rfl,(H3.out.below hJ).more hJ.size⟩
  ·obtain⟨x0,y0,z0,t0,e0,h0⟩:=hd 4;change xs 4=_ at e0;have HH:=H_ (h0);clear h0;refine DU rfl λK hK=>?_;go_simp;exact hK _ _ ⟨.slice (some ⟨W.heap.size,0,none⟩) 1 1,by rw[<-e0];rfl,hJ.alloc hJ.size _,⟨W.heap.size,rfl,ck [(_,x0,y0,z0,t0)] (by simpa using HH.out)⟩,aA _ (hnew _)⟩
  ·obtain⟨g,e,h⟩:=hd 5;change xs 5= .slice _ 1 1 at e;have HH:=H_ h;clear h;refine DU rfl λK hK=>?_;go_simp;exact hK _ _ ⟨.agg #[.int .i64 1,.string ⟨#[100,101,108,105,118,101,114]⟩,.slice (some ⟨g,0,none⟩) 1 1],by rw[<-e];rfl,hJ,⟨g,rfl,HH.out⟩,λ_ _ h=>h⟩
  ·exact ldF rfl rfl rfl (ldp (P3.out.below hJ P3.out.lt)) hJ ⟨_,_,_,_,rfl,(H3.out.below hJ).more hJ.size⟩
  ·obtain⟨x0,y0,z0,t0,e0,h0⟩:=hd 7;change xs 7=_ at e0;have HH:=H_ (h0);clear h0;refine DU rfl λK hK=>?_;go_simp;exact hK _ _ ⟨.slice (some ⟨W.heap.size,0,none⟩) 1 1,by rw[<-e0];rfl,hJ.alloc hJ.size _,⟨W.heap.size,rfl,ck [(_,x0,y0,z0,t0)] (by simpa using HH.out)⟩,aA _ (hnew _)⟩
  ·obtain⟨g,e,h⟩:=hd 8;change xs 8= .slice _ 1 1 at e;have HH:=H_ h;clear h;refine DU rfl λK hK=>?_;go_simp;exact hK _ _ ⟨.agg #[.int .i64 2,.string ⟨#[100,114,111,112]⟩,.slice (some ⟨g,0,none⟩) 1 1],by rw[<-e];rfl,hJ,⟨g,rfl,HH.out⟩,λ_ _ h=>h⟩
  ·exact ldF rfl rfl rfl (ldp (P3.out.below hJ P3.out.lt)) hJ ⟨_,_,_,_,rfl,(H3.out.below hJ).more hJ.size⟩
  ·obtain⟨x0,y0,z0,t0,e0,h0⟩:=hd 10;change xs 10=_ at e0;have HH:=H_ (h0);clear h0;refine DU rfl λK hK=>?_;go_simp;exact hK _ _ ⟨.slice (some ⟨W.heap.size,0,none⟩) 1 1,by rw[<-e0];rfl,hJ.alloc hJ.size _,⟨W.heap.size,rfl,ck [(_,x0,y0,z0,t0)] (by simpa using HH.out)⟩,aA _ (hnew _)⟩
  ·obtain⟨g,e,h⟩:=hd 11;change xs 11= .slice _ 1 1 at e;have HH:=H_ h;clear h;refine DU rfl λK hK=>?_;go_simp;exact hK _ _ ⟨.agg #[.int .i64 3,.string ⟨#[100,111,117,98,108,101]⟩,.slice (some ⟨g,0,none⟩) 1 1],by rw[<-e];rfl,hJ,⟨g,rfl,HH.out⟩,λ_ _ h=>h⟩
  ·exact ldF rfl rfl rfl (ldp (P1.out.below hJ P1.out.lt)) hJ ⟨_,_,_,_,rfl,(H1.out.below hJ).more hJ.size⟩
  ·obtain⟨x0,y0,z0,t0,e0,h0⟩:=hd 13;change xs 13=_ at e0;have HH:=H_ (h0);clear h0;refine DU rfl λK hK=>?_;go_simp;exact hK _ _ ⟨.slice (some ⟨W.heap.size,0,none⟩) 1 1,by rw[<-e0];rfl,hJ.alloc hJ.size _,⟨W.heap.size,rfl,ck [(_,x0,y0,z0,t0)] (by simpa using HH.out)⟩,aA _ (hnew _)⟩
  ·obtain⟨g,e,h⟩:=hd 14;change xs 14= .slice _ 1 1 at e;have HH:=H_ h;clear h;refine DU rfl λK hK=>?_;go_simp;exact hK _ _ ⟨.agg #[.int .i64 4,.string ⟨#[116,105,99,107]⟩,.slice (some ⟨g,0,none⟩) 1 1],by rw[<-e];rfl,hJ,⟨g,rfl,HH.out⟩,λ_ _ h=>h⟩
  ·exact ldF rfl rfl rfl (ldp (P1.out.below hJ P1.out.lt)) hJ ⟨_,_,_,_,rfl,(H1.out.below hJ).more hJ.size⟩
  ·obtain⟨x0,y0,z0,t0,e0,h0⟩:=hd 16;change xs 16=_ at e0;have HH:=H_ (h0);clear h0;refine DU rfl λK hK=>?_;go_simp;exact hK _ _ ⟨.slice (some ⟨W.heap.size,0,none⟩) 1 1,by rw[<-e0];rfl,hJ.alloc hJ.size _,⟨W.heap.size,rfl,ck [(_,x0,y0,z0,t0)] (by simpa using HH.out)⟩,aA _ (hnew _)⟩
  ·obtain⟨g,e,h⟩:=hd 17;change xs 17= .slice _ 1 1 at e;have HH:=H_ h;clear h;refine DU rfl λK hK=>?_;go_simp;exact hK _ _ ⟨.agg #[.int .i64 5,.string ⟨#[109,105,110,111,114]⟩,.slice (some ⟨g,0,none⟩) 1 1],by rw[<-e];rfl,hJ,⟨g,rfl,HH.out⟩,λ_ _ h=>h⟩
  ·exact ldF rfl rfl rfl (ldp (P1.out.below hJ P1.out.lt)) hJ ⟨_,_,_,_,rfl,(H1.out.below hJ).more hJ.size⟩
  ·obtain⟨x0,y0,z0,t0,e0,h0⟩:=hd 19;change xs 19=_ at e0;have HH:=H_ (h0);clear h0;refine DU rfl λK hK=>?_;go_simp;exact hK _ _ ⟨.slice (some ⟨W.heap.size,0,none⟩) 1 1,by rw[<-e0];rfl,hJ.alloc hJ.size _,⟨W.heap.size,rfl,ck [(_,x0,y0,z0,t0)] (by simpa using HH.out)⟩,aA _ (hnew _)⟩
  ·obtain⟨g,e,h⟩:=hd 20;change xs 20= .slice _ 1 1 at e;have HH:=H_ h;clear h;refine DU rfl λK hK=>?_;go_simp;exact hK _ _ ⟨.agg #[.int .i64 6,.string ⟨#[109,97,106,111,114]⟩,.slice (some ⟨g,0,none⟩) 1 1],by rw[<-e];rfl,hJ,⟨g,rfl,HH.out⟩,λ_ _ h=>h⟩
  ·exact ldF rfl rfl rfl (ldp (P1.out.below hJ P1.out.lt)) hJ ⟨_,_,_,_,rfl,(H1.out.below hJ).more hJ.size⟩
  ·refine DU rfl λK hK=>?_;go_simp;refine(ud _).mono ?_;rintro e W' ⟨a,b,c,d,rfl,hp,hb⟩;exact hK _ _ ⟨.agg #[a,b,c,d],rfl,hJ.trans (hb.mono hJ.size),⟨a,b,c,d,rfl,hp⟩,aA _ hb⟩
  ·obtain⟨x0,y0,z0,t0,e0,h0⟩:=hd 22;change xs 22=_ at e0;obtain⟨x1,y1,z1,t1,e1,h1⟩:=hd 23;change xs 23=_ at e1;have HH:=H_ (And.intro h0 (h1));clear h0 h1;refine DU rfl λK hK=>?_;go_simp;exact hK _ _ ⟨.slice (some ⟨W.heap.size,0,none⟩) 2 2,by rw[<-e0,<-e1];rfl,hJ.alloc hJ.size _,⟨W.heap.size,rfl,ck [(_,x0,y0,z0,t0),(_,x1,y1,z1,t1)] (by simpa using HH.out)⟩,aA _ (hnew _)⟩
  ·obtain⟨g,e,h⟩:=hd 24;change xs 24= .slice _ 2 2 at e;have HH:=H_ h;clear h;refine DU rfl λK hK=>?_;go_simp;exact hK _ _ ⟨.agg #[.int .i64 7,.string ⟨#[99,114,97,115,104]⟩,.slice (some ⟨g,0,none⟩) 2 2],by rw[<-e];rfl,hJ,⟨g,rfl,HH.out⟩,λ_ _ h=>h⟩
  ·exact ldF rfl rfl rfl (ldp (P1.out.below hJ P1.out.lt)) hJ ⟨_,_,_,_,rfl,(H1.out.below hJ).more hJ.size⟩
  ·obtain⟨x0,y0,z0,t0,e0,h0⟩:=hd 26;change xs 26=_ at e0;have HH:=H_ (h0);clear h0;refine DU rfl λK hK=>?_;go_simp;exact hK _ _ ⟨.slice (some ⟨W.heap.size,0,none⟩) 1 1,by rw[<-e0];rfl,hJ.alloc hJ.size _,⟨W.heap.size,rfl,ck [(_,x0,y0,z0,t0)] (by simpa using HH.out)⟩,aA _ (hnew _)⟩
  ·obtain⟨g,e,h⟩:=hd 27;change xs 27= .slice _ 1 1 at e;have HH:=H_ h;clear h;refine DU rfl λK hK=>?_;go_simp;exact hK _ _ ⟨.agg #[.int .i64 8,.string ⟨#[114,101,115,116,97,114,116]⟩,.slice (some ⟨g,0,none⟩) 1 1],by rw[<-e];rfl,hJ,⟨g,rfl,HH.out⟩,λ_ _ h=>h⟩
  ·exact ldF rfl rfl rfl (ldp (P1.out.below hJ P1.out.lt)) hJ ⟨_,_,_,_,rfl,(H1.out.below hJ).more hJ.size⟩
  ·obtain⟨x0,y0,z0,t0,e0,h0⟩:=hd 29;change xs 29=_ at e0;have HH:=H_ (h0);clear h0;refine DU rfl λK hK=>?_;go_simp;exact hK _ _ ⟨.slice (some ⟨W.heap.size,0,none⟩) 1 1,by rw[<-e0];rfl,hJ.alloc hJ.size _,⟨W.heap.size,rfl,ck [(_,x0,y0,z0,t0)] (by simpa using HH.out)⟩,aA _ (hnew _)⟩
  ·obtain⟨g,e,h⟩:=hd 30;change xs 30= .slice _ 1 1 at e;have HH:=H_ h;clear h;refine DU rfl λK hK=>?_;go_simp;exact hK _ _ ⟨.agg #[.int .i64 9,.string ⟨#[99,104,101,99,107,112,111,105,110,116]⟩,.slice (some ⟨g,0,none⟩) 1 1],by rw[<-e];rfl,hJ,⟨g,rfl,HH.out⟩,λ_ _ h=>h⟩
  ·exact ldF rfl rfl rfl (ldp (P1.out.below hJ P1.out.lt)) hJ ⟨_,_,_,_,rfl,(H1.out.below hJ).more hJ.size⟩
  ·exact ldF rfl rfl rfl (ldp (P4.out.below hJ P4.out.lt)) hJ ⟨_,_,_,_,rfl,(H4.out.below hJ).more hJ.size⟩
  ·obtain⟨x0,y0,z0,t0,e0,h0⟩:=hd 32;change xs 32=_ at e0;obtain⟨x1,y1,z1,t1,e1,h1⟩:=hd 33;change xs 33=_ at e1;have HH:=H_ (And.intro h0 (h1));clear h0 h1;refine DU rfl λK hK=>?_;go_simp;exact hK _ _ ⟨.slice (some ⟨W.heap.size,0,none⟩) 2 2,by rw[<-e0,<-e1];rfl,hJ.alloc hJ.size _,⟨W.heap.size,rfl,ck [(_,x0,y0,z0,t0),(_,x1,y1,z1,t1)] (by simpa using HH.out)⟩,aA _ (hnew _)⟩
  ·obtain⟨g,e,h⟩:=hd 34;change xs 34= .slice _ 2 2 at e;have HH:=H_ h;clear h;refine DU rfl λK hK=>?_;go_simp;exact hK _ _ ⟨.agg #[.int .i64 10,.string ⟨#[102,97,105,108]⟩,.slice (some ⟨g,0,none⟩) 2 2],by rw[<-e];rfl,hJ,⟨g,rfl,HH.out⟩,λ_ _ h=>h⟩
  ·exact ldF rfl rfl rfl (ldp (P1.out.below hJ P1.out.lt)) hJ ⟨_,_,_,_,rfl,(H1.out.below hJ).more hJ.size⟩
  ·exact ldF rfl rfl rfl (ldp (P5.out.below hJ P5.out.lt)) hJ ⟨_,_,_,_,rfl,(H5.out.below hJ).more hJ.size⟩
  ·exact ldF rfl rfl rfl (ldp (P7.out.below hJ P7.out.lt)) hJ ⟨_,_,_,_,rfl,(H7.out.below hJ).more hJ.size⟩
  ·refine DU rfl λK hK=>?_;go_simp;refine(wC 30 _).mono ?_;rintro e W' ⟨a,b,c,d,rfl,hp,hb⟩;exact hK _ _ ⟨.agg #[a,b,c,d],rfl,hJ.trans (hb.mono hJ.size),⟨a,b,c,d,rfl,hp⟩,aA _ hb⟩
  ·obtain⟨x0,y0,z0,t0,e0,h0⟩:=hd 36;change xs 36=_ at e0;obtain⟨x1,y1,z1,t1,e1,h1⟩:=hd 37;change xs 37=_ at e1;obtain⟨x2,y2,z2,t2,e2,h2⟩:=hd 38;change xs 38=_ at e2;obtain⟨x3,y3,z3,t3,e3,h3⟩:=hd 39;change xs 39=_ at e3;have HH:=H_ (And.intro h0 (And.intro h1 (And.intro h2 (h3))));clear h0 h1 h2 h3;refine DU rfl λK hK=>?_;go_simp;exact hK _ _ ⟨.slice (some ⟨W.heap.size,0,none⟩) 4 4,by rw[<-e0,<-e1,<-e2,<-e3];rfl,hJ.alloc hJ.size _,⟨W.heap.size,rfl,ck [(_,x0,y0,z0,t0),(_,x1,y1,z1,t1),(_,x2,y2,z2,t2),(_,x3,y3,z3,t3)] (by simpa using HH.out)⟩,aA _ (hnew _)⟩
  ·obtain⟨g,e,h⟩:=hd 40;change xs 40= .slice _ 4 4 at e;have HH:=H_ h;clear h;refine DU rfl λK hK=>?_;go_simp;exact hK _ _ ⟨.agg #[.int .i64 11,.string ⟨#[115,112,97,119,110]⟩,.slice (some ⟨g,0,none⟩) 4 4],by rw[<-e];rfl,hJ,⟨g,rfl,HH.out⟩,λ_ _ h=>h⟩
  ·exact ldF rfl rfl rfl (ldp (P5.out.below hJ P5.out.lt)) hJ ⟨_,_,_,_,rfl,(H5.out.below hJ).more hJ.size⟩
  ·exact ldF rfl rfl rfl (ldp (P6.out.below hJ P6.out.lt)) hJ ⟨_,_,_,_,rfl,(H6.out.below hJ).more hJ.size⟩
  ·refine DU rfl λK hK=>?_;go_simp;refine(wC 8 _).mono ?_;rintro e W' ⟨a,b,c,d,rfl,hp,hb⟩;exact hK _ _ ⟨.agg #[a,b,c,d],rfl,hJ.trans (hb.mono hJ.size),⟨a,b,c,d,rfl,hp⟩,aA _ hb⟩
  ·obtain⟨x0,y0,z0,t0,e0,h0⟩:=hd 42;change xs 42=_ at e0;obtain⟨x1,y1,z1,t1,e1,h1⟩:=hd 43;change xs 43=_ at e1;obtain⟨x2,y2,z2,t2,e2,h2⟩:=hd 44;change xs 44=_ at e2;have HH:=H_ (And.intro h0 (And.intro h1 (h2)));clear h0 h1 h2;refine DU rfl λK hK=>?_;go_simp;exact hK _ _ ⟨.slice (some ⟨W.heap.size,0,none⟩) 3 3,by rw[<-e0,<-e1,<-e2];rfl,hJ.alloc hJ.size _,⟨W.heap.size,rfl,ck [(_,x0,y0,z0,t0),(_,x1,y1,z1,t1),(_,x2,y2,z2,t2)] (by simpa using HH.out)⟩,aA _ (hnew _)⟩
  ·obtain⟨g,e,h⟩:=hd 45;change xs 45= .slice _ 3 3 at e;have HH:=H_ h;clear h;refine DU rfl λK hK=>?_;go_simp;exact hK _ _ ⟨.agg #[.int .i64 12,.string ⟨#[112,111,115,116]⟩,.slice (some ⟨g,0,none⟩) 3 3],by rw[<-e];rfl,hJ,⟨g,rfl,HH.out⟩,λ_ _ h=>h⟩
  ·exact ldF rfl rfl rfl (ldp (P5.out.below hJ P5.out.lt)) hJ ⟨_,_,_,_,rfl,(H5.out.below hJ).more hJ.size⟩
  ·obtain⟨x0,y0,z0,t0,e0,h0⟩:=hd 47;change xs 47=_ at e0;have HH:=H_ (h0);clear h0;refine DU rfl λK hK=>?_;go_simp;exact hK _ _ ⟨.slice (some ⟨W.heap.size,0,none⟩) 1 1,by rw[<-e0];rfl,hJ.alloc hJ.size _,⟨W.heap.size,rfl,ck [(_,x0,y0,z0,t0)] (by simpa using HH.out)⟩,aA _ (hnew _)⟩
  ·obtain⟨g,e,h⟩:=hd 48;change xs 48= .slice _ 1 1 at e;have HH:=H_ h;clear h;refine DU rfl λK hK=>?_;go_simp;exact hK _ _ ⟨.agg #[.int .i64 13,.string ⟨#[114,101,108,101,97,115,101]⟩,.slice (some ⟨g,0,none⟩) 1 1],by rw[<-e];rfl,hJ,⟨g,rfl,HH.out⟩,λ_ _ h=>h⟩
  ·exact ldF rfl rfl rfl (ldp (P1.out.below hJ P1.out.lt)) hJ ⟨_,_,_,_,rfl,(H1.out.below hJ).more hJ.size⟩
  ·exact ldF rfl rfl rfl (ldp (P2.out.below hJ P2.out.lt)) hJ ⟨_,_,_,_,rfl,(H2.out.below hJ).more hJ.size⟩
  ·obtain⟨x0,y0,z0,t0,e0,h0⟩:=hd 50;change xs 50=_ at e0;obtain⟨x1,y1,z1,t1,e1,h1⟩:=hd 51;change xs 51=_ at e1;have HH:=H_ (And.intro h0 (h1));clear h0 h1;refine DU rfl λK hK=>?_;go_simp;exact hK _ _ ⟨.slice (some ⟨W.heap.size,0,none⟩) 2 2,by rw[<-e0,<-e1];rfl,hJ.alloc hJ.size _,⟨W.heap.size,rfl,ck [(_,x0,y0,z0,t0),(_,x1,y1,z1,t1)] (by simpa using HH.out)⟩,aA _ (hnew _)⟩
  ·obtain⟨g,e,h⟩:=hd 52;change xs 52= .slice _ 2 2 at e;have HH:=H_ h;clear h;refine DU rfl λK hK=>?_;go_simp;exact hK _ _ ⟨.agg #[.int .i64 14,.string ⟨#[114,101,116,105,114,101]⟩,.slice (some ⟨g,0,none⟩) 2 2],by rw[<-e];rfl,hJ,⟨g,rfl,HH.out⟩,λ_ _ h=>h⟩
  ·refine DU rfl λK hK=>?_;go_simp;refine(N39.out 0 1000 _).mono ?_;rintro e W' ⟨a,b,c,d,rfl,hp,hb⟩;exact hK _ _ ⟨.agg #[a,b,c,d],rfl,hJ.trans (hb.mono hJ.size),⟨a,b,c,d,rfl,hp⟩,aA _ hb⟩
  ·obtain⟨x0,y0,z0,t0,e0,h0⟩:=hd 54;change xs 54=_ at e0;have HH:=H_ (h0);clear h0;refine DU rfl λK hK=>?_;go_simp;exact hK _ _ ⟨.slice (some ⟨W.heap.size,0,none⟩) 1 1,by rw[<-e0];rfl,hJ.alloc hJ.size _,⟨W.heap.size,rfl,ck [(_,x0,y0,z0,t0)] (by simpa using HH.out)⟩,aA _ (hnew _)⟩
  ·obtain⟨g,e,h⟩:=hd 55;change xs 55= .slice _ 1 1 at e;have HH:=H_ h;clear h;refine DU rfl λK hK=>?_;go_simp;exact hK _ _ ⟨.agg #[.int .i64 15,.string ⟨#[99,97,108,109]⟩,.slice (some ⟨g,0,none⟩) 1 1],by rw[<-e];rfl,hJ,⟨g,rfl,HH.out⟩,λ_ _ h=>h⟩
  ·obtain⟨g0,e0,h0⟩:=hd 3;change xs 3= .agg #[.int .i64 0,.string ⟨#[116,117,114,110]⟩,.slice _ 2 2]at e0;obtain⟨g1,e1,h1⟩:=hd 6;change xs 6= .agg #[.int .i64 1,.string ⟨#[100,101,108,105,118,101,114]⟩,.slice _ 1 1]at e1;obtain⟨g2,e2,h2⟩:=hd 9;change xs 9= .agg #[.int .i64 2,.string ⟨#[100,114,111,112]⟩,.slice _ 1 1]at e2;obtain⟨g3,e3,h3⟩:=hd 12;change xs 12= .agg #[.int .i64 3,.string ⟨#[100,111,117,98,108,101]⟩,.slice _ 1 1]at e3;obtain⟨g4,e4,h4⟩:=hd 15;change xs 15= .agg #[.int .i64 4,.string ⟨#[116,105,99,107]⟩,.slice _ 1 1]at e4;obtain⟨g5,e5,h5⟩:=hd 18;change xs 18= .agg #[.int .i64 5,.string ⟨#[109,105,110,111,114]⟩,.slice _ 1 1]at e5;obtain⟨g6,e6,h6⟩:=hd 21;change xs 21= .agg #[.int .i64 6,.string ⟨#[109,97,106,111,114]⟩,.slice _ 1 1]at e6;obtain⟨g7,e7,h7⟩:=hd 25;change xs 25= .agg #[.int .i64 7,.string ⟨#[99,114,97,115,104]⟩,.slice _ 2 2]at e7;obtain⟨g8,e8,h8⟩:=hd 28;change xs 28= .agg #[.int .i64 8,.string ⟨#[114,101,115,116,97,114,116]⟩,.slice _ 1 1]at e8;obtain⟨g9,e9,h9⟩:=hd 31;change xs 31= .agg #[.int .i64 9,.string ⟨#[99,104,101,99,107,112,111,105,110,116]⟩,.slice _ 1 1]at e9;obtain⟨g10,e10,h10⟩:=hd 35;change xs 35= .agg #[.int .i64 10,.string ⟨#[102,97,105,108]⟩,.slice _ 2 2]at e10;obtain⟨g11,e11,h11⟩:=hd 41;change xs 41= .agg #[.int .i64 11,.string ⟨#[115,112,97,119,110]⟩,.slice _ 4 4]at e11;obtain⟨g12,e12,h12⟩:=hd 46;change xs 46= .agg #[.int .i64 12,.string ⟨#[112,111,115,116]⟩,.slice _ 3 3]at e12;obtain⟨g13,e13,h13⟩:=hd 49;change xs 49= .agg #[.int .i64 13,.string ⟨#[114,101,108,101,97,115,101]⟩,.slice _ 1 1]at e13;obtain⟨g14,e14,h14⟩:=hd 53;change xs 53= .agg #[.int .i64 14,.string ⟨#[114,101,116,105,114,101]⟩,.slice _ 2 2]at e14;obtain⟨g15,e15,h15⟩:=hd 56;change xs 56= .agg #[.int .i64 15,.string ⟨#[99,97,108,109]⟩,.slice _ 1 1]at e15;have HH:=H_ (And.intro h0 (And.intro h1 (And.intro h2 (And.intro h3 (And.intro h4 (And.intro h5 (And.intro h6 (And.intro h7 (And.intro h8 (And.intro h9 (And.intro h10 (And.intro h11 (And.intro h12 (And.intro h13 (And.intro h14 (h15))))))))))))))));clear h0 h1 h2 h3 h4 h5 h6 h7 h8 h9 h10 h11 h12 h13 h14 h15;refine DU rfl λK hK=>?_;go_simp;exact hK _ _ ⟨.slice (some ⟨W.heap.size,0,none⟩) 16 16,by rw[<-e0,<-e1,<-e2,<-e3,<-e4,<-e5,<-e6,<-e7,<-e8,<-e9,<-e10,<-e11,<-e12,<-e13,<-e14,<-e15];rfl,hJ.alloc hJ.size _,⟨W.heap.size,rfl,xN (au.zip [g0,g1,g2,g3,g4,g5,g6,g7,g8,g9,g10,g11,g12,g13,g14,g15]) (by simpa[au]using HH.out)⟩,aA _ (hnew _)⟩
  ·obtain⟨g,e,h⟩:=hd 57;change xs 57=_ at e;have HH:=H_ h;clear h;refine DU rfl λK hK=>?_;go_simp;exact hK _ _ ⟨.slice (some ⟨g,0,none⟩) 16 16,by rw[<-e];rfl,hJ,⟨g,rfl,HH.out⟩,λ_ _ h=>h⟩
 ·intro xs W hJ hF;obtain⟨g,e,h⟩:=hF 58 (by simp);change xs 58=_ at e;have HE:=H_ (And.intro h hJ);rw[e];clear h hJ hF;go_wp2_with fail;go_ret;exact⟨g,rfl,HE.out.1,HB14.out.trans (HE.out.2.mono HB14.out.size)⟩
def cD(ws:List (List UInt8)):List UInt8:=ws.flatMap λx=>32::x
def uY(zs:List Int):List (List UInt8):=zs.map Lib.itoa
def sf(d:Ad):List (List UInt8):=
 match d.k.toNat with
 |0=>[Lib.itoa d.a,Lib.itoa d.b]
 |10=>[Lib.itoa d.a,Lib.itoa d.b]
 |11=>[Lib.itoa d.a,d.nm.data.toList,d.mt.data.toList]
 |12=>[d.nm.data.toList,d.mt.data.toList]
 |13=>[d.nm.data.toList]
 |14=>[Lib.itoa d.a,Lib.itoa d.b]
 |15=>[Lib.itoa d.b]
 |_=>[Lib.itoa d.a]
def kU(d:Ad):List (List UInt8):=sf d++uY d.args++uY d.surv
def lP(k:Nat):List UInt8:=(ob.getD k ByteArray.empty).data.toList
def dO(d:Ad):List UInt8:=if ay d=true then lP d.k.toNat++cD (kU d)else[]
structure WfA(d:Ad):Prop where
 a:I64 d.a
 b:I64 d.b
 args:∀z∈d.args,I64 z
 surv:∀z∈d.surv,I64 z
theorem tR{q:Nat}{x:ByteArray}(h:ob[q]?=some x):x.size<=10:=by
 have h1:ob.all (λx=>Nat.ble x.size 10)=true:=by kernel_rfl
 exact Nat.le_of_ble_eq_true (Ec.1 h1 x (DW h))
theorem kS{d:Ad}(h:ay d=true):∃q:Nat,q<=15/\d.k=(q:Int):=by
 unfold ay at h;rw[Ee]at h;obtain⟨h0,h1⟩:=h;obtain⟨q,hq⟩:=Ei (by simpa using h0:0<=d.k);refine⟨q,?_,hq⟩;rw[hq]at h1;rcases ES 15 q with h2|h2
 ·exfalso;rw[EZ]at h1;unfold cB at h1;split at h1<;>first|omega|cases h1
 ·exact h2
theorem pU(M:Nat):∀(l:List UInt8) (acc u d:Nat),Lib.parseUintM M acc l= .ok u->d<10->u<1844674407370955162->u*10+d<=M->Lib.parseUintM M acc (l++[UInt8.ofNat (48+d)])= .ok (u*10+d)
 |[],acc,u,d,h,hd,hu,hM=>by
  simp only[Lib.parseUintM]at h;injection h with h;subst h;have e:(UInt8.ofNat (48+d)).toNat=48+d:=by simp;omega
  simp only[EG,Lib.parseUintM,e];rw[Ed (by omega),DS (by omega),DS (by omega)]
  congr 1
  omega
 |c::r,acc,u,d,h,hd,hu,hM=>by
  simp only[EK,Lib.parseUintM]at h⊢;split at h
  ·rename_i h1;rw[Ed h1];split at h
   ·cases h
   ·rename_i h2;rw[DS h2];split at h
    ·cases h
    ·rename_i h3;rw[DS h3];exact pU M r _ u d h hd hu hM
  ·cases h
theorem zl(M:Nat)(hM:M<18446744073709551616)(n:Nat):n<=M->Lib.parseUintM M 0 (Lib.decDigits n)= .ok n:=by
 induction n using Nat.strongRecOn with
 |_ n ih=>
  intro hn;by_cases h:n<10
  ·have e:(UInt8.ofNat (48+n)).toNat=48+n:=by simp;omega
   rw[cH h];simp only[Lib.parseUintM,e];rw[Ed (by omega),DS (by omega),DS (by omega)]
   congr 1
   omega
  ·rw[fC (by omega),pU M _ 0 (n/10) (n%10) (ih _ (by omega) (by omega)) (by omega) (by omega) (by omega)]
   congr 1
   omega
theorem dv(n:Nat):∀c∈Lib.decDigits n,48<=c.toNat/\c.toNat<=57:=by
 induction n using Nat.strongRecOn with
 |_ n ih=>
  intro c hc;by_cases h:n<10
  ·rw[cH h]at hc;simp only[DY,DX,Ew]at hc;subst hc;have e:(UInt8.ofNat (48+n)).toNat=48+n:=by simp;omega
   omega
  ·rw[fC (by omega)]at hc;rcases EC.1 hc with hc|hc
   ·exact ih _ (by omega) c hc
   ·simp only[DY,DX,Ew]at hc;subst hc;have e:(UInt8.ofNat (48+n%10)).toNat=48+n%10:=by simp;omega
    omega
theorem xY(n:Nat):Lib.decDigits n≠[]:=by
 by_cases h:n<10
 ·rw[cH h];simp
 ·rw[fC (by omega)];simp
theorem iu(n:Nat):∃c r,Lib.decDigits n=c::r/\48<=c.toNat/\c.toNat<=57:=by
 cases h:Lib.decDigits n with
 |nil=>exact absurd h (xY n)
 |cons c r=>exact⟨c,r,rfl,dv n c (by rw[h];simp)⟩
theorem lF(n:Nat)(h:n<18446744073709551616):Lib.parseUintB 64 (Lib.decDigits n)= .ok n:=by
 unfold Lib.parseUintB;rw[DS (xY n)];exact zl _ (by decide) n (by omega)
theorem mr(n:Int)(h:I64 n):Lib.parseIntB 64 (Lib.itoa n)= .ok n:=by
 unfold I64 at h;by_cases h0:0<=n
 ·obtain⟨u,rfl⟩:=Ei h0;rw[Lib.itoa_nonneg];obtain⟨c,r,hc,h1,h2⟩:=iu u;have hp:=lF u (by omega);rw[hc]at hp⊢;rw[Lib.parseIntB_plain 64 c r (by omega) (by omega),hp];simp only[Lib.signlessC];rw[DS (by omega)]
 ·obtain⟨u,rfl⟩:∃u:Nat,n= -(u:Int):=⟨n.natAbs,by omega⟩;rw[Lib.itoa_neg u (by omega),Lib.parseIntB_minus,lF u (by omega)];simp only[Lib.signedC];rw[DS (by omega)]
theorem kr{n:Int}(h:I64 n):dj (du n)=n:=by
 unfold dj;rw[show(du n).data.toList=Lib.itoa n from rfl,mr n h]
theorem ji{n:Int}(h:I64 n):bY (du n)=true:=by
 unfold bY;rw[show(du n).data.toList=Lib.itoa n from rfl,mr n h];simp
theorem iD(n:Int):∀c∈Lib.itoa n,c≠32:=by
 intro c hc he;subst he;unfold Lib.itoa at hc;split at hc
 ·rcases DY.1 hc with hc|hc
  ·cases hc
  ·have:=dv _ _ hc;simp at this
 ·have:=dv _ _ hc;simp at this
theorem AI:∀n,n<256->Lib.contains UP.data.toList [UInt8.ofNat n]=(decide (65<=n)&&decide (n<=90)):=by decide+kernel
theorem zJ:∀n,n<256->gD.data.toList.contains (UInt8.ofNat n)=((decide (65<=n)&&decide (n<=90))||(decide (97<=n)&&decide (n<=122))):=by decide+kernel
theorem vi:∀n,n<256->dy.data.toList.contains (UInt8.ofNat n)=eY (UInt8.ofNat n):=by decide+kernel
theorem Ct(c:UInt8):Lib.contains UP.data.toList [c]=(decide (65<=c.toNat)&&decide (c.toNat<=90)):=by
 have:=AI c.toNat (UInt8.toNat_lt c);rwa[UInt8.ofNat_toNat]at this
theorem BE(c:UInt8):gD.data.toList.contains c=((decide (65<=c.toNat)&&decide (c.toNat<=90))||(decide (97<=c.toNat)&&decide (c.toNat<=122))):=by
 have:=zJ c.toNat (UInt8.toNat_lt c);rwa[UInt8.ofNat_toNat]at this
theorem yL(c:UInt8):dy.data.toList.contains c=eY c:=by
 have:=vi c.toNat (UInt8.toNat_lt c);rwa[UInt8.ofNat_toNat]at this
theorem zO{s:ByteArray}{c:UInt8}{l:List UInt8}(h:s.data.toList=c::l):qr s=(decide (65<=c.toNat)&&decide (c.toNat<=90)):=by
 unfold qr
 have:(s.extract 0 1).data.toList=[c]:=by
  rw[EO,F0,EH,h];simp
 rw[this,Ct]
theorem vA{α:Type}(p:α->Bool):∀l:List α,l=l.takeWhile p↔l.all p=true
 |[]=>by simp
 |c::l=>by
  cases h:p c with
  |true=>
   rw[EV h,List.all_cons,h,Ft];simpa using vA p l
  |false=>
   rw[List.takeWhile_cons_of_neg (by simp[h]),List.all_cons,h];simp
theorem ze(s:ByteArray):s=bM s dy↔s.data.toList.all eY=true:=by
 have hr:=gt s dy
 have hw:(dy.data.toList.contains ·)=eY:=by
  funext c
  exact yL c
 rw[hw]at hr;rw[<-vA eY s.data.toList];constructor
 ·intro h;rw[<-h]at hr;exact hr
 ·intro h;refine Eh ?_;rw[hr];exact h
def isB(s:ByteArray)(k:Int):Bool:=if k=2 then gZ s else gN s
theorem qb(s:ByteArray)(k:Int)(hk:k=2\/k=3):fG s k s↔isB s k=true:=by
 unfold fG isB gZ gN aO;cases hs:s.data.toList with
 |nil=>rcases hk with rfl|rfl<;>simp
 |cons c l=>
  have hu:=zO hs;have hl:=BE c;have hr:=ze s;rw[hs]at hr;constructor
  ·rintro⟨c',l',h1,h2,h3,h4,h5,h6⟩;simp only[List.cons.injEq]at h1;obtain⟨rfl,rfl⟩:=h1;have h7:=hr.1 h3;rw[h2]at hl;rw[hu]at h6;rcases hk with rfl|rfl
   ·rw[Ed rfl];simp only[h7,h5,h4,decide_true,Ft,Bool.not_false,Bool.and_true,Ee,Ep]
    have h8:¬(65<=c.toNat/\c.toNat<=90):=λh=>by
     simp[h]at h6
    simp at hl;omega
   ·rw[DS (by decide)];simp only[h7,h5,h4,decide_true,Ft,Bool.not_false,Bool.and_true,Ee,Ep]
    have h8:(65<=c.toNat/\c.toNat<=90):=by
     by_cases h9:65<=c.toNat/\c.toNat<=90
     ·exact h9
     ·have:(decide (65<=c.toNat)&&decide (c.toNat<=90))=false:=by simpa using h9
      rw[this]at h6;simp at h6
    omega
  ·intro h;refine⟨c,l,rfl,?_⟩;rcases hk with rfl|rfl
   ·rw[Ed rfl]at h;simp only[Ee,Ep,FE]at h;obtain⟨⟨⟨⟨h1,h2⟩,h3⟩,h4⟩,h5⟩:=h;refine⟨?_,hr.2 h5,h1,h4,?_⟩
    ·rw[hl];simp;omega
    ·rw[hu,DS];simp;omega
   ·rw[DS (by decide)]at h;simp only[Ee,Ep,FE]at h;obtain⟨⟨⟨⟨h1,h2⟩,h3⟩,h4⟩,h5⟩:=h;refine⟨?_,hr.2 h5,h1,h4,?_⟩
    ·rw[hl];simp;omega
    ·rw[hu,Ed];simp;omega
theorem qt{s:ByteArray}{k:Int}(h:isB s k=true):∀c∈s.data.toList,c≠32:=by
 have hall:s.data.toList.all eY=true:=by
  unfold isB gZ gN aO at h
  split at h<;>(cases hs:s.data.toList with
   |nil=>rfl
   |cons c l=>
    rw[hs]at h;simp only[Ee]at h;exact h.2)
 intro c hc he;subst he;have:=Ec.1 hall _ hc;revert this;decide
def jH(d:Ad):PD->Bool
 | .numA lo hi=>decide (lo<=d.a)&&decide (d.a<=hi)
 | .numB lo hi=>decide (lo<=d.b)&&decide (d.b<=hi)
 | .nam k=>isB d.nm k
 | .met k=>isB d.mt k
 | .surv=>decide (d.surv.length<=20)&&d.surv.all countB
 | .rest most=>decide ((d.args.length:Int)<=most)&&eU d.args
def clr(d:Ad):PD->Ad
 | .numA _ _=>{d with a:=0}
 | .numB _ _=>{d with b:=0}
 | .nam _=>{d with nm:=⟨#[]⟩}
 | .met _=>{d with mt:=⟨#[]⟩}
 | .surv=>{d with surv:=[]}
 | .rest _=>{d with args:=[]}
def ko(d:Ad):Bool:=de d false false false false false false
def kq(d:Ad)(fd:FD):Bool:=fd.pds.all (jH d)&&ko (fd.pds.foldl clr d)
def dG(k:Int):Option FD:=au.find? λf=>f.k==k
def okD(d:Ad):Bool:=match dG d.k with|none=>false|some f=>kq d f
theorem fP{k:Int}{f:FD}(h:dG k=some f):0<=k/\k<=15:=by
 have h1:=List.mem_of_find?_eq_some h;have h2:=List.find?_some h;have h3:f.k=k:=by simpa using h2
 subst h3;unfold au at h1;simp only[DY,DX,Ew]at h1;rcases h1 with rfl|rfl|rfl|rfl|rfl|rfl|rfl|rfl|rfl|rfl|rfl|rfl|rfl|rfl|rfl|rfl<;>decide
theorem eC(d:Ad):okD d=ay d:=by
 by_cases hk:0<=d.k/\d.k<=15
 ·obtain⟨k,a,b,nm,mt,zs,ys⟩:=d;dsimp only at hk;obtain⟨q,rfl⟩:=Ei hk.1;obtain rfl|rfl|rfl|rfl|rfl|rfl|rfl|rfl|rfl|rfl|rfl|rfl|rfl|rfl|rfl|rfl:q=0\/q=1\/q=2\/q=3\/q=4\/q=5\/q=6\/q=7\/q=8\/q=9\/q=10\/q=11\/q=12\/q=13\/q=14\/q=15:=by omega
  all_goals
   simp(decide:=true) [okD,dG,au,kq,List.find?,jH,clr,ko,de,ay,cB,bq,countB,isB];try generalize gZ nm=x1
   try generalize gN mt=x2
   try generalize gZ mt=x3
   try generalize eU zs=x4
   try generalize ys.all countB=x5
   grind
 ·have h1:dG d.k=none:=by
   cases h:dG d.k with
   |none=>rfl
   |some f=>exact absurd (fP h) hk
  unfold okD;rw[h1];cases hv:ay d with
  |false=>rfl
  |true=>
   obtain⟨q,h2,h3⟩:=kS hv;omega
theorem jD(B:Nat)(w0:World):∃(T:Type) (f:T->World),Nonempty T/\(∀x,Below B w0 (f x))/\(∀W,Below B w0 W->∃x,W=f x):=
 ⟨{W//Below B w0 W},Subtype.val,⟨⟨w0,DN _ _⟩⟩,λx=>x.2,λW h=>⟨⟨W,h⟩,rfl⟩⟩
theorem gi{T:Type}(f:T->World){id:Nat}{l:List Oper}(hm:P.follows .mixedOrders=true)(hB:Region.lexB .any l.toArray=true)(hC:∃x,w.drew=f x)
 (h:wpQuiet P l.toArray (λW=>∃x,W=f x) (λa'=>∀w',(∃x,w'=f x)->Q .normal a' w') l a):(Code.region id l.toArray true).wp P Q a w:=
 wp_region_quiet (C:=λW=>∃x,W=f x) hm hB hC (by simpa using h)
theorem kT{ts:List (Int×ByteArray×Int×Int)}{x:Int×ByteArray×Int×Int}(h:ts[0]?=some x):(fU ts)[0]?=some (.int .i64 x.1)/\(fU ts)[1]?=some (.string x.2.1):=by
 cases ts with
 |nil=>simp at h
 |cons y ys=>
  simp at h;subst h;simp[fU,Ao]
theorem CN(s:ByteArray)(k:Int)(hk:k=2\/k=3)(w:World)(hg:Gl w):Calls Tryz.prog 183 #[.string s,.int .i64 k] w λe w'=>e= .returned (.bool (isB s k))/\Below w.heap.size w w':=by
 have HN:=H_ (qb s k hk);have HK:=H_ hk;by_cases hs:s.size<=16384
 ·have HC:=H_ (rj s w hg hs);clear hg hk;go_enter Tryz.func183,Tryz.ntmps183;go_wp2_with fail;refine HC.out.mono ?_;rintro e' w1 ⟨v,ts,p,e,rfl,b1,h1,h2,_⟩;have HB:=H_ b1;have HX:=H_ h2;clear HC b1 h2;by_cases he:e=0
  ·subst he;obtain⟨h3,h4,h5⟩:=h1 rfl;by_cases hl:ts.length=2
   ·obtain⟨k',t,x,y,R,ht,hsk,hle,hna⟩:=h5 (by omega);have HY:=H_ (And.intro ht (And.intro hsk (And.intro hle hna)));rw[hl]at h3
    obtain⟨g,cap,rfl⟩:∃g cap,v= .slice (some ⟨g,0,none⟩) 2 cap:=by
     rcases h3.2 with⟨_,h0⟩|⟨g,cap,cur,hv,_⟩
     ·omega
     ·exact⟨g,cap,hv⟩
    obtain⟨t0,t1⟩:=kT ht
    have c0:w1.cell? ⟨g,0,none⟩=some (.int .i64 k'):=by
     have:=h3.cells (g:=g) rfl 0 _ t0;rwa[dh]at this
    have c1:w1.cell? ⟨g,1,none⟩=some (.string t):=by
     have:=h3.cells (g:=g) rfl 1 _ t1;rwa[dh]at this
    clear h1 h3 h4 h5 ht hsk hle hna t0 t1;by_cases hk':k'=k
    ·subst hk';have e1:=FK k';by_cases hts:t=s
     ·subst hts
      have hb:isB t k'=true:=by
       refine HN.out.1 ?_;obtain⟨q1,q2,q3,q4⟩:=HY.out;have hR:=q2.1.eq q3;have q5:=q4 HK.out;rwa[hR]at q5
      have HBB:=H_ hb;clear hb;go_wp2_with fail;go_ret;exact⟨aa HBB.out.symm,HB.out⟩
     ·have hb:isB s k'=false:=by
       cases hb:isB s k' with
       |false=>rfl
       |true=>
        obtain⟨_,_,x',y',q⟩:=HX.out _ (HN.out.2 hb);rw[HY.out.1]at q;simp only[Option.some.injEq,Prod.mk.injEq]at q;exact absurd q.2.1 hts
      have HBB:=H_ hb;have hne:=DM.2 λe=>hts (eK e);clear hb;go_wp2_with fail;go_ret;exact⟨aa HBB.out.symm,HB.out⟩
    ·have hb:isB s k=false:=by
      cases hb:isB s k with
      |false=>rfl
      |true=>
       obtain⟨_,_,x',y',q⟩:=HX.out _ (HN.out.2 hb);rw[HY.out.1]at q;simp only[Option.some.injEq,Prod.mk.injEq]at q;exact absurd q.1 hk'
     have HBB:=H_ hb;have hne:=DM.2 hk';clear hb;go_wp2_with fail;go_ret;exact⟨aa HBB.out.symm,HB.out⟩
   ·have hb:isB s k=false:=by
     cases hb:isB s k with
     |false=>rfl
     |true=>exact absurd (HX.out _ (HN.out.2 hb)).2.1 hl
    have HBB:=H_ hb
    obtain⟨A,c,hv⟩:∃A c,v= .slice A ts.length c:=by
     obtain⟨A,c,⟨hv,_⟩|⟨hv,h0⟩⟩:=eh h3
     ·exact⟨A,c,hv⟩
     ·exact⟨none,0,by rw[hv,h0]⟩
    subst hv;have hne:((ts.length:Int)==2)=false:=DM.2 (by omega);generalize ts.length=n at hne⊢;clear h1 h3 h4 h5 hb;go_wp2_with fail;go_ret;exact⟨aa HBB.out.symm,HB.out⟩
  ·have hb:isB s k=false:=by
    cases hb:isB s k with
    |false=>rfl
    |true=>exact absurd (HX.out _ (HN.out.2 hb)).1 he
   have HBB:=H_ hb;have hne:=DM.2 he;clear h1 hb;go_wp2_with fail;go_ret;exact⟨aa HBB.out.symm,HB.out⟩
 ·have hb:isB s k=false:=by
   cases hb:isB s k with
   |false=>rfl
   |true=>
    obtain⟨_,_,_,_,_,h31,_⟩:=HN.out.2 hb;omega
  have HBB:=H_ hb;have HC:=H_ (ig s w (by omega));clear hg hk hs hb;go_enter Tryz.func183,Tryz.ntmps183;go_wp2_with fail;refine HC.out.mono ?_;rintro e' w1 ⟨rfl,rfl⟩;go_wp2_with fail;go_ret;exact⟨aa HBB.out.symm,DN _ _⟩
theorem xm(v:Av)(b0 b1:Nat)(k:Int)(hk:k=2\/k=3)(w:World)(hg:Gl w)(h0:Blk w b0 196 #[fnv 123])(h1:Blk w b1 3 #[.int .i64 k]):
 Calls Tryz.prog 182 #[.agg v.cells,.pointer (some ⟨b0,0,none⟩),.pointer (some ⟨b1,0,none⟩)] w λe w'=>e= .returned (.bool (isB v.nm k))/\Below w.heap.size w w':=by
 unfold Av.cells;have hbel:Below w.heap.size w (w.alloc (.cells #[.int .i64 v.k,.int .i64 v.a,.int .i64 v.b,.string v.nm,.string v.mt,.slice v.A v.n v.c,.slice v.A2 v.n2 v.c2] 48)):=(DN _ _).alloc (DK _) _;have hb3:=Blk.new w 48 #[.int .i64 v.k,.int .i64 v.a,.int .i64 v.b,.string v.nm,.string v.mt,.slice v.A v.n v.c,.slice v.A2 v.n2 v.c2];have hg':=hg.below hbel;have h0':=h0.below hbel h0.lt;have h1':=h1.below hbel h1.lt;have HB:=H_ hbel;clear hg h0 h1 hbel;go_enter Tryz.func182,Tryz.ntmps182;go_upto_region 1 with(fail);generalize w.alloc (.cells #[.int .i64 v.k,.int .i64 v.a,.int .i64 v.b,.string v.nm,.string v.mt,.slice v.A v.n v.c,.slice v.A2 v.n2 v.c2] 48)=W at*
 obtain⟨T,f,hne,hf,hcov⟩:=jD W.heap.size W;have c0:∀x,(f x).cell? ⟨b0,0,none⟩=some (.func (.func 123) #[] #[]):=λx=>(h0'.below (hf x) h0'.lt).cell 0;have c1:=λx=>(h1'.below (hf x) h1'.lt).k0;have c3:=λx=>(hb3.below (hf x) hb3.lt).k3
 have hfield:∀x,Calls Tryz.prog 123 #[.pointer (some ⟨w.heap.size,0,none⟩)] (f x) (λe w''=>e= .returned (.pointer (some ⟨w.heap.size,3,none⟩))/\∃y,w''=f y):=λx=>
  (jS _ _).mono λe w6 h6=>⟨h6.1,x,h6.2⟩
 have his:∀x,Calls Tryz.prog 183 #[.string v.nm,.int .i64 k] (f x) (λe w''=>e= .returned (.bool (isB v.nm k))/\∃y,w''=f y):=λx=>
  (CN _ _ hk _ (GlB.gl (GlB.below hg' (hf x)))).mono λe w6 h6=>⟨h6.1,hcov _ ((hf x).trans (h6.2.mono (hf x).size))⟩
 have HF:=H_ hf;have HCOV:=H_ hcov;have HFI:=H_ hfield;have HIS:=H_ his;clear hf hcov hfield his hg' h0' h1' hb3;refine gi f (by kernel_rfl) (by kernel_rfl) (HCOV.out _ (DN _ _).drew) ?_;repeat (go_big_quiet_step (first|(go_at_call 123;exact HFI.out _)|(go_at_call 183;exact HIS.out _)))
 refine Fp ?_;intro _ hw';obtain⟨xq,hw''⟩:=hw';subst hw'';go_wp2_with fail;go_ret;exact⟨rfl,HB.out.trans ((HF.out xq).mono HB.out.size)⟩
theorem xj(v:Av)(b0 b1:Nat)(k:Int)(hk:k=2\/k=3)(w:World)(hg:Gl w)(h0:Blk w b0 196 #[fnv 124])(h1:Blk w b1 3 #[.int .i64 k]):
 Calls Tryz.prog 182 #[.agg v.cells,.pointer (some ⟨b0,0,none⟩),.pointer (some ⟨b1,0,none⟩)] w λe w'=>e= .returned (.bool (isB v.mt k))/\Below w.heap.size w w':=by
 unfold Av.cells;have hbel:Below w.heap.size w (w.alloc (.cells #[.int .i64 v.k,.int .i64 v.a,.int .i64 v.b,.string v.nm,.string v.mt,.slice v.A v.n v.c,.slice v.A2 v.n2 v.c2] 48)):=(DN _ _).alloc (DK _) _;have hb3:=Blk.new w 48 #[.int .i64 v.k,.int .i64 v.a,.int .i64 v.b,.string v.nm,.string v.mt,.slice v.A v.n v.c,.slice v.A2 v.n2 v.c2];have hg':=hg.below hbel;have h0':=h0.below hbel h0.lt;have h1':=h1.below hbel h1.lt;have HB:=H_ hbel;clear hg h0 h1 hbel;go_enter Tryz.func182,Tryz.ntmps182;go_upto_region 1 with(fail);generalize w.alloc (.cells #[.int .i64 v.k,.int .i64 v.a,.int .i64 v.b,.string v.nm,.string v.mt,.slice v.A v.n v.c,.slice v.A2 v.n2 v.c2] 48)=W at*
 obtain⟨T,f,hne,hf,hcov⟩:=jD W.heap.size W;have c0:∀x,(f x).cell? ⟨b0,0,none⟩=some (.func (.func 124) #[] #[]):=λx=>(h0'.below (hf x) h0'.lt).cell 0;have c1:=λx=>(h1'.below (hf x) h1'.lt).k0;have c3:=λx=>(hb3.below (hf x) hb3.lt).k4
 have hfield:∀x,Calls Tryz.prog 124 #[.pointer (some ⟨w.heap.size,0,none⟩)] (f x) (λe w''=>e= .returned (.pointer (some ⟨w.heap.size,4,none⟩))/\∃y,w''=f y):=λx=>
  (jR _ _).mono λe w6 h6=>⟨h6.1,x,h6.2⟩
 have his:∀x,Calls Tryz.prog 183 #[.string v.mt,.int .i64 k] (f x) (λe w''=>e= .returned (.bool (isB v.mt k))/\∃y,w''=f y):=λx=>
  (CN _ _ hk _ (GlB.gl (GlB.below hg' (hf x)))).mono λe w6 h6=>⟨h6.1,hcov _ ((hf x).trans (h6.2.mono (hf x).size))⟩
 have HF:=H_ hf;have HCOV:=H_ hcov;have HFI:=H_ hfield;have HIS:=H_ his;clear hf hcov hfield his hg' h0' h1' hb3;refine gi f (by kernel_rfl) (by kernel_rfl) (HCOV.out _ (DN _ _).drew) ?_;repeat (go_big_quiet_step (first|(go_at_call 124;exact HFI.out _)|(go_at_call 183;exact HIS.out _)))
 refine Fp ?_;intro _ hw';obtain⟨xq,hw''⟩:=hw';subst hw'';go_wp2_with fail;go_ret;exact⟨rfl,HB.out.trans ((HF.out xq).mono HB.out.size)⟩
theorem vD(s:ByteArray)(k:Int)(hk:k=2\/k=3)(w:World)(hg:Gl w):Calls Tryz.prog 148 #[.string s,.int .i64 k] w λe w'=>e= .returned (.bool (isB s k))/\Below w.heap.size w w':=by
 have HN:=H_ (qb s k hk);have HK:=H_ hk;by_cases hs:s.size<=16384
 ·have HC:=H_ (rj s w hg hs);clear hg hk;go_enter Tryz.func148,Tryz.ntmps148;go_wp2_with fail;refine HC.out.mono ?_;rintro e' w1 ⟨v,ts,p,e,rfl,b1,h1,h2,h6⟩;have HB:=H_ b1;have HX:=H_ h2;clear HC b1 h2;by_cases he:e=0
  ·subst he;obtain⟨h3,h4,h5⟩:=h1 rfl
   obtain⟨g,cap,rfl⟩:∃g cap,v= .slice (some ⟨g,0,none⟩) ts.length cap:=by
    rcases h3.2 with⟨_,h0⟩|⟨g,cap,cur,hv,_⟩
    ·omega
    ·exact⟨g,cap,hv⟩
   obtain⟨⟨k',t,x,y⟩,ht⟩:∃q,ts[0]?=some q:=⟨_,DT (by omega)⟩;obtain⟨t0,t1⟩:=kT ht
   have c0:w1.cell? ⟨g,0,none⟩=some (.int .i64 k'):=by
    have:=h3.cells (g:=g) rfl 0 _ t0;rwa[dh]at this
   have c1:w1.cell? ⟨g,1,none⟩=some (.string t):=by
    have:=h3.cells (g:=g) rfl 1 _ t1;rwa[dh]at this
   have HY:=H_ ht
   have HYN:Hid (k'=k->t=s->isB s k=true):=H_ λe1 e2=>by
    subst e1 e2;refine HN.out.1 ?_;by_cases hl:2<=ts.length
    ·obtain⟨k2,t2,x2,y2,R,q1,q2,q3,q4⟩:=h5 hl;rw[ht]at q1;simp only[Option.some.injEq,Prod.mk.injEq]at q1;obtain⟨rfl,rfl,_,_⟩:=q1;have hR:=q2.1.eq q3;have q5:=q4 HK.out;rwa[hR]at q5
    ·exfalso;cases hs:dK t.data.toList with
     |err p' e''=>rw[hs]at h6;exact h6.2.2 rfl
     |toks T=>
      rw[hs]at h6;obtain⟨_,_,rfl⟩:=h6;have:=(jd hs).2.2.2.1;rw[show ts.length-1=0 by omega,Es,ht]at this;have h0:k'=0:=this;rcases HK.out with h|h<;>omega
   have hn0:(1:Int)<=(ts.length:Int):=by omega
   have hn1:0<ts.length:=by omega
   generalize ts.length=n at*
   clear h1 h3 h4 h5 h6 t0 t1 ht;by_cases hk':k'=k
   ·subst hk';have e1:=FK k';by_cases hts:t=s
    ·subst hts;have HBB:=H_ (HYN.out rfl rfl);go_wp2_with fail;go_ret;exact⟨aa HBB.out.symm,HB.out⟩
    ·have hb:isB s k'=false:=by
      cases hb:isB s k' with
      |false=>rfl
      |true=>
       obtain⟨_,_,x',y',q⟩:=HX.out _ (HN.out.2 hb);rw[HY.out]at q;simp only[Option.some.injEq,Prod.mk.injEq]at q;exact absurd q.2.1 hts
     have HBB:=H_ hb;have hne:=DM.2 λe=>hts (eK e);clear hb;go_wp2_with fail;go_ret;exact⟨aa HBB.out.symm,HB.out⟩
   ·have hb:isB s k=false:=by
     cases hb:isB s k with
     |false=>rfl
     |true=>
      obtain⟨_,_,x',y',q⟩:=HX.out _ (HN.out.2 hb);rw[HY.out]at q;simp only[Option.some.injEq,Prod.mk.injEq]at q;exact absurd q.1 hk'
    have HBB:=H_ hb;have hne:=DM.2 hk';clear hb;go_wp2_with fail;go_ret;exact⟨aa HBB.out.symm,HB.out⟩
  ·have hb:isB s k=false:=by
    cases hb:isB s k with
    |false=>rfl
    |true=>exact absurd (HX.out _ (HN.out.2 hb)).1 he
   have HBB:=H_ hb;have hne:=DM.2 he;clear h1 hb h6;go_wp2_with fail;go_ret;exact⟨aa HBB.out.symm,HB.out⟩
 ·have hb:isB s k=false:=by
   cases hb:isB s k with
   |false=>rfl
   |true=>
    obtain⟨_,_,_,_,_,h31,_⟩:=HN.out.2 hb;omega
  have HBB:=H_ hb;have HC:=H_ (ig s w (by omega));clear hg hk hs hb;go_enter Tryz.func148,Tryz.ntmps148;go_wp2_with fail;refine HC.out.mono ?_;rintro e' w1 ⟨rfl,rfl⟩;go_wp2_with fail;go_ret;exact⟨aa HBB.out.symm,DN _ _⟩
theorem pu(s:ByteArray)(w:World)(hg:Gl w):Calls Tryz.prog 98 #[.string s] w λe w'=>e= .returned (.bool (aO s 97 122))/\Below w.heap.size w w':=by
 have HC:=H_ (vD s 2 (.inl rfl) w hg);clear hg;go_enter Tryz.func98,Tryz.ntmps98;go_wp2_with fail;refine HC.out.mono ?_;rintro e w1 ⟨rfl,b1⟩;have HB:=H_ b1;clear b1;go_wp2_with fail;go_ret;exact⟨rfl,HB.out⟩
theorem ye(s:ByteArray)(w:World)(hg:Gl w):Calls Tryz.prog 104 #[.string s] w λe w'=>e= .returned (.bool (aO s 65 90))/\Below w.heap.size w w':=by
 have HC:=H_ (vD s 3 (.inr rfl) w hg);clear hg;go_enter Tryz.func104,Tryz.ntmps104;go_wp2_with fail;refine HC.out.mono ?_;rintro e w1 ⟨rfl,b1⟩;have HB:=H_ b1;clear b1;go_wp2_with fail;go_ret;exact⟨rfl,HB.out⟩
end
end Go.Proofs.YtjpbckbpeblibaaGreatDoor
