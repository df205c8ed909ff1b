/- part of a proof -/
import Derived.Test.YtjpbckbpeblibaaGreatDoorCC20
import Derived.Laws.StructEq
namespace Go.Proofs.YtjpbckbpeblibaaGreatDoor
set_option linter.unusedVariables false
set_option linter.unusedSimpArgs false
set_option maxRecDepth 100000
set_option maxHeartbeats 64000000
section
open Go.RowKit Go.Shelf
variable{B B0 D g:Nat}{W w w':World}{cs:Array Value}
theorem Ff:type_of% @KeepsOthers.setCell:=@KeepsOthers.setCell
theorem Fq:type_of% @World.alloc_heap_new:=@World.alloc_heap_new
def SV(w:World)(G:Nat->Prop)(x:Sc)(v:Value):Prop:=∃A n c A2 n2 c2,v= .agg #[.int .i64 x.m,.int .u64 x.sd,.int .i64 x.y,.slice A n c,.slice A2 n2 c2]/\Sl kCl w G x.cs A n/\Sl kAd w G x.ac A2 n2
def zSv:Value:= .agg #[.int .i64 0,.int .u64 0,.int .i64 0,.slice none 0 0,.slice none 0 0]
def DH(s:ByteArray)(w:World)(e:Ending)(w':World):Prop:=Below w.heap.size w w'/\match ei s with
 | .err q er=>e= .returned (.tuple #[zSv,.int .i64 (q:Int),.int .i64 er])/\er≠0
 | .ok x=>∃v,e= .returned (.tuple #[v,.int .i64 0,.int .i64 0])/\SV w' (λb=>b<w'.heap.size) x v
theorem zF(s:ByteArray)(w:World):Calls Tryz.prog 19 #[.string s] w λe w'=>e= .returned (.func (.func 47) #[] #[.pointer (some ⟨w.heap.size,0,none⟩)])/\w'=w.alloc (.cells #[.string s] 9):=by
 go_enter Tryz.func19,Tryz.ntmps19;go_wp2_with fail;go_ret;exact⟨rfl,rfl⟩
theorem bU{k:Nat}{o:Obj}(h:w.heap[k]?=some o)(o':Obj):(w.alloc o').heap[k]?=some o:=(EA w o' k (Ef.1 h).1).trans h
theorem Cd(w:World)(o0 o1 o2 o3 o4 o5 o6:Obj):∃W,((((((w.alloc o0).alloc o1).alloc o2).alloc o3).alloc o4).alloc o5).alloc o6=W/\W.heap[w.heap.size]?=some o0/\W.heap[w.heap.size+1]?=some o1/\W.heap[w.heap.size+2]?=some o2/\W.heap[w.heap.size+3]?=some o3/\
 W.heap[w.heap.size+4]?=some o4/\W.heap[w.heap.size+5]?=some o5/\W.heap[w.heap.size+6]?=some o6/\W.heap.size=w.heap.size+7/\Below w.heap.size w W:=by
 obtain⟨w1,e1⟩:=nm_ (w.alloc o0);have s1:w1.heap.size=w.heap.size+1:=by rw[<-e1];simp
 have b1:Below w.heap.size w w1:=e1▸(DN _ _).alloc (DK _) _;have n0:w1.heap[w.heap.size]?=some o0:=by have h:=Fq w o0;rw[e1]at h;exact h
 obtain⟨w2,e2⟩:=nm_ (w1.alloc o1);have s2:w2.heap.size=w.heap.size+2:=by rw[<-e2];simp[s1]
 have b2:Below w.heap.size w w2:=e2▸b1.alloc b1.size _;have n1:w2.heap[w.heap.size+1]?=some o1:=by have h:=Fq w1 o1;rw[e2,s1]at h;exact h
 replace n0:w2.heap[w.heap.size]?=some o0:=e2▸bU n0 _;obtain⟨w3,e3⟩:=nm_ (w2.alloc o2);have s3:w3.heap.size=w.heap.size+3:=by rw[<-e3];simp[s2]
 have b3:Below w.heap.size w w3:=e3▸b2.alloc b2.size _;have n2:w3.heap[w.heap.size+2]?=some o2:=by have h:=Fq w2 o2;rw[e3,s2]at h;exact h
 replace n0:w3.heap[w.heap.size]?=some o0:=e3▸bU n0 _;replace n1:w3.heap[w.heap.size+1]?=some o1:=e3▸bU n1 _;obtain⟨w4,e4⟩:=nm_ (w3.alloc o3);have s4:w4.heap.size=w.heap.size+4:=by rw[<-e4];simp[s3]
 have b4:Below w.heap.size w w4:=e4▸b3.alloc b3.size _;have n3:w4.heap[w.heap.size+3]?=some o3:=by have h:=Fq w3 o3;rw[e4,s3]at h;exact h
 replace n0:w4.heap[w.heap.size]?=some o0:=e4▸bU n0 _;replace n1:w4.heap[w.heap.size+1]?=some o1:=e4▸bU n1 _;replace n2:w4.heap[w.heap.size+2]?=some o2:=e4▸bU n2 _;obtain⟨w5,e5⟩:=nm_ (w4.alloc o4);have s5:w5.heap.size=w.heap.size+5:=by rw[<-e5];simp[s4]
 have b5:Below w.heap.size w w5:=e5▸b4.alloc b4.size _;have n4:w5.heap[w.heap.size+4]?=some o4:=by have h:=Fq w4 o4;rw[e5,s4]at h;exact h
 replace n0:w5.heap[w.heap.size]?=some o0:=e5▸bU n0 _;replace n1:w5.heap[w.heap.size+1]?=some o1:=e5▸bU n1 _;replace n2:w5.heap[w.heap.size+2]?=some o2:=e5▸bU n2 _;replace n3:w5.heap[w.heap.size+3]?=some o3:=e5▸bU n3 _;obtain⟨w6,e6⟩:=nm_ (w5.alloc o5);have s6:w6.heap.size=w.heap.size+6:=by rw[<-e6];simp[s5]
 have b6:Below w.heap.size w w6:=e6▸b5.alloc b5.size _;have n5:w6.heap[w.heap.size+5]?=some o5:=by have h:=Fq w5 o5;rw[e6,s5]at h;exact h
 replace n0:w6.heap[w.heap.size]?=some o0:=e6▸bU n0 _;replace n1:w6.heap[w.heap.size+1]?=some o1:=e6▸bU n1 _;replace n2:w6.heap[w.heap.size+2]?=some o2:=e6▸bU n2 _;replace n3:w6.heap[w.heap.size+3]?=some o3:=e6▸bU n3 _;replace n4:w6.heap[w.heap.size+4]?=some o4:=e6▸bU n4 _;obtain⟨w7,e7⟩:=nm_ (w6.alloc o6);have s7:w7.heap.size=w.heap.size+7:=by rw[<-e7];simp[s6]
 have b7:Below w.heap.size w w7:=e7▸b6.alloc b6.size _;have n6:w7.heap[w.heap.size+6]?=some o6:=by have h:=Fq w6 o6;rw[e7,s6]at h;exact h
 replace n0:w7.heap[w.heap.size]?=some o0:=e7▸bU n0 _;replace n1:w7.heap[w.heap.size+1]?=some o1:=e7▸bU n1 _;replace n2:w7.heap[w.heap.size+2]?=some o2:=e7▸bU n2 _;replace n3:w7.heap[w.heap.size+3]?=some o3:=e7▸bU n3 _;replace n4:w7.heap[w.heap.size+4]?=some o4:=e7▸bU n4 _;replace n5:w7.heap[w.heap.size+5]?=some o5:=e7▸bU n5 _;exact⟨w7,by rw[e1,e2,e3,e4,e5,e6,e7],n0,n1,n2,n3,n4,n5,n6,s7,b7⟩
def st7(W:World)(p:Nat)(v0 v1 v2 v3 v4 a er:Value):World:=((((((W.setCell ⟨p,0,none⟩ v0).setCell ⟨p,1,none⟩ v1).setCell ⟨p,2,none⟩ v2).setCell ⟨p,3,none⟩ v3).setCell ⟨p,4,none⟩ v4).setCell ⟨p+1,0,none⟩ a).setCell ⟨p+2,0,none⟩ er
section
variable{W:World}{p:Nat}{u0 u1 u2 u3 u4 u5 u6:Value}
theorem yZ(v0 v1 v2 v3 v4 a er:Value){k:Nat}(hk:k≠p/\k≠p+1/\k≠p+2):(st7 W p v0 v1 v2 v3 v4 a er).heap[k]?=W.heap[k]?:=by
 unfold st7;rw[DZ _ _ _ _ hk.2.2,DZ _ _ _ _ hk.2.1,DZ _ _ _ _ hk.1,DZ _ _ _ _ hk.1,DZ _ _ _ _ hk.1,DZ _ _ _ _ hk.1,DZ _ _ _ _ hk.1]
theorem we(v0 v1 v2 v3 v4 a er:Value):(st7 W p v0 v1 v2 v3 v4 a er).heap.size=W.heap.size:=by simp[st7,World.setCell]
theorem jw(h1:Blk W p 31 #[u0,u1,u2,u3,u4])(h2:Blk W (p+1) 3 #[u5])(h3:Blk W (p+2) 32 #[u6])(v0 v1 v2 v3 v4 a er:Value):
 Blk (st7 W p v0 v1 v2 v3 v4 a er) p 31 #[v0,v1,v2,v3,v4]/\Blk (st7 W p v0 v1 v2 v3 v4 a er) (p+1) 3 #[a]/\Blk (st7 W p v0 v1 v2 v3 v4 a er) (p+2) 32 #[er]/\Below p W (st7 W p v0 v1 v2 v3 v4 a er)/\KeepsOthers W (st7 W p v0 v1 v2 v3 v4 a er):=by
 have g1:=((((h1.set 0 v0).set 1 v1).set 2 v2).set 3 v3).set 4 v4;simp only[EL,Fm,Fl]at g1;have g2:=(((((h2.other ⟨p,0,none⟩ v0 (by simp)).other ⟨p,1,none⟩ v1 (by simp)).other ⟨p,2,none⟩ v2 (by simp)).other ⟨p,3,none⟩ v3 (by simp)).other ⟨p,4,none⟩ v4 (by simp)).set 0 a;have g3:=((((((h3.other ⟨p,0,none⟩ v0 (by simp)).other ⟨p,1,none⟩ v1 (by simp)).other ⟨p,2,none⟩ v2 (by simp)).other ⟨p,3,none⟩ v3 (by simp)).other ⟨p,4,none⟩ v4 (by simp)).other ⟨p+1,0,none⟩ a (by simp)).set 0 er;refine⟨(g1.other ⟨p+1,0,none⟩ a (by simp)).other ⟨p+2,0,none⟩ er (by simp),g2.other ⟨p+2,0,none⟩ er (by simp),g3,?_,?_⟩
 ·exact(((((((DN p W).setCell (p:=⟨p,0,none⟩) (DK _) v0).setCell (p:=⟨p,1,none⟩) (DK _) v1).setCell (p:=⟨p,2,none⟩) (DK _) v2).setCell (p:=⟨p,3,none⟩) (DK _) v3).setCell (p:=⟨p,4,none⟩) (DK _) v4).setCell (p:=⟨p+1,0,none⟩) (Nat.le_succ _) a).setCell (p:=⟨p+2,0,none⟩) (Nat.le_add_right _ _) er
 ·exact((((((Ff _ _ _).trans (Ff _ _ _)).trans (Ff _ _ _)).trans (Ff _ _ _)).trans (Ff _ _ _)).trans (Ff _ _ _)).trans (Ff _ _ _)
theorem results8(tmps:Array Value)(h1:Blk W p 31 #[u0,u1,u2,u3,u4])(h2:Blk W (p+1) 3 #[u5])(h3:Blk W (p+2) 32 #[u6])(e2:tmps.getD 2 undef= .pointer (some ⟨p,0,none⟩))(e3:tmps.getD 3 undef= .pointer (some ⟨p+1,0,none⟩))(e4:tmps.getD 4 undef= .pointer (some ⟨p+2,0,none⟩)):
 (results Tryz.f8 tmps).run Tryz.prog W= .ok (.tuple #[.agg #[u0,u1,u2,u3,u4],u5,u6]) W:=by
 have g0:=h1.cell 0;have g1:=h1.cell 1;have g2:=h1.cell 2;have g3:=h1.cell 3;have g4:=h1.cell 4;have c1:=h2.cell 0;have c2:=h3.cell 0;have e2':tmps[2]?.getD undef= .pointer (some ⟨p,0,none⟩):=by simpa using e2
 have e3':tmps[3]?.getD undef= .pointer (some ⟨p+1,0,none⟩):=by simpa using e3
 have e4':tmps[4]?.getD undef= .pointer (some ⟨p+2,0,none⟩):=by simpa using e4
 simp[results,Tryz.results8,go_sem,e2',e3',e4',asAddr,g0,g1,g2,g3,g4,c1,c2]
end
theorem gu{p:Nat}{u0 u1 u2 u3 u4 u5 u6:Value}(tmps:Array Value)(h1:Blk W p 31 #[u0,u1,u2,u3,u4])(h2:Blk W (p+1) 3 #[u5])(h3:Blk W (p+2) 32 #[u6])(hK:W.heap[D]?=some (.deferred (some [])))
 (e2:tmps.getD 2 undef= .pointer (some ⟨p,0,none⟩)) (e3:tmps.getD 3 undef= .pointer (some ⟨p+1,0,none⟩)) (e4:tmps.getD 4 undef= .pointer (some ⟨p+2,0,none⟩)):
 (results Tryz.f8 tmps).run Tryz.prog (W.putObj D (.deferred none))= .ok (.tuple #[.agg #[u0,u1,u2,u3,u4],u5,u6]) (W.putObj D (.deferred none)):=by
 have hk:∀{g:Nat} {t:TypeId} {cs:Array Value},Blk W g t cs->Blk (W.putObj D (.deferred none)) g t cs:=λ{g t cs} h=>(World.putObj_heap_other (λe=>(by subst e;rw[show W.heap[g]?=_ from h]at hK;cases hK))).trans h;exact results8 tmps (hk h1) (hk h2) (hk h3) e2 e3 e4
def tn(pre:List NLn):Nat:=(pre.getLast?.map (·.1.1)).getD 0
theorem mA(pre:List NLn)(x:NLn):tn (pre++[x])=x.1.1:=by unfold tn;rw[List.getLast?_concat];rfl
theorem nO{W':World}{row:Option Nat}(hg:W.grownBy W' row)(hr:∀r,row=some r->∃o:Obj,W.heap[r]?=some o/\o.isCells=false){k:Nat}(hc:Cel W k):W'.heap[k]?=W.heap[k]?:=by
 obtain⟨o,ho,hoc⟩:=hc;refine hg.block k (Ef.1 ho).1 λe=>?_;obtain⟨o',ho',hoc'⟩:=hr k e.symm;rw[ho]at ho';cases ho';rw[hoc]at hoc';cases hoc'
theorem xE(ls:List ByteArray)(hls:∀l∈ls,l.size<=40000)(hm:ls.length<40000):∀k,k<=ls.length->tn (upN ls k)=k
 |0,_=>rfl
 |k+1,hk=>by
  have hg:ls[k]?=some ls[k]:=DT (by omega);rw[jq,mA,jU hg (by omega) (hls _ (List.getElem_mem _))]
theorem tK{o:Option Obj}(h:W.heap[D]?=o):W.drew.heap[D]?=o:=h
def ParI(w:World)(B b p:Nat)(pre:List NLn)(W:World):Prop:=((∃q x,jP pre= .go q x/\RdP W B b x q/\PhB pre.length x q)/\Blk W (b+1) 55 #[.pointer (some ⟨b,0,none⟩)]/\Blk W (b+2) 3 #[.int .i64 (tn pre:Int)])/\
 (Blk W p 31 #[.int .i64 0,.int .u64 0,.int .i64 0,.slice none 0 0,.slice none 0 0]/\Blk W (p+1) 3 #[.int .i64 0]/\Blk W (p+2) 32 #[.int .i64 0])/\Below p w W/\B<=W.heap.size
def ParX(w:World)(p:Nat)(c:Code)(pre:List NLn)(W:World):Prop:=c= .ret/\(∃(q:Nat) (er:Int),jP pre= .err q er/\er≠0/\Blk W p 31 #[.int .i64 0,.int .u64 0,.int .i64 0,.slice none 0 0,.slice none 0 0]/\Blk W (p+1) 3 #[.int .i64 (q:Int)]/\Blk W (p+2) 32 #[.int .i64 er])/\Below p w W
theorem ParI.own{b p:Nat}(hp:p<=B0):OwnFrom B0 (ParI w B b p):=λpre W W' row h hg hr=>by
 have hk:∀k,Cel W k->W'.heap[k]?=W.heap[k]?:=λk hc=>nO hg (λr e=>(hr r e).2) hc;have hb:∀{g:Nat} {t:TypeId} {cs:Array Value},Blk W g t cs->Blk W' g t cs:=λh=>(hk _ ⟨_,h,rfl⟩).trans h;obtain⟨⟨⟨q,x,h1,h2,h3⟩,h4,h5⟩,⟨h6,h7,h8⟩,h9,h10⟩:=h;exact⟨⟨⟨q,x,h1,h2.aK hg.size (λk _ _ hc=>hk k hc),h3⟩,hb h4,hb h5⟩,⟨hb h6,hb h7,hb h8⟩,h9.trans ⟨hg.os,hg.tape,hg.output,hg.size,λk hk=>hg.block k (DR hk (by have:=h6.lt;omega)) (λe=>by have:=(hr k e.symm).1;omega)⟩,Ek h10 hg.size⟩
theorem ParX.own{p:Nat}(hp:p<=B0)(c:Code):OwnFrom B0 (ParX w p c):=λpre W W' row h hg hr=>by
 have hk:∀k,Cel W k->W'.heap[k]?=W.heap[k]?:=λk hc=>nO hg (λr e=>(hr r e).2) hc;have hb:∀{g:Nat} {t:TypeId} {cs:Array Value},Blk W g t cs->Blk W' g t cs:=λh=>(hk _ ⟨_,h,rfl⟩).trans h;obtain⟨h0,⟨q,er,h1,h2,h3,h4,h5⟩,h9⟩:=h;exact⟨h0,⟨q,er,h1,h2,hb h3,hb h4,hb h5⟩,h9.trans ⟨hg.os,hg.tape,hg.output,hg.size,λk hk=>hg.block k (by have:=h3.lt;omega) (λe=>by have:=(hr k e.symm).1;omega)⟩⟩
theorem Lk.others{b:Nat}{t:TypeId}(h:Lk B b w w')(hb:Blk w b t cs):KeepsOthers w w':=
 ⟨h.size,λk o hk ho=>(h.block k (Ef.1 hk).1 (λe=>(by subst e;rw[show w.heap[k]?=_ from hb]at hk;cases hk;cases ho)) (λ_ cs fz=>⟨λe=>(by rw[hk]at e;cases e;cases ho),λe=>(by rw[hk]at e;cases e;cases ho)⟩)).trans hk⟩
theorem Lk.kps{b:Nat}(h:Lk B b w w')(hb:Blk w b 60 cs):KpS w w':=
 ⟨h.size,λk cs' hk=>h.block k (Ef.1 hk).1 (λe=>(by subst e;rw[show w.heap[k]?=_ from hb]at hk;cases hk)) (λ_ cs fz=>⟨λe=>(by rw[hk]at e;cases e),λe=>(by rw[hk]at e;cases e)⟩)⟩
theorem Lk.aE{b:Nat}{t:TypeId}(h:Lk B b w w')(hq:Blk w g t cs)(hne:g≠b)(hB:g<B):Blk w' g t cs:=(h.block g hq.lt hne (λh=>by omega)).trans hq
theorem RdP.aE{b:Nat}{x:Sc}{p:Ph}(h:RdP w B b x p):∃cs,Blk w b 60 cs:=by
 cases p with
 |conf k=>exact⟨_,h.1⟩
 |src a f=>obtain⟨sa,sv,hb,_⟩:=h;exact⟨_,hb⟩
 |acts=>obtain⟨A,n,c,u,sa,sv,f,hb,_⟩:=h;exact⟨_,hb⟩
theorem zK{t:TypeId}(hq:Blk w g t cs)(ht:t≠9)(i:Nat)(u:Value):KpS w (w.setCell ⟨g,i,none⟩ u):=
 ⟨by simp[World.setCell],λk cs' hk=>DZ _ _ _ _ (λe=>by
  have e':k=g:=e;subst e';rw[show w.heap[k]?=_ from hq]at hk;cases hk;exact ht rfl)⟩
attribute [local go_sem] Oper.semAt_some
theorem Bi(s:ByteArray)(w:World)(hg:Gl w)(hs:s.size<=39000)(hls:∀l∈ak s,l.size<=40000)(hm:(ak s).length<40000):Calls Tryz.prog 8 #[.string s] w (DH s w):=by
 refine(callsIn_wide (n:=5)).1 ?_;refine callsIn_of_wp_marks Tryz.func8 rfl trivial ?_ rfl;simp only[Tryz.ntmps8,List.size_toArray,DL,DO,Nat.reduceAdd,Nat.reduceSub,Array.replicate_succ,Array.replicate_zero,List.push_toArray,List.append_toArray,EG,EK]
 gi_wp2
 refine⟨trivial,(callsIn_wide.2 (zF s _)).mono ?_⟩;rintro e W0 ⟨rfl,hW0⟩
 obtain⟨W0',hW0',q0,q1,q2,q3,q4,q5,q6,hs0,hb0⟩:=Cd w (.cells #[.int .i64 0,.int .u64 0,.int .i64 0,.slice none 0 0,.slice none 0 0] 31) (.cells #[.int .i64 0] 3) (.cells #[.int .i64 0] 32)
  (.cells #[.int .i64 0,.int .u64 0,.int .i64 0,.slice none 0 0,.slice none 0 0,.int .i64 0,.pointer none,.slice none 0 0,.int .i64 0] 60) (.cells #[.pointer (some ⟨w.heap.size+1+1+1,0,none⟩)] 55) (.cells #[.int .i64 0] 3) (.cells #[.string s] 9)
 rw[hW0']at hW0;subst hW0;have hg0:Gl W0:=GlB.gl (GlB.below hg hb0);have hB0:W0.cell? ⟨w.heap.size+6,0,none⟩=some (.string s):=(show Blk W0 (w.heap.size+6) 9 #[.string s]from q6).cell 0;clear hW0';have HG:=H_ hg
 gi_wp2
 obtain⟨p,hp⟩:=nm_ (w.heap.size);have hst:=qj 4 (by omega) s (p+6) W0 hg0 hs (hp▸hB0) hls hm;simp only[DV,hp,FT,Nat.reduceAdd]at q0 q1 q2 q3 q4 q5 q6 hs0 hb0 hB0⊢
 refine wpIn_rangeFunc_ownF rfl (by omega) (gf:=47) (lb:= #[.pointer (some ⟨p+6,0,none⟩)]) rfl trivial (enters_of Tryz.func47 (by kernel_rfl) rfl) hst KpS.t KpS.b (DN _ _) (λ_=>rfl)
  (ParI w (p+7) (p+3) p) (ParX w p) (ParI.own (by omega)) (ParX.own (by omega)) ?h0 ?a1 ?assign ?body ?done ?stop
 case h0=>
  exact⟨⟨⟨.conf 0,zSc,rfl,⟨q3,rfl,rfl,Ea _⟩,Ea _,λa f e=>by cases e⟩,q4,q5⟩,⟨q0,q1,q2⟩,hb0,by omega⟩
 case a1=>exact λx=>{tmps:= #[.string s,undef,.pointer (some ⟨p,0,none⟩),.pointer (some ⟨p+1,0,none⟩),.pointer (some ⟨p+2,0,none⟩),.pointer (some ⟨p+4,0,none⟩),.pointer (some ⟨p+5,0,none⟩),.int .i64 (x.1.1:Nat),.string x.1.2,undef,undef,undef,undef,.agg #[.int .i64 0,.int .u64 0,.int .i64 0,.slice none 0 0,.slice none 0 0,.int .i64 0,.pointer none,.slice none 0 0,.int .i64 0],.pointer (some ⟨p+3,0,none⟩),.string s,.func (.func 47) #[] #[.pointer (some ⟨p+6,0,none⟩)],.int .i64 (x.1.1:Nat),.string x.1.2,undef,undef,undef,undef,undef,undef,undef,undef,undef,undef,undef,undef,undef,undef,undef,undef,undef,undef,undef,undef,undef,undef,undef,undef,undef,undef,undef,undef,undef,undef,undef,undef,undef,undef,undef,undef,undef,undef,undef,undef],defers:=[]}
 case assign=>
  intro l x W K hK;unfold uQ
  gi_wp2
  exact hK
 case body=>
  rintro l pre x W ⟨⟨⟨q,y,hf,hr,hph⟩,hrb,hlast⟩,⟨z1,z2,z3⟩,hbw,hBs⟩ hlt;have l0:=hlast.cell 0;have lf:=hlast.frozen 0;obtain⟨W1,hW1⟩:=nm_ (W.setCell ⟨p+5,0,none⟩ (.int .i64 (x.1.1:Nat)));have hk1:∀k,k≠p+5->W1.heap[k]?=W.heap[k]?:=λk hk=>hW1▸DZ _ _ _ _ hk;have hs1:W1.heap.size=W.heap.size:=by rw[<-hW1];simp[World.setCell]
  have hr1:RdP W1 (p+7) (p+3) y q:=hr.aK (by omega) (λk hk _ _=>hk1 k (by omega));have rb1:Blk W1 (p+4) 55 #[.pointer (some ⟨p+3,0,none⟩)]:=(hk1 _ (by omega)).trans hrb;have la1:Blk W1 (p+5) 3 #[.int .i64 (x.1.1:Nat)]:=hW1▸hlast.set 0 _;have y1:=(hk1 p (by omega)).trans z1;have y2:=(hk1 (p+1) (by omega)).trans z2;have y3:=(hk1 (p+2) (by omega)).trans z3;have hbw1:Below p w W1:=hbw.trans (hW1▸(DN p W).setCell (p:=⟨p+5,0,none⟩) (by show p<=p+5;omega) _);have hgB:GlB W1 (p+3):=(GlB.below HG.out (hp▸hbw1)).more (by omega) (by omega);have HL:=H_ (Bw (n:=x.1.1) (N:=pre.length) (l:=x.1.2) hr1 hgB (by omega) (by omega) (by have:=x.2.2;omega) (by have:=x.2.1;omega) (by omega) hph);have HO1:=H_ (show KeepsOthers W W1 from hW1▸Ff _ _ _);have HK1:=H_ (show KpS W W1 from hW1▸zK hlast (by decide) 0 _);have HH:=H_ (And.intro hr1 (And.intro rb1 (And.intro la1 (And.intro (show Blk W1 p 31 _ from y1) (And.intro (show Blk W1 (p+1) 3 _ from y2) (And.intro (show Blk W1 (p+2) 32 _ from y3) hbw1))))));have HF:=H_ (And.intro hf hph);have rc:=hrb.cell 0;have HW:=H_ hW1;clear hr hrb hlast z1 z2 z3 hbw hk1 hr1 rb1 la1 y1 y2 y3 hbw1 hgB hf hph hW1
  gi_wp2
  rw[HW.out];refine⟨trivial,(CallsIn.inRound l (callsIn_wide.2 HL.out)).mono ?_⟩;rintro e W2 ⟨l2,hcase⟩;obtain⟨hr1,rb1,la1,y1,y2,y3,hbw1⟩:=HH.out;obtain⟨csb,hcb⟩:=hr1.aE;have HO2:=H_ (HO1.out.trans (l2.others hcb));have HK2:=H_ (HK1.out.t (l2.kps hcb));have hs2:=l2.size;have HB2:=H_ (hbw1.trans (l2.below (by omega) (by omega) (by omega)));have HRB:=H_ (l2.aE rb1 (by omega) (by omega));have HLA:=H_ (l2.aE la1 (by omega) (by omega));have Y1:=H_ (l2.aE y1 (by omega) (by omega));have Y2:=H_ (l2.aE y2 (by omega) (by omega));have Y3:=H_ (l2.aE y3 (by omega) (by omega));have hfo:jP (pre++[x])=bA x.1.1 x.1.2 q y:=by rw[mO,HF.out.1];rfl
  clear l2 hr1 rb1 la1 y1 y2 y3 hbw1 hcb HH HO1 HK1 HL HW rc l0 lf;cases hst:bA x.1.1 x.1.2 q y with
  |err a er=>
   rw[hst]at hcase hfo;obtain⟨rfl,hne⟩:=hcase;have hne2:(er==0)=false:=by simpa using hne
   have HFO:=H_ (And.intro hfo hne);have c0:=Y1.out.cell 0;have c1:=Y1.out.cell 1;have c2:=Y1.out.cell 2;have c3:=Y1.out.cell 3;have c4:=Y1.out.cell 4;obtain⟨f0,f1,f2,f3,f4⟩:=Y1.out.f5;have d0:=Y2.out.cell 0;have d1:=Y2.out.frozen 0;have e0:=Y3.out.cell 0;have e1:=Y3.out.frozen 0;clear hfo hst hne
   gi_wp2
   obtain⟨g1,g2,g3,g4,g5⟩:=jw Y1.out Y2.out Y3.out (.int .i64 0) (.int .u64 0) (.int .i64 0) (.slice none 0 0) (.slice none 0 0) (.int .i64 (a:Int)) (.int .i64 er);exact⟨HO2.out.trans g5,rfl,⟨a,er,HFO.out.1,HFO.out.2,g1,g2,g3⟩,HB2.out.trans g4⟩
  |go p' x'=>
   rw[hst]at hcase hfo;obtain⟨rfl,hr2⟩:=hcase;have HR2:=H_ hr2;have HFO:=H_ hfo;have hph:=HF.out.2.step hst (by have:=x.2.2;omega) (by have:=x.2.1;omega);have HPH:=H_ hph;clear hfo hst hr2 hph
   gi_wp2
   exact⟨HO2.out,HK2.out,⟨⟨p',x',HFO.out,HR2.out,by simpa using HPH.out⟩,HRB.out,by rw[mA];exact HLA.out⟩,⟨Y1.out,Y2.out,Y3.out⟩,HB2.out,by omega⟩
 case done=>
  rintro D xs W hD rfl ⟨⟨⟨q,y,hf,hr,hph⟩,hrb,hlast⟩,⟨z1,z2,z3⟩,hbw,hBs⟩ hK;have hsc:=je (ak s) hls hm _ (DK _);rw[hf,List.drop_length]at hsc;rw[xE _ hls hm _ (DK _)]at hlast;rw[od]at hph;obtain⟨L,hL⟩:=nm_ ((ak s).length);rw[hL]at hsc hlast hph hm;have mixed:Tryz.prog.follows .mixedOrders=true:=by kernel_rfl
  have l0:=hlast.cell 0;have rc:=hrb.cell 0;have rp:=hr.part;have HZ:=H_ (And.intro z1 (And.intro z2 z3));have HSC:=H_ (show ei s=CV L q y from hsc);have HB:=H_ hbw;clear hsc hf hbw;cases q with
  |conf k=>
   have hk3:=hr.2.2.2;have hk4:((k:Int)==4)=false:=DM.2 (by omega);have hk5:(k:Int)<5:=by omega
   have rp':W.cell? ⟨p+3,5,none⟩=some (.int .i64 (k:Int)):=rp;have hwr:IntKind.i64.wrap ((L:Int)+1)=((L+1:Nat):Int):=by rw[Fj _ (by omega)];rfl
   have hsc2:ei s= .err (L+1) 3:=HSC.out;have HS2:=H_ hsc2;have c0:=z1.cell 0;have c1:=z1.cell 1;have c2:=z1.cell 2;have c3:=z1.cell 3;have c4:=z1.cell 4;obtain⟨f0,f1,f2,f3,f4⟩:=z1.f5;have d0:=z2.cell 0;have d1:=z2.frozen 0;have e0:=z3.cell 0;have e1:=z3.frozen 0;have HK:=H_ hK;clear rp hsc2 HSC hr hrb hlast z1 z2 z3 hph hst hK
   gi_wp2
   refine wpIn_wide.2 ?_;go_region_o
   gi_wp2
   obtain⟨g1,g2,g3,g4,g5⟩:=jw HZ.out.1 HZ.out.2.1 HZ.out.2.2 (.int .i64 0) (.int .u64 0) (.int .i64 0) (.slice none 0 0) (.slice none 0 0) (.int .i64 ((L:Int)+1)) (.int .i64 3);have hK2:=g5.same D _ HK.out rfl;unfold st7 at g1 g2 g3 g4 hK2;have HE:=H_ (And.intro (And.intro g1.drew (And.intro g2.drew g3.drew)) (And.intro (Below.drew (HB.out.trans g4)) (tK hK2)));clear g1 g2 g3 g4 g5 hK2;refine⟨by simp,.inl ⟨_,_,rfl,run_takeDeferred (b:=D) HE.out.2.2,?_⟩⟩;refine⟨_,gu _ HE.out.1.1 HE.out.1.2.1 HE.out.1.2.2 HE.out.2.2 rfl rfl rfl,?_,?_⟩
   ·exact hp▸HE.out.2.1.trans (belowK_b (w:=W0) (by omega) _ D _ _ hD HE.out.2.2 rfl rfl)
   ·rw[HS2.out];exact⟨rfl,by decide⟩
  |src a f=>
   obtain⟨sa,sv,hb,hsa,hown,h0,hcs,hac⟩:=hr;have hph2:=hph.2 a f rfl;have hgB:GlB W (p+3):=(GlB.below HG.out (hp▸HB.out)).more (by omega) (by omega);have HP:=H_ (nM (pt:=4) a W hb hown h0 hgB (by omega) (by omega) (by omega) (by omega));have hbl:=hb.lt;have rp':W.cell? ⟨p+3,5,none⟩=some (.int .i64 4):=rp;have hwr:IntKind.i64.wrap ((L:Int)+1)=((L+1:Nat):Int):=by rw[Fj _ (by omega)];rfl
   have HBB:=H_ hb;have HRB:=H_ (And.intro hrb hlast);have HK0:=H_ hK;clear rp hb hsa hown h0 hcs hac hgB hrb hlast z1 z2 z3 hst hK hph
   gi_wp2
   refine⟨trivial,(callsIn_wide.2 HP.out).mono ?_⟩;rintro e W2 ⟨l2,hcase⟩;have hs2:=l2.size;have HB2:=H_ (HB.out.trans (l2.below (by omega) (by omega) (by omega)));have z1:=l2.aE HZ.out.1 (by omega) (by omega);have z2:=l2.aE HZ.out.2.1 (by omega) (by omega);have z3:=l2.aE HZ.out.2.2 (by omega) (by omega);have rb2:=l2.aE HRB.out.1 (by omega) (by omega);have la2:=l2.aE HRB.out.2 (by omega) (by omega);have HK:=H_ ((l2.others HBB.out).same D _ HK0.out rfl);have HZ2:=H_ (And.intro z1 (And.intro z2 z3));have c0:=z1.cell 0;have c1:=z1.cell 1;have c2:=z1.cell 2;have c3:=z1.cell 3;have c4:=z1.cell 4;obtain⟨f0,f1,f2,f3,f4⟩:=z1.f5;have d0:=z2.cell 0;have d1:=z2.frozen 0;have e0:=z3.cell 0;have e1:=z3.frozen 0;have l0':=la2.cell 0;have rc':=rb2.cell 0;have hfin:ei s=(match om a f y with| .err q e=>SR.err q e| .go _ _=> .err (L+1) 3):=HSC.out;unfold om at hfin
   clear l2 z1 z2 z3 rb2 la2 l0 rc HZ HB HRB HP HSC HBB HK0 rp';cases hpp:en a with
   |err q er=>
    try rw[hpp]at hcase
    try rw[hpp]at hfin
    obtain⟨rfl,hne⟩:=hcase;have HS2:=H_ (And.intro (show ei s= .err (f+(a.take q.toNat).count 10) er from hfin) hne);have hne2:(er==0)=false:=by simpa using hne
    clear hfin hne hpp
    gi_wp2
    obtain⟨g1,g2,g3,g4,g5⟩:=jw HZ2.out.1 HZ2.out.2.1 HZ2.out.2.2 (.int .i64 0) (.int .u64 0) (.int .i64 0) (.slice none 0 0) (.slice none 0 0) (.int .i64 ((f+(a.take q.toNat).count 10:Nat):Int)) (.int .i64 er);have hK2:=g5.same D _ HK.out rfl;unfold st7 at g1 g2 g3 g4 hK2;have HE:=H_ (And.intro (And.intro g1 (And.intro g2 g3)) (And.intro (HB2.out.trans g4) (hK2)));clear g1 g2 g3 g4 g5 hK2;refine⟨by simp,.inl ⟨_,_,rfl,run_takeDeferred (b:=D) HE.out.2.2,?_⟩⟩;refine⟨_,gu _ HE.out.1.1 HE.out.1.2.1 HE.out.1.2.2 HE.out.2.2 rfl rfl rfl,?_,?_⟩
    ·exact hp▸HE.out.2.1.trans (belowK_b (w:=W0) (by omega) _ D _ _ hD HE.out.2.2 rfl rfl)
    ·rw[HS2.out.1];exact⟨rfl,HS2.out.2⟩
   |ok cs=>
    try rw[hpp]at hcase
    try rw[hpp]at hfin
    obtain⟨rfl,A,n,c,q2,_⟩:=hcase;have rp2:=q2.cell 5;have HS2:=H_ (show ei s= .err (L+1) 3 from hfin);clear hfin hpp q2
    gi_wp2
    refine wpIn_wide.2 ?_;go_region_o
    gi_wp2
    obtain⟨g1,g2,g3,g4,g5⟩:=jw HZ2.out.1 HZ2.out.2.1 HZ2.out.2.2 (.int .i64 0) (.int .u64 0) (.int .i64 0) (.slice none 0 0) (.slice none 0 0) (.int .i64 ((L:Int)+1)) (.int .i64 3);have hK2:=g5.same D _ HK.out rfl;unfold st7 at g1 g2 g3 g4 hK2;have HE:=H_ (And.intro (And.intro g1.drew (And.intro g2.drew g3.drew)) (And.intro (Below.drew (HB2.out.trans g4)) (tK hK2)));clear g1 g2 g3 g4 g5 hK2;refine⟨by simp,.inl ⟨_,_,rfl,run_takeDeferred (b:=D) HE.out.2.2,?_⟩⟩;refine⟨_,gu _ HE.out.1.1 HE.out.1.2.1 HE.out.1.2.2 HE.out.2.2 rfl rfl rfl,?_,?_⟩
    ·exact hp▸HE.out.2.1.trans (belowK_b (w:=W0) (by omega) _ D _ _ hD HE.out.2.2 rfl rfl)
    ·rw[HS2.out];exact⟨rfl,by decide⟩
  |acts=>
   obtain⟨A,n,c,u,sa,sv,f,hb,hsl,hv⟩:=hr;obtain⟨A2,cc,rfl,hsv⟩:=hv.sl (by have:=hph.1;simp[BD];omega);have b0:=hb.cell 0;have b1:=hb.cell 1;have b2:=hb.cell 2;have b3:=hb.cell 3;have b4:=hb.cell 4;have rp':W.cell? ⟨p+3,5,none⟩=some (.int .i64 5):=rp;have hsc2:ei s= .ok y:=HSC.out;have HS2:=H_ hsc2;have HSL:=H_ (And.intro hsl hsv);have c0:=z1.cell 0;have c1:=z1.cell 1;have c2:=z1.cell 2;have c3:=z1.cell 3;have c4:=z1.cell 4;obtain⟨f0,f1,f2,f3,f4⟩:=z1.f5;have d0:=z2.cell 0;have d1:=z2.frozen 0;have e0:=z3.cell 0;have e1:=z3.frozen 0;have HK:=H_ hK;clear rp hsc2 HSC hb hsl hv hsv hrb hlast z1 z2 z3 hph hst hK
   have hkk:∀g,p+7<=g->g<W.heap.size->Cel W g->g<((st7 W p (.int .i64 y.m) (.int .u64 y.sd) (.int .i64 y.y) (.slice A n c) (.slice A2 y.ac.length cc) (.int .i64 0) (.int .i64 0)).putObj D (.deferred none)).heap.size/\
    ((st7 W p (.int .i64 y.m) (.int .u64 y.sd) (.int .i64 y.y) (.slice A n c) (.slice A2 y.ac.length cc) (.int .i64 0) (.int .i64 0)).putObj D (.deferred none)).heap[g]?=W.heap[g]?:=λg h1 h2 ⟨o,ho,hc⟩=>
    ⟨by rw[World.putObj_size,we];exact h2,(World.putObj_heap_other (λe=>by subst e;rw[HK.out]at ho;cases ho;cases hc)).trans (yZ _ _ _ _ _ _ _ ⟨by omega,by omega,by omega⟩)⟩
   unfold st7 at hkk;have HKK:=H_ hkk;clear hkk
   gi_wp2
   obtain⟨g1,g2,g3,g4,g5⟩:=jw HZ.out.1 HZ.out.2.1 HZ.out.2.2 (.int .i64 y.m) (.int .u64 y.sd) (.int .i64 y.y) (.slice A n c) (.slice A2 y.ac.length cc) (.int .i64 0) (.int .i64 0);have hK2:=g5.same D _ HK.out rfl;unfold st7 at g1 g2 g3 g4 hK2;have HE:=H_ (And.intro (And.intro g1 (And.intro g2 g3)) (And.intro (HB.out.trans g4) (hK2)));clear g1 g2 g3 g4 g5 hK2;refine⟨by simp,.inl ⟨_,_,rfl,run_takeDeferred (b:=D) HE.out.2.2,?_⟩⟩;refine⟨_,gu _ HE.out.1.1 HE.out.1.2.1 HE.out.1.2.2 HE.out.2.2 rfl rfl rfl,?_,?_⟩
   ·exact hp▸HE.out.2.1.trans (belowK_b (w:=W0) (by omega) _ D _ _ hD HE.out.2.2 rfl rfl)
   ·rw[HS2.out];refine⟨_,rfl,A,n,c,A2,y.ac.length,cc,rfl,HSL.out.1.aK tq (λg hg hc=>?_),HSL.out.2.aK tr (λg hg hc=>?_)⟩
    ·exact HKK.out g hg.1.1 hg.1.2.1 hc
    ·exact HKK.out g hg.1 hg.2.1 hc
 case stop=>
  rintro D c pre W hD ⟨k,hk,rfl⟩ ⟨rfl,⟨q,er,hfo,hne,g1,g2,g3⟩,hbw⟩ hK;have hsc:=je (ak s) hls hm k hk;rw[hfo]at hsc;have HSC:=H_ hsc;clear hsc hfo
  gi_wp2
  refine⟨by simp,.inl ⟨_,_,rfl,run_takeDeferred hK,?_⟩⟩;refine⟨_,gu _ g1 g2 g3 hK rfl rfl rfl,?_,?_⟩
  ·exact hp▸hbw.trans (belowK_b (w:=W0) (by omega) W D _ _ hD hK rfl rfl)
  ·rw[show ei s= .err q er from HSC.out];exact⟨rfl,hne⟩
end
section
open Go.RowKit
variable{A A2:Option Addr}{W w w':World}{n2:Nat}{u0 u1 u2 u3 u4:Value}{x:Sc}
theorem ot(d:Ad):ft d d=true:=by
 unfold ft;simp
theorem tx{zs:List Int}{n:Nat}(h:Sl lv w (AllB w) zs A n):Ints w w.heap.size A n zs:=by
 refine⟨by simpa using h.1,λh0=>?_⟩;obtain⟨b,off,h1,h2,h3⟩:=h.2.2 h0;refine⟨b,off,h1,h2,λj v hv=>?_⟩;rw[Eu]at hv;obtain⟨z,hz,rfl⟩:=Ev.1 hv;obtain⟨cs,h4,h5⟩:=h3 j z hz;have h6:cs=[.int .i64 z]:=h4;subst h6;have:=h5 0 _ rfl;rwa[show lv.sz=1 from rfl,FR]at this
theorem nS{d:Ad}{cs:List Value}(h:kAd.rd w (AllB w) d cs)(h1:d.args.length<=1000000)(h2:d.surv.length<=1000000):∃v:Av,cs=v.cells.toList/\Reads w w.heap.size v d/\v.n<=1000000/\v.n2<=1000000:=by
 obtain⟨A,n,c,A2,n2,c2,rfl,hs1,hs2⟩:=h;exact⟨⟨d.k,d.a,d.b,d.nm,d.mt,A,n,c,A2,n2,c2⟩,rfl,⟨rfl,rfl,rfl,rfl,rfl,tx hs1,tx hs2⟩,by have:=hs1.1;show n<=1000000;omega,by have:=hs2.1;show n2<=1000000;omega⟩
theorem Bb(x:Sc)(v1 v2:Value)(w:World)(h1:SV w (AllB w) x v1)(h2:SV w (AllB w) x v2)(hcs:lsz csz x.cs<=1000000)(hac:∀d∈x.ac,d.args.length<=1000000/\d.surv.length<=1000000)(hn:x.ac.length<=1000000):
 Calls Tryz.prog 10 #[v1,v2] w (kP w):=by
 obtain⟨A,n,c,A2,n2,c2,rfl,hs1,hs2⟩:=h1;obtain⟨A',n',c',A2',n2',c2',rfl,ht1,ht2⟩:=h2;obtain rfl:n'=n:=ht1.1.symm.trans hs1.1;obtain rfl:n2'=n2:=ht2.1.symm.trans hs2.1;have hn2:n2'<=1000000:=by rw[<-hs2.1];exact hn
 obtain⟨p,hp⟩:=nm_ (w.heap.size);obtain⟨w0,hw0⟩:=nm_ (w.alloc (.cells #[.int .i64 x.m,.int .u64 x.sd,.int .i64 x.y,.slice A n' c,.slice A2 n2' c2] 35));obtain⟨w1,hw1⟩:=nm_ (w0.alloc (.cells #[.int .i64 x.m,.int .u64 x.sd,.int .i64 x.y,.slice A' n' c',.slice A2' n2' c2'] 35));have hz0:w0.heap.size=p+1:=by rw[<-hw0,<-hp];simp
 have hz1:w1.heap.size=p+2:=by rw[<-hw1];simp[hz0]
 have b0:=bal hw0;have b1':Below w0.heap.size w0 w1:=hw1▸(DN _ _).alloc (DK _) _;have b1:Below w.heap.size w w1:=b0.trans (b1'.mono b0.size);have p0:Blk w1 p 35 #[.int .i64 x.m,.int .u64 x.sd,.int .i64 x.y,.slice A n' c,.slice A2 n2' c2]:=(b1'.block _ (by omega)).trans (hw0▸hp▸Blk.new w 35 _);have p1:Blk w1 (p+1) 35 #[.int .i64 x.m,.int .u64 x.sd,.int .i64 x.y,.slice A' n' c',.slice A2' n2' c2']:=hw1▸hz0▸Blk.new w0 35 _;have HP:=H_ (And.intro p0 p1);have C27:=H_ (AZ x.cs A A' n' c c' w1 (hs1.aA (AllB.aA b1)) (ht1.aA (AllB.aA b1)) hcs);have HB1:=H_ b1;have HS2:=H_ (And.intro (hs2.aA (AllB.aA b1)) (ht2.aA (AllB.aA b1)));have HAC:=H_ hac;have HW:=H_ (And.intro hw0 hw1);have q0:=p0.cell 0;have q1:=p0.cell 1;have q2:=p0.cell 2;have q3:=p0.cell 3;have q4:=p0.cell 4;have r0:=p1.cell 0;have r1:=p1.cell 1;have r2:=p1.cell 2;have r3:=p1.cell 3;have r4:=p1.cell 4;have hm:(x.m==x.m)=true:=FK _;have hsd:(x.sd==x.sd)=true:=FK _;have hy:(x.y==x.y)=true:=FK _;have hnn:((n2':Int) !=(n2':Int))=false:=by simp
 clear hs1 hs2 ht1 ht2 b0 b1' b1 p0 p1 hw0 hw1 hac hn hcs;go_enter Tryz.func10,Tryz.ntmps10;go_upto_region 1 with fail;rw[HW.out.1,HW.out.2];go_wp2_with fail;refine C27.out.mono ?_;rintro e w2 ⟨rfl,b2⟩;have hs2:=b2.size;have P2:=HP.out.1.below b2 HP.out.1.lt;have P3:=HP.out.2.below b2 HP.out.2.lt;have HB2:=htr HB1 b2;have HS3:=H_ (And.intro (HS2.out.1.aA (AllB.aA b2)) (HS2.out.2.aA (AllB.aA b2)));clear q0 q1 q2 q3 q4 r0 r1 r2 r3 r4 b2 HP C27 HS2 HB1;have q4:=P2.cell 4;have r4:=P3.cell 4;have HP:=H_ (And.intro P2 P3);clear P2 P3;go_wp2_with fail;go_loopw [5] (λi wr=>∃k:Nat,k<=n2'/\i= .int .i64 k/\Hid (Below w2.heap.size w2 wr)) (λi _=>n2'-(intOf i).toNat)
 case atStart=>exact⟨0,Ea _,rfl,H_ (DN _ _)⟩
 case round=>
  obtain⟨k,hk,rfl,HB⟩:=hrel;have c0:=(HP.out.1.below HB.out HP.out.1.lt).cell 4;have e0:=(HP.out.2.below HB.out HP.out.2.lt).cell 4;have hl0:=HP.out.1.lt;have hl1:=HP.out.2.lt;have hsr:=HB.out.size;by_cases hkm:k<n2'
  ·have hkz:(k:Int)<(n2':Int):=by omega
   obtain⟨b,off,d,cs,rfl,hgb,hx,hrd,hat⟩:=(HS3.out.1.aA (AllB.aA HB.out)).at_ hkm;obtain⟨b',off',d',cs',rfl,hgb',hx',hrd',hat'⟩:=(HS3.out.2.aA (AllB.aA HB.out)).at_ hkm;obtain rfl:d'=d:=Option.some.inj (hx'.symm.trans hx);obtain⟨ha1,ha2⟩:=HAC.out d' (DW hx);obtain⟨v,rfl,hv,hvn,hvn2⟩:=nS hrd ha1 ha2;obtain⟨v',rfl,hv',hvn',hvn2'⟩:=nS hrd' ha1 ha2;obtain⟨TT,f,hne,hf,hcov⟩:=cq wr.heap.size wr;have R1:=H_ (show∀y,(f y).rangeAt b (off+k*7) v.cells.toList from λy j u hj=>(ab (hf y) hgb _).trans (by have:=hat j u hj;rwa[show kAd.sz=7 from rfl,El]at this));have R2:=H_ (show∀y,(f y).rangeAt b' (off'+k*7) v'.cells.toList from λy j u hj=>(ab (hf y) hgb' _).trans (by have:=hat' j u hj;rwa[show kAd.sz=7 from rfl,El]at this))
   have C1:=H_ (show∀y,Calls Tryz.prog 28 #[.agg v.cells,.agg v'.cells] (f y) (λe w''=>e= .returned (.bool true)/\∃z,w''=f z)from λy=>
    (uo v v' d' d' wr.heap.size (f y) (hv.below (hf y)) (hv'.below (hf y)) (hf y).size hvn hvn2 hvn' hvn2').mono λe w'' ⟨h1,h2⟩=>⟨by rw[h1,ot],hcov _ ((hf y).trans (h2.mono (hf y).size))⟩)
   have d0:∀y,(f y).cell? ⟨p,4,none⟩=some (.slice (some ⟨b,off,none⟩) n2' c2):=λy=>(ab (hf y) (by omega) _).trans c0;have d1:∀y,(f y).cell? ⟨p+1,4,none⟩=some (.slice (some ⟨b',off',none⟩) n2' c2'):=λy=>(ab (hf y) (by omega) _).trans e0;have HF:=H_ (λy=>HB.out.trans ((hf y).mono (by omega)));have HCOV:=H_ hcov;obtain⟨k1,a1,b1,nm1,mt1,A3,n3,c3,A4,n4,c4⟩:=v;obtain⟨k9,a9,b9,nm9,mt9,A5,n5,c5,A6,n6,c6⟩:=v';unfold Av.cells at R1 R2 C1;dsimp only at R1 R2 C1;clear hat hat' hrd hrd' hf hcov hx hx' hgb hgb' hv hv' hvn hvn2 hvn' hvn2' ha1 ha2;go_upto_region 6 with fail;clear c0 e0;refine az f (by kernel_rfl) (by kernel_rfl) (HCOV.out _ (DN _ _).drew) ?_;repeat (go_big_quiet_step (fail))
   go_big_quiet_want;refine cW 48 (.tmp 38) rfl b (off+k*7) rfl [_,_,_,_,_,_,_] _ (by rintro _ ⟨y,rfl⟩;exact R1.out y) Tryz.underlying48 rfl (by kernel_rfl) ?_;go_simp;go_big_quiet_on;repeat (go_big_quiet_step (fail))
   go_big_quiet_want;refine cW 48 (.tmp 43) rfl b' (off'+k*7) rfl [_,_,_,_,_,_,_] _ (by rintro _ ⟨y,rfl⟩;exact R2.out y) Tryz.underlying48 rfl (by kernel_rfl) ?_;go_simp;go_big_quiet_on;repeat (go_big_quiet_step ((go_at_call 28;exact C1.out _)))
   refine Fp ?_;rintro _ ⟨y,rfl⟩;go_wp2_with fail;go_roundw
   case rel=>exact⟨k+1,by omega,by go_num,H_ (HF.out y)⟩
   case measure=>simp[intOf];omega
  ·obtain rfl:k=n2':=by omega
   go_wp2_with fail;go_ret;exact⟨rfl,HB2.out.trans (HB.out.mono HB2.out.size)⟩
theorem CY(x:Sc)(A:Option Addr)(n c:Nat)(A2:Option Addr)(n2 c2:Nat)(w:World)(G:Nat->Prop)(hs:Sl fh w G x.cs A n)(hs2:Sl kAd w G x.ac A2 n2)(hG:∀b,G b->b<w.heap.size)(hbig:n2<=9007199254740992):
 Calls Tryz.prog 12 #[.agg #[.int .i64 x.m,.int .u64 x.sd,.int .i64 x.y,.slice A n c,.slice A2 n2 c2]] w (FewP (fT x=true->lsz csz x.cs<=200/\x.ac.length<=200) w):=by
 obtain⟨g,hz⟩:=nm_ (w.heap.size);obtain⟨W0,hW0⟩:=nm_ (w.alloc (.cells #[.int .i64 x.m,.int .u64 x.sd,.int .i64 x.y,.slice A n c,.slice A2 n2 c2] 35));have HQ:=hng hW0 hz;have HB0:=hba hW0;have hs0:W0.heap.size=g+1:=by rw[<-hW0,DV,hz]
 have HBZ:Hid (Below g w W0):=H_ (hz▸HB0.out);have HS:=H_ (hs.aA (G':=G) (w':=W0) (λb hb=>⟨hb,HB0.out.block b (hG b hb)⟩));have HS2:=H_ (hs2.aA (G':=G) (w':=W0) (λb hb=>⟨hb,HB0.out.block b (hG b hb)⟩));have HG:=H_ (show∀b,G b->b<W0.heap.size from λb hb=>by have:=hG b hb;omega);have hln:x.ac.length=n2:=hs2.1;have HW:=H_ hW0;have hvs:fT x=true->x.ac.all ay=true:=λh=>(Eg.1 h).1;have HVS:=H_ hvs;generalize fT x=vs at*
 obtain⟨m,hm⟩:=nm_ (x.m);obtain⟨sd,hsd⟩:∃m,x.sd=m:=⟨_,rfl⟩;obtain⟨y,hy⟩:∃m,x.y=m:=⟨_,rfl⟩;rw[hm,hsd,hy]at HQ HW⊢;obtain⟨q0,q1,q2,q3,q4⟩:=HQ.out.c5;clear hs hs2 hG hW0 HB0 hvs hm hsd hy;go_enter Tryz.func12,Tryz.ntmps12;go_upto_region 1 with fail;rw[HW.out];go_wp2_with fail;go_loopw [3,9] (λs i wr=>∃(k:Nat) (z:Int),k<=n2/\i= .int .i64 k/\s= .int .i64 z/\((x.ac.take k).all ay=true->(k:Int)<=z/\z<=60*(k:Int))/\Hid (Below W0.heap.size W0 wr)) (λ_ i _=>n2-(intOf i).toNat)
 case atStart=>exact⟨0,0,Ea _,rfl,rfl,λ_=>by omega,H_ (DN _ _)⟩
 case round=>
  obtain⟨k,z,hk,rfl,rfl,hzz,HB⟩:=hrel;have hsr:=HB.out.size;obtain⟨q0,q1,q2,q3,q4⟩:=(HQ.out.below HB.out (by omega)).c5;by_cases hkm:k<n2
  ·have hkz:(k:Int)<(n2:Int):=by omega
   have hS2:=HS2.out.aA (G':=G) (w':=wr) (λb hb'=>⟨hb',HB.out.block b (HG.out b hb')⟩);obtain⟨b,off,d,cs,rfl,hgb,hx,hrd,hat⟩:=hS2.at_ hkm;obtain⟨v,rfl,hrv,hvn,hvn2,hvl,hvl2⟩:=jN hrd (λq hq=>by have:=HG.out q hq;omega);obtain⟨d0,d1,d2,d3,d4,d5,d6⟩:=At.e7 hat
   have htk:=br (p:=ay) hx;have hnm:v.nm=d.nm:=hrv.nm;have hmt:v.mt=d.mt:=hrv.mt;obtain⟨p,hp⟩:=nm_ (wr.heap.size);obtain⟨w3,hw3⟩:=nm_ (wr.alloc (.cells v.cells 48));have HA:=hng hw3 hp;have hs3:w3.heap.size=p+1:=by rw[<-hw3,DV,hp]
   have HB3:=H_ (HB.out.trans ((bal hw3).mono (by omega)));obtain⟨x0,x1,x2,x3,x4,x5,x6⟩:=HA.out.v7;have HW3:=H_ hw3;by_cases hall:(x.ac.take (k+1)).all ay=true
   ·have hall':=hall;rw[htk,Eg]at hall';obtain⟨hz1,hz2⟩:=hzz hall'.1;obtain⟨_,w1,w2',w3',w4'⟩:=gk hall'.2;have e1:v.nm.size<=31:=by rw[hnm];exact w1
    have e2:v.mt.size<=31:=by rw[hmt];exact w2'
    have e3:v.n<=30:=by omega
    have e4:v.n2<=20:=by omega
    clear hx hat hS2 hrd hrv hgb hw3 HB htk hnm hmt hall hall' hzz w1 w2' w3' w4' hvl hvl2 hvn hvn2;unfold Av.cells at*
    go_upto_region 5 with fail;rw[HW3.out];go_wp2_with fail;go_roundw
    case rel=>exact⟨k+1,_,by omega,by go_num,rfl,λ_=>by omega,HB3⟩
    case measure=>simp[intOf];omega
   ·clear hx hat hS2 hrd hrv hgb hw3 HB htk hnm hmt hzz hvl hvl2;unfold Av.cells at*
    go_upto_region 5 with fail;rw[HW3.out];go_wp2_with fail;go_roundw
    case rel=>exact⟨k+1,_,by omega,by go_num,rfl,λh=>absurd h hall,HB3⟩
    case measure=>simp[intOf];omega
  ·obtain rfl:k=n2:=by omega
   rw[DP (by omega)]at hzz;have HZZ:=H_ hzz;have HC:=H_ (CX x.cs A n c wr G 200 (HS.out.aA λb hb=>⟨hb,HB.out.block b (HG.out b hb)⟩) (λb hb=>by have:=HG.out b hb;omega) (by omega) (by omega));clear hzz;by_cases h200:z<=200
   ·go_wp2_with fail;refine HC.out.mono ?_;rintro r w4 ⟨b,rfl,hb,b4⟩;have HE:=H_ (HBZ.out.trans ((HB.out.trans (b4.mono (by omega))).mono (by omega)));have HFB:=H_ hb;clear b4 hb HC HB;go_wp2_with fail
    all_goals
     go_ret;refine FewP.mk b (by first|rfl|simp[*]) (λh1 h2=>?_) (hz▸HE.out);have h3:=HZZ.out (HVS.out h2);have h4:=HFB.out h1;omega
   ·have HE:=H_ (HBZ.out.trans (HB.out.mono (by omega)));go_wp2_with fail;go_ret;exact FewP.mk false rfl (λh=>absurd h (by simp)) (hz▸HE.out)
theorem Ck{r:Nat}{t:TypeId}(h:Blk W r t #[u0,u1,u2,u3,u4])(a b c d e:Value):Blk (((((W.setCell ⟨r,0,none⟩ a).setCell ⟨r,1,none⟩ b).setCell ⟨r,2,none⟩ c).setCell ⟨r,3,none⟩ d).setCell ⟨r,4,none⟩ e) r t #[a,b,c,d,e]:=by
 have g:=((((h.set 0 a).set 1 b).set 2 c).set 3 d).set 4 e;simp only[EL,Fm,Fl]at g;exact g
theorem sG{S r:Nat}(h:Below S w W)(hr:S<=r)(a b c d e:Value):Below S w (((((W.setCell ⟨r,0,none⟩ a).setCell ⟨r,1,none⟩ b).setCell ⟨r,2,none⟩ c).setCell ⟨r,3,none⟩ d).setCell ⟨r,4,none⟩ e):=
 ((((h.setCell (p:=⟨r,0,none⟩) hr a).setCell (p:=⟨r,1,none⟩) hr b).setCell (p:=⟨r,2,none⟩) hr c).setCell (p:=⟨r,3,none⟩) hr d).setCell (p:=⟨r,4,none⟩) hr e
theorem Blk.zfac5{b:Nat}{t:TypeId}(h:Blk w b t #[u0,u1,u2,u3,u4]):(w.cell? ⟨b,0,none⟩=some u0/\w.cell? ⟨b,1,none⟩=some u1/\w.cell? ⟨b,2,none⟩=some u2/\w.cell? ⟨b,3,none⟩=some u3/\w.cell? ⟨b,4,none⟩=some u4)/\
 w.frozen? ⟨b,0,none⟩=false/\w.frozen? ⟨b,1,none⟩=false/\w.frozen? ⟨b,2,none⟩=false/\w.frozen? ⟨b,3,none⟩=false/\w.frozen? ⟨b,4,none⟩=false:=
 ⟨⟨h.cell 0,h.cell 1,h.cell 2,h.cell 3,h.cell 4⟩,h.frozen 0,h.frozen 1,h.frozen 2,h.frozen 3,h.frozen 4⟩
theorem results11(tmps:Array Value)(W:World)(r:Nat)(v0 v1 v2 v3 v4:Value)(hr:Blk W r 35 #[v0,v1,v2,v3,v4])(h2:tmps.getD 2 undef= .pointer (some ⟨r,0,none⟩)):
 (results Tryz.f11 tmps).run Tryz.prog W= .ok (.agg #[v0,v1,v2,v3,v4]) W:=by
 obtain⟨⟨g0,g1,g2,g3,g4⟩,_⟩:=hr.zfac5;have e2:tmps[2]?.getD undef= .pointer (some ⟨r,0,none⟩):=by simpa using h2
 simp[results,Tryz.results11,go_sem,e2,asAddr,g0,g1,g2,g3,g4]
theorem results14(tmps:Array Value)(W:World)(r:Nat)(v0 v1 v2 v3 v4:Value)(hr:Blk W r 31 #[v0,v1,v2,v3,v4])(h2:tmps.getD 2 undef= .pointer (some ⟨r,0,none⟩)):
 (results Tryz.f14 tmps).run Tryz.prog W= .ok (.agg #[v0,v1,v2,v3,v4]) W:=by
 obtain⟨⟨g0,g1,g2,g3,g4⟩,_⟩:=hr.zfac5;have e2:tmps[2]?.getD undef= .pointer (some ⟨r,0,none⟩):=by simpa using h2
 simp[results,Tryz.results14,go_sem,e2,asAddr,g0,g1,g2,g3,g4]
theorem zB(m sd y:Int)(A:Option Addr)(n c:Nat)(A2:Option Addr)(n2 c2:Nat)(w:World):
 Calls Tryz.prog 11 #[.agg #[.int .i64 m,.int .u64 sd,.int .i64 y,.slice A n c,.slice A2 n2 c2]] w λe w'=>e= .returned (.agg #[.int .i64 m,.int .u64 sd,.int .i64 y,.slice A n c,.slice A2 n2 c2])/\Below w.heap.size w w':=by
 obtain⟨p,hp⟩:=nm_ (w.heap.size);obtain⟨w0,hw0⟩:=nm_ (w.alloc (.cells #[.int .i64 m,.int .u64 sd,.int .i64 y,.slice A n c,.slice A2 n2 c2] 31));obtain⟨w1,hw1⟩:=nm_ (w0.alloc (.cells #[.int .i64 0,.int .u64 0,.int .i64 0,.slice none 0 0,.slice none 0 0] 35));have hz0:w0.heap.size=p+1:=by rw[<-hw0,<-hp];simp
 have b0:Below p w w0:=hw0▸(DN _ _).alloc (by omega) _;have b1:=bal hw1;have p0:Blk w1 p 31 #[.int .i64 m,.int .u64 sd,.int .i64 y,.slice A n c,.slice A2 n2 c2]:=(b1.block _ (by omega)).trans (hw0▸hp▸Blk.new w 31 _);have p1:Blk w1 (p+1) 35 #[.int .i64 0,.int .u64 0,.int .i64 0,.slice none 0 0,.slice none 0 0]:=hw1▸hz0▸Blk.new w0 35 _;have HB:=H_ (b0.trans (b1.mono (by omega)));have HP:=H_ p1;have HW:=H_ (And.intro hw0 hw1);obtain⟨⟨q0,q1,q2,q3,q4⟩,_⟩:=p0.zfac5;obtain⟨⟨r0,r1,r2,r3,r4⟩,f0,f1,f2,f3,f4⟩:=p1.zfac5;clear b0 b1 p0 p1 hw0 hw1;go_enter Tryz.func11,Tryz.ntmps11;go_upto_region 1 with fail;rw[HW.out.1,HW.out.2];go_wp2_with fail;exact Ej (results11 _ _ (p+1) _ _ _ _ _ (Ck HP.out _ _ _ _ _) rfl) rfl ⟨rfl,hp▸sG HB.out (by omega) _ _ _ _ _⟩
theorem Be(m sd y:Int)(A:Option Addr)(n c:Nat)(A2:Option Addr)(n2 c2:Nat)(w:World):
 Calls Tryz.prog 14 #[.agg #[.int .i64 m,.int .u64 sd,.int .i64 y,.slice A n c,.slice A2 n2 c2]] w λe w'=>e= .returned (.agg #[.int .i64 m,.int .u64 sd,.int .i64 y,.slice A n c,.slice A2 n2 c2])/\Below w.heap.size w w':=by
 obtain⟨p,hp⟩:=nm_ (w.heap.size);obtain⟨w0,hw0⟩:=nm_ (w.alloc (.cells #[.int .i64 m,.int .u64 sd,.int .i64 y,.slice A n c,.slice A2 n2 c2] 35));obtain⟨w1,hw1⟩:=nm_ (w0.alloc (.cells #[.int .i64 0,.int .u64 0,.int .i64 0,.slice none 0 0,.slice none 0 0] 31));have hz0:w0.heap.size=p+1:=by rw[<-hw0,<-hp];simp
 have b0:Below p w w0:=hw0▸(DN _ _).alloc (by omega) _;have b1:=bal hw1;have p0:Blk w1 p 35 #[.int .i64 m,.int .u64 sd,.int .i64 y,.slice A n c,.slice A2 n2 c2]:=(b1.block _ (by omega)).trans (hw0▸hp▸Blk.new w 35 _);have p1:Blk w1 (p+1) 31 #[.int .i64 0,.int .u64 0,.int .i64 0,.slice none 0 0,.slice none 0 0]:=hw1▸hz0▸Blk.new w0 31 _;have HB:=H_ (b0.trans (b1.mono (by omega)));have HP:=H_ p1;have HW:=H_ (And.intro hw0 hw1);obtain⟨⟨q0,q1,q2,q3,q4⟩,_⟩:=p0.zfac5;obtain⟨⟨r0,r1,r2,r3,r4⟩,f0,f1,f2,f3,f4⟩:=p1.zfac5;clear b0 b1 p0 p1 hw0 hw1;go_enter Tryz.func14,Tryz.ntmps14;go_upto_region 1 with fail;rw[HW.out.1,HW.out.2];go_wp2_with fail;exact Ej (results14 _ _ (p+1) _ _ _ _ _ (Ck HP.out _ _ _ _ _) rfl) rfl ⟨rfl,hp▸sG HB.out (by omega) _ _ _ _ _⟩
theorem qR:bc ⟨#[116,117,114,110,32,48,32,49]⟩=[⟨#[116,117,114,110]⟩,⟨#[48]⟩,⟨#[49]⟩]:=by
 refine fl ?_;rw[eL];decide+kernel
theorem qS:bc ⟨#[116,105,99,107,32,32,49]⟩=[⟨#[116,105,99,107]⟩,⟨#[]⟩,⟨#[49]⟩]:=by
 refine fl ?_;rw[eL];decide+kernel
theorem rE:cF (bc ⟨#[116,117,114,110,32,48,32,49]⟩)=none:=by
 rw[qR];unfold cF;dsimp only;rw[show fZ ⟨#[116,117,114,110]⟩=some ⟨0,⟨#[116,117,114,110]⟩,[.numA 1 8,.numB 0 1099511627776]⟩from eI (q:=0) (by decide) rfl];dsimp only;have h0:dj ⟨#[48]⟩=0:=by decide+kernel
 simp only[f9,dC,cS,h0]
 have hn:∀b,okD ⟨0,0,b,⟨#[]⟩,⟨#[]⟩,[],[]⟩=false:=λb=>by
  rw[eC];simp[ay,cB,bq]
 cases h1:bY ⟨#[48]⟩<;>cases h2:bY ⟨#[49]⟩<;>simp[h1,h2,hn]
theorem rF:cF (bc ⟨#[116,105,99,107,32,32,49]⟩)=none:=by
 rw[qS];unfold cF;dsimp only;rw[show fZ ⟨#[116,105,99,107]⟩=some ⟨4,⟨#[116,105,99,107]⟩,[.numA 1 8]⟩from eI (q:=4) (by decide) rfl];rfl
def dEx:Ad:=⟨11,2,0,⟨#[97]⟩,⟨#[82,105,110,103]⟩,[3,-1],[]⟩
theorem Cp:WfA dEx:=by
 refine⟨?_,?_,λz hz=>?_,λz hz=>?_⟩
 ·unfold I64 dEx;decide
 ·unfold I64 dEx;decide
 ·simp only[dEx,DY,DX,Ew]at hz;unfold I64;omega
 ·simp[dEx]at hz
theorem BR:dO dEx=[115,112,97,119,110,32,50,32,97,32,82,105,110,103,32,51,32,45,49]:=by
 have h1:Lib.itoa 2=[50]:=by unfold Lib.itoa;rw[DS (by decide)];exact cH (by decide)
 have h2:Lib.itoa 3=[51]:=by unfold Lib.itoa;rw[DS (by decide)];exact cH (by decide)
 have h3:Lib.itoa (-1)=[45,49]:=by unfold Lib.itoa;rw[Ed (by decide)];exact Fo (45:: ·) (cH (by decide))
 have hv:ay dEx=true:=by
  unfold ay cB dEx de gZ gN aO inB;simp only[Ey];decide+kernel
 unfold dO;rw[Ed hv];unfold dEx kU sf uY;simp only[EE,FV,h1,h2,h3];rfl
theorem kM(w:World)(hg:Gl w):Calls Tryz.prog 7 #[] w λe w'=>e= .returned (.bool true)/\Below w.heap.size w w':=by
 have HG:=H_ hg;have h1:=kp ⟨#[116,117,114,110,32,48,32,49]⟩ w hg (by decide);unfold ParsePost at h1;simp only[rE]at h1;have H1:=H_ h1;clear h1 hg;go_enter Tryz.func7,Tryz.ntmps7;go_wp2_with fail;refine H1.out.mono ?_;rintro e w1 ⟨v1,a1,rfl,_,hr1,_,_,_,b1⟩;have B1:=H_ b1;clear hr1 b1;unfold Av.cells;go_upto_region 2 with fail;obtain⟨w2,hw2⟩:=nm_ (w1.alloc (.cells #[.int .i64 v1.k,.int .i64 v1.a,.int .i64 v1.b,.string v1.nm,.string v1.mt,.slice v1.A v1.n v1.c,.slice v1.A2 v1.n2 v1.c2] 48));have B2:=H_ (hw2▸B1.out.alloc B1.out.size _:Below w.heap.size w w2);rw[hw2];clear hw2;have h2:=kp ⟨#[116,105,99,107,32,32,49]⟩ w2 (HG.out.below B2.out) (by decide);unfold ParsePost at h2;simp only[rF]at h2;have H2:=H_ h2;clear h2;go_wp2_with fail;refine H2.out.mono ?_;rintro e w3 ⟨v2,a2,rfl,_,hr2,_,_,_,b3⟩;have B3:=htr B2 b3;clear hr2 b3;unfold Av.cells;go_upto_region 3 with fail;obtain⟨w4,hw4⟩:=nm_ (w3.alloc (.cells #[.int .i64 v2.k,.int .i64 v2.a,.int .i64 v2.b,.string v2.nm,.string v2.mt,.slice v2.A v2.n v2.c,.slice v2.A2 v2.n2 v2.c2] 48));have B4:=H_ (hw4▸B3.out.alloc B3.out.size _:Below w.heap.size w w4);rw[hw4];clear hw4;have b5:=B4.out.alloc B4.out.size (.cells #[.int .i64 3,.int .i64 (-1)] 2);have hq5:=Blk.new w4 2 #[.int .i64 3,.int .i64 (-1)]
 have hr:Reads (w4.alloc (.cells #[.int .i64 3,.int .i64 (-1)] 2)) (w4.alloc (.cells #[.int .i64 3,.int .i64 (-1)] 2)).heap.size ⟨11,2,0,⟨#[97]⟩,⟨#[82,105,110,103]⟩,some ⟨w4.heap.size,0,none⟩,2,2,none,0,0⟩ dEx:=
  ⟨rfl,rfl,rfl,rfl,rfl,⟨rfl,λ_=>⟨w4.heap.size,0,rfl,by simp,λj v hv=>by rw[ET,hq5.cell];simpa[dEx]using hv⟩⟩,Ints.none _ _⟩
 have hf:=oK _ dEx _ hr (HG.out.below b5) (by show 2<=1000;decide) (by show 0<=1000;decide) (by show 1<=1000;decide) (by show 4<=1000;decide) Cp;rw[BR]at hf;unfold Av.cells at hf;have HF:=H_ hf;have B5:=H_ b5;clear b5 hq5 hr hf;go_wp2_with fail;refine HF.out.mono ?_;rintro e w6 ⟨rfl,b6⟩;have B6:=htr B5 b6;clear b6;go_wp2_with fail;go_ret;exact⟨rfl,B6.out⟩
theorem lg(b:UInt8):∀(k:Nat) (s:List UInt8),∃x r,Lib.splitK [b] 0 k s=x::r/\x++bN b r=s
 |0,s=>⟨s,[],rfl,by simp[bN]⟩
 |k+1,s=>by
  rw[Lib.splitK];by_cases hi:Lib.index s [b]= -1
  ·rw[Ed (by simpa using hi)];exact⟨s,[],rfl,by simp[bN]⟩
  ·rw[DS (by simpa using hi)];obtain⟨x,r,h1,h2⟩:=lg b k (s.drop ((Lib.index s [b]).toNat+[b].length));refine⟨_,_,rfl,?_⟩;rw[h1];rw[Lib.index_one]at hi h2⊢;have hge:=Lib.indexByte_ge s b;obtain⟨j,hj⟩:∃j:Nat,Lib.indexByte s b=(j:Int):=⟨(Lib.indexByte s b).toNat,by omega⟩;obtain⟨h3,_⟩:=Lib.indexByte_some hj;rw[hj]at h2⊢;simp only[EZ,DL,DO,ET,FX]at h2⊢;obtain⟨h4,h5⟩:=DQ.1 h3
   have hs:bN b (x::r)=b::s.drop (j+1):=by
    rw[<-h2];simp[bN]
   rw[hs,<-h5,<-Fu h4,ER]
theorem kB(l:ByteArray)(ls:List ByteArray):(glu (l::ls)).length=l.size+1+(glu ls).length:=by
 have h:l.data.toList.length=l.size:=rfl;simp only[glu,Ez,DJ,Fx];omega
theorem mH:∀(ls:List ByteArray) (x:List UInt8) (r:List (List UInt8)),bJ ls=x::r->(glu ls).length=(x++bN 10 r).length+1
 |[],x,r,h=>by cases h
 |[l],x,r,h=>by
  simp only[bJ,EE,FV,List.cons.injEq]at h;obtain⟨rfl,rfl⟩:=h;rw[kB];have h2:l.data.toList.length=l.size:=rfl;simp[glu,bN,h2]
 |l::m::ls,x,r,h=>by
  have h0:bJ (m::ls)=m.data.toList::bJ ls:=rfl;have ih:=mH (m::ls) _ _ h0;simp only[bJ,EE,List.cons.injEq]at h;obtain⟨rfl,rfl⟩:=h;have h2:l.data.toList.length=l.size:=rfl;rw[kB,ih];simp only[bJ,bN,Ez,DJ,DL];omega
theorem xM(s:ByteArray):(glu (gM 10 s)).length=s.size+1:=by
 obtain⟨x,r,h1,h2⟩:=lg 10 (Lib.countB s ⟨#[10]⟩) s.data.toList;rw[mH _ x r ((jl 10 s).trans h1),h2];rfl
theorem qw:∀ls:List ByteArray,(∀l∈ls,l.size<(glu ls).length)/\ls.length<=(glu ls).length
 |[]=>⟨λl h=>(by cases h),Ea _⟩
 |l::ls=>by
  obtain⟨h1,h2⟩:=qw ls;have h3:=kB l ls;refine⟨λx hx=>?_,by rw[DL];omega⟩;rcases DY.1 hx with rfl|hx
  ·omega
  ·have:=h1 x hx;omega
theorem uL(ls:List ByteArray):(glu (mW ls)).length<=(glu ls).length:=by
 unfold mW;split
 ·have h:glu ls=glu ls.dropLast++glu (ls.drop (ls.length-1)):=by
   unfold glu;rw[List.dropLast_eq_take,<-EX,ER]
  rw[h,DJ];omega
 ·exact DK _
theorem rQ{s:ByteArray}(h:s.size<=39000):(glu (ak s)).length<=100000/\(∀l∈ak s,l.size<=40000)/\(ak s).length<40000:=by
 have h1:=uL (gM 10 s);rw[xM]at h1;have h2:(glu (ak s)).length<=s.size+1:=h1;obtain⟨h3,h4⟩:=qw (ak s);exact⟨by omega,λl hl=>by have:=h3 l hl;omega,by omega⟩
structure Came(w:World)(x:Sc)(A:Option Addr)(n:Nat)(A2:Option Addr)(n2:Nat):Prop where
 cs:Sl fh w (λb=>b<w.heap.size) x.cs A n
 ac:Sl kAd w (λb=>b<w.heap.size) x.ac A2 n2
 cap:Cap w w.heap.size
 gf:GlF w
 s0:0<=x.sd
 s1:x.sd<=18446744073709551615
 few:n2<=9007199254740992
theorem qT(h:fT x=true):∀d∈x.ac,d.args.length<=1000000/\d.surv.length<=1000000:=λd hd=>by
 obtain⟨_,_,_,h3,h4⟩:=gk (Ec.1 (Eg.1 h).1 d hd);omega
theorem SV.below{v:Value}(h:SV w (AllB w) x v)(hb:Below w.heap.size w w'):SV w' (AllB w') x v:=by
 obtain⟨A,n,c,A2,n2,c2,rfl,h1,h2⟩:=h;exact⟨A,n,c,A2,n2,c2,rfl,h1.aA (AllB.aA hb),h2.aA (AllB.aA hb)⟩
theorem Came.sv{n:Nat}(h:Came w x A n A2 n2)(c c2:Nat)(hb:Below w.heap.size w w'):SV w' (AllB w') x (.agg #[.int .i64 x.m,.int .u64 x.sd,.int .i64 x.y,.slice A n c,.slice A2 n2 c2]):=
 ⟨A,n,c,A2,n2,c2,rfl,(h.cs.aA λb hk=>⟨DR hk hb.size,hb.block b hk⟩).cls,h.ac.aA λb hk=>⟨DR hk hb.size,hb.block b hk⟩⟩
theorem qM{n:Nat}(h:Came w x A n A2 n2)(c c2:Nat)(hb:Below w.heap.size w w')(hg:Gl w)(hz:fT x=true->lsz csz x.cs<=900/\x.ac.length<=1000):
 Calls Tryz.prog 13 #[.agg #[.int .i64 x.m,.int .u64 x.sd,.int .i64 x.y,.slice A n c,.slice A2 n2 c2]] w' λe w''=>e= .returned (.string (ba (fmT x)))/\Below w'.heap.size w' w'':=
 xP x A n c A2 n2 c2 w' w.heap.size (h.cs.aA λb hk=>⟨hk,hb.block b hk⟩) (h.ac.aA λb hk=>⟨hk,hb.block b hk⟩) hb.size (hg.below hb) (h.gf.below hb hg.big) (h.cap.aA λb hk=>hb.block b hk) h.s0 h.s1 hz
theorem sw{n:Nat}(h:Came w x A n A2 n2)(c c2:Nat)(hb:Below w.heap.size w w'):
 Calls Tryz.prog 16 #[.agg #[.int .i64 x.m,.int .u64 x.sd,.int .i64 x.y,.slice A n c,.slice A2 n2 c2]] w' λe w''=>e= .returned (.bool (fT x))/\Below w'.heap.size w' w'':=
 yO x A n c A2 n2 c2 w' (λb=>b<w.heap.size) (h.cs.aA λb hk=>⟨hk,hb.block b hk⟩) (h.ac.aA λb hk=>⟨hk,hb.block b hk⟩) (λb hk=>DR hk hb.size)
theorem yl{n:Nat}(h:Came w x A n A2 n2)(c c2:Nat)(hb:Below w.heap.size w w'):
 Calls Tryz.prog 12 #[.agg #[.int .i64 x.m,.int .u64 x.sd,.int .i64 x.y,.slice A n c,.slice A2 n2 c2]] w' (FewP (fT x=true->lsz csz x.cs<=200/\x.ac.length<=200) w'):=
 CY x A n c A2 n2 c2 w' (λb=>b<w.heap.size) (h.cs.aA λb hk=>⟨hk,hb.block b hk⟩) (h.ac.aA λb hk=>⟨hk,hb.block b hk⟩) (λb hk=>DR hk hb.size) h.few
theorem oi:∀l:List Ad,glu (l.map bF)=tAc l
 |[]=>rfl
 |a::l=>by
  rw[EE];show glu ([bF a]++l.map bF)=_;rw[fN,oi l];show(ba (dO a)).data.toList++[10]++[]++tAc l=(dO a++[10])++tAc l;rw[Eo];rfl
theorem ua(h:VSc x):uN x=dz x:=by
 have h0:VSc {x with ac:=[]}:=⟨h.m1,h.m8,h.s0,h.s1,h.y0,h.y1,h.cs,λd hd=>(by cases hd),λd hd=>(by cases hd)⟩;have h1:=vL h0;have h2:BS {x with ac:=[]}=uN x++[]:=rfl;have h3:dz {x with ac:=[]}++tAc ({x with ac:=[]}:Sc).ac=dz x++[]:=rfl;rw[h2,h3,Eo,Eo]at h1;exact h1
def cmt(c:List UInt8):ByteArray:=ba (35::c)
theorem yd{c:List UInt8}(hc:∀b∈c,b≠10):∀b∈(cmt c).data.toList,b≠10:=λb hb=>by
 rcases DY.1 (show b∈35::c from hb)with rfl|hb
 ·decide
 ·exact hc b hb
theorem zm(h:VSc x)(hl:(dz x).length<=16384):(ah (prP x.cs)).length<=16384:=by
 rw[mZ];unfold dz at hl;simp only[DJ]at hl;omega
def qH(x:Sc)(c:List UInt8)(k:Nat):List UInt8:=[10,35]++c++[10]++(dz x++tAc (x.ac.take k))++[10,35]++c++[10,10]++tAc (x.ac.drop k)
theorem ns(h:VSc x){c:List UInt8}(hc:∀b∈c,b≠10)(k:Nat)(hz:lsz csz x.cs<=4000)(hl:(qH x c k).length<=16384):ei (ba (qH x c k))= .ok x:=by
 obtain⟨P,h1,h2,h3,h4⟩:=qZ h;have hP:=zm h (by unfold qH at hl;simp only[DJ]at hl;omega);have hk1:∀d∈x.ac.take k,ay d=true/\WfA d:=λd hd=>⟨h.ac d (List.mem_of_mem_take hd),h.wf d (List.mem_of_mem_take hd)⟩;have hk2:∀d∈x.ac.drop k,ay d=true/\WfA d:=λd hd=>⟨h.ac d (List.mem_of_mem_drop hd),h.wf d (List.mem_of_mem_drop hd)⟩
 have e:qH x c k=glu ([⟨#[]⟩,cmt c]++(dF x++(P++(eX::((x.ac.take k).map bF++([⟨#[]⟩,cmt c,⟨#[]⟩]++((x.ac.drop k).map bF++[]))))))):=by
  have e2:[⟨#[]⟩,cmt c]++(dF x++(P++(eX::((x.ac.take k).map bF++([⟨#[]⟩,cmt c,⟨#[]⟩]++((x.ac.drop k).map bF++[]))))))=[⟨#[]⟩,cmt c]++((dF x++(P++[eX]))++((x.ac.take k).map bF++([⟨#[]⟩,cmt c,⟨#[]⟩]++(x.ac.drop k).map bF))):=by simp
  have hH:glu (dF x++(P++[eX]))=dz x:=by rw[<-h3,ua h]
  rw[e2];generalize dF x++(P++[eX])=HL at hH⊢;rw[fN,fN,fN,fN,oi,oi,hH];show qH x c k=([]++[10]++((35::c++[10])++[]))++(dz x++(tAc (x.ac.take k)++(([]++[10]++((35::c++[10])++([]++[10]++[])))++tAc (x.ac.drop k))));simp[qH]
 have hnl:∀l∈[⟨#[]⟩,cmt c]++(dF x++(P++(eX::((x.ac.take k).map bF++([⟨#[]⟩,cmt c,⟨#[]⟩]++((x.ac.drop k).map bF++[])))))),∀b∈l.data.toList,b≠10:=λl hl=>by
  have hs:∀l∈([⟨#[]⟩,cmt c,⟨#[]⟩]:List ByteArray),∀b∈l.data.toList,b≠10:=λl hl=>by
   simp only[DY,DX,Ew]at hl;rcases hl with rfl|rfl|rfl
   ·exact λb hb=>by cases hb
   ·exact yd hc
   ·exact λb hb=>by cases hb
  rcases EC.1 hl with hl|hl
  ·exact hs l (by simp only[DY,DX,Ew]at hl⊢;rcases hl with rfl|rfl<;>simp)
  ·rw[show dF x++(P++(eX::((x.ac.take k).map bF++([⟨#[]⟩,cmt c,⟨#[]⟩]++((x.ac.drop k).map bF++[])))))=(dF x++(P++[eX]))++((x.ac.take k).map bF++([⟨#[]⟩,cmt c,⟨#[]⟩]++(x.ac.drop k).map bF)) by simp]at hl;rcases EC.1 hl with hl|hl
   ·exact h4 l hl
   ·rcases EC.1 hl with hl|hl
    ·exact o8 (λd hd=>(hk1 d hd).1) l hl
    ·rcases EC.1 hl with hl|hl
     ·exact hs l hl
     ·exact o8 (λd hd=>(hk2 d hd).1) l hl
 unfold ei
 rw[e,uF hnl,jc _ _ _ _ _ (λl hl=>by simp only[DY,DX,Ew]at hl;rcases hl with rfl|rfl<;>rfl) (.inr ⟨0,rfl⟩),uJ h hP hz h1 h2,kO _ _ _ _ hk1,
  jc _ _ _ _ _ (λl hl=>by simp only[DY,DX,Ew]at hl;rcases hl with rfl|rfl|rfl<;>rfl) (.inl rfl),kO _ _ _ _ hk2]
 show SR.ok {x with ac:=[]++x.ac.take k++x.ac.drop k}=_;rw[EG,ER]
end
end Go.Proofs.YtjpbckbpeblibaaGreatDoor
