/- part of a proof -/
import Derived.Test.YtjpbckbpeblibaaGreatDoorK25
import Derived.ProofKit
import Derived.OpenShut
import Derived.ChangeOld
import Derived.ChangeSame
import Derived.Lay
import Derived.MakeChecks
import Derived.HandedShaped
import Derived.Shelf.Vars
import Derived.Lib.LaidU8
namespace Go.Proofs.YtjpbckbpeblibaaGreatDoor
set_option linter.unusedVariables false
set_option linter.unusedSimpArgs false
set_option maxRecDepth 100000
set_option maxHeartbeats 64000000
section
open Go.RowKit
variable{w w':World}
theorem results11(tmps:Array Value)(W:World)(r:Nat)(v0 v1 v2 v3 v4:Value)(hr:Blk W r 35 #[v0,v1,v2,v3,v4])(h2:tmps.getD 2 undef= .pointer (some ⟨r,0,none⟩)):
 (results Tryz.f11 tmps).run Tryz.prog W= .ok (.agg #[v0,v1,v2,v3,v4]) W:=by
 obtain⟨⟨g0,g1,g2,g3,g4⟩,_⟩:=hr.fac5;have e2:tmps[2]?.getD undef= .pointer (some ⟨r,0,none⟩):=by simpa using h2
 simp[results,Tryz.results11,go_sem,e2,asAddr,g0,g1,g2,g3,g4]
theorem xf(x:Sc)(v:Value)(w:World)(h:SV w (AllB w) x v):Calls Tryz.prog 11 #[v] w λe w'=>e= .returned v/\Below w.heap.size w w':=by
 obtain⟨A,n,c,A2,n2,c2,rfl,_⟩:=h;obtain⟨p,hp⟩:=nm_ (w.heap.size);obtain⟨w0,hw0⟩:=nm_ (w.alloc (.cells #[.int .i64 x.m,.int .u64 x.sd,.int .i64 x.y,.slice A n c,.slice A2 n2 c2] 31));obtain⟨w1,hw1⟩:=nm_ (w0.alloc (.cells #[.int .i64 0,.int .u64 0,.int .i64 0,.slice none 0 0,.slice none 0 0] 35));have hz0:w0.heap.size=p+1:=by rw[<-hw0,<-hp];simp
 have b0:Below p w w0:=hw0▸(Below.refl _ _).alloc (by omega) _;have b1:=bal hw1;have p0:Blk w1 p 31 #[.int .i64 x.m,.int .u64 x.sd,.int .i64 x.y,.slice A n c,.slice A2 n2 c2]:=(b1.block _ (by omega)).trans (hw0▸hp▸Blk.new w 31 _);have p1:Blk w1 (p+1) 35 #[.int .i64 0,.int .u64 0,.int .i64 0,.slice none 0 0,.slice none 0 0]:=hw1▸hz0▸Blk.new w0 35 _;have HB:=H_ (b0.trans (b1.mono (by omega)));have HP:=H_ p1;have HW:=H_ (And.intro hw0 hw1);obtain⟨⟨q0,q1,q2,q3,q4⟩,_⟩:=p0.fac5;obtain⟨⟨r0,r1,r2,r3,r4⟩,f0,f1,f2,f3,f4⟩:=p1.fac5;clear b0 b1 p0 p1 hw0 hw1;go_enter Tryz.func11,Tryz.ntmps11;go_upto_region 1 with fail;rw[HW.out.1,HW.out.2];go_wp2_with fail;exact bodyPost_ret (results11 _ _ (p+1) _ _ _ _ _ (oF HP.out _ _ _ _ _) rfl) rfl ⟨rfl,hp▸gN HB.out (by omega) _ _ _ _ _⟩
theorem lQ{s:ByteArray}{e:Ending}(h:ScrP s w e w'):Below w.heap.size w w'/\∃(q:Nat) (er:Int) (x:Sc) (v:Value),e= .returned (.tuple #[v,.int .i64 (q:Int),.int .i64 er])/\SV w' (AllB w') x v/\
 (bn s= .err q er/\x=zSc\/bn s= .ok x/\q=0/\er=0):=by
 refine⟨h.1,?_⟩;have h2:=h.2;cases hs:bn s with
 |err q er=>
  rw[hs]at h2;exact⟨q,er,zSc,_,h2.1,⟨none,0,0,none,0,0,rfl,Sl.nil _ _ _,Sl.nil _ _ _⟩,.inl ⟨rfl,rfl⟩⟩
 |ok x=>
  rw[hs]at h2;obtain⟨v,h3,h4⟩:=h2;exact⟨0,0,x,v,h3,h4,.inr ⟨rfl,rfl,rfl⟩⟩
theorem SV.aA{x:Sc}{v:Value}(h:SV w (AllB w) x v)(hb:Below w.heap.size w w'):SV w' (AllB w') x v:=by
 obtain⟨A,n,c,A2,n2,c2,rfl,h1,h2⟩:=h;exact⟨A,n,c,A2,n2,c2,rfl,h1.aA (AllB.aA hb),h2.aA (AllB.aA hb)⟩
theorem zR(s:ByteArray)(w:World)(hg:Gl w):Calls Tryz.prog 3 #[.string s] w λe w'=>e= .returned (.bool true)/\Below w.heap.size w w':=by
 have HG:=H_ hg;clear hg;by_cases h3:2000<s.size
 ·have g3:decide ((2000:Int)<(s.size:Int))=true:=decide_eq_true (by omega);go_enter Tryz.func3,Tryz.ntmps3;go_wp2_with fail;refine(wj _ HG.out).mono ?_;rintro e wa ⟨rfl,ba⟩;have BA:=H_ ba;clear ba;go_wp2_with fail;go_ret;exact⟨rfl,BA.out⟩
 ·have g3:decide ((2000:Int)<(s.size:Int))=false:=decide_eq_false (by omega);have hs:s.size<=2000:=by omega
  obtain⟨l1,l2,l3⟩:=tf hs;have H8:=H_ (yU s w HG.out hs l2 l3);have HL:=H_ (And.intro l1 (And.intro l2 l3));clear h3 l1 l2 l3;go_enter Tryz.func3,Tryz.ntmps3;go_wp2_with fail;refine H8.out.mono ?_;intro e w1 he1;obtain⟨b1,q,er,x,v,rfl,hv,hc⟩:=lQ he1;have HV1:=H_ hv;have HC1:=H_ hc;have HB1:=H_ b1;clear he1 hv hc b1 H8;obtain⟨A,n,c,A2,n2,c2,rfl,_⟩:=id HV1.out;obtain⟨w2,hw2⟩:=nm_ (w1.alloc (.cells #[.int .i64 x.m,.int .u64 x.sd,.int .i64 x.y,.slice A n c,.slice A2 n2 c2] 31));have b2:=bal hw2;have q2:=hw2▸Blk.new w1 31 #[.int .i64 x.m,.int .u64 x.sd,.int .i64 x.y,.slice A n c,.slice A2 n2 c2];obtain⟨L,hL⟩:=nm_ (w1.heap.size);have hLt:=Blk.lt q2;have HB2:=htr HB1 b2;have HV2:=H_ (HV1.out.aA b2);have HQ2:=H_ q2;have HW2:=H_ hw2;rw[hL]at HQ2 hLt;have H9:=H_ (yT s w2 (HG.out.below HB2.out) hs HL.out.2.1 HL.out.2.2 HL.out.1);clear b2 q2 hw2 HB1 HV1;go_upto_region 4 with fail;try rw[HW2.out]
  try rw[hL]
  go_wp2_with fail;refine H9.out.mono ?_;intro e w3 he3;obtain⟨b3,q',er',x',v',rfl,hv',hc'⟩:=lQ he3
  have hsame:q'=q/\er'=er/\x'=x:=by
   rcases HC1.out with⟨h1,rfl⟩|⟨h1,rfl,rfl⟩<;>rcases hc' with⟨h2,rfl⟩|⟨h2,rfl,rfl⟩
   ·rw[h1]at h2;cases h2;exact⟨rfl,rfl,rfl⟩
   ·rw[h1]at h2;cases h2
   ·rw[h1]at h2;cases h2
   ·rw[h1]at h2;cases h2;exact⟨rfl,rfl,rfl⟩
  obtain⟨rfl,rfl,rfl⟩:=hsame
  have hgood:lsz csz x'.cs<=1000000/\(∀d∈x'.ac,d.args.length<=1000000/\d.surv.length<=1000000)/\x'.ac.length<=1000000:=by
   rcases HC1.out with⟨_,rfl⟩|⟨h1,_,_⟩
   ·exact⟨by decide,λd hd=>(by cases hd),Nat.zero_le _⟩
   ·obtain⟨g1,g2,g3⟩:=nC h1;have:=HL.out.2.2;exact⟨by omega,λd hd=>by obtain⟨_,_,_,z1,z2⟩:=kS (g2 d hd);omega,by omega⟩
  have HGD:=H_ hgood;have HV3:=H_ (HV2.out.aA b3);have HU3:=H_ hv';have HB3:=htr HB2 b3;have HQ3:=H_ (HQ2.out.below b3 hLt);clear he3 hv' hc' b3 H9 HB2 HV2 HQ2 HC1 hgood;obtain⟨A',n',c',A2',n2',c2',rfl,_⟩:=id HU3.out;obtain⟨w4,hw4⟩:=nm_ (w3.alloc (.cells #[.int .i64 x'.m,.int .u64 x'.sd,.int .i64 x'.y,.slice A' n' c',.slice A2' n2' c2'] 35));have b4:=bal hw4;have q4:=hw4▸Blk.new w3 35 #[.int .i64 x'.m,.int .u64 x'.sd,.int .i64 x'.y,.slice A' n' c',.slice A2' n2' c2'];obtain⟨M,hM⟩:=nm_ (w3.heap.size);have HB4:=htr HB3 b4;have HV4:=H_ (HV3.out.aA b4);have HU4:=H_ (HU3.out.aA b4);have HQ4:=hbl HQ3 b4;have HR4:=H_ q4;have HW4:=H_ hw4;rw[hM]at HR4;clear b4 q4 hw4 HB3 HV3 HU3 HQ3;go_upto_region 5 with fail;try rw[HW4.out]
  try rw[hM]
  obtain⟨TT,f,hne,hf,hcov⟩:=aX w4.heap.size w4
  have C11:=H_ (show∀y,Calls Tryz.prog 11 #[.agg #[.int .i64 x'.m,.int .u64 x'.sd,.int .i64 x'.y,.slice A n c,.slice A2 n2 c2]] (f y) (λe w''=>e= .returned (.agg #[.int .i64 x'.m,.int .u64 x'.sd,.int .i64 x'.y,.slice A n c,.slice A2 n2 c2])/\∃z,w''=f z)from λy=>
   (xf x' _ (f y) (HV4.out.aA (hf y))).mono λe w'' ⟨h1,h2⟩=>⟨h1,hcov _ ((hf y).trans (h2.mono (hf y).size))⟩)
  have C10:=H_ (show∀y,Calls Tryz.prog 10 #[.agg #[.int .i64 x'.m,.int .u64 x'.sd,.int .i64 x'.y,.slice A n c,.slice A2 n2 c2],.agg #[.int .i64 x'.m,.int .u64 x'.sd,.int .i64 x'.y,.slice A' n' c',.slice A2' n2' c2']] (f y) (λe w''=>e= .returned (.bool true)/\∃z,w''=f z)from λy=>
   (yR x' _ _ (f y) (HV4.out.aA (hf y)) (HU4.out.aA (hf y)) HGD.out.1 HGD.out.2.1 HGD.out.2.2).mono λe w'' ⟨h1,h2⟩=>⟨h1,hcov _ ((hf y).trans (h2.mono (hf y).size))⟩)
  have C7:=H_ (show∀y,Calls Tryz.prog 7 #[] (f y) (λe w''=>e= .returned (.bool true)/\∃z,w''=f z)from λy=>
   (wj (f y) ((HG.out.below HB4.out).below (hf y))).mono λe w'' ⟨h1,h2⟩=>⟨h1,hcov _ ((hf y).trans (h2.mono (hf y).size))⟩)
  have R1:=H_ (show∀y,(f y).rangeAt L 0 [.int .i64 x'.m,.int .u64 x'.sd,.int .i64 x'.y,.slice A n c,.slice A2 n2 c2]from λy j u hj=>by rw[Nat.zero_add];exact((HQ4.out.below (hf y) HQ4.out.lt).cell j).trans (by simpa using hj));have R2:=H_ (show∀y,(f y).rangeAt M 0 [.int .i64 x'.m,.int .u64 x'.sd,.int .i64 x'.y,.slice A' n' c',.slice A2' n2' c2']from λy j u hj=>by rw[Nat.zero_add];exact((HR4.out.below (hf y) HR4.out.lt).cell j).trans (by simpa using hj));have HF:=H_ (λy=>HB4.out.trans ((hf y).mono HB4.out.size));have HCOV:=H_ hcov;have hee:(er'==er')=true:=beq_self_eq_true _;have hqq:((q':Int)==(q':Int))=true:=beq_self_eq_true _;clear hf hcov HB4 HV4 HU4 HQ4 HR4;refine ah f (by kernel_rfl) (by kernel_rfl) (HCOV.out _ (Below.refl _ _).drew) ?_;repeat (go_big_quiet_step (fail))
  go_big_quiet_want;refine cB 31 (.tmp 3) rfl L 0 rfl [_,_,_,_,_] _ (by rintro _ ⟨y,rfl⟩;exact R1.out y) Tryz.underlying31 rfl (by kernel_rfl) ?_;go_simp;go_big_quiet_on;repeat (go_big_quiet_step ((go_at_call 11;exact C11.out _)))
  go_big_quiet_want;refine cB 35 (.tmp 6) rfl M 0 rfl [_,_,_,_,_] _ (by rintro _ ⟨y,rfl⟩;exact R2.out y) Tryz.underlying35 rfl (by kernel_rfl) ?_;go_simp;go_big_quiet_on;repeat (go_big_quiet_step (first|(go_at_call 10;exact C10.out _)|(go_at_call 7;exact C7.out _)))
  refine wpQuiet_nil ?_;rintro _ ⟨y,rfl⟩;go_wp2_with fail;go_ret;exact⟨rfl,HF.out y⟩
end
section
open Go.RowKit Go.ChangeShapes Go.WideShapes Go.ChangeAt Go.Deep
variable{P:Program}{W:World}{g n:Nat}{name:String}
theorem Ap:ownKnob Tryz.prog.godebug=none:=by kernel_rfl
theorem vq:laidOutB Tryz.prog=true:=by kernel_rfl
theorem kY{k:IntKind}{zs:List Int}{t e:TypeId}
 (hg:P.globalNamed name=some g) (hty:(P.globals[g]?).map (·.type)=some t) (ht:P.underlying t=some (.array n e)) (he:P.underlying e=some (.int k)) (hce:P.cellsOf e=1) (hct:P.cellsOf t=n)
 (h:Lib.VarReads P W name (Lib.tabData k zs)):Lib.TabIs P W name k zs:=by
 obtain⟨g',t',cs,fuel,p,h1,h2,h3,h4⟩:=h;rw[hg]at h1;obtain rfl:=Option.some.inj h1;rw[hty]at h2;obtain rfl:=Option.some.inj h2;have:=Lib.cells_of_tab ht he hce hct h4;unfold Lib.TabIs;rw[h3,<-this]
theorem gG{nm:String}{d:DataW Unit}{t:TypeId}{ms:Array (String×TypeId)}(hg:P.globalNamed name=some g)(hty:(P.globals[g]?).map (·.type)=some t)(ht:P.underlying t=some (.interface ms))
 (h:Lib.VarReads P W name (.iface nm d)):∃tp p,W.var? P name=some #[.iface tp p]:=by
 obtain⟨g',t',cs,fuel,p,h1,h2,h3,h4⟩:=h;rw[hg]at h1;obtain rfl:=Option.some.inj h1;rw[hty]at h2;obtain rfl:=Option.some.inj h2;obtain⟨_,u,v,hcs,_⟩:=iface_of_trod ht h4;refine⟨u,v,?_⟩;rw[h3]
 congr 1
 exact Array.toList_inj.1 hcs
theorem i1{ss:List (List UInt8)}{t:TypeId}(hg:Tryz.prog.globalNamed name=some g)(hty:(Tryz.prog.globals[g]?).map (·.type)=some t)(ht:Tryz.prog.underlying t=some (.slice 9))(hn:ss.length=n+1)
 (h:Lib.VarReads Tryz.prog W name (.slice (ss.map λs=> .lit (.string s)) [])):∃A c,W.cell? ⟨g,0,none⟩=some (.slice A (n+1) c)/\Strs W W.heap.size A (n+1) (ss.map λs=>⟨s.toArray⟩):=by
 obtain⟨g',t',cs,fuel,p,h1,h2,h3,h4⟩:=h;rw[hg]at h1;obtain rfl:=Option.some.inj h1;rw[hty]at h2;obtain rfl:=Option.some.inj h2;rcases DataW.trod_slice ht h4 with⟨hcs,hx⟩|⟨a,len,cap,elems,rest,m,rfl,hcs,hx,_,_,_,hel,hi,_⟩
 ·simp at hx
 ·simp only[Prod.mk.injEq,DataW.slice.injEq]at hx;obtain⟨⟨hx1,_⟩,_⟩:=hx
  have hlen:len=n+1:=by
   have:=congrArg List.length hx1;simp only[List.length_map]at this;omega
  subst hlen
  have hcell:W.cell? ⟨g,0,none⟩=some (.slice (some a) (n+1) cap):=by
   have:=World.var?_cell hg h3 0;rw[show cs= #[.slice (some a) (n+1) cap]from Array.toList_inj.1 hcs]at this;simpa using this
  have hc9:Tryz.prog.cellsOf 9=1:=by kernel_rfl
  have hes:∀i s,ss[i]?=some s->W.cell? (a.add i)=some (.string ⟨s.toArray⟩):=λi s hs=>by
   have hil:i<n+1:=by rw[<-hn];exact(List.getElem?_eq_some_iff.1 hs).1
   have h5:=hi i hil;have hel':i<elems.length:=by omega
   rw[List.getElem?_eq_getElem hel',hc9,Nat.mul_one]at h5;obtain⟨cs',h6,h7⟩:=Option.bind_eq_some_iff.1 h5;obtain⟨s',rfl,h8,_⟩:=DataW.trod_string Tryz.underlying9 h7
   have h9:(elems.map (·.1))[i]?=some (.lit (.string s'.data.toList)):=by
    rw[List.getElem?_map,List.getElem?_eq_getElem hel',h8];rfl
   rw[<-hx1,List.getElem?_map,hs]at h9;simp only[Option.map_some,Option.some.injEq,DataW.lit.injEq,Lit.string.injEq]at h9;obtain⟨_,_,h10⟩:=World.cells?_some h6;have:=h10 0 (by simp);rw[show((a.add i).add 0)=a.add i from by unfold Addr.add;simp]at this;rw[this];simp[h9]
  refine⟨some a,cap,hcell,by simp[hn],λh0=>?_⟩;have h00:0<ss.length:=by omega
  have hc0:=hes 0 ss[0] (List.getElem?_eq_getElem h00);obtain⟨b,off,spot⟩:=a;have hspot:spot=none:=by simpa[Addr.add]using World.cell?_spot hc0
  subst hspot;refine⟨b,off,rfl,by simpa[Addr.add]using World.block_lt_of_cell? W _ hc0,λj v hv=>?_⟩;rw[List.map_map,List.getElem?_map]at hv;obtain⟨s,hs,rfl⟩:=Option.map_eq_some_iff.1 hv;have:=hes j s hs;rwa[show((⟨b,off,none⟩:Addr).add j)=⟨b,off+j,none⟩from by unfold Addr.add;split<;>simp_all]at this
theorem po{H:Type}{enc:TypeId×Value->H}{a:Assume}{C:Checked}{os:Os}{f:FuncId}{fn:Func}{s:ChangeSpec}{conds:List PathCond}{apart fresh handsOn again:Bool}{X:World->Array Value->Prop}
 (hX:∀(w w':World) (args:Array Value),w.heap=w'.heap->X w args->X w' args)
 (own:ownKnob C.prog.godebug=none) (started:os.Started) (noInit:C.prog.inits.idxOf? f=none) (hfn:C.prog.funcs[f]?=some fn)
 (witness:∃(w:World) (tape:Tape) (i:Input),w.os=os/\(w.forCall tape i).Shaped C.prog/\i.vars=[]/\Input.okWide C.prog (w.forCall tape i) .any w.heap.size f i/\
   ((s.pre enc C.prog fn conds apart (w.forCall tape i).memory i.args/\X (w.forCall tape i).memory i.args)/\sizedMet enc C.prog fn (OpenSpec.ofChange s) apart (w.forCall tape i).memory i.args)/\a.holds C.prog (lone (Frame.enter C.prog f i.args .normal) [] (w.forCall tape i)))
 (contract:∀(W:World) (base:Nat) (args:Array Value) (ds gs:List (DataW H)) (before:List MemPlace),
   (∀(j:Nat) t v,fn.params[j]?=some t->args[j]?=some v->Value.okWide C.prog W .any base t v)->
   DataW.Whole enc C.prog fn.params.toList s.vars apart W args.toList ds gs before->X W args->W.ShapedOpen C.prog->
   Calls C.prog f args W λe W'=>∃v,e= .returned v/\s.post enc C.prog fn apart fresh handsOn again W args v W'):
 ReturnsInHanded a C os f .any (λw args=>(s.pre enc C.prog fn conds apart w args/\X w args)/\sizedMet enc C.prog fn (OpenSpec.ofChange s) apart w args) (s.post enc C.prog fn apart fresh handsOn again):=by
 refine returnsInHanded_of_calls own started noInit witness ?_;intro w tape i _ hsh _ hok hpre _;obtain⟨_,_,_,fn',hfn',_,_,_,_,hval⟩:=hok;obtain rfl:fn'=fn:=Option.some.inj (hfn'.symm.trans hfn);obtain⟨⟨⟨ds,gs,before,hw,_⟩,hx⟩,_⟩:=hpre;refine(contract (w.forCall tape i) w.heap.size i.args ds gs before hval (DataW.Whole.of_heap (w':=w.forCall tape i) (by rfl) hw) (hX _ _ _ (by rfl) hx) hsh).mono λe W' ⟨v,he,hp⟩=>?_;subst he;exact ChangeSpec.post_blind hp
def aa:List (String×DataW Unit):=Rows.scriptParsesRow.laid
def kwN:List (List UInt8):=kwL.map (·.data.toList)
def syN:List (List UInt8):=syL.map (·.data.toList)
theorem zP:((begin Tryz.prog (λ_ _=>0) default).world.heap[0]?).bind Obj.row?=some (#[.int .i64 0],3):=by kernel_rfl
theorem zO:∃x,((begin Tryz.prog (λ_ _=>0) default).world.heap[11]?).bind Obj.row?=some x:=by
 cases h:((begin Tryz.prog (λ_ _=>0) default).world.heap[11]?).bind Obj.row? with
 |some x=>exact⟨x,rfl⟩
 |none=>
  have:(((begin Tryz.prog (λ_ _=>0) default).world.heap[11]?).bind Obj.row?).isSome=true:=by kernel_rfl
  rw[h]at this;cases this
theorem Af(hL:laidMetH Tryz.prog aa W)(hsh:W.ShapedOpen Tryz.prog):Gl W:=by
 rw[MakeChecks.laidMetH_plain _ _ _ (by kernel_rfl)]at hL;have r3:=Lib.laidMet.reads hL (show("internal/strconv.uint64pow10",Rows.laid_internal_strconv_uint64pow10)∈aa from by unfold aa Rows.scriptParsesRow;simp);have r4:=Lib.laidMet.reads hL (show("strconv.ErrSyntax",Rows.laid_strconv_ErrSyntax)∈aa from by unfold aa Rows.scriptParsesRow;simp);have r5:=Lib.laidMet.reads hL (show("strconv.ErrRange",Rows.laid_strconv_ErrRange)∈aa from by unfold aa Rows.scriptParsesRow;simp);have r6:=Lib.laidMet.reads hL (show("refmesh/lexer.symbols",Rows.laid_refmesh_lexer_symbols)∈aa from by unfold aa Rows.scriptParsesRow;simp);have r7:=Lib.laidMet.reads hL (show("refmesh/lexer.keywords",Rows.laid_refmesh_lexer_keywords)∈aa from by unfold aa Rows.scriptParsesRow;simp)
 have h9:11<W.heap.size:=by
  obtain⟨⟨z,t⟩,h⟩:=zO;obtain⟨cs,hh,_⟩:=hsh.1 11 z t (by rw[jM];decide) h;exact(Array.getElem?_eq_some_iff.1 hh).1
 have k7:=i1 (ss:=kwN) (n:=23) (g:=11) (t:=67) (by kernel_rfl) (by kernel_rfl) (by kernel_rfl) (by kernel_rfl) (show Lib.VarReads Tryz.prog W "refmesh/lexer.keywords" (.slice (kwN.map λs=> .lit (.string s)) [])from r7);have k6:=i1 (ss:=syN) (n:=18) (g:=9) (t:=67) (by kernel_rfl) (by kernel_rfl) (by kernel_rfl) (by kernel_rfl) (show Lib.VarReads Tryz.prog W "refmesh/lexer.symbols" (.slice (syN.map λs=> .lit (.string s)) [])from r6)
 exact⟨cell_of_shapedOpen_int hsh (by rw[jM];decide) zP rfl (by kernel_rfl) (by kernel_rfl) Tryz.underlying3,
  kY (g:=2) (t:=221) (e:=23) (n:=20) (by kernel_rfl) (by kernel_rfl) (by kernel_rfl) (by kernel_rfl) (by kernel_rfl) (by kernel_rfl) (show Lib.VarReads Tryz.prog W "internal/strconv.uint64pow10" (Lib.tabData .u64 Lib.pow10Tab)from r3),
  gG (g:=3) (t:=78) (by kernel_rfl) (by kernel_rfl) Tryz.underlying78 r4,gG (g:=4) (t:=78) (by kernel_rfl) (by kernel_rfl) Tryz.underlying78 r5,k7,k6,by omega,Nat.le_refl _⟩
end
end Go.Proofs.YtjpbckbpeblibaaGreatDoor
