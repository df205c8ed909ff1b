/- part of a proof -/
import Derived.Test.YtjpbckbpeblibaaGreatDoorK07
import Derived.Deep.LoopGhost
namespace Go.Proofs.YtjpbckbpeblibaaGreatDoor
set_option linter.unusedVariables false
set_option linter.unusedSimpArgs false
set_option maxRecDepth 100000
set_option maxHeartbeats 64000000
section
open Go.RowKit
variable{A:Option Addr}{K':Act->World->Prop}{Q:Exit->Act->World->Prop}{T:List Tk}{Z:Nat->Prop}{a:Act}{base c i n off p:Nat}{dss:List (List Value)}{e:TypeId}{o:Oper}{u v:Value}{w w' w1:World}{α:Type}
theorem Bl:type_of% @wpOps_cons:=@wpOps_cons
theorem Cz:type_of% @of_decide_eq_true:=@of_decide_eq_true
theorem CW:type_of% @Bool.or_eq_true_iff:=@Bool.or_eq_true_iff
def iz(sz:Nat)(t e:TypeId):Prop:=Tryz.prog.underlying t=some (.slice e)/\∃i z,Tryz.prog.info? e=some i/\i.zero=some z/\i.size=sz/\i.bytes<=128/\z.cells.size=sz
theorem fO{sz:Nat}{t:TypeId}{z:Value}{bytes:Nat}(ht:Tryz.prog.underlying t=some (.slice e))(h:(Tryz.prog.info? e).map (λi=>(i.zero,i.size,i.bytes))=some (some z,sz,bytes))(hz:z.cells.size=sz)(hb:bytes<=128):iz sz t e:=by
 cases hq:Tryz.prog.info? e with
 |none=>rw[hq]at h;cases h
 |some i=>
  rw[hq]at h;simp only[Option.map_some,Option.some.injEq,Prod.mk.injEq]at h;exact⟨ht,i,z,hq,h.1,h.2.1,by omega,hz⟩
theorem iM:iz 6 166 172:=fO (z:= .agg #[.int .i64 0,.int .i64 0,.int .i64 0,.string ⟨#[]⟩,.bool false,.slice none 0 0]) (bytes:=72) (by kernel_rfl) (by kernel_rfl) rfl (by decide)
theorem mE:iz 1 67 9:=fO (z:= .string ⟨#[]⟩) (bytes:=16) (by kernel_rfl) (by kernel_rfl) rfl (by decide)
theorem yj:iz 5 119 168:=fO (z:= .agg #[.int .i64 0,.string ⟨#[]⟩,.slice none 0 0,.slice none 0 0,.slice none 0 0]) (bytes:=96) (by kernel_rfl) (by kernel_rfl) rfl (by decide)
theorem yl:iz 3 115 121:=fO (z:= .agg #[.string ⟨#[]⟩,.slice none 0 0,.slice none 0 0]) (bytes:=64) (by kernel_rfl) (by kernel_rfl) rfl (by decide)
theorem un:iz 4 26 117:=fO (z:= .agg #[.string ⟨#[]⟩,.bool false,.slice none 0 0,.slice none 0 0]) (bytes:=72) (by kernel_rfl) (by kernel_rfl) rfl (by decide)
def noZ:Nat->Prop:=λ_=>False
theorem dK{K:Kd α}{t:TypeId}(hR:iz K.sz t e)(ty:TypeId){xs ys:List α}{b:Nat}
 (hv:Vec K e base Z w v xs) (hd:dss.length=ys.length) (hat:At w b off dss.flatten)
 (hy:∀(j:Nat) x cs,ys[j]?=some x->dss[j]?=some cs->K.rd w (λb=>NG base Z w b/\v.ownBlock≠some b) x cs)
 (hn:xs.length+ys.length<=200000) (hbase:base<=w.heap.size) (hZ:∀b,w.heap.size<=b->¬Z b):
 ∃v' w',(Builtin.append_ #[t,t] ty #[v,.slice (some ⟨b,off,none⟩) ys.length c]).run Tryz.prog w= .ok v' w'/\Vec K e base Z w' v' (xs++ys)/\w.grownBy w' v.ownBlock/\(v'.ownBlock=v.ownBlock\/v'.ownBlock=some w.heap.size):=by
 obtain⟨ht,i,z,hi,hz,hsz,hby,hzs⟩:=hR;obtain⟨hp,css,h1,h2,h3⟩:=hv
 have hlen:∀ds∈dss,ds.length=K.sz:=λds hds=>by
  obtain⟨j,hj⟩:=List.getElem?_of_mem hds;have hjl:j<ys.length:=by have:=(AH.1 hj).1;omega
  exact K.len (hy j ys[j] ds (AI hjl) hj)
 have hone:∀u∈dss.flatten,u.oneCell'=true:=λu hu=>by
  obtain⟨ds,hds,hu⟩:=List.mem_flatten.1 hu;obtain⟨j,hj⟩:=List.getElem?_of_mem hds;have hjl:j<ys.length:=by have:=(AH.1 hj).1;omega
  exact K.one (hy j ys[j] ds (AI hjl) hj) u hu
 have hfl:dss.flatten.length=ys.length*K.sz:=by
  rw[List.length_flatten,<-hd];clear hd hat hy h1 h2 h3 hone;induction dss with
  |nil=>simp
  |cons d l ih=>rw[BG,List.sum_cons,hlen d (by simp),ih (λx hx=>hlen x (by simp[hx])),AZ,Nat.succ_mul];omega
 obtain⟨v',w',hr,hown,hgrow,_,hatb⟩:=run_append_own_at (P:=Tryz.prog) w base t ty e i z K.sz i.bytes ht hi hz hsz rfl hzs K.pos v xs.length css.flatten h1 ⟨b,off,none⟩ ys.length c dss.flatten hfl (λj u hu=>by rw[fY];exact hat j u hu) hone (by simp only[maxLen];omega)
  (by have:(xs.length+ys.length)*i.bytes<=200000*128:=Nat.mul_le_mul (by omega) hby;omega) hbase
 exact⟨v',w',hr,Vec.app hp h2 h3 hd hy (hZ _ (AB _)) hown hgrow hatb,hgrow,hatb⟩
theorem cM{P:Program}(s x:Operand)(t:TypeId)(ho:o.op= .call {callee:= .builtin .append,args:= #[s,x],argTypes:= #[t,t]}){v':Value}
 (hs:a.eval s=v) (hx:a.eval x=u) (hr:(Builtin.append_ #[t,t] o.type #[v,u]).run P w= .ok v' w') (h:K' (a.put o.dst v') w'):Oper.wp P o a w K' Q:=by
 unfold Oper.wp execOp;simp only[ho,resolve,invoke,builtin,BC,Bv,Bi,Cm,BG,Ct,hs,hx,hr];exact h
theorem cZ{K:Kd α}{t:TypeId}(hR:iz K.sz t e)(s x:Operand)
 (ho:o.op= .call {callee:= .builtin .append,args:= #[s,x],argTypes:= #[t,t]}) {xs ys:List α} {b m:Nat}
 (hv:Vec K e base Z w v xs) (hd:dss.length=ys.length) (hat:At w b off dss.flatten)
 (hy:∀(j:Nat) x cs,ys[j]?=some x->dss[j]?=some cs->K.rd w (λb=>NG base Z w b/\v.ownBlock≠some b) x cs) (hs:a.eval s=v) (hx:a.eval x= .slice (some ⟨b,off,none⟩) m c) (hm:m=ys.length)
 (hn:xs.length+ys.length<=200000) (hbase:base<=w.heap.size) (hZ:∀b,w.heap.size<=b->¬Z b)
 (h:∀v' w',Vec K e base Z w' v' (xs++ys)->w.grownBy w' v.ownBlock->K' (a.put o.dst v') w'):Oper.wp Tryz.prog o a w K' Q:=by
 subst hm;obtain⟨v',w',hr,h2,h3,_⟩:=dK hR o.type hv hd hat hy hn hbase hZ;exact cM s x t ho hs hx hr (h _ _ h2 h3)
theorem bv{K:Kd α}{t:TypeId}(hR:iz K.sz t e){ops:Array Oper}{rest:List Oper}(hgd:o.guard=none)(s x:Operand)
 (ho:o.op= .call {callee:= .builtin .append,args:= #[s,x],argTypes:= #[t,t]}) {w0:World} {xs:List α} {y:α} {cs:List Value} {te:TypeId}
 (hv:Vec K e base Z w0 v xs) (hy:K.rd w0 (λb=>NG base Z w0 b/\v.ownBlock≠some b) y cs) (hs:a.eval s=v) (hx:a.eval x= .slice (some ⟨w0.heap.size,0,none⟩) 1 c)
 (hn:xs.length<=100000) (hbase:base<=w0.heap.size) (hZ:∀b,w0.heap.size<=b->¬Z b)
 (h:∀v' w',Vec K e base Z w' v' (xs++[y])->w0.grownBy w' v.ownBlock->wpList Tryz.prog ops Q rest (a.put o.dst v') w'):
 wpList Tryz.prog ops Q (o::rest) a (w0.alloc (.cells cs.toArray te)):=by
 have hg1:w0.grownBy (w0.alloc (.cells cs.toArray te)) v.ownBlock:=⟨rfl,rfl,rfl,by simp,λk hk hp=>BR _ _ _ hk⟩;have hv1:Vec K e base Z (w0.alloc (.cells cs.toArray te)) v xs:=hv.aA (by simp) (λk hk=>BR _ _ _ hk.2.1);refine wpList_plain hgd λK' hK=>?_;refine cZ hR s x ho hv1 (ys:=[y]) (dss:=[cs]) rfl (by simpa using At.aG (Blk.new w0 te cs.toArray)) (λj x' cs' h1 h2=>?_) hs hx rfl (by simp;omega) (by simp;omega) (λb hb=>hZ b (by simp at hb;omega)) (λv' w' h1 h2=>hK _ _ (h v' w' h1 (hg1.trans h2)));cases j with
 |zero=>
  simp at h1 h2;subst h1 h2;exact K.aA (λb hb=>⟨⟨hb.1.mono (by simp),hb.2⟩,BR _ _ _ hb.1.2.1⟩) hy
 |succ j=>simp at h1
def rvV{α:Type}(K:Kd α)(e:TypeId)(base:Nat):Rv (List α):=λw _ xs v=>Vec K e base noZ w v xs/\xs.length<=20000
theorem PS.alloc(h:PS w p A c T i)(o:Obj):PS (w.alloc o) p A c T i:=h.below ((AC _ _).alloc (AB _) _)
theorem PS.al{o:Obj}(h:PS w p A c T i)(e:w.alloc o=w'):PS w' p A c T i:=e▸h.alloc o
theorem Bx.new{S:Nat}(h:Bx S p w w1)(o:Obj)(hS:S<=w.heap.size):Bx S p w (w1.alloc o):=h.alloc (by have:=h.size;omega) o
theorem PS.grown{row:Option Nat}(h:PS w p A c T i)(hg:w.grownBy w' row)(hr:∀k,row=some k->p<k):PS w' p A c T i:=by
 have hp:=h.aG.lt;refine⟨(hg.block p hp (λe=>by have:=hr p e.symm;omega)).trans h.aG,?_,h.wf,h.lt⟩;obtain⟨b,off,h1,h2,h3⟩:=h.tok;exact⟨b,off,h1,h2,h3.aA (hg.block b (by omega) (λe=>by have:=hr b e.symm;omega))⟩
theorem fR{w2:World}(hb:base<=w1.heap.size)(hu:∀k,u.ownBlock=some k->k<w1.heap.size):∀b,Fr w1 w2 b->(NG base noZ w2 b/\u.ownBlock≠some b)/\w2.heap[b]?=w2.heap[b]?:=
 λb hb'=>⟨⟨⟨AW hb hb'.1,hb'.2,λh=>h⟩,λe=>by have:=hu b e;have:=hb'.1;omega⟩,rfl⟩
def rvL{α:Type}(K:Kd α)(e:TypeId)(base:Nat):Rv (List α):=λw G xs v=>rvV K e base w G xs v/\(xs=[]->v= .slice none 0 0)
--walks
theorem lu{f:Nat->R α}(h1:isT T eA i=true)(h2:isT T eg (i+1)=false){x:α}{j:Nat}(h3:f (i+1)= .ok x j):bg T f i=cx T f (T.length+1) [x] j:=by
 unfold bg ap;rw[AP h1];simp only;rw[AL (by rw[h2];simp),h3]
theorem rG{f:Nat->R Ex}(hE:∀(ar:Array Value) (w:World),(callFunc n ar).run Tryz.prog w= .ok (.enter n ar) w)(HF:∀j,i<j->RdAt rvE n T f j)(hup:Up f)(p c:Nat)(A:Option Addr)(w:World)(h:PS w p A c T i):
 Calls Tryz.prog 302 #[.pointer (some ⟨p,0,none⟩),.func (.func n) #[.pointer (some ⟨p,0,none⟩)] #[]] w (Out (rvL kEx 172 w.heap.size) p A c T w (bg T f i)):=by
 have hp:=h.aG.lt;have HP:=H_ h;have HF':=H_ HF;have HU:=H_ hup;clear h HF hup;go_enter Tryz.func302,Tryz.ntmps302;go_wp2_with fail;refine bR (HP.out.alloc _) ((Blk.new w _ _).cell 0) (λj w1 hr b1=>?_) (λj w1 hr P1 b1=>?_)
 ·exact⟨rfl,Out.bad (by unfold bg;rw[show ap T eA i= .bad j from hr]) (((Bx.refl w.heap.size p w).new _ (AB _)).aB b1)⟩
 ·obtain⟨hti,rfl⟩:=bV hr;have B1:=H_ (((Bx.refl w.heap.size p w).new _ (AB _)).aB b1);have HTI:=H_ (show isT T eA i=true from hti);clear hr b1 hti;go_wp2_with fail;refine bd P1 eg (λht w2 P2 b2=>?_) (λht w2 P2 b2=>?_)
  ·have B2:=hth B1 b2;have HT:=H_ ht;have HP2:=H_ P2;clear b2 ht P2 P1 B1;go_wp2_with fail;go_ret;exact Out.ok (j:=i+1+1) (by unfold bg ap;rw[AP HTI.out];simp only;rw[AP HT.out]) ⟨⟨Vec.nil _ _ _ _ _,by simp⟩,λ_=>rfl⟩ HP2.out B2.out
  ·have B2:=hth B1 b2;have HT:=H_ ht;have HP2:=H_ P2;clear b2 ht P2 P1 B1;go_wp2_with fail;refine Out.use (HF'.out (i+1) (by omega) p c A w2 HP2.out) (λj w3 hr b3=>?_) (λx j v w3 hr hv P3 b3=>?_)
   ·exact⟨rfl,Out.bad (by unfold bg ap;rw[AP HTI.out];simp only;rw[AL (by rw[HT.out];simp),hr]) (B2.out.aB b3)⟩
   ·have hij:=HU.out _ _ _ hr;obtain⟨k0,op,z,nm,at_,A',n',c',rfl,hv'⟩:=ExV.inv hv;have HEQ:=H_ (lu HTI.out HT.out hr);have HP3:=H_ P3;have B3:=hth B2 b3;have hb2:=B2.out.size;have hb3:=B3.out.size;have HV:=H_ hv';have hj:=P3.lt;have hT:=P3.wf.few
    (try clear hv)
    clear hr P3 b3;go_wp2_with (at_builtin;refine bv iM (K:=kEx) rfl (.tmp 11) (.tmp 14) rfl (Vec.nil kEx 172 w.heap.size noZ w3) (kEx.aA (fR hb2 (λk hk=>by simp[Value.ownBlock]at hk)) HV.out) rfl rfl (by simp) hb3 (λb hb h=>h) ?_);intro u w4 hv4 hg4;have V4:=H_ hv4;have HP4:=H_ (HP3.out.grown hg4 (λk hk=>by simp[Value.ownBlock]at hk));have B4:=H_ (B3.out.grown hg4 hb3 (λk hk=>by simp[Value.ownBlock]at hk));clear hv4 hg4 HP3 B3 HV;go_wp2_with fail;go_loopg [5] (T.length-j) (λk u wr=>∃(xs:List Ex) (q:Nat),k=T.length-q/\Hid (Vec kEx 172 w.heap.size noZ wr u xs)/\Hid (PS wr p A c T q)/\Hid (Bx w.heap.size p w wr)/\i<q/\(xs.length<=q/\xs≠[])/\Hid (∃m,T.length+1<=m+q/\bg T f i=cx T f m xs q))
    case atStart=>exact⟨[x],j,rfl,V4,HP4,B4,by omega,⟨by simp;omega,by simp⟩,H_ ⟨_,by omega,HEQ.out⟩⟩
    case round=>
     clear V4 HP4 B4 HEQ HP2 B2;obtain⟨xs,q,rfl,HVr,HPr,HBr,hiq,⟨hxq,hxn⟩,HEr⟩:=hrel;obtain⟨m,hm,heq⟩:=HEr.out;have hqT:=HPr.out.lt;obtain⟨m,rfl⟩:∃m',m=m'+1:=⟨m-1,by omega⟩;have HE1:=H_ heq;clear HEr heq;go_wp2_with fail;refine bd HPr.out lW (λht w5 P5 b5=>?_) (λht w5 P5 b5=>?_)
     ·have B5:=hth HBr b5;have HT5:=H_ ht;have HP5:=H_ P5;have V5:=hvk HVr b5;clear b5 ht P5 HBr HPr HVr;go_wp2_with fail;refine Out.use (HF'.out (q+1) (by omega) p c A w5 HP5.out) (λj6 w6 hr b6=>?_) (λx6 j6 v w6 hr hv P6 b6=>?_)
      ·exact⟨rfl,Out.bad (by rw[HE1.out];unfold cx;rw[AP HT5.out,hr]) (B5.out.aB b6)⟩
      ·have hj6:=HU.out _ _ _ hr;obtain⟨k0,op,z,nm,at_,A',n',c',rfl,hv'⟩:=ExV.inv hv;have HE6:=H_ (show bg T f i=cx T f m (xs++[x6]) j6 by rw[HE1.out];conv=>lhs;unfold cx;rw[AP HT5.out,hr]);have HP6:=H_ P6;have B6:=hth B5 b6;have hb5:=B5.out.size;have hb6:=B6.out.size;have HV:=H_ hv';have V6:=hvk V5 b6;have HO:=H_ V5.out.lt;have hj6T:=P6.lt
       (try clear hv)
       clear hr P6 b6 V5 HE1;go_wp2_with (at_builtin;refine bv iM (K:=kEx) rfl (.tmp 18) (.tmp 21) rfl V6.out (kEx.aA (fR hb5 (λk hk=>(HO.out k hk).2)) HV.out) rfl rfl (by omega) hb6 (λb hb h=>h) ?_);intro u7 w7 hv7 hg7;have V7:=H_ hv7;have HP7:=H_ (HP6.out.grown hg7 (λk hk=>by have:=(HO.out k hk).1;omega));have B7:=H_ (B6.out.grown hg7 hb6 (λk hk=>(HO.out k hk).1));clear hv7 hg7 HP6 B6 HV V6 B5 HP5;go_wp2_with fail;go_roundg (T.length-j6)
       case rel=>exact⟨xs++[x6],j6,rfl,V7,HP7,B7,by omega,⟨by simp;omega,by simp⟩,H_ ⟨m,by omega,HE6.out⟩⟩
       case measure=>omega
     ·have B5:=hth HBr b5;have HT5:=H_ ht;have HP5:=H_ P5;have V5:=hvk HVr b5;clear b5 ht P5 HBr HPr HVr;go_wp2_with fail;refine bR (s:=eg) (HP5.out.alloc _) ((Blk.new w5 _ _).cell 0) (λj6 w6 hr b6=>?_) (λj6 w6 hr P6 b6=>?_)
      ·exact⟨rfl,Out.bad (by rw[HE1.out];unfold cx;rw[AL (by rw[HT5.out];simp),show ap T eg q= .bad j6 from hr]) ((B5.out.new _ (AB _)).aB b6)⟩
      ·have V6:=V5.out.aA (w':=w6) (by have:=b6.size;simp at this;omega) (λk hk=>(b6.block k (by have:=hk.2.1;simp;omega) (by have:=hk.1;omega)).trans (BR _ _ _ hk.2.1));have HV6:=H_ V6;have B6:=H_ ((B5.out.new (.cells #[.string ⟨#[41]⟩] 9) (AB _)).aB b6);have HP6:=H_ P6;have HR6:=H_ hr;clear V6 V5 b6 B5 P6 hr;go_wp2_with fail;go_ret;exact Out.ok (by rw[HE1.out];unfold cx;rw[AL (by rw[HT5.out];simp),HR6.out]) ⟨⟨HV6.out,by omega⟩,λh=>absurd h hxn⟩ HP6.out B6.out
theorem xi{f:Nat->R ByteArray}(hE:∀(ar:Array Value) (w:World),(callFunc n ar).run Tryz.prog w= .ok (.enter n ar) w)(HF:∀j,i<j->RdAt uk n T f j)(hup:Up f)(p c:Nat)(A:Option Addr)(w:World)(h:PS w p A c T i):
 Calls Tryz.prog 212 #[.pointer (some ⟨p,0,none⟩),.func (.func n) #[.pointer (some ⟨p,0,none⟩)] #[]] w (Out (rvL ea 9 w.heap.size) p A c T w (bg T f i)):=by
 have hp:=h.aG.lt;have HP:=H_ h;have HF':=H_ HF;have HU:=H_ hup;clear h HF hup;go_enter Tryz.func212,Tryz.ntmps212;go_wp2_with fail;refine bR (HP.out.alloc _) ((Blk.new w _ _).cell 0) (λj w1 hr b1=>?_) (λj w1 hr P1 b1=>?_)
 ·exact⟨rfl,Out.bad (by unfold bg;rw[show ap T eA i= .bad j from hr]) (((Bx.refl w.heap.size p w).new _ (AB _)).aB b1)⟩
 ·obtain⟨hti,rfl⟩:=bV hr;have B1:=H_ (((Bx.refl w.heap.size p w).new _ (AB _)).aB b1);have HTI:=H_ (show isT T eA i=true from hti);clear hr b1 hti;go_wp2_with fail;refine bd P1 eg (λht w2 P2 b2=>?_) (λht w2 P2 b2=>?_)
  ·have B2:=hth B1 b2;have HT:=H_ ht;have HP2:=H_ P2;clear b2 ht P2 P1 B1;go_wp2_with fail;go_ret;exact Out.ok (j:=i+1+1) (by unfold bg ap;rw[AP HTI.out];simp only;rw[AP HT.out]) ⟨⟨Vec.nil _ _ _ _ _,by simp⟩,λ_=>rfl⟩ HP2.out B2.out
  ·have B2:=hth B1 b2;have HT:=H_ ht;have HP2:=H_ P2;clear b2 ht P2 P1 B1;go_wp2_with fail;refine Out.use (HF'.out (i+1) (by omega) p c A w2 HP2.out) (λj w3 hr b3=>?_) (λx j v w3 hr hv P3 b3=>?_)
   ·exact⟨rfl,Out.bad (by unfold bg ap;rw[AP HTI.out];simp only;rw[AL (by rw[HT.out];simp),hr]) (B2.out.aB b3)⟩
   ·have hij:=HU.out _ _ _ hr;obtain rfl:v= .string x:=hv;have HEQ:=H_ (lu HTI.out HT.out hr);have HP3:=H_ P3;have B3:=hth B2 b3;have hb2:=B2.out.size;have hb3:=B3.out.size;have HV:=H_ (show ea.rd w3 (Fr w2 w3) x [.string x]from rfl);have hj:=P3.lt;have hT:=P3.wf.few
    (try clear hv)
    clear hr P3 b3;go_wp2_with (at_builtin;refine bv mE (K:=ea) rfl (.tmp 11) (.tmp 14) rfl (Vec.nil ea 9 w.heap.size noZ w3) (ea.aA (fR hb2 (λk hk=>by simp[Value.ownBlock]at hk)) HV.out) rfl rfl (by simp) hb3 (λb hb h=>h) ?_);intro u w4 hv4 hg4;have V4:=H_ hv4;have HP4:=H_ (HP3.out.grown hg4 (λk hk=>by simp[Value.ownBlock]at hk));have B4:=H_ (B3.out.grown hg4 hb3 (λk hk=>by simp[Value.ownBlock]at hk));clear hv4 hg4 HP3 B3 HV;go_wp2_with fail;go_loopg [5] (T.length-j) (λk u wr=>∃(xs:List ByteArray) (q:Nat),k=T.length-q/\Hid (Vec ea 9 w.heap.size noZ wr u xs)/\Hid (PS wr p A c T q)/\Hid (Bx w.heap.size p w wr)/\i<q/\(xs.length<=q/\xs≠[])/\Hid (∃m,T.length+1<=m+q/\bg T f i=cx T f m xs q))
    case atStart=>exact⟨[x],j,rfl,V4,HP4,B4,by omega,⟨by simp;omega,by simp⟩,H_ ⟨_,by omega,HEQ.out⟩⟩
    case round=>
     clear V4 HP4 B4 HEQ HP2 B2;obtain⟨xs,q,rfl,HVr,HPr,HBr,hiq,⟨hxq,hxn⟩,HEr⟩:=hrel;obtain⟨m,hm,heq⟩:=HEr.out;have hqT:=HPr.out.lt;obtain⟨m,rfl⟩:∃m',m=m'+1:=⟨m-1,by omega⟩;have HE1:=H_ heq;clear HEr heq;go_wp2_with fail;refine bd HPr.out lW (λht w5 P5 b5=>?_) (λht w5 P5 b5=>?_)
     ·have B5:=hth HBr b5;have HT5:=H_ ht;have HP5:=H_ P5;have V5:=hvk HVr b5;clear b5 ht P5 HBr HPr HVr;go_wp2_with fail;refine Out.use (HF'.out (q+1) (by omega) p c A w5 HP5.out) (λj6 w6 hr b6=>?_) (λx6 j6 v w6 hr hv P6 b6=>?_)
      ·exact⟨rfl,Out.bad (by rw[HE1.out];unfold cx;rw[AP HT5.out,hr]) (B5.out.aB b6)⟩
      ·have hj6:=HU.out _ _ _ hr;obtain rfl:v= .string x6:=hv;have HE6:=H_ (show bg T f i=cx T f m (xs++[x6]) j6 by rw[HE1.out];conv=>lhs;unfold cx;rw[AP HT5.out,hr]);have HP6:=H_ P6;have B6:=hth B5 b6;have hb5:=B5.out.size;have hb6:=B6.out.size;have HV:=H_ (show ea.rd w6 (Fr w5 w6) x6 [.string x6]from rfl);have V6:=hvk V5 b6;have HO:=H_ V5.out.lt;have hj6T:=P6.lt
       (try clear hv)
       clear hr P6 b6 V5 HE1;go_wp2_with (at_builtin;refine bv mE (K:=ea) rfl (.tmp 18) (.tmp 21) rfl V6.out (ea.aA (fR hb5 (λk hk=>(HO.out k hk).2)) HV.out) rfl rfl (by omega) hb6 (λb hb h=>h) ?_);intro u7 w7 hv7 hg7;have V7:=H_ hv7;have HP7:=H_ (HP6.out.grown hg7 (λk hk=>by have:=(HO.out k hk).1;omega));have B7:=H_ (B6.out.grown hg7 hb6 (λk hk=>(HO.out k hk).1));clear hv7 hg7 HP6 B6 HV V6 B5 HP5;go_wp2_with fail;go_roundg (T.length-j6)
       case rel=>exact⟨xs++[x6],j6,rfl,V7,HP7,B7,by omega,⟨by simp;omega,by simp⟩,H_ ⟨m,by omega,HE6.out⟩⟩
       case measure=>omega
     ·have B5:=hth HBr b5;have HT5:=H_ ht;have HP5:=H_ P5;have V5:=hvk HVr b5;clear b5 ht P5 HBr HPr HVr;go_wp2_with fail;refine bR (s:=eg) (HP5.out.alloc _) ((Blk.new w5 _ _).cell 0) (λj6 w6 hr b6=>?_) (λj6 w6 hr P6 b6=>?_)
      ·exact⟨rfl,Out.bad (by rw[HE1.out];unfold cx;rw[AL (by rw[HT5.out];simp),show ap T eg q= .bad j6 from hr]) ((B5.out.new _ (AB _)).aB b6)⟩
      ·have V6:=V5.out.aA (w':=w6) (by have:=b6.size;simp at this;omega) (λk hk=>(b6.block k (by have:=hk.2.1;simp;omega) (by have:=hk.1;omega)).trans (BR _ _ _ hk.2.1));have HV6:=H_ V6;have B6:=H_ ((B5.out.new (.cells #[.string ⟨#[41]⟩] 9) (AB _)).aB b6);have HP6:=H_ P6;have HR6:=H_ hr;clear V6 V5 b6 B5 P6 hr;go_wp2_with fail;go_ret;exact Out.ok (by rw[HE1.out];unfold cx;rw[AL (by rw[HT5.out];simp),HR6.out]) ⟨⟨HV6.out,by omega⟩,λh=>absurd h hxn⟩ HP6.out B6.out
end
section
open Go
variable{P:Program}{Q:Exit->Act->World->Prop}{a:Act}{i id:Nat}{ops:Array Oper}{w:World}{α:Type}
theorem ov{md:Region.Mode}{j:Nat}(h:av md ops i j=true):i<ops.size:=by
 unfold av at h;cases ho:ops[i]? with
 |none=>rw[ho]at h;cases h
 |some o=>exact(AS.1 ho).1
theorem js(fr:(Nat->Value)->Act)(xs0:Nat->Value)(J:(Nat->Value)->World->Prop)(F:Nat->(Nat->Value)->World->Prop)(dep:Nat->Nat->Bool)
 (hm:P.follows .mixedOrders=true) (hac:mh .any ops=true) (hdep:∀k j,k<ops.size->dep k j=true->av .any ops k j=true) (ha:a=fr xs0) (hJ:J xs0 w.drew)
 (hstep:∀i,i<ops.size->∀xs W,J xs W->xs i=xs0 i->(∀j,av .any ops j i=true->xs j=xs0 j)->(∀j,(_:av .any ops i j=true:=by kernel_rfl)->F j xs W)->
   wpOp P ops Q i (λa' W'=>∃v,a'=fr (upd xs i v)/\J (upd xs i v) W'/\F i (upd xs i v) W'/\∀k,k≠i->dep k i=false->F k xs W->F k (upd xs i v) W') (fr xs) W)
 (hend:∀xs W,J xs W->(∀i,(_:i<ops.size:=by decide)->F i xs W)->Q .normal (fr xs) W):(Code.region id ops true).wp P Q a w:=by
 refine wp_region_any hm (eJ (I:=λaa a W=>∃xs,a=fr xs/\J xs W/\aa.size=ops.size/\(∀i,i<ops.size->aa.getD i false=true->F i xs W)/\
  (∀k,k<ops.size->aa.getD k false=true->∀j,av .any ops k j=true->aa.getD j false=true)/\∀k,aa.getD k false=false->xs k=xs0 k) ?_ ?_ _ _ _ _ ?_ ?_)
 ·rintro aa a W i ⟨xs,rfl,hJW,hsz,hF,hcl,hun⟩ hi;obtain⟨h1,o,ho,hall⟩:=mem_ready.1 hi;have hil:=(AS.1 ho).1
  have hni:aa.getD i false=false:=by
   have hsl:i<aa.size:=by omega
   simpa[Array.getD,hsl]using h1
  refine Dh ?_ (hstep i hil xs W hJW (hun i hni) (λj hj=>hun j (by
   cases hl:aa.getD j false with
   |false=>rfl
   |true=>
    have:=hcl j (ov hj) hl i hj;rw[hni]at this;cases this)) λj hj=>by
   obtain⟨e,he,hb,rfl⟩:=cT ho hj;exact hF e.on (by have:=eN hac ho e he hb;omega) (hall e he hb))
  rintro a' W' ⟨v,rfl,hJ',hv,hk⟩
  have hset:∀k,k≠i->(aa.setIfInBounds i true).getD k false=aa.getD k false:=λk hki=>by
   have:i≠k:=λe=>hki e.symm;simp only[Cd,BK this]
  refine⟨_,rfl,hJ',by simpa using hsz,λk hkl hks=>?_,λk hkl hks j hj=>?_,λk hks=>?_⟩
  ·by_cases hki:k=i
   ·subst hki;exact hv
   ·rw[hset k hki]at hks;refine hk _ hki ?_ (hF k hkl hks);cases hd:dep k i with
    |false=>rfl
    |true=>
     have:=hcl k hkl hks i (hdep k i hkl hd);rw[hni]at this;cases this
  ·by_cases hji:j=i
   ·subst hji;have hsl:j<aa.size:=by omega
    simp[Array.getD,hsl]
   ·rw[hset j hji];by_cases hki:k=i
    ·subst hki;obtain⟨e,he,hb,rfl⟩:=cT ho hj;exact hall e he hb
    ·rw[hset k hki]at hks;exact hcl k hkl hks j hj
  ·by_cases hki:k=i
   ·subst hki;have hsl:k<aa.size:=by omega
    simp[Array.getD,hsl]at hks
   ·rw[hset k hki]at hks;rw[dG xs v hki];exact hun k hks
 ·rintro aa a W ⟨xs,rfl,hJW,hsz,hF,_,_⟩ hr;refine hend xs W hJW λi hi=>hF i hi ?_;have h1:=ed hac hr ops.size i hi hi;have hsz2:i<aa.size:=by omega
  simpa[Array.getD,hsz2]using h1
 ·refine AW (CB _ _) (by simp)
 ·exact⟨xs0,ha,hJ,by simp,λi hi h=>by simp[Array.getD,hi]at h,λi hi h=>by simp[Array.getD,hi]at h,λ_ _=>rfl⟩
def au{α:Type}(xs:Nat->α)(i:Nat)(v:α):Nat->α:=λk=>if k=i then v else xs k
theorem bO(xs:Nat->α)(i:Nat)(v:α):au xs i v i=v:=AP rfl
theorem aV(xs:Nat->α){k:Nat}(v:α)(h:k≠i):au xs i v k=xs k:=AL h
theorem dR(fr:(Nat->α)->Act)(xs0:Nat->α)(J:(Nat->α)->World->Prop)(F:Nat->(Nat->α)->World->Prop)(dep:Nat->Nat->Bool)
 (hm:P.follows .mixedOrders=true) (hac:mh .any ops=true) (hdep:∀k j,k<ops.size->dep k j=true->av .any ops k j=true) (ha:a=fr xs0) (hJ:J xs0 w.drew)
 (hstep:∀i,i<ops.size->∀xs W,J xs W->xs i=xs0 i->(∀j,av .any ops j i=true->xs j=xs0 j)->(∀j,(_:av .any ops i j=true:=by kernel_rfl)->F j xs W)->
   wpOp P ops Q i (λa' W'=>∃v,a'=fr (au xs i v)/\J (au xs i v) W'/\F i (au xs i v) W'/\∀k,k≠i->dep k i=false->F k xs W->F k (au xs i v) W') (fr xs) W)
 (hend:∀xs W,J xs W->(∀i,(_:i<ops.size:=by decide)->F i xs W)->Q .normal (fr xs) W):(Code.region id ops true).wp P Q a w:=by
 refine wp_region_any hm (eJ (I:=λaa a W=>∃xs,a=fr xs/\J xs W/\aa.size=ops.size/\(∀i,i<ops.size->aa.getD i false=true->F i xs W)/\
  (∀k,k<ops.size->aa.getD k false=true->∀j,av .any ops k j=true->aa.getD j false=true)/\∀k,aa.getD k false=false->xs k=xs0 k) ?_ ?_ _ _ _ _ ?_ ?_)
 ·rintro aa a W i ⟨xs,rfl,hJW,hsz,hF,hcl,hun⟩ hi;obtain⟨h1,o,ho,hall⟩:=mem_ready.1 hi;have hil:=(AS.1 ho).1
  have hni:aa.getD i false=false:=by
   have hsl:i<aa.size:=by omega
   simpa[Array.getD,hsl]using h1
  refine Dh ?_ (hstep i hil xs W hJW (hun i hni) (λj hj=>hun j (by
   cases hl:aa.getD j false with
   |false=>rfl
   |true=>
    have:=hcl j (ov hj) hl i hj;rw[hni]at this;cases this)) λj hj=>by
   obtain⟨e,he,hb,rfl⟩:=cT ho hj;exact hF e.on (by have:=eN hac ho e he hb;omega) (hall e he hb))
  rintro a' W' ⟨v,rfl,hJ',hv,hk⟩
  have hset:∀k,k≠i->(aa.setIfInBounds i true).getD k false=aa.getD k false:=λk hki=>by
   have:i≠k:=λe=>hki e.symm;simp only[Cd,BK this]
  refine⟨_,rfl,hJ',by simpa using hsz,λk hkl hks=>?_,λk hkl hks j hj=>?_,λk hks=>?_⟩
  ·by_cases hki:k=i
   ·subst hki;exact hv
   ·rw[hset k hki]at hks;refine hk _ hki ?_ (hF k hkl hks);cases hd:dep k i with
    |false=>rfl
    |true=>
     have:=hcl k hkl hks i (hdep k i hkl hd);rw[hni]at this;cases this
  ·by_cases hji:j=i
   ·subst hji;have hsl:j<aa.size:=by omega
    simp[Array.getD,hsl]
   ·rw[hset j hji];by_cases hki:k=i
    ·subst hki;obtain⟨e,he,hb,rfl⟩:=cT ho hj;exact hall e he hb
    ·rw[hset k hki]at hks;exact hcl k hkl hks j hj
  ·by_cases hki:k=i
   ·subst hki;have hsl:k<aa.size:=by omega
    simp[Array.getD,hsl]at hks
   ·rw[hset k hki]at hks;rw[aV xs v hki];exact hun k hks
 ·rintro aa a W ⟨xs,rfl,hJW,hsz,hF,_,_⟩ hr;refine hend xs W hJW λi hi=>hF i hi ?_;have h1:=ed hac hr ops.size i hi hi;have hsz2:i<aa.size:=by omega
  simpa[Array.getD,hsz2]using h1
 ·refine AW (CB _ _) (by simp)
 ·exact⟨xs0,ha,hJ,by simp,λi hi h=>by simp[Array.getD,hi]at h,λi hi h=>by simp[Array.getD,hi]at h,λ_ _=>rfl⟩
structure Nw(B:Nat)(W W':World):Prop where
 size:W.heap.size<=W'.heap.size
 block:∀k,B<=k->k<W.heap.size->W'.heap[k]?=W.heap[k]?
theorem Nw.refl(B:Nat)(W:World):Nw B W W:=⟨AB _,λ_ _ _=>rfl⟩
def fZ(B:Nat)(f:Value->World->Prop):Prop:=∀v W W',Nw B W W'->f v W->f v W'
def mF(ops:Array Oper):Nat->Nat->Nat->Bool
 |0,_,_=>false
 |n+1,i,j=>av .any ops i j||(List.range ops.size).any λk=>av .any ops i k&&mF ops n k j
theorem iP{ops:Array Oper}{aa:Array Bool}(hcl:∀k,aa.getD k false=true->∀j,av .any ops k j=true->aa.getD j false=true):
 ∀(n i j:Nat),(∀j,av .any ops i j=true->aa.getD j false=true)->mF ops n i j=true->aa.getD j false=true
 |0,i,j,hi,h=>by cases h
 |n+1,i,j,hi,h=>by
  unfold mF at h;rcases CW.1 h with h|h
  ·exact hi j h
  ·obtain⟨k,_,hk⟩:=CQ.1 h;obtain⟨h1,h2⟩:=Bool.and_eq_true_iff.1 hk;exact iP hcl n k j (hcl k (hi k h1)) h2
theorem gb(c d m:Nat)(e:Nat->Bool)(fr:(Nat->Option Value)->Act)(J:Bool->World->Prop)(B:Nat)(F:Nat->Value->World->Prop)(hst:∀k,fZ B (F k))
 (hm:P.follows .mixedOrders=true) (hac:mh .any ops=true) (hL:m<ops.size) (hlw:((List.range ops.size).all λi=>decide (i<m)||(List.range i).all λj=>mF ops ops.size i j)=true) (hc:c<m) (hcd:c≠d) (hde:((List.range m).all λi=>decide (i=d)||(List.range m).all λj=> !(e j&&av .any ops i j))=true) (ha:a=fr (λ_=>none)) (hJ:J false w.drew)
 (hstep:∀i,i<m->i≠c->i≠d->∀b xs W,J b W->(∀j,(_:av .any ops i j=true:=by kernel_rfl)->∃v,xs j=some v/\F j v W)->
   wpOp P ops Q i (λa' W'=>∃v,a'=fr (au xs i (some v))/\J b W'/\F i v W'/\Nw B W W') (fr xs) W)
 (hcall:∀xs W,J false W->(∀j,(_:av .any ops c j=true:=by kernel_rfl)->∃v,xs j=some v/\F j v W)->
   wpOp P ops Q c (λa' W'=>∃v,a'=fr (au xs c (some v))/\J true W'/\F c v W'/\Nw B W W') (fr xs) W)
 (happ:d<m->∀xs W,J (xs c).isSome W->(∀j,(_:av .any ops d j=true:=by kernel_rfl)->∃v,xs j=some v/\F j v W)->
   wpOp P ops Q d (λa' W'=>∃v,a'=fr (au xs d (some v))/\J (xs c).isSome W'/\F d v W'/\∀k u,k≠d->e k=false->F k u W->F k u W') (fr xs) W)
 (hend:∀xs W,J true W->(∀i,i<m->e i=false->∃v,xs i=some v/\F i v W)->wpOps P ops Q (List.range' m (ops.size-m)) (fr xs) W):(Code.region id ops true).wp P Q a w:=by
 refine wp_region_any hm (eJ (I:=λaa a W=>aa.size=ops.size/\(∀k,aa.getD k false=true->∀j,av .any ops k j=true->aa.getD j false=true)/\
  ((∃k,m<k/\k<=ops.size/\(∀j,k<=j->aa.getD j false=false)/\(∀j,j<k->aa.getD j false=true)/\wpOps P ops Q (List.range' k (ops.size-k)) a W)\/
  ((∀j,m<=j->aa.getD j false=false)/\∃xs,a=fr xs/\J (xs c).isSome W/\(∀i,i<m->aa.getD i false=true->(e i=true->aa.getD d false=false)->∃v,xs i=some v/\F i v W)/\(∀i,i<m->aa.getD i false=true->(xs i).isSome=true)/\(∀i,aa.getD i false=false->xs i=none)))) ?_ ?_ _ _ _ _ ?_ ?_)
 ·rintro aa a W i ⟨hsz,hcl,hI⟩ hi;obtain⟨h1,o,ho,hall⟩:=mem_ready.1 hi;have hil:=(AS.1 ho).1;have hsl:i<aa.size:=by omega
  have hni:aa.getD i false=false:=by simpa[Array.getD,hsl]using h1
  have hset:∀k,k≠i->(aa.setIfInBounds i true).getD k false=aa.getD k false:=λk hki=>by
   have:i≠k:=λe=>hki e.symm;simp only[Cd,BK this]
  have hself:(aa.setIfInBounds i true).getD i false=true:=by simp[Array.getD,hsl]
  have hdeps:∀j,av .any ops i j=true->j<i/\aa.getD j false=true:=λj hj=>by
   obtain⟨e,he,hb,rfl⟩:=cT ho hj;exact⟨eN hac ho e he hb,hall e he hb⟩
  have hcl':∀k,(aa.setIfInBounds i true).getD k false=true->∀j,av .any ops k j=true->(aa.setIfInBounds i true).getD j false=true:=λk hk j hj=>by
   by_cases hji:j=i
   ·subst hji;exact hself
   ·rw[hset j hji];by_cases hki:k=i
    ·subst hki;exact(hdeps j hj).2
    ·rw[hset k hki]at hk;exact hcl k hk j hj
  have hbefore:m<=i->∀j,j<i->aa.getD j false=true:=λhmi j hj=>by
   have h2:=Bb.1 hlw i (CT.2 hil);rcases CW.1 h2 with h2|h2
   ·have:=Cz h2;omega
   ·exact iP hcl _ i j (λj hj=>(hdeps j hj).2) (Bb.1 h2 j (CT.2 hj))
  have hstage:∀k,m<=k->k=i->(∀j,k<=j->aa.getD j false=false)->wpOps P ops Q (List.range' k (ops.size-k)) a W->
   wpOp P ops Q i (λa' W'=>(aa.setIfInBounds i true).size=ops.size/\(∀k,(aa.setIfInBounds i true).getD k false=true->∀j,av .any ops k j=true->(aa.setIfInBounds i true).getD j false=true)/\
    ((∃k,m<k/\k<=ops.size/\(∀j,k<=j->(aa.setIfInBounds i true).getD j false=false)/\(∀j,j<k->(aa.setIfInBounds i true).getD j false=true)/\wpOps P ops Q (List.range' k (ops.size-k)) a' W')\/
    ((∀j,m<=j->(aa.setIfInBounds i true).getD j false=false)/\∃xs,a'=fr xs/\J (xs c).isSome W'/\(∀k,k<m->(aa.setIfInBounds i true).getD k false=true->(e k=true->(aa.setIfInBounds i true).getD d false=false)->∃v,xs k=some v/\F k v W')/\(∀k,k<m->(aa.setIfInBounds i true).getD k false=true->(xs k).isSome=true)/\(∀k,(aa.setIfInBounds i true).getD k false=false->xs k=none)))) a W:=by
   rintro k hmk rfl hun hw;rw[show ops.size-k=(ops.size-(k+1))+1 by omega,List.range'_succ,Bl]at hw;refine Dh ?_ hw;intro a' W' hw';refine⟨by simpa using hsz,hcl',.inl ⟨k+1,by omega,by omega,λj hj=>?_,λj hj=>?_,hw'⟩⟩
   ·rw[hset j (by omega)];exact hun j (by omega)
   ·by_cases hjk:j=k
    ·subst hjk;exact hself
    ·rw[hset j hjk];exact hbefore hmk j (by omega)
  rcases hI with⟨k,hmk,hks,hun,hli,hw⟩|⟨hun0,xs,rfl,hJW,hF,hso,hun⟩
  ·have hik:i=k:=by
    rcases Nat.lt_trichotomy i k with h|h|h
    ·rw[hli i h]at hni;cases hni
    ·exact h
    ·have:=hbefore (by omega) k h;rw[hun k (AB _)]at this;cases this
   exact hstage k (by omega) hik.symm hun hw
  ·by_cases hiL:m<=i
   ·have hik:i=m:=by
     rcases Nat.lt_trichotomy i m with h|h|h
     ·omega
     ·exact h
     ·have:=hbefore hiL m h;rw[hun0 m (AB _)]at this;cases this
    subst hik;have hallF:∀j,j<i->e j=false->∃v,xs j=some v/\F j v W:=λj hj hje=>hF j hj (hbefore (AB _) j hj) (λh=>by rw[hje]at h;cases h);have hct:(xs c).isSome=true:=hso c hc (hbefore (AB _) c hc);rw[hct]at hJW;exact hstage i (AB _) rfl hun0 (hend xs W hJW hallF)
   ·have hiL':i<m:=by omega
    have hd:∀j,av .any ops i j=true->∃v,xs j=some v/\F j v W:=λj hj=>hF j (by have:=(hdeps j hj).1;omega) (hdeps j hj).2 (λhje=>by
     have h2:=Bb.1 hde i (CT.2 hiL');rcases CW.1 h2 with h2|h2
     ·have hid:i=d:=Cz h2;rw[<-hid];exact hni
     ·have h3:=Bb.1 h2 j (CT.2 (by have:=(hdeps j hj).1;omega));rw[hje,hj]at h3;cases h3)
    have hfin:∀(v:Value) (W':World) (b:Bool),b=(au xs i (some v) c).isSome->J b W'->F i v W'->(∀k u,k≠i->(e k=true->d≠i)->F k u W->F k u W')->(aa.setIfInBounds i true).size=ops.size/\(∀k,(aa.setIfInBounds i true).getD k false=true->∀j,av .any ops k j=true->(aa.setIfInBounds i true).getD j false=true)/\
     ((∃k,m<k/\k<=ops.size/\(∀j,k<=j->(aa.setIfInBounds i true).getD j false=false)/\(∀j,j<k->(aa.setIfInBounds i true).getD j false=true)/\wpOps P ops Q (List.range' k (ops.size-k)) (fr (au xs i (some v))) W')\/
     ((∀j,m<=j->(aa.setIfInBounds i true).getD j false=false)/\∃ys,fr (au xs i (some v))=fr ys/\J (ys c).isSome W'/\(∀k,k<m->(aa.setIfInBounds i true).getD k false=true->(e k=true->(aa.setIfInBounds i true).getD d false=false)->∃v,ys k=some v/\F k v W')/\(∀k,k<m->(aa.setIfInBounds i true).getD k false=true->(ys k).isSome=true)/\(∀k,(aa.setIfInBounds i true).getD k false=false->ys k=none))):=by
     intro v W' b hb hJ' hv hk;refine⟨by simpa using hsz,hcl',.inr ⟨λj hj=>by rw[hset j (by omega)];exact hun0 j hj,_,rfl,hb▸hJ',λk hkL hks hke=>?_,λk hkL hks=>?_,λk hks=>?_⟩⟩
     ·by_cases hki:k=i
      ·subst hki;exact⟨v,bO _ _ _,hv⟩
      ·rw[hset k hki]at hks
       have hdi:e k=true->d≠i:=λh hdi=>by
        have:=hke h;rw[hdi,hself]at this;cases this
       obtain⟨u,hu,hFu⟩:=hF k hkL hks (λh=>by have:=hke h;rwa[hset d (hdi h)]at this);exact⟨u,by rw[aV _ _ hki,hu],hk _ _ hki hdi hFu⟩
     ·by_cases hki:k=i
      ·subst hki;rw[bO];rfl
      ·rw[hset k hki]at hks;rw[aV _ _ hki];exact hso k hkL hks
     ·have hki:k≠i:=λe=>by subst e;rw[hself]at hks;cases hks
      rw[hset k hki]at hks;rw[aV _ _ hki,hun k hks]
    by_cases hic:i=c
    ·subst hic;rw[hun i hni]at hJW;refine Dh ?_ (hcall xs W hJW hd);rintro a' W' ⟨v,rfl,hJ',hv,hk⟩;exact hfin v W' true (by rw[bO];rfl) hJ' hv (λk u _ _=>hst k u _ _ hk)
    ·by_cases hid:i=d
     ·subst hid;refine Dh ?_ (happ hiL' xs W hJW hd);rintro a' W' ⟨v,rfl,hJ',hv,hk⟩;exact hfin v W' _ (by rw[aV _ _ (λe=>hic e.symm)]) hJ' hv (λk u hkd hke=>hk k u hkd (by cases h:e k with|false=>rfl|true=>exact absurd rfl (hke h)))
     ·refine Dh ?_ (hstep i hiL' hic hid _ xs W hJW hd);rintro a' W' ⟨v,rfl,hJ',hv,hk⟩;exact hfin v W' _ (by rw[aV _ _ (λe=>hic e.symm)]) hJ' hv (λk u _ _=>hst k u _ _ hk)
 ·rintro aa a W ⟨hsz,_,hI⟩ hr;have h1:=λi hi=>ed hac hr ops.size i hi hi;rcases hI with⟨k,hmk,hks,hun,_,hw⟩|⟨hun0,_⟩
  ·rcases BI k ops.size with h|h
   ·have h2:=h1 k h;have h3:=hun k (AB _);have hsz2:k<aa.size:=by omega
    simp[Array.getD,hsz2]at h2 h3;rw[h2]at h3;cases h3
   ·rw[show ops.size-k=0 by omega]at hw;exact hw
  ·have h2:=h1 m hL;have h3:=hun0 m (AB _);have hsz2:m<aa.size:=by omega
   simp[Array.getD,hsz2]at h2 h3;rw[h2]at h3;cases h3
 ·refine AW (CB _ _) (by simp)
 ·exact⟨by simp,λk hk=>by simp[Array.getD]at hk,.inr ⟨λj _=>by simp[Array.getD],_,ha,hJ,λi hi h _=>by simp[Array.getD]at h,λi hi h=>by simp[Array.getD]at h,λ_ _=>rfl⟩⟩
theorem ay(c m:Nat)(fr:(Nat->Option Value)->Act)(J:Bool->World->Prop)(B:Nat)(F:Nat->Value->World->Prop)(hst:∀k,fZ B (F k))
 (hm:P.follows .mixedOrders=true) (hac:mh .any ops=true) (hL:m<ops.size) (hlw:((List.range ops.size).all λi=>decide (i<m)||(List.range i).all λj=>mF ops ops.size i j)=true) (hc:c<m) (ha:a=fr (λ_=>none)) (hJ:J false w.drew)
 (hstep:∀i,i<m->i≠c->∀b xs W,J b W->(∀j,(_:av .any ops i j=true:=by kernel_rfl)->∃v,xs j=some v/\F j v W)->
   wpOp P ops Q i (λa' W'=>∃v,a'=fr (au xs i (some v))/\J b W'/\F i v W'/\Nw B W W') (fr xs) W)
 (hcall:∀xs W,J false W->(∀j,(_:av .any ops c j=true:=by kernel_rfl)->∃v,xs j=some v/\F j v W)->
   wpOp P ops Q c (λa' W'=>∃v,a'=fr (au xs c (some v))/\J true W'/\F c v W'/\Nw B W W') (fr xs) W)
 (hend:∀xs W,J true W->(∀i,(_:i<m:=by decide)->∃v,xs i=some v/\F i v W)->wpOps P ops Q (List.range' m (ops.size-m)) (fr xs) W):(Code.region id ops true).wp P Q a w:=by
 refine gb c m m (λ_=>false) fr J B F hst hm hac hL hlw hc (by omega) ?_ ha hJ (λi hi hic _=>hstep i hi hic) hcall (λh=>absurd h (Ci _)) (λxs W h1 h2=>hend xs W h1 (λi hi=>h2 i hi rfl));exact Bb.2 λi hi=>CW.2 (.inr (Bb.2 λj hj=>by simp))
theorem aW(c L:Nat)(fr:(Nat->Option Value)->Act)(J:Bool->World->Prop)(B:Nat)(F:Nat->Value->World->Prop)(hst:∀k,fZ B (F k))
 (hm:P.follows .mixedOrders=true) (hac:mh .any ops=true) (hL:ops.size=L+1) (hlw:((List.range L).all λj=>av .any ops L j)=true) (hc:c<L) (ha:a=fr (λ_=>none)) (hJ:J false w.drew)
 (hstep:∀i,i<L->i≠c->∀b xs W,J b W->(∀j,(_:av .any ops i j=true:=by kernel_rfl)->∃v,xs j=some v/\F j v W)->
   wpOp P ops Q i (λa' W'=>∃v,a'=fr (au xs i (some v))/\J b W'/\F i v W'/\Nw B W W') (fr xs) W)
 (hcall:∀xs W,J false W->(∀j,(_:av .any ops c j=true:=by kernel_rfl)->∃v,xs j=some v/\F j v W)->
   wpOp P ops Q c (λa' W'=>∃v,a'=fr (au xs c (some v))/\J true W'/\F c v W'/\Nw B W W') (fr xs) W)
 (hlast:∀xs W,J true W->(∀i,(_:i<L:=by decide)->∃v,xs i=some v/\F i v W)->wpOp P ops Q L (λa' W'=>Q .normal a' W') (fr xs) W):(Code.region id ops true).wp P Q a w:=by
 refine ay c L fr J B F hst hm hac (by omega) ?_ hc ha hJ hstep hcall (λxs W h1 h2=>?_)
 ·refine Bb.2 λi hi=>?_;have hi:=CT.1 hi;rcases BI i L with h|h
  ·rw[BJ h];rfl
  ·obtain rfl:i=L:=by omega
   refine CW.2 (.inr (Bb.2 λj hj=>?_));rw[hL];unfold mF;rw[Bb.1 hlw j hj,Bool.true_or]
 ·rw[hL,show L+1-L=0+1 by omega,List.range'_succ,Bl];exact hlast xs W h1 λi hi=>h2 i hi
theorem gd{x:Option α}{v:α}(h:x=some v)(u:α):x.getD u=v:=by rw[h];rfl
section
variable{P:Program}{ops:Array Oper}{Q:Exit->Act->World->Prop}{i B:Nat}{o:Oper}{K:Act->World->Prop}{a:Act}{W W':World}{v u:Value}{JJ:World->Prop}{FF:Value->World->Prop}{fr':Value->Act}{t:TypeId}{x:Operand}
theorem stp(ho:ops[i]?=some o)(hg:Region.wanted o (yielded ops a.tmps)=true)(h:∀K':Act->World->Prop,(∀a w,K a w->K' a w)->Oper.wp P o a W K' Q):wpOp P ops Q i K a W:=
 AE ho λK' hK=>by rw[AP hg];exact h K' hK
theorem opO(hr:(execOp a.eval o).run P W= .ok (.value v) W')(hJ:JJ W')(hF:FF v W')(hN:Nw B W W')(ho:ops[i]?=some o)(hg:Region.wanted o (yielded ops a.tmps)=true)(hp:a.put o.dst v=fr' v):
 wpOp P ops Q i (λa' W'=>∃v,a'=fr' v/\JJ W'/\FF v W'/\Nw B W W') a W:=
 stp ho hg λK' hK=>by unfold Oper.wp;rw[hr];exact hK _ _ ⟨v,hp,hJ,hF,hN⟩
theorem rdO(hJ:JJ W)(hF:FF v W:=by exact rfl)(ho:ops[i]?=some o:=by rfl)(hg:Region.wanted o (yielded ops a.tmps)=true:=by kernel_rfl)(hr:(execOp a.eval o).run P W= .ok (.value v) W:=by kernel_rfl)(hp:a.put o.dst v=fr' v:=by rfl):
 wpOp P ops Q i (λa' W'=>∃v,a'=fr' v/\JJ W'/\FF v W'/\Nw B W W') a W:=opO hr hJ hF (Nw.refl _ _) ho hg hp
theorem mvO(hJ:JJ W)(hF:FF v W:=by exact rfl)(ho:ops[i]?=some o:=by rfl)(hm:o.op= .move x:=by rfl)(hx:a.eval x=v:=by rfl)(hg:Region.wanted o (yielded ops a.tmps)=true:=by kernel_rfl)(hp:a.put o.dst v=fr' v:=by rfl):
 wpOp P ops Q i (λa' W'=>∃v,a'=fr' v/\JJ W'/\FF v W'/\Nw B W W') a W:=opO (by simp[execOp,hm,hx,Bv]) hJ hF (Nw.refl _ _) ho hg hp
theorem ldO(ho:ops[i]?=some o)(hm:o.op= .load t x)(hx:a.eval x=u)(hl:(Instr.loadAt t u).run P W= .ok v W)(hJ:JJ W)(hF:FF v W:=by exact rfl)(hg:Region.wanted o (yielded ops a.tmps)=true:=by kernel_rfl)(hp:a.put o.dst v=fr' v:=by rfl):
 wpOp P ops Q i (λa' W'=>∃v,a'=fr' v/\JJ W'/\FF v W'/\Nw B W W') a W:=opO (by simp[execOp,hm,hx,BC,Bv,hl]) hJ hF (Nw.refl _ _) ho hg hp
end
end
section
open Go.RowKit
variable{A:Option Addr}{B c g i j o p:Nat}{T:List Tk}{W W' w w':World}{ops:List Nat}{s:ByteArray}
theorem PS.drew(h:PS w p A c T i):PS w.drew p A c T i:=⟨h.aG,h.tok,h.wf,h.lt⟩
theorem wZ(hr:aj T 2 i= .ok s j)(W:World)(h:PS W p A c T i):Calls Tryz.prog 211 #[.pointer (some ⟨p,0,none⟩)] W λe w'=>e= .returned (.string s)/\PS w' p A c T j/\Bx W.heap.size p W w':=by
 have:=dL h;rw[hr]at this;exact this.mono λe w' ⟨⟨v,h1,h2⟩,h3,h4⟩=>⟨by rw[h1,show v= .string s from h2],h3,h4⟩
theorem Nw.of(h:Bx W.heap.size p W W')(hp:p<B):Nw B W W':=⟨h.size,λk hk hk2=>h.block k hk2 (by omega)⟩
theorem Nw.below(h:Below W.heap.size W W'):Nw B W W':=⟨h.size,λk _ hk2=>h.block k hk2⟩
def fEq(c:Value):Value->World->Prop:=λv _=>v=c
theorem fEq.st(B:Nat)(c:Value):fZ B (fEq c):=λ_ _ _ _ h=>h
def RowA(B:Nat)(W:World)(a:Nat)(cs:Array Value)(t:TypeId):Prop:=B<=a/\Blk W a t cs
theorem RowA.nw{a:Nat}{cs:Array Value}{t:TypeId}(h:RowA B W a cs t)(hn:Nw B W W'):RowA B W' a cs t:=⟨h.1,(hn.block a h.1 h.2.lt).trans h.2⟩
def fRow(B:Nat)(t:TypeId)(cs:Array Value):Value->World->Prop:=λv W=>∃a,v= .slice (some ⟨a,0,none⟩) 1 1/\RowA B W a cs t
theorem fRow.st(B:Nat)(t:TypeId)(cs:Array Value):fZ B (fRow B t cs):=λ_ _ _ hn ⟨a,h1,h2⟩=>⟨a,h1,h2.nw hn⟩
def RJ(w5:World)(p:Nat)(A:Option Addr)(c:Nat)(T:List Tk)(j0 j1:Nat)(pr:Prop)(b:Bool)(W:World):Prop:=Bx w5.heap.size p w5 W/\if b=true then PS W p A c T j1/\pr else PS W p A c T j0
theorem RJ.below{w5:World}{j0 j1:Nat}{pr:Prop}{b:Bool}(h:RJ w5 p A c T j0 j1 pr b W)(hb:Below W.heap.size W W'):RJ w5 p A c T j0 j1 pr b W':=by
 refine⟨h.1.trans (Bx.of (hb.mono h.1.size)),?_⟩;have h2:=h.2;cases b with
 |true=>exact⟨h2.1.below hb,h2.2⟩
 |false=>exact PS.below h2 hb
theorem R.known{α:Type}(r:R α)(d:α):∃x j,∀x' j',r= .ok x' j'->x'=x/\j'=j:=by
 cases r with
 |bad j=>exact⟨d,0,λx' j' h=>by cases h⟩
 |ok x j=>exact⟨x,j,λx' j' h=>by cases h;exact⟨rfl,rfl⟩⟩
section
variable{T:List Tk}{rec:Nat->Nat->R Ex}{i:Nat}
theorem qo(HC:RdAt rvE 296 T (ai T rec) i)(hup:Up (ai T rec)):RdAt rvE 309 T (bD T rec) i:=by
 intro p c A w h;have hp:=h.aG.lt;obtain⟨w0,hw0,q0,b0,P0⟩:=m9 h;have Q0:=H_ q0;have B0:=H_ b0;have HP0:=H_ P0;have HC':=H_ HC;have HU:=H_ hup;clear h HC hup q0 b0 P0;go_enter Tryz.func309,Tryz.ntmps309;go_upto_region 1 with(fail);have hsz:=B0.out.size;have hg0:=Q0.out.lt;obtain⟨g,hgz⟩:=nm_ (w.heap.size);rw[hgz]at Q0 hg0⊢;clear hw0;go_wp2_with fail;refine Out.use (HC'.out p c A w0 HP0.out) (λj w1 hr b1=>?_) (λx j v w1 hr hv P1 b1=>?_)
 ·exact⟨rfl,Out.bad (by unfold bD;rw[hr]) (B0.out.aB b1)⟩
 ·obtain⟨-,B1,Q1,hg1⟩:=fr1 B0 Q0 b1;have HP1:=H_ P1;have hij:=HU.out _ _ _ hr;obtain⟨k0,op0,z0,nm0,at0,A0,n0,c0,rfl,hv'⟩:=ExV.inv hv;have HV:=H_ hv';have HR1:=H_ hr;clear hv hv' hr Q0 B0 HP0 P1 b1;go_wp2_with fail;obtain⟨e,hez⟩:=nm_ (w1.heap.size);rw[hez];obtain⟨w2,hw2⟩:=nm_ (w1.alloc (.cells #[.int .i64 k0,.int .i64 op0,.int .i64 z0,.string nm0,.bool at0,.slice A0 n0 c0] 172));have b2:=bal hw2;have Q2:=H_ (Q1.out.below b2 hg1);have E2:=H_ (show Blk w2 e 172 _ from hw2▸hez▸Blk.new w1 172 #[.int .i64 k0,.int .i64 op0,.int .i64 z0,.string nm0,.bool at0,.slice A0 n0 c0]);have B2:=H_ (B1.out.aB (Bx.of b2));have HP2:=H_ (HP1.out.below b2);have V2:=H_ (ExC.aA (G':=NG g (λb=>b=g\/b=e) w2) (λb hb=>⟨⟨by have:=hb.1;omega,AF hb.2 b2.size,λh=>by have:=hb.1;have:=hb.2;omega⟩,b2.block b hb.2⟩) HV.out);rw[hw2];clear hw2 b2 Q1 B1 HP1 HV
  go_loopg [] (T.length-j) (λkk wr=>∃(x:Ex) (q:Nat) (k op z:Int) (nm:ByteArray) (at_:Bool) (A':Option Addr) (n c':Nat),kk=T.length-q/\Hid (Blk wr e 172 #[.int .i64 k,.int .i64 op,.int .i64 z,.string nm,.bool at_,.slice A' n c'])/\Hid (ExC wr (NG g (λb=>b=g\/b=e) wr) x [.int .i64 k,.int .i64 op,.int .i64 z,.string nm,.bool at_,.slice A' n c'])/\
   Hid (Blk wr g 172 #[.int .i64 0,.int .i64 0,.int .i64 0,.string ⟨#[]⟩,.bool false,.slice none 0 0])/\Hid (PS wr p A c T q)/\Hid (Bx g p w wr)/\i<q/\Hid (∃m,T.length+1<=m+q/\bD T rec i=bH T m x q))
  case atStart=>exact⟨x,j,k0,op0,z0,nm0,at0,A0,n0,c0,rfl,E2,V2,Q2,HP2,hgz▸B2,hij,H_ ⟨T.length+1,by omega,show bD T rec i=bH T (T.length+1) x j by unfold bD;rw[HR1.out]⟩⟩
  case round=>
   clear E2 V2 Q2 HP2 B2 HR1;obtain⟨x,q,k,op,z,nm,at_,A',n,c',rfl,HE,HV,HG,HPr,HBr,hiq,HEr⟩:=hrel;obtain⟨m,hm,heq⟩:=HEr.out;have hqT:=HPr.out.lt;obtain⟨m,rfl⟩:∃m',m=m'+1:=⟨m-1,by omega⟩;have HE1:=H_ heq;have her:=HE.out.lt;have hgr:=HG.out.lt;clear HEr heq;go_wp2_with fail;refine bd HPr.out DOT (λht w5 P5 b5=>?_) (λht w5 P5 b5=>?_)
   ·have HT5:=H_ ht;have HE5:=hbx HE b5 her;have HG5:=hbx HG b5 hgr;have HV5:=H_ (ExC.aA (G':=NG g (λb=>b=g\/b=e) w5) (λb hb=>⟨hb.mono b5.size,b5.block b hb.2.1 (by have:=hb.1;omega)⟩) HV.out);have HB5:=H_ (HBr.out.trans (b5.mono (by have:=HBr.out.size;omega)));have HP5:=H_ P5;have her5:=HE5.out.lt;have hgr5:=HG5.out.lt;clear ht P5 b5 HE HG HV HBr HPr;have hs5:=HB5.out.size;go_upto_region 3 with fail;obtain⟨s,j6,hsj⟩:=R.known (aj T 2 (q+1)) ⟨#[]⟩;obtain⟨c0',c1',c2',c3',c4',c5'⟩:=HE5.out.aC.1
    refine aW 1 5 (λxs=>{tmps:= #[.pointer (some ⟨p,0,none⟩),undef,.pointer (some ⟨g,0,none⟩),.pointer (some ⟨e,0,none⟩),.pointer (some ⟨p,0,none⟩),.agg #[.int .i64 k0,.int .i64 op0,.int .i64 z0,.string nm0,.bool at0,.slice A0 n0 c0],.pointer (some ⟨p,0,none⟩),.bool true,(xs 0).getD u8,(xs 1).getD u9,(xs 2).getD u10,(xs 3).getD u11,(xs 4).getD u12,undef],defers:=[]})
     (RJ w5 p A c T (q+1) j6 (aj T 2 (q+1)= .ok s j6)) w5.heap.size
     (λi=>match i with
       |0=>fEq (.pointer (some ⟨p,0,none⟩))
       |1=>fEq (.string s)
       |2=>fEq (.agg #[.int .i64 k,.int .i64 op,.int .i64 z,.string nm,.bool at_,.slice A' n c'])
       |3=>fRow w5.heap.size 172 #[.int .i64 k,.int .i64 op,.int .i64 z,.string nm,.bool at_,.slice A' n c']
       |_=>λv W=>∃a,v= .agg #[.int .i64 4,.int .i64 0,.int .i64 0,.string s,.bool false,.slice (some ⟨a,0,none⟩) 1 1]/\RowA w5.heap.size W a #[.int .i64 k,.int .i64 op,.int .i64 z,.string nm,.bool at_,.slice A' n c'] 172)
     (by
       intro k
       match k with
       |0=>exact fEq.st _ _
       |1=>exact fEq.st _ _
       |2=>exact fEq.st _ _
       |3=>exact fRow.st _ _ _
       |_+4=>exact λ_ _ _ hn ⟨a,h1,h2⟩=>⟨a,h1,h2.nw hn⟩)
     (by kernel_rfl) (by kernel_rfl) rfl (by kernel_rfl) (by decide) rfl ⟨(Bx.refl _ _ _).drew,HP5.out.drew⟩ ?_ ?_ ?_
    ·intro i hi hic b xs W hJ hd;obtain rfl|rfl|rfl|rfl:i=0\/i=2\/i=3\/i=4:=by omega
     ·refine AE rfl λK hK=>?_;go_simp;exact hK _ _ ⟨_,rfl,hJ,rfl,Nw.refl _ _⟩
     ·obtain⟨⟨d0,d1,d2,d3,d4,d5⟩,_⟩:=(HE5.out.bx hJ.1 her5 (by omega)).aC;refine AE rfl λK hK=>?_;go_simp;exact hK _ _ ⟨_,rfl,hJ,rfl,Nw.refl _ _⟩
     ·obtain⟨_,h2,rfl⟩:=hd 2;refine AE rfl λK hK=>?_;go_simp;have hb:=(AC W.heap.size W).alloc (AB _) (.cells #[.int .i64 k,.int .i64 op,.int .i64 z,.string nm,.bool at_,.slice A' n c'] 172);exact hK _ _ ⟨.slice (some ⟨W.heap.size,0,none⟩) 1 1,by simp only[au,h2];rfl,hJ.below hb,⟨W.heap.size,rfl,hJ.1.size,Blk.new W 172 _⟩,Nw.below hb⟩
     ·obtain⟨_,h1,rfl⟩:=hd 1;obtain⟨_,h3,a,rfl,hra⟩:=hd 3;refine AE rfl λK hK=>?_;go_simp;exact hK _ _ ⟨_,by simp only[au,h1,h3];rfl,hJ,⟨a,rfl,hra⟩,Nw.refl _ _⟩
    ·intro xs W hJ hd;obtain⟨_,h0,rfl⟩:=hd 0;refine AE rfl λK hK=>?_;go_simp;refine Out.use (dL hJ.2) (λj w6 hr b6=>?_) (λx' j v w6 hr hv P6 b6=>?_)
     ·exact⟨rfl,Out.bad (by rw[HE1.out];unfold bH;rw[AP HT5.out,hr]) (hgz▸(HB5.out.trans ((hJ.1.aB b6).mono (by omega))))⟩
     ·obtain⟨rfl,rfl⟩:=hsj _ _ hr;obtain rfl:v= .string x':=hv;exact hK _ _ ⟨.string x',by simp only[au,h0];rfl,⟨hJ.1.aB b6,P6,hr⟩,rfl,Nw.of b6 (by omega)⟩
    ·intro xs W hJ hd;obtain⟨_,h0,rfl⟩:=hd 0;obtain⟨_,h1,rfl⟩:=hd 1;obtain⟨_,h2,rfl⟩:=hd 2;obtain⟨_,h3,a',h3',_⟩:=hd 3;subst h3';obtain⟨_,h4,a,rfl,hra⟩:=hd 4;have HEW:=H_ (HE5.out.bx hJ.1 her5 (by omega));have HGW:=H_ (HG5.out.bx hJ.1 hgr5 (by omega));have HJ:=H_ hJ;have HRA:=H_ hra;obtain⟨⟨d0,d1,d2,d3,d4,d5⟩,k0,k1,k2,k3,k4,k5⟩:=HEW.out.aC;have hW5:=hJ.1.size;clear hJ hra hd;refine AE rfl λK hK=>?_;go_simp;refine hK _ _ ?_;obtain⟨N1,N2⟩:=eB HEW.out (.int .i64 4) (.int .i64 0) (.int .i64 0) (.string s) (.bool false) (.slice (some ⟨a,0,none⟩) 1 1);have hsz:((((((W.setCell ⟨e,0,none⟩ (.int .i64 4)).setCell ⟨e,1,none⟩ (.int .i64 0)).setCell ⟨e,2,none⟩ (.int .i64 0)).setCell ⟨e,3,none⟩ (.string s)).setCell ⟨e,4,none⟩ (.bool false)).setCell ⟨e,5,none⟩ (.slice (some ⟨a,0,none⟩) 1 1)).heap.size=W.heap.size:=by simp
     generalize((((((W.setCell ⟨e,0,none⟩ (.int .i64 4)).setCell ⟨e,1,none⟩ (.int .i64 0)).setCell ⟨e,2,none⟩ (.int .i64 0)).setCell ⟨e,3,none⟩ (.string s)).setCell ⟨e,4,none⟩ (.bool false)).setCell ⟨e,5,none⟩ (.slice (some ⟨a,0,none⟩) 1 1))=W2 at N1 N2 hsz⊢;have hwt:=dm HJ.out.2.2;have hal:=HRA.out.2.lt;have hab:=HRA.out.1
     have V7:=H_ (show ExC W2 (NG g (λb=>b=g\/b=e) W2) (cY s x) [.int .i64 4,.int .i64 0,.int .i64 0,.string s,.bool false,.slice (some ⟨a,0,none⟩) 1 1]from
      ExC.of 4 0 0 s false 1 (dW (K:=kEx) (g:=a) (t:=172) ((N2.block a (by omega) (by omega)).trans HRA.out.2) ⟨by omega,by omega,λh=>by omega⟩
       (ExC.aA (λb hb=>⟨hb.mono (by omega),(N2.block b (by have:=hb.2.1;omega) (λh=>hb.2.2 (.inr h))).trans (HJ.out.1.block b hb.2.1 (by have:=hb.1;omega))⟩) HV5.out)))
     have HE7:=H_ N1;have HG7:=hbx HGW N2;have HP7:=H_ (HJ.out.2.1.put N2 (by omega));have HB7:=H_ ((HB5.out.trans (HJ.out.1.mono (by omega))).put N2 (by omega) (by omega));have HQ7:=H_ (show bD T rec i=bH T m (cY s x) j6 by rw[HE1.out];conv=>lhs;unfold bH;rw[AP HT5.out,HJ.out.2.2]);have hj6:=HP7.out.lt;clear N1 N2 HEW HGW HJ HRA HE5 HG5 HB5 HP5 HV5;go_wp2_with fail;go_roundg (T.length-j6)
     case rel=>exact⟨cY s x,j6,4,0,0,s,false,_,_,_,rfl,HE7,V7,HG7,HP7,HB7,by omega,H_ ⟨m,by omega,HQ7.out⟩⟩
     case measure=>omega
   ·have HT5:=H_ ht;have HE5:=hbx HE b5 her;have HG5:=hbx HG b5 hgr;have HV5:=H_ (ExC.aA (G':=NG g (λb=>b=g\/b=e) w5) (λb hb=>⟨hb.mono b5.size,b5.block b hb.2.1 (by have:=hb.1;omega)⟩) HV.out);have HB5:=H_ (HBr.out.trans (b5.mono (by have:=HBr.out.size;omega)));have HP5:=H_ P5;have her5:=HE5.out.lt;have hgr5:=HG5.out.lt;obtain⟨c0',c1',c2',c3',c4',c5'⟩:=HE5.out.aC.1;obtain⟨⟨d0,d1,d2,d3,d4,d5⟩,k0,k1,k2,k3,k4,k5⟩:=HG5.out.aC;clear ht P5 b5 HE HG HV HBr HPr;go_wp2_with fail;obtain⟨N1,N2⟩:=eB HG5.out (.int .i64 k) (.int .i64 op) (.int .i64 z) (.string nm) (.bool at_) (.slice A' n c');exact eG rfl (by simp) N1 (Out.ok (by rw[HE1.out];unfold bH;rw[AL (by rw[HT5.out];simp)]) ⟨_,rfl,HV5.out.aA (λb hb=>⟨⟨by have:=hb.1;omega,AF hb.2.1 N2.size⟩,N2.block b hb.2.1 (λh=>hb.2.2 (.inl h))⟩)⟩ (HP5.out.put N2 (by omega)) (hgz▸HB5.out.put N2 (AB _) (by omega)))
end
def oR:List (Value×Value):=[(.string ⟨#[43]⟩,.int .i64 0),(.string ⟨#[45]⟩,.int .i64 1),(.string ⟨#[42]⟩,.int .i64 2),(.string ⟨#[47]⟩,.int .i64 3),(.string ⟨#[37]⟩,.int .i64 4),(.string ⟨#[61,61]⟩,.int .i64 5),(.string ⟨#[33,61]⟩,.int .i64 6),(.string ⟨#[60]⟩,.int .i64 7),(.string ⟨#[60,61]⟩,.int .i64 8),(.string ⟨#[62]⟩,.int .i64 9),(.string ⟨#[62,61]⟩,.int .i64 10),(.string ⟨#[97,110,100]⟩,.int .i64 11),(.string ⟨#[111,114]⟩,.int .i64 12)]
theorem dH(w:World):(underlying 322).run Tryz.prog w= .ok (.map 9 3) w:=by kernel_rfl
theorem fe(w:World):(underlying 9).run Tryz.prog w= .ok .string w:=by kernel_rfl
theorem fi(em:Bool)(s:ByteArray)(w:World):(Instr.checkKey em 10000 9 (.string s)).run Tryz.prog w= .ok () w:=by kernel_rfl
theorem sG(a b:ByteArray):Instr.sameNow .string (.string a) (.string b)=some (a==b):=rfl
theorem sH{a b:ByteArray}(h:a≠b):Instr.sameNow .string (.string a) (.string b)=some false:=by
 rw[sG]
 congr 1
 obtain⟨a⟩:=a;obtain⟨b⟩:=b;show(a==b)=false;exact AD.2 λe=>h (by rw[e])
def uB(s:ByteArray)(kvs:List (Value×Value)):Bool:=kvs.all λo=>match o.1 with| .string t=> !(t.toList==s.toList)|_=>false
theorem co{kvs:List (Value×Value)}(h:uB s kvs=true):∀o∈kvs,Instr.sameNow .string (.string s) o.1=some false:=by
 intro o ho;have h1:=Bb.1 h o ho;obtain⟨k,v⟩:=o;cases k with
 |string t=>
  have hne:s≠t:=λe=>by subst e;simp at h1
  exact sH hne
 |_=>cases h1
theorem nJ(w:World):Calls Tryz.prog 310 #[] w λe w'=>e= .returned (.map (some w.heap.size))/\KMap w' w.heap.size oR/\Below w.heap.size w w':=by
 have k0:KMap (w.alloc (.map #[] 0)) w.heap.size []:=heap_alloc_new w _;have b0:Below w.heap.size w (w.alloc (.map #[] 0)):=(AC _ _).alloc (AB _) _;obtain⟨w1,e1,k1,g1⟩:=cH dH fe k0 (.string ⟨#[43]⟩) (.int .i64 0) (λem w=>fi em _ w) (co (by decide+kernel));have b1:=b0.grown g1 (by have:=b0.size;omega) (λk hk=>by cases hk;exact AB _);obtain⟨w2,e2,k2,g2⟩:=cH dH fe k1 (.string ⟨#[45]⟩) (.int .i64 1) (λem w=>fi em _ w) (co (by decide+kernel));have b2:=b1.grown g2 (by have:=b1.size;omega) (λk hk=>by cases hk;exact AB _);obtain⟨w3,e3,k3,g3⟩:=cH dH fe k2 (.string ⟨#[42]⟩) (.int .i64 2) (λem w=>fi em _ w) (co (by decide+kernel));have b3:=b2.grown g3 (by have:=b2.size;omega) (λk hk=>by cases hk;exact AB _);obtain⟨w4,e4,k4,g4⟩:=cH dH fe k3 (.string ⟨#[47]⟩) (.int .i64 3) (λem w=>fi em _ w) (co (by decide+kernel));have b4:=b3.grown g4 (by have:=b3.size;omega) (λk hk=>by cases hk;exact AB _);obtain⟨w5,e5,k5,g5⟩:=cH dH fe k4 (.string ⟨#[37]⟩) (.int .i64 4) (λem w=>fi em _ w) (co (by decide+kernel));have b5:=b4.grown g5 (by have:=b4.size;omega) (λk hk=>by cases hk;exact AB _);obtain⟨w6,e6,k6,g6⟩:=cH dH fe k5 (.string ⟨#[61,61]⟩) (.int .i64 5) (λem w=>fi em _ w) (co (by decide+kernel));have b6:=b5.grown g6 (by have:=b5.size;omega) (λk hk=>by cases hk;exact AB _);obtain⟨w7,e7,k7,g7⟩:=cH dH fe k6 (.string ⟨#[33,61]⟩) (.int .i64 6) (λem w=>fi em _ w) (co (by decide+kernel));have b7:=b6.grown g7 (by have:=b6.size;omega) (λk hk=>by cases hk;exact AB _);obtain⟨w8,e8,k8,g8⟩:=cH dH fe k7 (.string ⟨#[60]⟩) (.int .i64 7) (λem w=>fi em _ w) (co (by decide+kernel));have b8:=b7.grown g8 (by have:=b7.size;omega) (λk hk=>by cases hk;exact AB _);obtain⟨w9,e9,k9,g9⟩:=cH dH fe k8 (.string ⟨#[60,61]⟩) (.int .i64 8) (λem w=>fi em _ w) (co (by decide+kernel));have b9:=b8.grown g9 (by have:=b8.size;omega) (λk hk=>by cases hk;exact AB _);obtain⟨w10,e10,k10,g10⟩:=cH dH fe k9 (.string ⟨#[62]⟩) (.int .i64 9) (λem w=>fi em _ w) (co (by decide+kernel));have b10:=b9.grown g10 (by have:=b9.size;omega) (λk hk=>by cases hk;exact AB _);obtain⟨w11,e11,k11,g11⟩:=cH dH fe k10 (.string ⟨#[62,61]⟩) (.int .i64 10) (λem w=>fi em _ w) (co (by decide+kernel));have b11:=b10.grown g11 (by have:=b10.size;omega) (λk hk=>by cases hk;exact AB _);obtain⟨w12,e12,k12,g12⟩:=cH dH fe k11 (.string ⟨#[97,110,100]⟩) (.int .i64 11) (λem w=>fi em _ w) (co (by decide+kernel));have b12:=b11.grown g12 (by have:=b11.size;omega) (λk hk=>by cases hk;exact AB _);obtain⟨w13,e13,k13,g13⟩:=cH dH fe k12 (.string ⟨#[111,114]⟩) (.int .i64 12) (λem w=>fi em _ w) (co (by decide+kernel));have b13:=b12.grown g13 (by have:=b12.size;omega) (λk hk=>by cases hk;exact AB _);clear g1;clear g2;clear g3;clear g4;clear g5;clear g6;clear g7;clear g8;clear g9;clear g10;clear g11;clear g12;clear g13;have KK:=H_ k13;have BB:=H_ b13;clear k0 b0 k1 b1 k2 b2 k3 b3 k4 b4 k5 b5 k6 b6 k7 b7 k8 b8 k9 b9 k10 b10 k11 b11 k12 b12 k13 b13;have hmk:∀w:World,(Instr.makeMap 322 none).run Tryz.prog w= .ok (.map (some w.heap.size)) (w.alloc (.map #[] 0)):=λw=>by kernel_rfl
 go_enter Tryz.func310,Tryz.ntmps310;go_wp2_with fail;go_ret;exact⟨rfl,KK.out,BB.out⟩
theorem xL(o:Nat)(ho:o<13):∃k',oR[o]?=some (k',.int .i64 o)/\Instr.sameNow .string (.string (bP o)) k'=some true:=by
 match o,ho with
 |0,_=>exact⟨_,rfl,by kernel_rfl⟩
 |1,_=>exact⟨_,rfl,by kernel_rfl⟩
 |2,_=>exact⟨_,rfl,by kernel_rfl⟩
 |3,_=>exact⟨_,rfl,by kernel_rfl⟩
 |4,_=>exact⟨_,rfl,by kernel_rfl⟩
 |5,_=>exact⟨_,rfl,by kernel_rfl⟩
 |6,_=>exact⟨_,rfl,by kernel_rfl⟩
 |7,_=>exact⟨_,rfl,by kernel_rfl⟩
 |8,_=>exact⟨_,rfl,by kernel_rfl⟩
 |9,_=>exact⟨_,rfl,by kernel_rfl⟩
 |10,_=>exact⟨_,rfl,by kernel_rfl⟩
 |11,_=>exact⟨_,rfl,by kernel_rfl⟩
 |12,_=>exact⟨_,rfl,by kernel_rfl⟩
theorem tE(o:Nat)(ho:o<13):uB (bP o) (oR.take o)=true:=by
 match o,ho with
 |0,_=>decide+kernel
 |1,_=>decide+kernel
 |2,_=>decide+kernel
 |3,_=>decide+kernel
 |4,_=>decide+kernel
 |5,_=>decide+kernel
 |6,_=>decide+kernel
 |7,_=>decide+kernel
 |8,_=>decide+kernel
 |9,_=>decide+kernel
 |10,_=>decide+kernel
 |11,_=>decide+kernel
 |12,_=>decide+kernel
theorem td{m:Nat}(h:KMap w m oR)(ho:o<13):(Instr.lookup 322 (.map (some m)) (.string (bP o)) false).run Tryz.prog w= .ok (.int .i64 o) w:=by
 refine xB dH fe h _ _ o (λem w=>fi em _ w) (λt x ht hx=>?_) (xL o ho);have hm:=co (tE o ho);exact hm x (AJ (i:=t) (by rw[D8,AP ht];exact hx))
def OpsAt(w:World)(g:Nat)(ops:List Nat):Prop:=g<w.heap.size/\ops.length<=13/\∀(j o:Nat),ops[j]?=some o->o<13/\w.cell? ⟨g,j,none⟩=some (.string (bP o))
theorem OpsAt.bx(h:OpsAt w g ops)(hb:Bx w.heap.size p w w')(hp:g≠p):OpsAt w' g ops:=
 ⟨AF h.1 hb.size,h.2.1,λj o hj=>⟨(h.2.2 j o hj).1,(C8 (w:=w) (a:=⟨g,j,none⟩) (hb.block g h.1 hp)).trans (h.2.2 j o hj).2⟩⟩
theorem OpsAt.below(h:OpsAt w g ops)(hb:Below w.heap.size w w'):OpsAt w' g ops:=
 ⟨AF h.1 hb.size,h.2.1,λj o hj=>⟨(h.2.2 j o hj).1,(a8 hb h.1 _).trans (h.2.2 j o hj).2⟩⟩
theorem jh(h:opT T ops i=none)(hj:ops[j]?=some o):isT T (bP o) i=false:=by
 have:=List.find?_eq_none.1 h o (AJ hj);simpa using this
theorem fT(h:opT T ops i=some o):∃m,ops[m]?=some o/\isT T (bP o) i=true/\∀(j q:Nat),j<m->ops[j]?=some q->isT T (bP q) i=false:=by
 induction ops with
 |nil=>simp[opT]at h
 |cons x l ih=>
  unfold opT at h ih;rw[List.find?_cons]at h;cases hx:isT T (bP x) i with
  |true=>
   rw[hx]at h;simp only[Option.some.injEq]at h;subst h;exact⟨0,rfl,hx,λj q hj=>by omega⟩
  |false=>
   rw[hx]at h;obtain⟨m,h1,h2,h3⟩:=ih h;refine⟨m+1,by simpa using h1,h2,λj q hj hq=>?_⟩;cases j with
   |zero=>simp at hq;subst hq;exact hx
   |succ j=>exact h3 j q (by omega) (by simpa using hq)
theorem wU(p i c g c2:Nat)(A:Option Addr)(T:List Tk)(ops:List Nat)(w:World)(h:PS w p A c T i)(ho:OpsAt w g ops)(hr:opT T ops i=none):
 Calls Tryz.prog 306 #[.pointer (some ⟨p,0,none⟩),.slice (some ⟨g,0,none⟩) ops.length c2] w λe w'=>e= .returned (.tuple #[.int .i64 0,.bool false])/\Below w.heap.size w w':=by
 have HP:=H_ h;have HO:=H_ ho;have HR:=H_ hr;have hl:=ho.2.1;clear h ho hr;go_enter Tryz.func306,Tryz.ntmps306;go_wp2_with fail;go_loopw [10] (λu wr=>∃k:Nat,k<=ops.length/\u= .int .i64 k/\Hid (Below w.heap.size w wr)) (λu _=>ops.length-(intOf u).toNat)
 case atStart=>exact⟨0,AM _,rfl,H_ (AC _ _)⟩
 case round=>
  obtain⟨k,hk,rfl,HB⟩:=hrel;by_cases hlt:k<ops.length
  ·have hk0:0<=(k:Int):=by omega
   have hk1:(k:Int)<ops.length:=by omega
   have hgo:=AI hlt;have HN:=H_ (kE p i c A T (bP ops[k]) wr (HP.out.below HB.out) (jh HR.out hgo));have hc:=((HO.out.below HB.out).2.2 k _ hgo).2;generalize bP ops[k]=s at HN hc;clear hgo;go_wp2_with fail;refine HN.out.mono ?_;rintro e w1 ⟨rfl,b1⟩;have B1:=htr HB b1;clear b1 hc;go_wp2_with fail;go_roundw
   case rel=>exact⟨k+1,by omega,by go_num,B1⟩
   case measure=>simp[intOf];omega
  ·obtain rfl:k=ops.length:=by omega
   go_wp2_with fail;go_ret2;exact⟨rfl,HB.out⟩
theorem wT(p i c g c2 o:Nat)(A:Option Addr)(T:List Tk)(ops:List Nat)(w:World)(h:PS w p A c T i)(ho:OpsAt w g ops)(hr:opT T ops i=some o):
 Calls Tryz.prog 306 #[.pointer (some ⟨p,0,none⟩),.slice (some ⟨g,0,none⟩) ops.length c2] w λe w'=>e= .returned (.tuple #[.int .i64 o,.bool true])/\PS w' p A c T (i+1)/\Bx w.heap.size p w w':=by
 obtain⟨m,hm1,hm2,hm3⟩:=fT hr;have HP:=H_ h;have HO:=H_ ho;have HM:=H_ hm3;have ho13:=(ho.2.2 m o hm1).1;have hl:=ho.2.1;have hml:=(AH.1 hm1).1;have HM1:=H_ hm1;have HM2:=H_ hm2;clear h ho hr hm1 hm2 hm3;go_enter Tryz.func306,Tryz.ntmps306;go_wp2_with fail;go_loopw [10] (λu wr=>∃k:Nat,k<=m/\u= .int .i64 k/\Hid (Below w.heap.size w wr)) (λu _=>ops.length-(intOf u).toNat)
 case atStart=>exact⟨0,AM _,rfl,H_ (AC _ _)⟩
 case round=>
  obtain⟨k,hk,rfl,HB⟩:=hrel;have hk0:0<=(k:Int):=by omega
  have hk1:(k:Int)<ops.length:=by omega
  have hlt:k<ops.length:=by omega
  by_cases hkm:k<m
  ·have hgo:=AI hlt;have HN:=H_ (kE p i c A T (bP ops[k]) wr (HP.out.below HB.out) (HM.out k _ hkm hgo));have hc:=((HO.out.below HB.out).2.2 k _ hgo).2;generalize bP ops[k]=s at HN hc;clear hgo;go_wp2_with fail;refine HN.out.mono ?_;rintro e w1 ⟨rfl,b1⟩;have B1:=htr HB b1;clear b1 hc;go_wp2_with fail;go_roundw
   case rel=>exact⟨k+1,by omega,by go_num,B1⟩
   case measure=>simp[intOf];omega
  ·obtain rfl:k=m:=by omega
   have HN:=H_ (kW p i c A T (bP o) wr (HP.out.below HB.out) HM2.out);have hc:=((HO.out.below HB.out).2.2 k _ HM1.out).2;have HL:=λ(W:World) (mm:Nat) (hK:KMap W mm oR)=>td hK ho13;generalize bP o=s at HN hc HL;have HL':=H_ HL;clear HL;go_wp2_with fail;refine HN.out.mono ?_;rintro e w1 ⟨rfl,h1,b1⟩;have H1:=H_ h1;have B1:=H_ ((Bx.of (p:=p) HB.out).aB b1);clear h1 b1 hc;go_wp2_with fail;refine(nJ w1).mono ?_;rintro e w2 ⟨rfl,k2,b2⟩;have hlk:=HL'.out w2 _ k2;have P2:=H_ (H1.out.below b2);have B2:=H_ (B1.out.aB (Bx.of b2));clear k2 b2;generalize w1.heap.size=mm at hlk;go_wp2_with fail;go_ret2;exact⟨rfl,P2.out,B2.out⟩
end
end Go.Proofs.YtjpbckbpeblibaaGreatDoor
