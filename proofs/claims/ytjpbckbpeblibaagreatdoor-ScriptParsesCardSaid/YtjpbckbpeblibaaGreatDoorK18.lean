/- part of a proof -/
import Derived.Test.YtjpbckbpeblibaaGreatDoorK17
namespace Go.Proofs.YtjpbckbpeblibaaGreatDoor
set_option linter.unusedVariables false
set_option linter.unusedSimpArgs false
set_option maxRecDepth 100000
set_option maxHeartbeats 64000000
section
open Go.RowKit
variable{A:Option Addr}{T:List Tk}{b1:Bool}{base c g i j p:Nat}{f:Nat->R Ex}{row:Option Nat}{s:ByteArray}{u:Value}{w w':World}{α:Type}
theorem Vec.made(K:Kd α)(E:TypeId)(base:Nat)(Z:Nat->Prop)(hb:base<=w.heap.size)(hZ:¬Z w.heap.size):Vec K E base Z (w.alloc (.cells #[] E)) (.slice (some ⟨w.heap.size,0,none⟩) 0 0) []:=by
 refine⟨λg hg=>?_,[],World.ownsRow_made w #[] 0 hb (AM _) (by simp),rfl,λj x cs h=>by simp at h⟩;simp[Value.ownBlock]at hg;subst hg;exact hZ
section
variable{w w':World}{p c i:Nat}{A:Option Addr}{T:List Tk}{b:Bool}
theorem RS.alloc(h:RS w p A c T i b)(o:Obj):RS (w.alloc o) p A c T i b:=h.below ((AC _ _).alloc (AB _) _)
theorem RS.al{o:Obj}(h:RS w p A c T i b)(e:w.alloc o=w'):RS w' p A c T i b:=e▸h.alloc o
theorem RS.grown(h:RS w p A c T i b)(hg:w.grownBy w' row)(hr:∀k,row=some k->p<k):RS w' p A c T i b:=by
 have hp:=h.aG.lt;refine⟨(hg.block p hp (λe=>by have:=hr p e.symm;omega)).trans h.aG,?_,h.wf,h.lt⟩;obtain⟨b,off,h1,h2,h3⟩:=h.tok;exact⟨b,off,h1,h2,h3.aA (hg.block b (by omega) (λe=>by have:=hr b e.symm;omega))⟩
theorem aU{f:Nat->R α}:lif f i false=f i:=rfl
theorem Is.aD{f:Nat->R α}{x:α}{b':Bool}(h:Is (lif f i true) x j b'):j=i/\b'=true:=by
 have h':R.bad i=if b'=true then .bad j else .ok x j:=h;cases b'
 ·rw[AL (by decide)]at h';cases h'
 ·rw[AP rfl]at h';cases h';exact⟨rfl,rfl⟩
theorem Is.aQ{f:Nat->R α}{x:α}(h:Is (lif f i b) x j false):b=false/\f i= .ok x j:=by
 cases b
 ·exact⟨rfl,h⟩
 ·have:=(Is.aD h).2;cases this
end
theorem vL{l:Int}{b:Bool}(H:b=false->EAt T f l j)(p c:Nat)(A:Option Addr)(w:World)(h:RS w p A c T j b):
 Calls Tryz.prog 258 #[.pointer (some ⟨p,0,none⟩),.int .i64 l] w (ROut rvE p A c T w j (lif f j b)):=by
 cases b
 ·exact H rfl p c A false w h
 ·exact eI p c j A T l w h
def gC{α:Type}(T:List Tk)(f:Nat->R α)(j:Nat):R (List α):=if isT T eg j=true then .ok [] (j+1)else match f j with
 | .bad l=> .bad l
 | .ok x l=>cx T f (T.length+1) [x] l
section
variable{α:Type}{T:List Tk}{f:Nat->R α}{i j l q m:Nat}{b b1 b2 bq:Bool}{x y:α}{xs:List α}{r:R (List α)}
theorem mO(h:Is (lif (ap T eA) i b) () j b1):lif (bg T f) i b=lif (gC T f) j b1:=by
 cases b
 ·have h':ap T eA i=if b1=true then .bad j else .ok () j:=h;rw[aU];unfold bg;rw[h'];cases b1<;>rfl
 ·obtain⟨rfl,rfl⟩:=Is.aD h;rfl
theorem mP(ht:isT T eg j=true):lif (gC T f) j false= .ok [] (j+1):=by
 rw[aU];unfold gC;rw[AP ht]
theorem lr(hn:b1=true\/isT T eg j=false)(h:Is (lif f j b1) x l b2):lif (gC T f) j b1=lif (cx T f (T.length+1) [x]) l b2:=by
 cases b1
 ·have h':f j=if b2=true then .bad l else .ok x l:=h;rcases hn with hn|hn
  ·cases hn
  ·rw[aU];unfold gC;rw[AL (by rw[hn];decide),h'];cases b2<;>rfl
 ·obtain⟨rfl,rfl⟩:=Is.aD h;rfl
theorem mQ(hr:r=lif (cx T f (m+1) xs) q false)(ht:isT T lW q=true)(h:Is (lif f (q+1) false) y j b):r=lif (cx T f m (xs++[y])) j b:=by
 have h':f (q+1)=if b=true then .bad j else .ok y j:=h;rw[hr,aU]
 conv=>lhs;unfold cx;rw[AP ht,h']
 cases b<;>rfl
theorem p6(hr:r=lif (cx T f (m+1) xs) q bq)(hn:bq=true\/isT T lW q=false)(h:Is (lif (ap T eg) q bq) () j b):Is r xs j b:=by
 unfold Is;rw[hr];cases bq
 ·have h':ap T eg q=if b=true then .bad j else .ok () j:=h;rcases hn with hn|hn
  ·cases hn
  ·rw[aU];unfold cx;rw[AL (by rw[hn];decide),h'];cases b<;>rfl
 ·obtain⟨rfl,rfl⟩:=Is.aD h;rfl
end
theorem pA{b:Bool}(HF:∀j,i<j->EAt T f 0 j)(p c:Nat)(A:Option Addr)(w:World)(h:RS w p A c T i b):
 Calls Tryz.prog 284 #[.pointer (some ⟨p,0,none⟩)] w (ROut (rvV kEx 172 w.heap.size) p A c T w i (lif (bg T f) i b)):=by
 have hp:=h.aG.lt;have HP:=H_ h;have HF':=H_ HF;obtain⟨w0,hw0⟩:=nm_ (w.alloc (.cells #[] 172));have V0:=H_ (show Vec kEx 172 w.heap.size noZ w0 (.slice (some ⟨w.heap.size,0,none⟩) 0 0) []from hw0▸Vec.made kEx 172 w.heap.size noZ (AB _) (λh=>h));have HP0:=H_ (HP.out.al hw0);have B0:=H_ (show Bx w.heap.size p w w0 from hw0▸(Bx.refl _ _ _).new _ (AB _));clear h HF;go_enter Tryz.func284,Tryz.ntmps284;go_upto_region 2 with(fail);have hs0:w.heap.size<w0.heap.size:=by rw[<-hw0];simp
 clear hw0 HP;obtain⟨g,hgz⟩:=nm_ (w.heap.size);rw[hgz]at V0 hs0⊢;go_wp2_with fail;refine bA HP0.out _ (λj b1 w1 P1 hr hij b1x=>?_);have hb1:=b1x.size;have V1:=hvk V0 b1x;have B1:=hth B0 b1x;have HP1:=H_ P1;have HO:=H_ (mO (f:=f) (show Is (lif (ap T eA) i b) () j b1 from hr));have HI:=H_ (show b1=false->i<j from λh=>by subst h;have:=(bV (Is.aQ hr).2).2;omega);clear V0 B0 HP0 P1 b1x hr;go_wp2_with fail;refine am HP1.out _ (λhb1f ht w2 P2 b2=>?_) (λht w2 P2 b2=>?_)
 ·subst hb1f;have V2:=hvk V1 b2;have B2:=hth B1 b2;have HR:=H_ (show Is (lif (bg T f) i b) [] (j+1) false by rw[HO.out,mP ht];rfl);have HP2:=H_ P2;clear V1 B1 HP1 P2 b2 ht HO;go_wp2_with fail;go_ret;exact⟨_,[],j+1,false,rfl,⟨by rw[hgz];exact V2.out,by simp⟩,HP2.out,HR.out,by omega,B2.out⟩
 ·have V2:=hvk V1 b2;have B2:=hth B1 b2;have HP2:=H_ P2;have HT:=H_ ht;have hb2:=b2.size;clear V1 B1 HP1 P2 b2 ht;go_wp2_with fail;refine ROut.use (vL (λh=>HF'.out j (HI.out h)) p c A w2 HP2.out) (λv x l b3 w3 hv P3 hr hjl b3x=>?_);have hb3:=b3x.size;have V3:=hvk V2 b3x;have B3:=hth B2 b3x;have HP3:=H_ P3;have HM:=H_ (HO.out.trans (lr HT.out hr));obtain⟨k0,op,z,nm,at_,A',n',c',rfl,hv'⟩:=ExV.inv hv;have HV:=H_ hv';have hT:=P3.wf.few;have hlT:=P3.lt;have hgw:g<=w3.heap.size:=by omega
  have hg2:∀k,(Value.slice (some ⟨g,0,none⟩) 0 0).ownBlock=some k->k<w2.heap.size:=λk hk=>by simp[Value.ownBlock]at hk;omega
  have HO3:=H_ (show∀k,(Value.slice (some ⟨g,0,none⟩) 0 0).ownBlock=some k->g<=k from λk hk=>by simp[Value.ownBlock]at hk;omega);clear V2 B2 HP2 P3 b3x hr hv hv' HO HT;go_wp2_with (at_builtin;refine bv iM (K:=kEx) rfl (.tmp 10) (.tmp 13) rfl V3.out (kEx.aA (fR (by omega) hg2) HV.out) rfl rfl (by simp) hgw (λb hb h=>h) ?_);intro u w4 hv4 hg4;have V4:=H_ hv4;have HP4:=H_ (HP3.out.grown hg4 (λk hk=>by have:=HO3.out k hk;omega));have B4:=H_ (B3.out.grown hg4 (by omega) (λk hk=>by have:=HO3.out k hk;omega));clear hv4 hg4 HP3 B3 HV V3 hg2 HO3;go_wp2_with fail;go_loopg [3] (T.length-l) (λk u wr=>∃(xs:List Ex) (q:Nat) (bq:Bool),k=T.length-q/\Hid (Vec kEx 172 g noZ wr u xs)/\Hid (RS wr p A c T q bq)/\Hid (Bx w.heap.size p w wr)/\i<=q/\xs.length<=q+1/\Hid (∃m,T.length+1<=m+q/\lif (bg T f) i b=lif (cx T f m xs) q bq))
  case atStart=>exact⟨[x],l,b3,rfl,V4,HP4,B4,by omega,by simp,H_ ⟨_,by omega,HM.out⟩⟩
  case round=>
   clear V4 HP4 B4 HM;obtain⟨xs,q,bq,rfl,HVr,HPr,HBr,hiq,hxq,HEr⟩:=hrel;have hqT:=HPr.out.lt
   obtain⟨m,hm,heq⟩:∃m,T.length+1<=m+1+q/\lif (bg T f) i b=lif (cx T f (m+1) xs) q bq:=by
    obtain⟨m,hm,heq⟩:=HEr.out;obtain⟨m,rfl⟩:∃m',m=m'+1:=⟨m-1,by omega⟩;exact⟨m,hm,heq⟩
   have HE1:=H_ heq;clear HEr heq;have hsr:=HBr.out.size;go_wp2_with fail;refine am HPr.out lW (λhbq ht w5 P5 b5=>?_) (λht w5 P5 b5=>?_)
   ·subst hbq;have B5:=hth HBr b5;have HT5:=H_ ht;have HP5:=H_ P5;have V5:=hvk HVr b5;clear b5 ht P5 HBr HPr HVr;go_wp2_with fail;refine ROut.use (HF'.out (q+1) (by omega) p c A false w5 HP5.out) (λv y j6 b6 w6 hv P6 hr hqj b6x=>?_);have HE6:=H_ (mQ HE1.out HT5.out hr);have HP6:=H_ P6;have B6:=hth B5 b6x;have hb5:=B5.out.size;have hb6:=B6.out.size;obtain⟨k0,op,z,nm,at_,A',n',c',rfl,hv'⟩:=ExV.inv hv;have HV:=H_ hv';have V6:=hvk V5 b6x;have HO:=H_ V5.out.lt;have hj6T:=P6.lt;clear hr P6 b6x V5 HE1 hv hv';go_wp2_with (at_builtin;refine bv iM (K:=kEx) rfl (.tmp 17) (.tmp 20) rfl V6.out (kEx.aA (fR (by omega) (λk hk=>(HO.out k hk).2)) HV.out) rfl rfl (by omega) (by omega) (λb hb h=>h) ?_);intro u7 w7 hv7 hg7;have V7:=H_ hv7;have HP7:=H_ (HP6.out.grown hg7 (λk hk=>by have:=(HO.out k hk).1;omega));have B7:=H_ (B6.out.grown hg7 hb6 (λk hk=>by have:=(HO.out k hk).1;omega));clear hv7 hg7 HP6 B6 HV V6 B5 HP5;go_wp2_with fail;go_roundg (T.length-j6)
    case rel=>exact⟨xs++[y],j6,b6,rfl,V7,HP7,B7,by omega,by simp;omega,H_ ⟨m,by omega,HE6.out⟩⟩
    case measure=>omega
   ·have B5:=hth HBr b5;have HT5:=H_ ht;have HP5:=H_ P5;have V5:=hvk HVr b5;clear b5 ht P5 HBr HPr HVr;go_wp2_with fail;refine bA HP5.out _ (λj6 b6 w6 P6 hr hqj b6x=>?_);have V6:=hvk V5 b6x;have B6:=hth B5 b6x;have HP6:=H_ P6;have HR:=H_ (p6 HE1.out HT5.out (show Is (lif (ap T eg) q bq) () j6 b6 from hr));clear V5 b6x B5 P6 hr HE1;go_wp2_with fail;go_ret;exact⟨_,xs,j6,b6,rfl,⟨by rw[hgz];exact V6.out,by omega⟩,HP6.out,HR.out,by omega,B6.out⟩
theorem Vec.zf'{K:Kd α}{E f:Nat}{xs:List α}(h:Vec K E base noZ w u xs)(hf:w.heap.size<=f):Vec K E base (λb=>b=f) w u xs:=by
 have hl:=h.lt;obtain⟨hp,css,h1,h2,h3⟩:=h;exact⟨λg hg e=>by have:=(hl g hg).2;omega,css,h1,h2,λj x cs hx hc=>K.aA (λb hG=>⟨⟨⟨hG.1.1,hG.1.2.1,λe=>by have:=hG.1.2.1;omega⟩,hG.2⟩,rfl⟩) (h3 j x cs hx hc)⟩
theorem Blk.aI{t:TypeId}{cs:Array Value}(q:Blk w g t cs)(hg:w.grownBy w' row)(hne:∀k,row=some k->g≠k):Blk w' g t cs:=(hg.block g q.lt (λe=>hne g e.symm rfl)).trans q
theorem oJ{K:Kd α}{t e:TypeId}(hR:iz K.sz t e)(ty:TypeId){base':Nat}{Z Z':Nat->Prop}{v:Value}{xs ys:List α}
 (hv:Vec K e base Z w v xs) (hu:Vec K e base' Z' w u ys) (hyG:∀b,NG base' Z' w b->NG base Z w b/\v.ownBlock≠some b)
 (hn:xs.length+ys.length<=200000) (hbase:base<=w.heap.size) (hZ:∀b,w.heap.size<=b->¬Z b):
 ∃v' w',(Builtin.append_ #[t,t] ty #[v,u]).run Tryz.prog w= .ok v' w'/\Vec K e base Z w' v' (xs++ys)/\w.grownBy w' v.ownBlock:=by
 obtain⟨hp,css,h1,h2,h3⟩:=hu;rcases h1.2 with⟨rfl,h0⟩|⟨g,cap,cur,rfl,hbg,hgg,hle,hcm,hcs,htk⟩
 ·obtain⟨ht,i,z,hi,hz,hsz,hby,hzs⟩:=hR;have hys:=Bc h0;subst hys;obtain⟨hp',css',h1',h2',h3'⟩:=hv;refine⟨v,w,run_append_owned_none (P:=Tryz.prog) w base t ty e i K.sz ht hi v _ _ h1',?_,⟨rfl,rfl,rfl,AB _,λ_ _ _=>rfl⟩⟩;rw[Da];exact⟨hp',css',h1',h2',h3'⟩
 ·obtain⟨v',w',a1,a2,a3,_⟩:=dK hR ty hv h2 (λj v hv=>by have:=h1.cells (g:=g) rfl j v hv;rwa[fY]at this) (λj x cs hx hc=>K.aA (λb hb=>⟨hyG b hb.1,rfl⟩) (h3 j x cs hx hc)) hn hbase hZ;exact⟨v',w',a1,a2,a3⟩
theorem Is.exp_ok{b:Bool}(h:Is (lif (ap T s) i b) () j false):b=false/\isT T s i=true/\j=i+1:=by
 obtain⟨h1,h2⟩:=Is.aQ h;exact⟨h1,bV h2⟩
theorem cX(k z q:Int)(s:ByteArray)(w:World):(Instr.field 162 (.agg #[.int .i64 k,.string s,.int .i64 z,.int .i64 q]) 1).run Tryz.prog w= .ok (.string s) w:=by kernel_rfl
theorem qA{rec:Nat->Nat->R Ex}(H0:∀j,i<j->EAt T (rec 0) 0 j)(H6:∀j,i<j->EAt T (rec 6) 6 j):RAt rvE 283 T (ai T rec) i:=by
 intro p c A b w h;obtain⟨b',off,hA,hb,hat⟩:=h.tok.cell h.lt;have hp:=h.aG.lt;have hn:=h.wf.few;have hlt:=h.lt;have hbl:b'<w.heap.size:=by omega
 obtain⟨x,hx⟩:=nm_ (tk T i);have HI0:=h.wf.next h.lt;rw[hx]at hat HI0;obtain⟨k,t,v,q⟩:=x;have HI:=H_ (show k≠0->i+1<T.length from HI0);have HK:=H_ hx;have HP:=H_ h;have H0':=H_ H0;have H6':=H_ H6;subst hA;obtain⟨w0,hw0⟩:=nm_ (w.alloc (.cells #[.int .i64 0,.int .i64 0,.int .i64 0,.string ⟨#[]⟩,.bool false,.slice none 0 0] 172));have Q0:=hnw hw0;have B0:=hba hw0;have d0:w0.cell? ⟨b',off+i*4,none⟩=some (.int .i64 k):=(a8 B0.out hbl _).trans (by have:=hat 0 _ rfl;rwa[AQ]at this);have d1:w0.cell? ⟨b',off+i*4+1,none⟩=some (.string t):=(a8 B0.out hbl _).trans (by have:=hat 1 _ rfl;rwa[AQ]at this);have d2:w0.cell? ⟨b',off+i*4+2,none⟩=some (.int .i64 v):=(a8 B0.out hbl _).trans (by have:=hat 2 _ rfl;rwa[AQ]at this);have d3:w0.cell? ⟨b',off+i*4+3,none⟩=some (.int .i64 q):=(a8 B0.out hbl _).trans (by have:=hat 3 _ rfl;rwa[AQ]at this);have P0:=HP.out.below B0.out;obtain⟨c0,c1⟩:=P0.aG.c2;have hd:decide (i<T.length)=true:=by simpa using hlt
 have hg0:=Q0.out.lt;have hp0:p<w0.heap.size:=by omega
 have hb0:b'<w0.heap.size:=by omega
 have HP0:=H_ P0;clear h hat P0 hx HI0 H0 H6;go_enter Tryz.func283,Tryz.ntmps283;go_upto_region 1 with(fail);obtain⟨g,hgz⟩:=nm_ (w.heap.size);rw[hgz]at Q0 hg0⊢;clear hw0;go_region;obtain⟨W,hW⟩:=nm_ ((w0.alloc (.cells #[.int .i64 k,.string t,.int .i64 v,.int .i64 q] 162)).drew);have BW:Below w0.heap.size w0 W:=hW▸((AC _ _).alloc (AB _) _).drew;have HE:=H_ (show Blk W w0.heap.size 162 #[.int .i64 k,.string t,.int .i64 v,.int .i64 q]from hW▸Blk.new w0 162 _);have HP1:=H_ (HP0.out.below BW);have Q1:=H_ (Q0.out.below BW (by omega));have B1:=H_ (show Bx w.heap.size p w W from Bx.of (B0.out.trans (BW.mono (by omega))));have hs1:=BW.size;rw[hW];clear hW c0 c1 d0 d1 d2 d3 Q0 B0 BW hd HP0;obtain⟨e,hez⟩:=nm_ (w0.heap.size);rw[hez]at HE hg0⊢;obtain⟨e0,e1,e2⟩:=HE.out.c3;have p1:=HP1.out.aG.k1;have pf1:=HP1.out.aG.frozen 1;have p2:=HP1.out.aG.k2;have qlt1:=Q1.out.lt;have hpg:p≠g:=by omega
 have hpe:p≠e:=by omega
 have hge:g≠e:=by omega
 have hbe:b'≠p:=by have:=HP1.out.tok;omega
 cases b with
 |true=>
  obtain⟨⟨d0,d1,d2,d3,d4,d5⟩,f0,f1,f2,f3,f4,f5⟩:=Q1.out.aC;go_wp2_with fail;exact eU rfl (by simp) Q1.out (lv _ (λ_=>False) 0 0 ⟨#[]⟩) (λb hb=>hb.elim) HP1.out (Is.bad (lJ 0) rfl) (AB _) (hgz▸B1.out) hgz (by omega)
 |false=>
  by_cases hk1:k=1
  ·subst hk1;have hi1:=HI.out (by decide);have HS:=H_ (show Is (lif (ai T rec) i false) (lJ v) (i+1) false by rw[aU];unfold ai;rw[HK.out];rfl);have P2:=HP1.out.move hi1;simp only[Ce,Ca]at P2;have HP2:=H_ P2;have Q2:=H_ (show Blk (W.setCell ⟨p,1,none⟩ (.int .i64 ((i:Int)+1))) g 172 _ from(AG _ _ _ _ hpg.symm).trans Q1.out);have B2:=H_ (B1.out.setCell (q:=⟨p,1,none⟩) (.inr rfl) (.int .i64 ((i:Int)+1)));obtain⟨⟨d0,d1,d2,d3,d4,d5⟩,f0,f1,f2,f3,f4,f5⟩:=Q1.out.aC;clear P2;go_wp2_with fail;exact eU rfl (by simp) Q2.out (lv _ (λ_=>False) 0 v ⟨#[]⟩) (λb hb=>hb.elim) HP2.out HS.out (by omega) (hgz▸B2.out) hgz (by omega)
  ·by_cases hk2:k=2
   ·subst hk2;have hi1:=HI.out (by decide);have HS:=H_ (show Is (lif (ai T rec) i false) (ib 3 t) (i+1) false by rw[aU];unfold ai;rw[HK.out];rfl);have P2:=HP1.out.move hi1;simp only[Ce,Ca]at P2;have HP2:=H_ P2;have Q2:=H_ (show Blk (W.setCell ⟨p,1,none⟩ (.int .i64 ((i:Int)+1))) g 172 _ from(AG _ _ _ _ hpg.symm).trans Q1.out);have B2:=H_ (B1.out.setCell (q:=⟨p,1,none⟩) (.inr rfl) (.int .i64 ((i:Int)+1)));obtain⟨⟨d0,d1,d2,d3,d4,d5⟩,f0,f1,f2,f3,f4,f5⟩:=Q1.out.aC;clear P2;go_wp2_with fail;exact eU rfl (by simp) Q2.out (lv _ (λ_=>False) 3 0 t) (λb hb=>hb.elim) HP2.out HS.out (by omega) (hgz▸B2.out) hgz (by omega)
   ·have HS:=H_ (show ai T rec i=_ from by
     unfold ai;rw[HK.out,AL (show ¬k=1 from hk1),AL (show ¬k=2 from hk2)])
    have hk1':=AD.2 hk1;have hk2':=AD.2 hk2;clear HK p1 pf1;go_wp2_with fail;clear e0 e1 e2 p2 HE hk1 hk2 hk1' hk2';refine am HP1.out nR (λ_ ht w2 P2 b2=>?_) (λht w2 P2 b2=>?_)
    ·have hi1:=P2.lt;have HT2:=H_ ht;obtain⟨hs2,B2,Q2,qlt2⟩:=fr1 B1 Q1 b2;have HP2:=H_ P2;clear Q1 B1 HP1 P2 b2;clear ht;have HR:=H_ (show Is (lif (ai T rec) i false) (ib 1 ⟨#[]⟩) (i+1) false by rw[aU,HS.out,cG HT2.out];rfl);obtain⟨⟨d0,d1,d2,d3,d4,d5⟩,f0,f1,f2,f3,f4,f5⟩:=Q2.out.aC;go_wp2_with fail;exact eU rfl (by simp) Q2.out (lv _ (λ_=>False) 1 0 ⟨#[]⟩) (λb hb=>hb.elim) HP2.out HR.out (by omega) (hgz▸B2.out) hgz (by omega)
    ·have HT2:=H_ (show isT T nR i=false from by rcases ht with h|h;cases h;exact h);obtain⟨hs2,B2,Q2,qlt2⟩:=fr1 B1 Q1 b2;have HP2:=H_ P2;clear Q1 B1 HP1 P2 b2;clear ht;go_wp2_with fail;refine am HP2.out km (λ_ ht w3 P3 b3=>?_) (λht w3 P3 b3=>?_)
     ·have hi1:=P3.lt;have HT3:=H_ ht;obtain⟨hs3,B3,Q3,qlt3⟩:=fr1 B2 Q2 b3;have HP3:=H_ P3;clear Q2 B2 HP2 P3 b3;clear ht;have HR:=H_ (show Is (lif (ai T rec) i false) (ib 2 ⟨#[]⟩) (i+1) false by rw[aU,HS.out,az HT2.out,cG HT3.out];rfl);obtain⟨⟨d0,d1,d2,d3,d4,d5⟩,f0,f1,f2,f3,f4,f5⟩:=Q3.out.aC;go_wp2_with fail;exact eU rfl (by simp) Q3.out (lv _ (λ_=>False) 2 0 ⟨#[]⟩) (λb hb=>hb.elim) HP3.out HR.out (by omega) (hgz▸B3.out) hgz (by omega)
     ·have HT3:=H_ (show isT T km i=false from by rcases ht with h|h;cases h;exact h);obtain⟨hs3,B3,Q3,qlt3⟩:=fr1 B2 Q2 b3;have HP3:=H_ P3;clear Q2 B2 HP2 P3 b3;clear ht;go_wp2_with fail;refine am HP3.out eA (λ_ ht w4 P4 b4=>?_) (λht w4 P4 b4=>?_)
      ·have HT4:=H_ ht;obtain⟨hs4,B4,Q4,qlt4⟩:=fr1 B3 Q3 b4;have HP4:=H_ P4;clear Q3 B3 HP3 P4 b4;clear ht;go_wp2_with fail;refine ROut.use (H0'.out (i+1) (by omega) p c _ false w4 HP4.out) (λv5 x j b5 w5 hv P5 hr hij b5x=>?_);have hs4:=hs4;obtain⟨hs5,B5,Q5,qlt5⟩:=fr1 B4 Q4 b5x;have HP5:=H_ P5;clear Q4 B4 HP4 P5 b5x;obtain⟨k5,op5,z5,nm5,at5,A5,n5,c5,rfl,hv'⟩:=ExV.inv hv;have HV5:=H_ hv';have HR5:=H_ hr;clear hv hv' hr;go_upto_region 16 with fail;obtain⟨f,hfz⟩:=nm_ (w5.heap.size);rw[hfz];obtain⟨w6,hw6⟩:=nm_ (w5.alloc (.cells #[.int .i64 k5,.int .i64 op5,.int .i64 z5,.string nm5,.bool at5,.slice A5 n5 c5] 172));have b6:Bx w5.heap.size p w5 w6:=bxn hw6;have F6:=H_ (show Blk w6 f 172 _ from hw6▸hfz▸Blk.new w5 172 #[.int .i64 k5,.int .i64 op5,.int .i64 z5,.string nm5,.bool at5,.slice A5 n5 c5]);have HV6:=H_ (ExC.aA (G':=Fr w4 w5) (λb hb=>⟨hb,b6.block b hb.2 (by have:=hb.1;omega)⟩) HV5.out);have P6:RS w6 p _ c T j b5:=hw6▸HP5.out.alloc _;rw[hw6];clear hw6 HV5;obtain⟨hs6,B6,Q6,qlt6⟩:=fr1 B5 Q5 b6;have HP6:=H_ P6;clear Q5 B5 HP5 P6 b6;have flt6:=F6.out.lt;go_wp2_with fail;refine bA HP6.out _ (λj7 b7 w7 P7 hr hij7 b7x=>?_)
       have HR:=H_ (show Is (lif (ai T rec) i false) x j7 b7 by
        rw[aU,HS.out,az HT2.out,az HT3.out,cG HT4.out];have h5:rec 0 (i+1)=if b5=true then .bad j else .ok x j:=HR5.out;rw[h5];cases b5
        ·have h7:ap T eg j=if b7=true then .bad j7 else .ok () j7:=hr;simp only[AU,BO];rw[h7];cases b7<;>rfl
        ·obtain⟨rfl,rfl⟩:=Is.aD hr;rfl)
       have HV7:=H_ (ExC.aA (G':=Fr w4 w5) (λb hb=>⟨hb,b7x.block b (by have:=hb.2;omega) (by have:=hb.1;omega)⟩) HV6.out);clear HV6 HR5 hr;obtain⟨hs7,B7,Q7,qlt7,F7,flt7⟩:=fr2 B6 Q6 F6 b7x;have HP7:=H_ P7;clear Q6 F6 B6 HP6 P7 b7x;obtain⟨g0',g1',g2',g3',g4',g5'⟩:=F7.out.aC.1;obtain⟨⟨d0,d1,d2,d3,d4,d5⟩,f0,f1,f2,f3,f4,f5⟩:=Q7.out.aC;go_wp2_with fail;exact eU rfl (by simp) Q7.out HV7.out (λb hb=>⟨by have:=hb.1;omega,by have:=hb.2;omega⟩) HP7.out HR.out (by omega) (hgz▸B7.out) hgz (by omega)
      ·have HT4:=H_ (show isT T eA i=false from by rcases ht with h|h;cases h;exact h);obtain⟨hs4,B4,Q4,qlt4⟩:=fr1 B3 Q3 b4;have HP4:=H_ P4;clear Q3 B3 HP3 P4 b4;clear ht;go_wp2_with fail;refine am HP4.out qM (λ_ ht w5 P5 b5=>?_) (λht w5 P5 b5=>?_)
       ·have HT5:=H_ ht;obtain⟨hs5,B5,Q5,qlt5⟩:=fr1 B4 Q4 b5;have HP5:=H_ P5;clear Q4 B4 HP4 P5 b5;clear ht;go_wp2_with fail;refine du HP5.out 3 (by decide) (λk6 s6 z6 q6 j b6 w6 P6 hr hij b6x=>?_);have HR6:=H_ hr;clear hr;obtain⟨hs6,B6,Q6,qlt6⟩:=fr1 B5 Q5 b6x;have HP6:=H_ P6;clear Q5 B5 HP5 P6 b6x;have hfl:=cX;go_upto_region 20 with fail;clear hfl;obtain⟨f,hfz⟩:=nm_ (w6.heap.size);rw[hfz];obtain⟨w7,hw7⟩:=nm_ (w6.alloc (.cells #[.int .i64 5,.int .i64 0,.int .i64 0,.string s6,.bool false,.slice none 0 0] 172));have b7:Bx w6.heap.size p w6 w7:=bxn hw7;have F7:=hng hw7 hfz;have P7:RS w7 p _ c T j b6:=hw7▸HP6.out.alloc _;rw[hw7];clear hw7;obtain⟨hs7,B7,Q7,qlt7⟩:=fr1 B6 Q6 b7;have HP7:=H_ P7;clear Q6 B6 HP6 P7 b7;have flt7:=F7.out.lt;go_wp2_with fail;refine ROut.use (pA (f:=rec 0) (λj' hj'=>H0'.out j' (by omega)) p c _ w7 HP7.out) (λv8 xs j8 b8 w8 hv P8 hr hij8 b8x=>?_);have HR8:=H_ hr;obtain⟨hvec,hxl⟩:=hv;obtain⟨A8,c8,rfl,hs8'⟩:=hvec.sl (by unfold BD;omega);have V8:=H_ hvec;clear hr hvec hs8';obtain⟨hs8,B8,Q8,qlt8,F8,flt8⟩:=fr2 B7 Q7 F7 b8x;have HP8:=H_ P8;clear Q7 F7 B7 HP7 P8 b8x;obtain⟨f0',f1',f2',f3',f4',f5'⟩:=F8.out.aC.2;have x5:=F8.out.k5;go_upto_region 21 with fail;obtain⟨w9,hw9⟩:=nm_ (w8.setCell ⟨f,5,none⟩ (.slice A8 xs.length c8));have b9:=bx1 hw9;have F9:=H_ (show Blk w9 f 172 #[.int .i64 5,.int .i64 0,.int .i64 0,.string s6,.bool false,.slice A8 xs.length c8]from hw9▸F8.out.set 5 _);have Q9:=hbx Q8 b9;have HP9:=H_ (HP8.out.aA b9 (by omega));have B9:=H_ (B8.out.put b9 (by omega) (AB _));have V9:=hvk V8 b9;have hs9:=b9.size;have qlt9:=Q9.out.lt;have flt9:=F9.out.lt;rw[hw9];clear hw9 b9 F8 Q8 HP8 B8 V8;clear f0' f1' f2' f3' f4' f5' x5
        have HLT:=H_ (show lif (ai T rec) i false=lif (λm=>if isT T kAt m=true then(match rec 6 (m+1)with| .bad q=> .bad q| .ok y q=> .ok (.mk 5 0 0 s6 true (xs++[y])) q)else .ok (.mk 5 0 0 s6 false xs) m) j8 b8 by
         have h1:ai T rec i=iZ T rec i:=by rw[HS.out,az HT2.out,az HT3.out,az HT4.out]
         rw[aU,h1];unfold iZ ap;rw[AP (show isT T qM i=true from HT5.out)];simp only;have e1:aj T 3 (i+1)=if b6=true then .bad j else .ok s6 j:=HR6.out;rw[e1];cases b6 with
         |true=>
          obtain⟨rfl,rfl⟩:=Is.aD HR8.out;rfl
         |false=>
          have e2:bg T (rec 0) j=if b8=true then .bad j8 else .ok xs j8:=HR8.out;simp only[AU,BO];rw[e2];cases b8<;>rfl)
        clear HR6 HR8;go_wp2_with fail;refine am HP9.out kAt (λhb8 ht w10 P10 b10=>?_) (λht w10 P10 b10=>?_)
        ·subst hb8;have HT10:=H_ ht;have V10:=hvk V9 b10;clear ht V9;obtain⟨hs10,B10,Q10,qlt10,F10,flt10⟩:=fr2 B9 Q9 F9 b10;have HP10:=H_ P10;clear Q9 F9 B9 HP9 P10 b10;have a4:=F10.out.k4;have a4f:=F10.out.frozen 4;go_upto_region 23 with fail;obtain⟨w11,hw11⟩:=nm_ (w10.setCell ⟨f,4,none⟩ (.bool true));have b11:=bx1 hw11;have F11:=H_ (show Blk w11 f 172 #[.int .i64 5,.int .i64 0,.int .i64 0,.string s6,.bool true,.slice A8 xs.length c8]from hw11▸F10.out.set 4 _);have Q11:=hbx Q10 b11;have HP11:=H_ (HP10.out.aA b11 (by omega));have B11:=H_ (B10.out.put b11 (by omega) (AB _));have V11:=hvk V10 b11;have hs11:=b11.size;have qlt11:=Q11.out.lt;have flt11:=F11.out.lt;rw[hw11];clear hw11 b11 F10 Q10 HP10 B10 V10;clear a4 a4f;obtain⟨w12,hw12⟩:=nm_ (w11.alloc (.cells #[] 172));have b12:Bx w11.heap.size p w11 w12:=bxn hw12;have hz12:w12.heap.size=w11.heap.size+1:=by rw[<-hw12];exact AR _ _
         have hb7:w7.heap.size<=w11.heap.size:=by omega
         have M12:=H_ (show Vec kEx 172 w7.heap.size noZ w12 (.slice (some ⟨w11.heap.size,0,none⟩) 0 0) []from hw12▸Vec.made kEx 172 w7.heap.size noZ hb7 (λh=>h));have V12:=H_ ((V11.out.zf' (AB _)).aA b12.size (λk hk=>b12.block k hk.2.1 (by have:=hk.1;omega)));have P12:RS w12 p _ c T (j8+1) false:=hw12▸HP11.out.alloc _;have hs11':w11.heap.size<w12.heap.size:=by omega
         obtain⟨hs12,B12,Q12,qlt12,F12,flt12⟩:=fr2 B11 Q11 F11 b12;have HP12:=H_ P12;clear Q11 F11 B11 HP11 P12 b12;have x5:=F12.out.k5;obtain⟨v13,w13,hr13,hv13,hg13⟩:=oJ iM 166 M12.out V12.out (λb hb=>⟨⟨hb.1,hb.2.1,λh=>h⟩,λe=>hb.2.2 (by simp[Value.ownBlock]at e;exact e.symm)⟩) (by simp;omega) (by omega) (λb hb h=>h);have HOW:∀k,(Value.slice (some ⟨w11.heap.size,0,none⟩) 0 0).ownBlock=some k->k=w11.heap.size:=λk hk=>by simp[Value.ownBlock]at hk;exact hk.symm
         go_wp2_with (at_builtin;refine wpList_plain rfl λK' hK=>?_;refine cM (.tmp 81) (.tmp 83) 166 rfl rfl rfl hr13 (hK _ _ ?_));clear hw12 hr13 x5 M12;have V13:=H_ hv13;have hs13:=hg13.size;have Q13:=H_ (Q12.out.aI hg13 (λk hk=>by have:=HOW k hk;omega));have F13:=H_ (F12.out.aI hg13 (λk hk=>by have:=HOW k hk;omega));have HP13:=H_ (HP12.out.grown hg13 (λk hk=>by have:=HOW k hk;omega));have B13:=H_ (B12.out.grown hg13 (by omega) (λk hk=>by have:=HOW k hk;omega));have HO13:=H_ hv13.lt;clear hv13 hg13 HOW Q12 F12 HP12 B12 V12;go_wp2_with fail;refine ROut.use (H6'.out (j8+1) (by omega) p c _ false w13 HP13.out) (λv14 y j14 b14 w14 hv P14 hr hij14 b14x=>?_)
         have HR:=H_ (show Is (lif (ai T rec) i false) (.mk 5 0 0 s6 true (xs++[y])) j14 b14 by
          have h1:rec 6 (j8+1)=if b14=true then .bad j14 else .ok y j14:=hr;rw[HLT.out,aU,AP HT10.out,h1];cases b14<;>rfl)
         have V14:=hvk V13 b14x;obtain⟨k0,op0,z0,nm0,at0,A0,n0,c0,rfl,hv'⟩:=ExV.inv hv;have HV:=H_ hv';clear hv hv' hr V13 HLT;obtain⟨hs14,B14,Q14,qlt14,F14,flt14⟩:=fr2 B13 Q13 F13 b14x;have HP14:=H_ P14;clear Q13 F13 B13 HP13 P14 b14x;go_wp2_with (at_builtin;refine bv iM (K:=kEx) rfl (.tmp 84) (.tmp 87) rfl V14.out (kEx.aA (fR (by omega) (λk hk=>(HO13.out k hk).2)) HV.out) rfl rfl (by simp;omega) (by omega) (λb hb h=>h) ?_);intro u15 w15 hv15 hg15;replace hv15:=hv15;obtain⟨A15,c15,hu15,hs15'⟩:=hv15.sl (by simp[BD];omega);rw[show(xs++[y]).length=xs.length+1 by simp]at hu15;subst hu15;have V15:=H_ hv15;have hs15:=hg15.size;have Q15:=H_ (Q14.out.aI hg15 (λk hk=>by have:=(HO13.out k hk).1;omega));have F15:=H_ (F14.out.aI hg15 (λk hk=>by have:=(HO13.out k hk).1;omega));have HP15:=H_ (HP14.out.grown hg15 (λk hk=>by have:=(HO13.out k hk).1;omega));have B15:=H_ (B14.out.grown hg15 (by omega) (λk hk=>by have:=(HO13.out k hk).1;omega));clear hv15 hg15 hs15' Q14 F14 HP14 B14 V14 HV;have qlt15:=Q15.out.lt;have flt15:=F15.out.lt;obtain⟨f0',f1',f2',f3',f4',f5'⟩:=F15.out.aC.2;have x5:=F15.out.k5;go_upto_region 24 with fail;obtain⟨w16,hw16⟩:=nm_ (w15.setCell ⟨f,5,none⟩ (.slice A15 (xs.length+1) c15));have b16:=bx1 hw16;have F16:=H_ (show Blk w16 f 172 #[.int .i64 5,.int .i64 0,.int .i64 0,.string s6,.bool true,.slice A15 (xs.length+1) c15]from hw16▸F15.out.set 5 _);have Q16:=hbx Q15 b16;have HP16:=H_ (HP15.out.aA b16 (by omega));have B16:=H_ (B15.out.put b16 (by omega) (AB _));have V16:=hvk V15 b16;have hs16:=b16.size;have qlt16:=Q16.out.lt;have flt16:=F16.out.lt;rw[hw16];clear hw16 b16 F15 Q15 HP15 B15 V15;clear f0' f1' f2' f3' f4' f5' x5;have VE:=H_ (ExC.of 5 0 0 s6 true c15 (V16.out.slice (by simp[BD];omega)));obtain⟨g0',g1',g2',g3',g4',g5'⟩:=F16.out.aC.1;obtain⟨⟨d0,d1,d2,d3,d4,d5⟩,f0,f1,f2,f3,f4,f5⟩:=Q16.out.aC;go_wp2_with fail;exact eU rfl (by simp) Q16.out VE.out (λb hb=>⟨by have:=hb.1;omega,hb.2.1⟩) HP16.out HR.out (by omega) (hgz▸B16.out) hgz (by omega)
        ·have HR:=H_ (show Is (lif (ai T rec) i false) (.mk 5 0 0 s6 false xs) j8 b8 by
          rw[HLT.out];cases b8
          ·rw[aU,AL (by rcases ht with h|h;cases h;rw[show isT T kAt j8=false from h];decide)];rfl
          ·rfl)
         have V10:=hvk V9 b10;clear ht V9;obtain⟨hs10,B10,Q10,qlt10,F10,flt10⟩:=fr2 B9 Q9 F9 b10;have HP10:=H_ P10;clear Q9 F9 B9 HP9 P10 b10;obtain⟨g0',g1',g2',g3',g4',g5'⟩:=F10.out.aC.1;have VE:=H_ (ExC.of 5 0 0 s6 false c8 (V10.out.slice (by unfold BD;omega)));obtain⟨⟨d0,d1,d2,d3,d4,d5⟩,f0,f1,f2,f3,f4,f5⟩:=Q10.out.aC;go_wp2_with fail;exact eU rfl (by simp) Q10.out VE.out (λb hb=>⟨by have:=hb.1;omega,hb.2.1⟩) HP10.out HR.out (by omega) (hgz▸B10.out) hgz (by omega)
       ·have HT5:=H_ (show isT T qM i=false from by rcases ht with h|h;cases h;exact h);obtain⟨hs5,B5,Q5,qlt5⟩:=fr1 B4 Q4 b5;have HP5:=H_ P5;clear Q4 B4 HP4 P5 b5;clear ht;have HR:=H_ (show Is (lif (ai T rec) i false) (lJ 0) i true by rw[aU,HS.out,az HT2.out,az HT3.out,az HT4.out];unfold iZ ap;rw[AL (by rw[show isT T qM i=false from HT5.out];decide)];rfl);have p2:=HP5.out.aG.k2;have pf2:=HP5.out.aG.frozen 2;have HP7:=H_ (HP5.out.fail);have Q7:=H_ (show Blk (w5.setCell ⟨p,2,none⟩ (.bool true)) g 172 _ from(AG _ _ _ _ hpg.symm).trans Q5.out);have B7:=H_ (B5.out.setCell (q:=⟨p,2,none⟩) (.inr rfl) (.bool true));obtain⟨⟨d0,d1,d2,d3,d4,d5⟩,f0,f1,f2,f3,f4,f5⟩:=Q5.out.aC;go_wp2_with fail;exact eU rfl (by simp) Q7.out (lv _ (λ_=>False) 0 0 ⟨#[]⟩) (λb hb=>hb.elim) HP7.out HR.out (by omega) (hgz▸B7.out) hgz (by omega)
theorem ki{b:Bool}(h:RS w p A c T i b):
 ∃w0,w.alloc (.cells #[.int .i64 0,.string ⟨#[]⟩,.slice none 0 0,.slice none 0 0,.slice none 0 0] 168)=w0/\Blk w0 w.heap.size 168 #[.int .i64 0,.string ⟨#[]⟩,.slice none 0 0,.slice none 0 0,.slice none 0 0]/\Bx w.heap.size p w w0/\RS w0 p A c T i b:=
 ⟨_,rfl,Blk.new w 168 _,(Bx.refl _ _ _).new _ (AB _),h.alloc _⟩
theorem lI{fn:Func}{s:Tmp}{tmps:Array Value}{W:World}{b:Bool}{x:St}{r:R St}{G:Nat->Prop}{o0 o1 o2 o3 o4 v0 v1 v2 v3 v4:Value}
 (hf:fn.results= #[.cell s 168]) (hs:tmps.getD s undef= .pointer (some ⟨g,0,none⟩)) (q:Blk W g 168 #[o0,o1,o2,o3,o4]) (hx:StC W G x [v0,v1,v2,v3,v4])
 (hG:∀b,G b->g<b/\b<W.heap.size) (hP:RS W p A c T j b) (hr:Is r x j b) (hij:i<=j) (hB:Bx g p w W) (hg:w.heap.size=g) (hp:p<g):
 bodyPost Tryz.prog fn (ROut rvS p A c T w i r) .ret {tmps:=tmps,defers:=[]} (((((W.setCell ⟨g,0,none⟩ v0).setCell ⟨g,1,none⟩ v1).setCell ⟨g,2,none⟩ v2).setCell ⟨g,3,none⟩ v3).setCell ⟨g,4,none⟩ v4):=by
 obtain⟨N1,N2⟩:=hH q v0 v1 v2 v3 v4;have hgl:=q.lt;refine gj hf hs N1 ⟨_,x,j,b,rfl,⟨_,rfl,hx.aA (λk hk=>⟨⟨by rw[hg];exact Be (hG k hk).1,AF (hG k hk).2 N2.size⟩,N2.block k (hG k hk).2 (by have:=(hG k hk).1;omega)⟩)⟩,hP.aA N2 (by omega),hr,hij,?_⟩;subst hg;exact hB.put N2 (AB _) (AB _)
theorem Is.exp_any{b:Bool}(h:Is (lif (ap T s) i b) () j b1):b1=false->b=false/\isT T s i=true/\j=i+1:=λe=>by subst e;exact Is.exp_ok h
section
variable{T:List Tk}{ex:Nat->Nat->R Ex}{st:Nat->R St}{i:Nat}
theorem ri{b:Bool}(h:Is (lif (ap T jT) i b) () j b1):lif (bp T st) i b=lif (ck T st (T.length+1) []) j b1:=by
 cases b
 ·have h':ap T jT i=if b1=true then .bad j else .ok () j:=h;rw[aU];unfold bp;rw[h'];cases b1<;>rfl
 ·obtain⟨rfl,rfl⟩:=Is.aD h;rfl
theorem jq{b:Bool}(HS:∀j,i<j->RAt rvS 224 T st j)(hup:Up st)(p c:Nat)(A:Option Addr)(w:World)(h:RS w p A c T i b):
 Calls Tryz.prog 145 #[.pointer (some ⟨p,0,none⟩)] w (ROut (rvV kSt 168 w.heap.size) p A c T w i (lif (bp T st) i b)):=by
 have hp:=h.aG.lt;have HP:=H_ h;have HF':=H_ HS;have HU:=H_ hup;obtain⟨w0,hw0⟩:=nm_ (w.alloc (.cells #[] 168));have V0:=H_ (show Vec kSt 168 w.heap.size noZ w0 (.slice (some ⟨w.heap.size,0,none⟩) 0 0) []from hw0▸Vec.made kSt 168 w.heap.size noZ (AB _) (λh=>h));have HP0:=H_ (HP.out.al hw0);have B0:=H_ (show Bx w.heap.size p w w0 from hw0▸(Bx.refl _ _ _).new _ (AB _));clear h HS hup;go_enter Tryz.func145,Tryz.ntmps145;go_upto_region 2 with(fail);have hs0:w.heap.size<w0.heap.size:=by rw[<-hw0];simp
 clear hw0 HP;obtain⟨g,hgz⟩:=nm_ (w.heap.size);rw[hgz]at V0 hs0⊢;go_wp2_with fail;refine bA HP0.out _ (λj b1 w1 P1 hr hij b1x=>?_);have hb1:=b1x.size;have V1:=hvk V0 b1x;have B1:=hth B0 b1x;have HP1:=H_ P1;have HO:=H_ (ri (st:=st) (show Is (lif (ap T jT) i b) () j b1 from hr));have HI:=(show b1=false->i<j from λh=>by have:=(Is.exp_any hr h).2.2;omega);have hjT:=P1.lt;have hT:=P1.wf.few;clear V0 B0 HP0 P1 b1x hr;go_wp2_with fail;go_loopg [3] (2*(T.length-j)+(if b1=true then 0 else 1)) (λk u wr=>∃(xs:List St) (q:Nat) (bq:Bool),k=2*(T.length-q)+(if bq=true then 0 else 1)/\Hid (Vec kSt 168 g noZ wr u xs)/\Hid (RS wr p A c T q bq)/\Hid (Bx w.heap.size p w wr)/\i<=q/\(bq=false->i<q)/\xs.length<=q+(if bq=true then 1 else 0)/\Hid (∃m,T.length+1<=m+q/\lif (bp T st) i b=lif (ck T st m xs) q bq))
 case atStart=>exact⟨[],j,b1,rfl,V1,HP1,B1,hij,HI,by simp,H_ ⟨_,by omega,HO.out⟩⟩
 case round=>
  clear V1 HP1 B1 HO HI;obtain⟨xs,q,bq,rfl,HVr,HPr,HBr,hiq,hil,hxq,HEr⟩:=hrel;have hqT:=HPr.out.lt
  obtain⟨m,hm,heq⟩:∃m,T.length+1<=m+1+q/\lif (bp T st) i b=lif (ck T st (m+1) xs) q bq:=by
   obtain⟨m,hm,heq⟩:=HEr.out;obtain⟨m,rfl⟩:∃m',m=m'+1:=⟨m-1,by omega⟩;exact⟨m,hm,heq⟩
  have HE1:=H_ heq;have p2:=HPr.out.aG.k2;clear HEr heq;have hsr:=HBr.out.size;cases bq with
  |true=>
   have HR:=H_ (show Is (lif (bp T st) i b) xs q true by rw[HE1.out];rfl);clear HE1;simp only[AP]at hxq;go_wp2_with fail;go_ret;exact⟨_,xs,q,true,rfl,⟨by first|exact HVr.out|(rw[hgz];exact HVr.out),by omega⟩,HPr.out,HR.out,hiq,HBr.out⟩
  |false=>
   have hiq':=hil rfl;simp only[AU,BO]at hxq;go_wp2_with fail;refine am HPr.out gn (λ_ ht w5 P5 b5=>?_) (λht w5 P5 b5=>?_)
   ·have B5:=hth HBr b5;have HP5:=H_ P5;have V5:=hvk HVr b5;have HR:=H_ (show Is (lif (bp T st) i b) xs (q+1) false by rw[HE1.out,aU];unfold ck;rw[AP (show isT T gn q=true from ht)];rfl);clear b5 ht P5 HBr HPr HVr HE1;go_wp2_with fail;go_ret;exact⟨_,xs,q+1,false,rfl,⟨by first|exact V5.out|(rw[hgz];exact V5.out),by omega⟩,HP5.out,HR.out,by omega,B5.out⟩
   ·have B5:=hth HBr b5;have HP5:=H_ P5;have HT5:=H_ (show isT T gn q=false from by rcases ht with h|h;cases h;exact h);have V5:=hvk HVr b5;clear b5 ht P5 HBr HPr HVr;go_wp2_with fail;refine ROut.use (HF'.out q hiq' p c A false w5 HP5.out) (λv y j6 b6 w6 hv P6 hr hqj b6x=>?_)
    have HE6:=H_ (show lif (bp T st) i b=lif (ck T st m (xs++[y])) j6 b6 by
     have h':st q=if b6=true then .bad j6 else .ok y j6:=hr;rw[HE1.out,aU]
     conv=>lhs;unfold ck;rw[AL (by rw[HT5.out];decide),h']
     cases b6<;>rfl)
    have hlt6:b6=false->q<j6:=λe=>by subst e;exact HU.out _ _ _ (Is.aQ hr).2
    have HP6:=H_ P6;have B6:=hth B5 b6x;have hb5:=B5.out.size;have hb6:=B6.out.size;obtain⟨k0,nm,A1,n1,c1,A2,n2,c2,A3,n3,c3,rfl,hv'⟩:=SV.inv hv;have HV:=H_ hv';have V6:=hvk V5 b6x;have HO:=H_ V5.out.lt;have hj6T:=P6.lt;clear hr P6 b6x V5 HE1 hv hv';go_wp2_with (at_builtin;refine bv yj (K:=kSt) rfl (.tmp 17) (.tmp 20) rfl V6.out (kSt.aA (fR (by omega) (λk hk=>(HO.out k hk).2)) HV.out) rfl rfl (by omega) (by omega) (λb hb h=>h) ?_);intro u7 w7 hv7 hg7;have V7:=H_ hv7;have HP7:=H_ (HP6.out.grown hg7 (λk hk=>by have:=(HO.out k hk).1;omega));have B7:=H_ (B6.out.grown hg7 hb6 (λk hk=>by have:=(HO.out k hk).1;omega));clear hv7 hg7 HP6 B6 HV V6 B5 HP5 p2;go_wp2_with fail;go_roundg (2*(T.length-j6)+(if b6=true then 0 else 1))
    case rel=>exact⟨xs++[y],j6,b6,rfl,V7,HP7,B7,by omega,(λe=>by have:=hlt6 e;omega),by
     cases b6
     ·have:=hlt6 rfl;simp;omega
     ·simp;omega,H_ (by
     cases b6 with
     |false=>have:=hlt6 rfl;exact⟨m,by omega,HE6.out⟩
     |true=>exact⟨T.length+1,by omega,HE6.out.trans rfl⟩)⟩
    case measure=>
     cases b6
     ·have:=hlt6 rfl;simp;omega
     ·simp;omega
theorem wK(HX:∀j,i<j->EAt T (ex 0) 0 j)(HS:∀j,i<j->RAt rvS 224 T st j)(hup:Up st)(HM:RAt rvS 259 T (ak T ex) i):RAt rvS 224 T (cL T ex st) i:=by
 intro p c A b w h;have HX':=H_ HX;have HS':=H_ HS;have HU:=H_ hup;have HM':=H_ HM;clear HX HS hup HM;have hp:=h.aG.lt;obtain⟨w0,hw0,q0,b0,P0⟩:=ki h;have Q0:=H_ q0;have B0:=H_ b0;have HP0:=H_ P0;clear h q0 b0 P0;go_enter Tryz.func224,Tryz.ntmps224;go_upto_region 1 with(fail);have hsz:=B0.out.size;have hg0:=Q0.out.lt;obtain⟨g,hgz⟩:=nm_ (w.heap.size);rw[hgz]at Q0 hg0⊢;clear hw0;go_wp2_with fail;refine am HP0.out kIf (λhbf ht w1 P1 b1=>?_) (λht w1 P1 b1=>?_)
 ·subst hbf;have HT1:=H_ ht;obtain⟨hs1,B1,Q1,qlt1⟩:=fr1 B0 Q0 b1;have HP1:=H_ P1;clear Q0 B0 HP0 P1 b1;clear ht;go_wp2_with fail;refine ROut.use (HX'.out (i+1) (by omega) p c A false w1 HP1.out) (λv x j b5 w5 hv P5 hr hij b5x=>?_);obtain⟨hs5,B5,Q5,qlt5⟩:=fr1 B1 Q1 b5x;have HP5:=H_ P5;clear Q1 B1 HP1 P5 b5x;obtain⟨k5,op5,z5,nm5,at5,A5,n5,c5,rfl,hv'⟩:=ExV.inv hv;have HV5:=H_ hv';have HR5:=H_ hr;clear hv hv' hr;go_upto_region 3 with fail;obtain⟨a,haz⟩:=nm_ (w5.heap.size);rw[haz];obtain⟨w6,hw6⟩:=nm_ ((w5.alloc (.cells #[.int .i64 k5,.int .i64 op5,.int .i64 z5,.string nm5,.bool at5,.slice A5 n5 c5] 172)).alloc (.cells #[.int .i64 3,.string ⟨#[]⟩,.slice (some ⟨a,0,none⟩) 1 1,.slice none 0 0,.slice none 0 0] 168));have hn6:(w5.alloc (.cells #[.int .i64 k5,.int .i64 op5,.int .i64 z5,.string nm5,.bool at5,.slice A5 n5 c5] 172)).heap.size=a+1:=by rw[AR,haz]
  have b6:Bx w5.heap.size p w5 w6:=hw6▸((Bx.refl _ _ _).new _ (AB _)).new _ (AB _);have hs6z:w6.heap.size=a+2:=by rw[<-hw6,AR,hn6]
  obtain⟨f,hfz⟩:=nm_ (a+1);have F6:=H_ (show Blk w6 f 168 #[.int .i64 3,.string ⟨#[]⟩,.slice (some ⟨a,0,none⟩) 1 1,.slice none 0 0,.slice none 0 0]from hw6▸hfz▸hn6▸Blk.new _ 168 _);have A6:Blk w6 a 172 #[.int .i64 k5,.int .i64 op5,.int .i64 z5,.string nm5,.bool at5,.slice A5 n5 c5]:=hw6▸(haz▸Blk.new w5 172 #[.int .i64 k5,.int .i64 op5,.int .i64 z5,.string nm5,.bool at5,.slice A5 n5 c5]).alloc _
  have X6:=H_ (show Sl kEx w6 (NG g (two g f) w6) [x] (some ⟨a,0,none⟩) 1 from
   dW (K:=kEx) A6 ⟨by omega,by omega,λh=>by unfold two at h;omega⟩ (ExC.aA (λb hb=>⟨⟨by have:=hb.1;omega,by have:=hb.2;omega,λh=>by have:=hb.1;have:=hb.2;unfold two at h;omega⟩,b6.block b hb.2 (by have:=hb.1;omega)⟩) HV5.out))
  have P6:RS w6 p A c T j b5:=hw6▸(HP5.out.alloc _).alloc _;try rw[hn6]
  try rw[hfz]
  try rw[hw6]
  clear hw6 HV5 A6;obtain⟨hs6,B6,Q6,qlt6⟩:=fr1 B5 Q5 b6;have HP6:=H_ P6;clear Q5 B5 HP5 P6 b6;have flt6:=F6.out.lt;go_wp2_with fail;refine ROut.use (jq (st:=st) (λj' hj'=>HS'.out j' (by omega)) HU.out p c A w6 HP6.out) (λv8 ss j8 b8 w8 hv P8 hr hij8 b8x=>?_);have HR8:=H_ hr;obtain⟨hvec,hxl⟩:=hv;obtain⟨A8,c8,rfl,hs8'⟩:=hvec.sl (by unfold BD;omega);have Y8:=H_ (show Sl kSt w8 (NG g (two g f) w8) ss A8 ss.length from hs8'.aA (λb hb=>⟨⟨by have:=hb.1;omega,hb.2.1,λh=>by have:=hb.1;unfold two at h;omega⟩,rfl⟩));have X8:=H_ (X6.out.aA (G':=NG g (two g f) w8) (λb hb=>⟨hb.mono b8x.size,b8x.block b hb.2.1 (by have:=hb.1;omega)⟩));clear hr hvec hs8' X6;obtain⟨hs8,B8,Q8,qlt8,F8,flt8⟩:=fr2 B6 Q6 F6 b8x;have HP8:=H_ P8;clear Q6 F6 B6 HP6 P8 b8x;obtain⟨f0',f1',f2',f3',f4'⟩:=F8.out.aE.2;have x3:=F8.out.k3;go_upto_region 4 with fail;obtain⟨w9,hw9⟩:=nm_ (w8.setCell ⟨f,3,none⟩ (.slice A8 ss.length c8));have b9:=bx1 hw9;have F9:=hs3 F8 hw9;have Q9:=hbx Q8 b9;have HP9:=H_ (HP8.out.aA b9 (by omega));have B9:=H_ (B8.out.put b9 (by omega) (AB _));have Y9:=H_ (Y8.out.aA (G':=NG g (two g f) w9) (λb hb=>NG.put b9 (.inr rfl) hb));have X9:=H_ (X8.out.aA (G':=NG g (two g f) w9) (λb hb=>NG.put b9 (.inr rfl) hb));have hs9:=b9.size;have qlt9:=Q9.out.lt;have flt9:=F9.out.lt;rw[hw9];clear hw9 b9 F8 Q8 HP8 B8 X8 Y8 f0' f1' f2' f3' f4' x3
  have HLT:=H_ (show lif (cL T ex st) i false=lif (λl=>if isT T pc l=true then(match bp T st (l+1)with
    | .bad m=> .bad m
    | .ok c m=> .ok (.mk 3 ⟨#[]⟩ [x] ss c) m)
   else .ok (.mk 3 ⟨#[]⟩ [x] ss []) l) j8 b8 by
   rw[aU];unfold cL;rw[cG HT1.out];unfold ifT;have e1:ex 0 (i+1)=if b5=true then .bad j else .ok x j:=HR5.out;rw[e1];cases b5 with
   |true=>
    obtain⟨rfl,rfl⟩:=Is.aD HR8.out;rfl
   |false=>
    have e2:bp T st j=if b8=true then .bad j8 else .ok ss j8:=HR8.out;simp only[AU,BO];rw[e2];cases b8<;>rfl)
  clear HR5 HR8;go_wp2_with fail;refine am HP9.out pc (λhb8 ht w10 P10 b10=>?_) (λht w10 P10 b10=>?_)
  ·subst hb8;have HT10:=H_ ht;have Y10:=H_ (Y9.out.aA (G':=NG g (two g f) w10) (λb hb=>⟨hb.mono b10.size,b10.block b hb.2.1 (by have:=hb.1;omega)⟩));have X10:=H_ (X9.out.aA (G':=NG g (two g f) w10) (λb hb=>⟨hb.mono b10.size,b10.block b hb.2.1 (by have:=hb.1;omega)⟩));clear ht Y9 X9;obtain⟨hs10,B10,Q10,qlt10,F10,flt10⟩:=fr2 B9 Q9 F9 b10;have HP10:=H_ P10;clear Q9 F9 B9 HP9 P10 b10;go_wp2_with fail;refine ROut.use (jq (st:=st) (λj' hj'=>HS'.out j' (by omega)) HU.out p c A w10 HP10.out) (λv12 es j12 b12 w12 hv P12 hr hij12 b12x=>?_)
   have HR:=H_ (show Is (lif (cL T ex st) i false) (.mk 3 ⟨#[]⟩ [x] ss es) j12 b12 by
    have h1:bp T st (j8+1)=if b12=true then .bad j12 else .ok es j12:=hr;rw[HLT.out,aU,AP HT10.out,h1];cases b12<;>rfl)
   obtain⟨hvec,hel⟩:=hv;obtain⟨A12,c12,rfl,hs12'⟩:=hvec.sl (by unfold BD;omega);have Z12:=H_ (show Sl kSt w12 (NG g (two g f) w12) es A12 es.length from hs12'.aA (λb hb=>⟨⟨by have:=hb.1;omega,hb.2.1,λh=>by have:=hb.1;unfold two at h;omega⟩,rfl⟩));have Y12:=H_ (Y10.out.aA (G':=NG g (two g f) w12) (λb hb=>⟨hb.mono b12x.size,b12x.block b hb.2.1 (by have:=hb.1;omega)⟩));have X12:=H_ (X10.out.aA (G':=NG g (two g f) w12) (λb hb=>⟨hb.mono b12x.size,b12x.block b hb.2.1 (by have:=hb.1;omega)⟩));clear hr hvec hs12' Y10 X10 HLT;obtain⟨hs12,B12,Q12,qlt12,F12,flt12⟩:=fr2 B10 Q10 F10 b12x;have HP12:=H_ P12;clear Q10 F10 B10 HP10 P12 b12x;obtain⟨f0',f1',f2',f3',f4'⟩:=F12.out.aE.2;have x4:=F12.out.k4;go_upto_region 6 with fail;obtain⟨w13,hw13⟩:=nm_ (w12.setCell ⟨f,4,none⟩ (.slice A12 es.length c12));have b13:=bx1 hw13;have F13:=hs4 F12 hw13;have Q13:=hbx Q12 b13;have HP13:=H_ (HP12.out.aA b13 (by omega));have B13:=H_ (B12.out.put b13 (by omega) (AB _));have VE:=H_ (StC.of 3 ⟨#[]⟩ 1 c8 c12 (X12.out.aA (G':=NG g (two g f) w13) (λb hb=>NG.put b13 (.inr rfl) hb)) (Y12.out.aA (G':=NG g (two g f) w13) (λb hb=>NG.put b13 (.inr rfl) hb)) (Z12.out.aA (G':=NG g (two g f) w13) (λb hb=>NG.put b13 (.inr rfl) hb)));have hs13:=b13.size;rw[hw13];clear hw13 b13 F12 Q12 HP12 B12 X12 Y12 Z12 f0' f1' f2' f3' f4' x4;obtain⟨g0',g1',g2',g3',g4'⟩:=F13.out.aE.1;obtain⟨⟨d0,d1,d2,d3,d4⟩,f0,f1,f2,f3,f4⟩:=Q13.out.aE;go_wp2_with fail;exact lI rfl (by simp) Q13.out VE.out (λb hb=>⟨by have:=hb.1;have:=hb.2.2;unfold two at this;omega,hb.2.1⟩) HP13.out HR.out (by omega) (hgz▸B13.out) hgz (by omega)
  ·have HR:=H_ (show Is (lif (cL T ex st) i false) (.mk 3 ⟨#[]⟩ [x] ss []) j8 b8 by
    rw[HLT.out];cases b8
    ·rw[aU,AL (by rcases ht with h|h;cases h;rw[show isT T pc j8=false from h];decide)];rfl
    ·rfl)
   have VE:=H_ (StC.of 3 ⟨#[]⟩ 1 c8 0 (X9.out.aA (G':=NG g (two g f) w10) (λb hb=>⟨hb.mono b10.size,b10.block b hb.2.1 (by have:=hb.1;omega)⟩)) (Y9.out.aA (G':=NG g (two g f) w10) (λb hb=>⟨hb.mono b10.size,b10.block b hb.2.1 (by have:=hb.1;omega)⟩)) (Sl.nil _ _ none));clear ht X9 Y9 HLT;obtain⟨hs10,B10,Q10,qlt10,F10,flt10⟩:=fr2 B9 Q9 F9 b10;have HP10:=H_ P10;clear Q9 F9 B9 HP9 P10 b10;obtain⟨g0',g1',g2',g3',g4'⟩:=F10.out.aE.1;obtain⟨⟨d0,d1,d2,d3,d4⟩,f0,f1,f2,f3,f4⟩:=Q10.out.aE;go_wp2_with fail;exact lI rfl (by simp) Q10.out VE.out (λb hb=>⟨by have:=hb.1;have:=hb.2.2;unfold two at this;omega,hb.2.1⟩) HP10.out HR.out (by omega) (hgz▸B10.out) hgz (by omega)
 ·have HT1:=H_ ht;obtain⟨hs1,B1,Q1,qlt1⟩:=fr1 B0 Q0 b1;have HP1:=H_ P1;clear Q0 B0 HP0 P1 b1;clear ht;go_wp2_with fail;refine am HP1.out gD (λhbf ht w2 P2 b2=>?_) (λht w2 P2 b2=>?_)
  ·subst hbf;have HT2:=H_ ht;replace HT1:=H_ (show isT T kIf i=false from by rcases HT1.out with h|h;cases h;exact h);obtain⟨hs2,B2,Q2,qlt2⟩:=fr1 B1 Q1 b2;have HP2:=H_ P2;clear Q1 B1 HP1 P2 b2;clear ht;go_wp2_with fail;refine ROut.use (HX'.out (i+1) (by omega) p c A false w2 HP2.out) (λv x j b5 w5 hv P5 hr hij b5x=>?_);obtain⟨hs5,B5,Q5,qlt5⟩:=fr1 B2 Q2 b5x;have HP5:=H_ P5;clear Q2 B2 HP2 P5 b5x;obtain⟨k5,op5,z5,nm5,at5,A5,n5,c5,rfl,hv'⟩:=ExV.inv hv;have HV5:=H_ hv';have HR5:=H_ hr;clear hv hv' hr;go_upto_region 9 with fail;obtain⟨a,haz⟩:=nm_ (w5.heap.size);rw[haz];obtain⟨w6,hw6⟩:=nm_ ((w5.alloc (.cells #[.int .i64 k5,.int .i64 op5,.int .i64 z5,.string nm5,.bool at5,.slice A5 n5 c5] 172)).alloc (.cells #[.int .i64 4,.string ⟨#[]⟩,.slice (some ⟨a,0,none⟩) 1 1,.slice none 0 0,.slice none 0 0] 168));have hn6:(w5.alloc (.cells #[.int .i64 k5,.int .i64 op5,.int .i64 z5,.string nm5,.bool at5,.slice A5 n5 c5] 172)).heap.size=a+1:=by rw[AR,haz]
   have b6:Bx w5.heap.size p w5 w6:=hw6▸((Bx.refl _ _ _).new _ (AB _)).new _ (AB _);have hs6z:w6.heap.size=a+2:=by rw[<-hw6,AR,hn6]
   obtain⟨f,hfz⟩:=nm_ (a+1);have F6:=H_ (show Blk w6 f 168 #[.int .i64 4,.string ⟨#[]⟩,.slice (some ⟨a,0,none⟩) 1 1,.slice none 0 0,.slice none 0 0]from hw6▸hfz▸hn6▸Blk.new _ 168 _);have A6:Blk w6 a 172 #[.int .i64 k5,.int .i64 op5,.int .i64 z5,.string nm5,.bool at5,.slice A5 n5 c5]:=hw6▸(haz▸Blk.new w5 172 #[.int .i64 k5,.int .i64 op5,.int .i64 z5,.string nm5,.bool at5,.slice A5 n5 c5]).alloc _
   have X6:=H_ (show Sl kEx w6 (NG g (two g f) w6) [x] (some ⟨a,0,none⟩) 1 from
    dW (K:=kEx) A6 ⟨by omega,by omega,λh=>by unfold two at h;omega⟩ (ExC.aA (λb hb=>⟨⟨by have:=hb.1;omega,by have:=hb.2;omega,λh=>by have:=hb.1;have:=hb.2;unfold two at h;omega⟩,b6.block b hb.2 (by have:=hb.1;omega)⟩) HV5.out))
   have P6:RS w6 p A c T j b5:=hw6▸(HP5.out.alloc _).alloc _;try rw[hn6]
   try rw[hfz]
   try rw[hw6]
   clear hw6 HV5 A6;obtain⟨hs6,B6,Q6,qlt6⟩:=fr1 B5 Q5 b6;have HP6:=H_ P6;clear Q5 B5 HP5 P6 b6;have flt6:=F6.out.lt;go_wp2_with fail;refine ROut.use (jq (st:=st) (λj' hj'=>HS'.out j' (by omega)) HU.out p c A w6 HP6.out) (λv8 ss j8 b8 w8 hv P8 hr hij8 b8x=>?_);have HR8:=H_ hr;obtain⟨hvec,hxl⟩:=hv;obtain⟨A8,c8,rfl,hs8'⟩:=hvec.sl (by unfold BD;omega);have Y8:=H_ (show Sl kSt w8 (NG g (two g f) w8) ss A8 ss.length from hs8'.aA (λb hb=>⟨⟨by have:=hb.1;omega,hb.2.1,λh=>by have:=hb.1;unfold two at h;omega⟩,rfl⟩));have X8:=H_ (X6.out.aA (G':=NG g (two g f) w8) (λb hb=>⟨hb.mono b8x.size,b8x.block b hb.2.1 (by have:=hb.1;omega)⟩));clear hr hvec hs8' X6;obtain⟨hs8,B8,Q8,qlt8,F8,flt8⟩:=fr2 B6 Q6 F6 b8x;have HP8:=H_ P8;clear Q6 F6 B6 HP6 P8 b8x;obtain⟨f0',f1',f2',f3',f4'⟩:=F8.out.aE.2;have x3:=F8.out.k3;go_upto_region 10 with fail;obtain⟨w9,hw9⟩:=nm_ (w8.setCell ⟨f,3,none⟩ (.slice A8 ss.length c8));have b9:=bx1 hw9;have F9:=hs3 F8 hw9;have Q9:=hbx Q8 b9;have HP9:=H_ (HP8.out.aA b9 (by omega));have B9:=H_ (B8.out.put b9 (by omega) (AB _));have Y9:=H_ (Y8.out.aA (G':=NG g (two g f) w9) (λb hb=>NG.put b9 (.inr rfl) hb));have X9:=H_ (X8.out.aA (G':=NG g (two g f) w9) (λb hb=>NG.put b9 (.inr rfl) hb));have hs9:=b9.size;have qlt9:=Q9.out.lt;have flt9:=F9.out.lt;rw[hw9];clear hw9 b9 F8 Q8 HP8 B8 X8 Y8 f0' f1' f2' f3' f4' x3
   have HR:=H_ (show Is (lif (cL T ex st) i false) (.mk 4 ⟨#[]⟩ [x] ss []) j8 b8 by
    rw[aU];unfold cL;rw[az HT1.out,cG HT2.out];unfold ie;have e1:ex 0 (i+1)=if b5=true then .bad j else .ok x j:=HR5.out;rw[e1];cases b5 with
    |true=>
     obtain⟨rfl,rfl⟩:=Is.aD HR8.out;rfl
    |false=>
     have e2:bp T st j=if b8=true then .bad j8 else .ok ss j8:=HR8.out;simp only[AU,BO];rw[e2];cases b8<;>rfl)
   have VE:=H_ (StC.of 4 ⟨#[]⟩ 1 c8 0 X9.out Y9.out (Sl.nil _ _ none));clear HR5 HR8 X9 Y9;obtain⟨g0',g1',g2',g3',g4'⟩:=F9.out.aE.1;obtain⟨⟨d0,d1,d2,d3,d4⟩,f0,f1,f2,f3,f4⟩:=Q9.out.aE;go_wp2_with fail;exact lI rfl (by simp) Q9.out VE.out (λb hb=>⟨by have:=hb.1;have:=hb.2.2;unfold two at this;omega,hb.2.1⟩) HP9.out HR.out (by omega) (hgz▸B9.out) hgz (by omega)
  ·have HT2:=H_ ht;obtain⟨hs2,B2,Q2,qlt2⟩:=fr1 B1 Q1 b2;have HP2:=H_ P2;clear Q1 B1 HP1 P2 b2;clear ht;go_wp2_with fail;refine ROut.use (HM'.out p c A b w2 HP2.out) (λv x j b5 w5 hv P5 hr hij b5x=>?_);obtain⟨hs5,B5,Q5,qlt5⟩:=fr1 B2 Q2 b5x;have HP5:=H_ P5;clear Q2 B2 HP2 P5 b5x;obtain⟨k0,nm,A1,n1,c1,A2,n2,c2,A3,n3,c3,rfl,hv'⟩:=SV.inv hv;have HV5:=H_ hv';have HR5:=H_ hr;clear hv hv' hr;go_upto_region 12 with fail;obtain⟨f,hfz⟩:=nm_ (w5.heap.size);rw[hfz];obtain⟨w6,hw6⟩:=nm_ (w5.alloc (.cells #[.int .i64 k0,.string nm,.slice A1 n1 c1,.slice A2 n2 c2,.slice A3 n3 c3] 168));have b6:Bx w5.heap.size p w5 w6:=bxn hw6;have F6:=hng hw6 hfz;have HV6:=H_ (StC.aA (G':=Fr w2 w5) (λb hb=>⟨hb,b6.block b hb.2 (by have:=hb.1;omega)⟩) HV5.out);have P6:=HP5.out.al hw6;rw[hw6];clear hw6 HV5;obtain⟨hs6,B6,Q6,qlt6⟩:=fr1 B5 Q5 b6;have HP6:=H_ P6;clear Q5 B5 HP5 P6 b6;have flt6:=F6.out.lt;go_wp2_with fail;refine bA HP6.out _ (λj7 b7 w7 P7 hr hij7 b7x=>?_)
   have HR:=H_ (show Is (lif (cL T ex st) i b) x j7 b7 by
    cases b with
    |true=>
     obtain⟨rfl,rfl⟩:=Is.aD HR5.out;obtain⟨rfl,rfl⟩:=Is.aD hr;rfl
    |false=>
     rw[aU];unfold cL;rw[az (show isT T kIf i=false from by rcases HT1.out with h|h;cases h;exact h),az (show isT T gD i=false from by rcases HT2.out with h|h;cases h;exact h)];have e1:ak T ex i=if b5=true then .bad j else .ok x j:=HR5.out;rw[e1];cases b5 with
     |true=>
      obtain⟨rfl,rfl⟩:=Is.aD hr;rfl
     |false=>
      have e2:ap T mi j=if b7=true then .bad j7 else .ok () j7:=hr;simp only[AU,BO];rw[e2];cases b7<;>rfl)
   have HV7:=H_ (StC.aA (G':=Fr w2 w5) (λb hb=>⟨hb,b7x.block b (by have:=hb.2;omega) (by have:=hb.1;omega)⟩) HV6.out);clear HV6 HR5 hr;obtain⟨hs7,B7,Q7,qlt7,F7,flt7⟩:=fr2 B6 Q6 F6 b7x;have HP7:=H_ P7;clear Q6 F6 B6 HP6 P7 b7x;obtain⟨g0',g1',g2',g3',g4'⟩:=F7.out.aE.1;obtain⟨⟨d0,d1,d2,d3,d4⟩,f0,f1,f2,f3,f4⟩:=Q7.out.aE;go_wp2_with fail;exact lI rfl (by simp) Q7.out HV7.out (λb hb=>⟨by have:=hb.1;omega,by have:=hb.2;omega⟩) HP7.out HR.out (by omega) (hgz▸B7.out) hgz (by omega)
end
end
end Go.Proofs.YtjpbckbpeblibaaGreatDoor
