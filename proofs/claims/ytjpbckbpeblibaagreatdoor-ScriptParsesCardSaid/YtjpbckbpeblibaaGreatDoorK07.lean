/- part of a proof -/
import Derived.Test.YtjpbckbpeblibaaGreatDoorK06
import Derived.BigRegion
import Derived.Deep.DeepFit
import Derived.Laws.Rows
import Derived.Outline
namespace Go.Proofs.YtjpbckbpeblibaaGreatDoor
set_option linter.unusedVariables false
set_option linter.unusedSimpArgs false
set_option maxRecDepth 100000
set_option maxHeartbeats 64000000
section
open Go.RowKit
variable{A:Option Addr}{B g i j k p:Nat}{G G':Nat->Prop}{P:Program}{Q:Ending->World->Prop}{T:List Tk}{W w w' w1 w2:World}{a a' b' c c' d d' e f v v0 v1 v2 v3 v4 v5:Value}{cs:List Value}{fn:Func}{s:ByteArray}{tmps:Array Value}{ty:TypeId}{x:Ex}{α:Type}
theorem AQ:type_of% @Nat.mul_comm:=@Nat.mul_comm
theorem Ca:type_of% @Int.cast_ofNat_Int:=@Int.cast_ofNat_Int
theorem Ce:type_of% @Int.natCast_add:=@Int.natCast_add
theorem D7:type_of% @wp_loop_rounds:=@wp_loop_rounds
theorem Dg:type_of% @rounds_succ:=@rounds_succ
def tkC(x:Tk):List Value:=[.int .i64 x.1,.string x.2.1,.int .i64 x.2.2.1,.int .i64 x.2.2.2]
def tkV(x:Tk):Value:= .agg #[.int .i64 x.1,.string x.2.1,.int .i64 x.2.2.1,.int .i64 x.2.2.2]
structure Wf(T:List Tk):Prop where
 pos:1<=T.length
 few:T.length<=20000
 last:(tk T (T.length-1)).1=0
theorem Wf.next(h:Wf T)(hi:i<T.length)(hk:(tk T i).1≠0):i+1<T.length:=by
 rcases BI (i+1) T.length with h1|h1
 ·exact h1
 ·have:i=T.length-1:=by omega
  subst this;exact absurd h.last hk
def TokAt(w:World)(p:Nat)(A:Option Addr)(T:List Tk):Prop:=∃b off,A=some ⟨b,off,none⟩/\b<p/\At w b off (T.map tkC).flatten
theorem TokAt.cell(h:TokAt w p A T)(hi:i<T.length):
 ∃b off,A=some ⟨b,off,none⟩/\b<p/\At w b (off+4*i) (tkC (tk T i)):=by
 obtain⟨b,off,h1,h2,h3⟩:=h;refine⟨b,off,h1,h2,At.chunk (css:=T.map tkC) (λx hx=>?_) h3 ?_⟩
 ·obtain⟨y,_,rfl⟩:=Cq.1 hx;rfl
 ·unfold tk;rw[Bp,Bo,AI hi];rfl
structure PS(w:World)(p:Nat)(A:Option Addr)(c:Nat)(T:List Tk)(i:Nat):Prop where
 aG:Blk w p 203 #[.slice A T.length c,.int .i64 i]
 tok:TokAt w p A T
 wf:Wf T
 lt:i<T.length
section
variable{w w':World}{p c i:Nat}{A:Option Addr}{T:List Tk}
theorem TokAt.bx(h:TokAt w p A T)(hb:Bx B p w w')(hB:p<=B):TokAt w' p A T:=by
 obtain⟨b,off,h1,h2,h3⟩:=h;exact⟨b,off,h1,h2,h3.aA (hb.block b (by omega) (by omega))⟩
theorem PS.below(h:PS w p A c T i)(hb:Below w.heap.size w w'):PS w' p A c T i:=
 ⟨h.aG.below hb h.aG.lt,h.tok.bx (Bx.of hb) (by have:=h.aG.lt;omega),h.wf,h.lt⟩
theorem PS.move(h:PS w p A c T i)(hj:j<T.length):PS (w.setCell ⟨p,1,none⟩ (.int .i64 j)) p A c T j:=by
 refine⟨h.aG.set 1 _,?_,h.wf,hj⟩;obtain⟨b,off,h1,h2,h3⟩:=h.tok;exact⟨b,off,h1,h2,h3.aA (AG _ _ _ _ (by show b≠p;omega))⟩
end
theorem nG{p:Tmp}(h:fn.results= #[.cell p ty])(tmps:Array Value)(w:World)(g:Nat)(t:TypeId)(cs:Array Value)(d:TypeDesc)
 (hp:tmps.getD p undef= .pointer (some ⟨g,0,none⟩)) (hg:Blk w g t cs)
 (hu:P.underlying ty=some d) (hd:(match d with| .struct _| .array _ _=>true|_=>false)=true) (hi:(P.info? ty).map (·.size)=some cs.size):
 (results fn tmps).run P w= .ok (.agg cs) w:=results_cell_row h tmps w g t cs (0,0) d hp hg hu hd hi
theorem lZ{p:Tmp}{R:Ending->World->Prop}(g:Nat)(t:TypeId)(cs:Array Value)(d:TypeDesc)(h:fn.results= #[.cell p ty])
 (hp:tmps.getD p undef= .pointer (some ⟨g,0,none⟩)) (hg:Blk w g t cs)
 (hu:P.underlying ty=some d) (hd:(match d with| .struct _| .array _ _=>true|_=>false)=true) (hi:(P.info? ty).map (·.size)=some cs.size) (hR:R (.returned (.agg cs)) w):
 bodyPost P fn R .ret {tmps:=tmps,defers:=[]} w:=AO (nG h tmps w g t cs d hp hg hu hd hi) rfl hR
theorem Blk.set4'{t:TypeId}{b:Value}(h:Blk w g t #[a,b,c,d]):
 Blk ((((w.setCell ⟨g,0,none⟩ a').setCell ⟨g,1,none⟩ b').setCell ⟨g,2,none⟩ c').setCell ⟨g,3,none⟩ d') g t #[a',b',c',d']:=
 (((h.set 0 a').set 1 b').set 2 c').set 3 d'
theorem pI{a:World}(h:Below B a w)(hg:B<=g)(a' b' c' d':Value):
 Below B a ((((w.setCell ⟨g,0,none⟩ a').setCell ⟨g,1,none⟩ b').setCell ⟨g,2,none⟩ c').setCell ⟨g,3,none⟩ d'):=
 (((h.setCell (p:=⟨g,0,none⟩) hg a').setCell (p:=⟨g,1,none⟩) hg b').setCell (p:=⟨g,2,none⟩) hg c').setCell (p:=⟨g,3,none⟩) hg d'
theorem fP(p i c:Nat)(A:Option Addr)(T:List Tk)(w:World)(h:PS w p A c T i):
 Calls Tryz.prog 134 #[.pointer (some ⟨p,0,none⟩)] w λe w'=>e= .returned (tkV (tk T i))/\Below w.heap.size w w':=by
 unfold tkV;obtain⟨b,off,hA,hb,hat⟩:=h.tok.cell h.lt;subst hA;have hp:=h.aG.lt;have hn:=h.wf.few;have hlt:=h.lt;generalize tk T i=x at hat⊢;obtain⟨k,t,v,q⟩:=x;have HP:=H_ h.aG;have HAT:=H_ hat
 clear h hat
 go_enter Tryz.func134,Tryz.ntmps134;go_upto_region 1 with(fail);obtain⟨w0,hw0⟩:=nm_ (w.alloc (.cells #[.int .i64 0,.string ⟨#[]⟩,.int .i64 0,.int .i64 0] 162));have q0:=hnw hw0;have b0:=hba hw0;rw[hw0];clear hw0;have HP0:=HP.out.below b0.out hp;obtain⟨c0,c1⟩:=HP0.c2;have hb':b<w.heap.size:=by omega
 have d0:w0.cell? ⟨b,off+i*4,none⟩=some (.int .i64 k):=(a8 b0.out hb' _).trans (by have:=HAT.out 0 _ rfl;rwa[AQ]at this);have d1:w0.cell? ⟨b,off+i*4+1,none⟩=some (.string t):=(a8 b0.out hb' _).trans (by have:=HAT.out 1 _ rfl;rwa[AQ]at this);have d2:w0.cell? ⟨b,off+i*4+2,none⟩=some (.int .i64 v):=(a8 b0.out hb' _).trans (by have:=HAT.out 2 _ rfl;rwa[AQ]at this);have d3:w0.cell? ⟨b,off+i*4+3,none⟩=some (.int .i64 q):=(a8 b0.out hb' _).trans (by have:=HAT.out 3 _ rfl;rwa[AQ]at this);clear HP0;have hd:decide (i<T.length)=true:=by simpa using hlt
 go_quiet (fail);go_wp2;have q1:=H_ (show Blk (w0.drewN nq) w.heap.size 162 _ from q0.out);have b1:=H_ (show Below w.heap.size w (w0.drewN nq)from⟨b0.out.os,b0.out.tape,b0.out.output,b0.out.size,b0.out.block⟩);have e0:(w0.drewN nq).cell? ⟨p,0,none⟩=some (.slice (some ⟨b,off,none⟩) T.length c):=c0;have e1:(w0.drewN nq).cell? ⟨p,1,none⟩=some (.int .i64 i):=c1;have f0:(w0.drewN nq).cell? ⟨b,off+i*4,none⟩=some (.int .i64 k):=d0;have f1:(w0.drewN nq).cell? ⟨b,off+i*4+1,none⟩=some (.string t):=d1;have f2:(w0.drewN nq).cell? ⟨b,off+i*4+2,none⟩=some (.int .i64 v):=d2;have f3:(w0.drewN nq).cell? ⟨b,off+i*4+3,none⟩=some (.int .i64 q):=d3;clear c0 c1 d0 d1 d2 d3 q0 b0;generalize w0.drewN nq=W at*
 obtain⟨g0,g1,g2,g3⟩:=q1.out.c4;obtain⟨h0,h1,h2,h3⟩:=q1.out.f4;go_region;go_wp2;refine lZ w.heap.size 162 #[.int .i64 k,.string t,.int .i64 v,.int .i64 q] _ rfl (by simp) ?_ Tryz.underlying162 rfl (by kernel_rfl) ⟨rfl,?_⟩
 ·exact q1.out.set4'
 ·exact(pI b1.out (AB _) _ _ _ _).drew
def gi(T:List Tk)(j:Nat):Ending:= .panicked [{v:= .iface 201 (.int .i64 (tk T j).2.2.2),recovered:=false}]
theorem vG(a b c d:Value)(w:World):(Instr.field 162 (.agg #[a,b,c,d]) 3).run Tryz.prog w= .ok d w:=by kernel_rfl
theorem py(a b c d:Value)(w:World):(Instr.field 162 (.agg #[a,b,c,d]) 0).run Tryz.prog w= .ok a w:=by kernel_rfl
theorem xV:Tryz.prog.concrete 201=true:=by kernel_rfl
theorem nW(p i c:Nat)(A:Option Addr)(T:List Tk)(w:World)(h:PS w p A c T i):
 Calls Tryz.prog 135 #[.pointer (some ⟨p,0,none⟩)] w λe w'=>e=gi T i/\Below w.heap.size w w':=by
 have HN:=H_ (fP p i c A T w h);clear h;unfold gi;unfold tkV at HN;generalize tk T i=x at HN⊢;obtain⟨k,t,v,q⟩:=x;have hc:=xV;have hf:=vG;go_enter Tryz.func135,Tryz.ntmps135;go_wp2_with fail;refine HN.out.mono ?_;rintro e w1 ⟨rfl,b1⟩;go_wp2_with fail;exact⟨rfl,rfl,b1⟩
theorem rj{a b:ByteArray}(h:a≠b):(a.toList==b.toList)=false:=AD.2 λe=>h (by rw[Cn,Cn]at e;exact AN e)
theorem rN(p i c:Nat)(A:Option Addr)(T:List Tk)(s:ByteArray)(w:World)(h:PS w p A c T i):
 Calls Tryz.prog 136 #[.pointer (some ⟨p,0,none⟩),.string s] w λe w'=>e= .returned (.bool (isT T s i))/\Below w.heap.size w w':=by
 have HN:=H_ (fP p i c A T w h);clear h;unfold isT;unfold tkV at HN;generalize tk T i=x at HN⊢;obtain⟨k,t,v,q⟩:=x;simp only at HN⊢;by_cases hts:t=s
 ·subst hts;by_cases h4:k=4
  ·subst h4;go_enter Tryz.func136,Tryz.ntmps136;go_wp2_with fail;refine HN.out.mono ?_;rintro e w1 ⟨rfl,b1⟩;go_wp2_with fail;go_ret;exact⟨ae (by simp),b1.alloc b1.size _⟩
  ·have h4':=AD.2 h4;by_cases h5:k=5
   ·subst h5;go_enter Tryz.func136,Tryz.ntmps136;go_wp2_with fail;refine HN.out.mono ?_;rintro e w1 ⟨rfl,b1⟩;go_wp2_with fail;go_ret;exact⟨ae (by simp),b1.alloc b1.size _⟩
   ·have h5':=AD.2 h5;go_enter Tryz.func136,Tryz.ntmps136;go_wp2_with fail;refine HN.out.mono ?_;rintro e w1 ⟨rfl,b1⟩;go_wp2_with fail;go_ret;exact⟨ae (by simp[h4,h5]),b1.alloc b1.size _⟩
 ·have hne:=rj hts;have HT:=H_ hts;clear hts;go_enter Tryz.func136,Tryz.ntmps136;go_wp2_with fail;refine HN.out.mono ?_;rintro e w1 ⟨rfl,b1⟩;go_wp2_with fail;go_ret;exact⟨ae (by simp[HT.out]),b1.alloc b1.size _⟩
theorem gE(h:Wf T)(hi:i<T.length)(ht:isT T s i=true):i+1<T.length:=
 h.next hi (by unfold isT at ht;intro e;simp[e]at ht)
theorem kW(p i c:Nat)(A:Option Addr)(T:List Tk)(s:ByteArray)(w:World)(h:PS w p A c T i)(ht:isT T s i=true):
 Calls Tryz.prog 210 #[.pointer (some ⟨p,0,none⟩),.string s] w λe w'=>e= .returned (.bool true)/\PS w' p A c T (i+1)/\Bx w.heap.size p w w':=by
 have HN:=H_ (rN p i c A T s w h);rw[ht]at HN;have hi:=h.lt;have hn:=h.wf.few;have HI:=H_ (gE h.wf h.lt ht);have HP:=H_ h;clear h ht;go_enter Tryz.func210,Tryz.ntmps210;go_wp2_with fail;refine HN.out.mono ?_;rintro e w1 ⟨rfl,b1⟩;have P1:=H_ (HP.out.below b1);have B1:=H_ b1;have c1:=P1.out.aG.k1;have f1:=P1.out.aG.frozen 1;clear b1;go_wp2_with fail;go_ret;have h2:=P1.out.move HI.out;simp only[Ce,Ca]at h2;exact⟨rfl,h2,(Bx.of (p:=p) B1.out).setCell (q:=⟨p,1,none⟩) (.inr rfl) _⟩
theorem kE(p i c:Nat)(A:Option Addr)(T:List Tk)(s:ByteArray)(w:World)(h:PS w p A c T i)(ht:isT T s i=false):
 Calls Tryz.prog 210 #[.pointer (some ⟨p,0,none⟩),.string s] w λe w'=>e= .returned (.bool false)/\Below w.heap.size w w':=by
 have HN:=H_ (rN p i c A T s w h);rw[ht]at HN;clear h ht;go_enter Tryz.func210,Tryz.ntmps210;go_wp2_with fail;refine HN.out.mono ?_;rintro e w1 ⟨rfl,b1⟩;go_wp2_with fail;go_ret;exact⟨rfl,b1⟩
theorem xN(p i c:Nat)(A:Option Addr)(T:List Tk)(s:ByteArray)(g o c2:Nat)(w:World)(h:PS w p A c T i)(hc:w.cell? ⟨g,o,none⟩=some (.string s))(ht:isT T s i=true):
 Calls Tryz.prog 209 #[.pointer (some ⟨p,0,none⟩),.slice (some ⟨g,o,none⟩) 1 c2] w λe w'=>e= .returned (.tuple #[])/\PS w' p A c T (i+1)/\Bx w.heap.size p w w':=by
 have HN:=H_ (kW p i c A T s w h ht);clear h ht;go_enter Tryz.func209,Tryz.ntmps209;go_wp2_with fail;refine D7 2 ?_;rw[Dg];go_wp2_with fail;refine HN.out.mono ?_;rintro e w1 ⟨rfl,h1,b1⟩;have H1:=H_ h1;have B1:=H_ b1;clear h1 b1;go_wp2_with fail;rw[Dg];go_wp2_with fail;go_end0;exact⟨rfl,H1.out,B1.out⟩
theorem zA(p i c:Nat)(A:Option Addr)(T:List Tk)(s:ByteArray)(g o c2:Nat)(w:World)(h:PS w p A c T i)(hc:w.cell? ⟨g,o,none⟩=some (.string s))(ht:isT T s i=false):
 Calls Tryz.prog 209 #[.pointer (some ⟨p,0,none⟩),.slice (some ⟨g,o,none⟩) 1 c2] w λe w'=>e=gi T i/\Below w.heap.size w w':=by
 have HN:=H_ (kE p i c A T s w h ht);have HP:=H_ h;have HF:=H_ (nW p i c A T);unfold gi at HF⊢;generalize(tk T i).2.2.2=q at HF⊢;clear h ht;go_enter Tryz.func209,Tryz.ntmps209;go_wp2_with fail;refine D7 1 ?_;rw[Dg];go_wp2_with fail;refine HN.out.mono ?_;rintro e w1 ⟨rfl,b1⟩;have B1:=H_ b1;clear b1;go_wp2_with fail;refine(HF.out w1 (HP.out.below B1.out)).mono ?_;rintro e w2 ⟨rfl,b2⟩;go_wp2_with fail;exact⟨rfl,rfl,B1.out.trans (b2.mono B1.out.size)⟩
theorem oq(p i c:Nat)(A:Option Addr)(T:List Tk)(k:Int)(w:World)(h:PS w p A c T i)(hk:(tk T i).1=k)(h0:k≠0):
 Calls Tryz.prog 208 #[.pointer (some ⟨p,0,none⟩),.int .i64 k] w λe w'=>e= .returned (.string (tk T i).2.1)/\PS w' p A c T (i+1)/\Bx w.heap.size p w w':=by
 have HN:=H_ (fP p i c A T w h);have hi:=h.lt;have hn:=h.wf.few;have HI:=H_ (h.wf.next h.lt (by rw[hk];exact h0));have HP:=H_ h;clear h;unfold tkV at HN;generalize tk T i=x at HN hk⊢;obtain⟨k',t,v,q⟩:=x;simp only at hk⊢;subst hk;go_enter Tryz.func208,Tryz.ntmps208;go_wp2_with fail;refine HN.out.mono ?_;rintro e w1 ⟨rfl,b1⟩;have P1:=H_ (HP.out.below b1);have B1:=H_ b1;clear b1;go_upto_region 2 with(fail);obtain⟨w2,hw2⟩:=nm_ (w1.alloc (.cells #[.int .i64 k',.string t,.int .i64 v,.int .i64 q] 162));have b2:=bal hw2;have q2:=hnw hw2;have P2:=H_ (P1.out.below b2);have B2:=htr B1 b2;rw[hw2];generalize w1.heap.size=g at q2⊢;clear hw2 b2 P1 B1;have c1:=P2.out.aG.k1;have f1:=P2.out.aG.frozen 1;obtain⟨c2,c3⟩:=q2.out.c2;have hgp:g≠p:=λe=>by subst e;have h1:=q2.out;have h2:=P2.out.aG;unfold Blk at h1 h2;rw[h1]at h2;simp at h2
 have hpg:p≠g:=λe=>hgp e.symm;go_wp2_with fail;go_ret;have h2:=P2.out.move HI.out;simp only[Ce,Ca]at h2;exact⟨rfl,h2,(Bx.of (p:=p) B2.out).setCell (q:=⟨p,1,none⟩) (.inr rfl) _⟩
theorem rk(p i c:Nat)(A:Option Addr)(T:List Tk)(k:Int)(w:World)(h:PS w p A c T i)(hk:(tk T i).1≠k):
 Calls Tryz.prog 208 #[.pointer (some ⟨p,0,none⟩),.int .i64 k] w λe w'=>e=gi T i/\Below w.heap.size w w':=by
 have HN:=H_ (fP p i c A T w h);have HP:=H_ h;have HF:=H_ (nW p i c A T);clear h;unfold gi at HF⊢;unfold tkV at HN;generalize tk T i=x at HN hk HF⊢;obtain⟨k',t,v,q⟩:=x;simp only at hk HF⊢;have hk':(k' !=k)=true:=by simpa using hk
 have HK:=H_ hk;clear hk;go_enter Tryz.func208,Tryz.ntmps208;go_wp2_with fail;refine HN.out.mono ?_;rintro e w1 ⟨rfl,b1⟩;have P1:=H_ (HP.out.below b1);have B1:=H_ b1;clear b1;go_upto_region 2 with(fail);obtain⟨w2,hw2⟩:=nm_ (w1.alloc (.cells #[.int .i64 k',.string t,.int .i64 v,.int .i64 q] 162));have b2:=bal hw2;have q2:=hnw hw2;have P2:=H_ (P1.out.below b2);have B2:=htr B1 b2;rw[hw2];generalize w1.heap.size=g at q2⊢;clear hw2 b2 P1 B1;have c2:=q2.out.k0;go_wp2_with fail;refine(HF.out w2 P2.out).mono ?_;rintro e w3 ⟨rfl,b3⟩;go_wp2_with fail;exact⟨rfl,rfl,B2.out.trans (b3.mono B2.out.size)⟩
theorem uS(p i c:Nat)(A:Option Addr)(T:List Tk)(w:World)(h:PS w p A c T i)(hk:(tk T i).1=2):
 Calls Tryz.prog 211 #[.pointer (some ⟨p,0,none⟩)] w λe w'=>e= .returned (.string (tk T i).2.1)/\PS w' p A c T (i+1)/\Bx w.heap.size p w w':=by
 have HN:=H_ (oq p i c A T 2 w h hk (by decide));clear h hk;generalize(tk T i).2.1=s at HN⊢;go_enter Tryz.func211,Tryz.ntmps211;go_wp2_with fail;refine HN.out.mono ?_;rintro e w1 ⟨rfl,h1,b1⟩;have H1:=H_ h1;have B1:=H_ b1;clear h1 b1;go_wp2_with fail;go_ret;exact⟨rfl,H1.out,B1.out⟩
theorem x8(p i c:Nat)(A:Option Addr)(T:List Tk)(w:World)(h:PS w p A c T i)(hk:(tk T i).1≠2):
 Calls Tryz.prog 211 #[.pointer (some ⟨p,0,none⟩)] w λe w'=>e=gi T i/\Below w.heap.size w w':=by
 have HN:=H_ (rk p i c A T 2 w h hk);clear h hk;unfold gi at HN⊢;generalize(tk T i).2.2.2=s at HN⊢;go_enter Tryz.func211,Tryz.ntmps211;go_wp2_with fail;refine HN.out.mono ?_;rintro e w1 ⟨rfl,b1⟩;go_wp2_with fail;exact⟨rfl,rfl,b1⟩
theorem Blk.set6{t:TypeId}{b e' f':Value}(h:Blk w g t #[a,b,c,d,e,f]):
 Blk ((((((w.setCell ⟨g,0,none⟩ a').setCell ⟨g,1,none⟩ b').setCell ⟨g,2,none⟩ c').setCell ⟨g,3,none⟩ d').setCell ⟨g,4,none⟩ e').setCell ⟨g,5,none⟩ f') g t #[a',b',c',d',e',f']:=
 (((((h.set 0 a').set 1 b').set 2 c').set 3 d').set 4 e').set 5 f'
theorem iy{a:World}(h:Below B a w)(hg:B<=g)(a' b' c' d' e' f':Value):
 Below B a ((((((w.setCell ⟨g,0,none⟩ a').setCell ⟨g,1,none⟩ b').setCell ⟨g,2,none⟩ c').setCell ⟨g,3,none⟩ d').setCell ⟨g,4,none⟩ e').setCell ⟨g,5,none⟩ f'):=
 (((((h.setCell (p:=⟨g,0,none⟩) hg a').setCell (p:=⟨g,1,none⟩) hg b').setCell (p:=⟨g,2,none⟩) hg c').setCell (p:=⟨g,3,none⟩) hg d').setCell (p:=⟨g,4,none⟩) hg e').setCell (p:=⟨g,5,none⟩) hg f'
def ExV(w:World)(G:Nat->Prop)(x:Ex)(v:Value):Prop:=∃cs,v= .agg cs.toArray/\ExC w G x cs
theorem ExV.aA(hk:∀b,G b->G' b/\w'.heap[b]?=w.heap[b]?)(h:ExV w G x v):ExV w' G' x v:=by
 obtain⟨cs,h1,h2⟩:=h;exact⟨cs,h1,h2.aA hk⟩
theorem ExV.inv(h:ExV w G x v):
 ∃k op z nm at_ A n c,v= .agg #[.int .i64 k,.int .i64 op,.int .i64 z,.string nm,.bool at_,.slice A n c]/\ExC w G x [.int .i64 k,.int .i64 op,.int .i64 z,.string nm,.bool at_,.slice A n c]:=by
 obtain⟨cs,rfl,h2⟩:=h;obtain⟨k,op,z,nm,at_,args⟩:=x;obtain⟨A,n,c,rfl,_⟩:=h2.inv;exact⟨k,op,z,nm,at_,A,n,c,rfl,h2⟩
def Fr(w w':World)(b:Nat):Prop:=w.heap.size<=b/\b<w'.heap.size
theorem dW{K:Kd α}{x:α}{t:TypeId}(hb:Blk w g t cs.toArray)(hg:G g)(hx:K.rd w G x cs):Sl K w G [x] (some ⟨g,0,none⟩) 1:=by
 refine Sl.of (css:=[cs]) rfl (by simp[BD]) hg (by simpa using At.aG hb) (λj y ds hy hd=>?_);cases j with
 |zero=>simp at hy hd;subst hy hd;exact hx
 |succ j=>simp at hy
theorem l6{K:Kd α}{x y:α}{t:TypeId}{ds:List Value}(hb:Blk w g t (cs++ds).toArray)(hg:G g)(hx:K.rd w G x cs)(hy:K.rd w G y ds):Sl K w G [x,y] (some ⟨g,0,none⟩) 2:=by
 refine Sl.of (css:=[cs,ds]) rfl (by simp[BD]) hg (by simpa using At.aG hb) (λj z es hz he=>?_);cases j with
 |zero=>simp at hz he;subst hz he;exact hx
 |succ j=>
  cases j with
  |zero=>simp at hz he;subst hz he;exact hy
  |succ j=>simp at hz
theorem nc(o:Nat)(x y:Ex)(v1 v2:Value)(w:World)(G:Nat->Prop)(hx:ExV w G x v1)(hy:ExV w G y v2)(hG:∀b,G b->b<w.heap.size):
 Calls Tryz.prog 307 #[.int .i64 o,v1,v2] w λe w'=>(∃v,e= .returned v/\ExV w' (λb=>G b\/Fr w w' b) (gK o x y) v)/\Below w.heap.size w w':=by
 obtain⟨k1,o1,z1,n1,a1,A1,m1,c1,rfl,hx'⟩:=hx.inv;obtain⟨k2,o2,z2,n2,a2,A2,m2,c2,rfl,hy'⟩:=hy.inv;have HX:=H_ hx';have HY:=H_ hy';clear hx hy hx' hy';go_enter Tryz.func307,Tryz.ntmps307;go_upto_region 1 with(fail);obtain⟨w2,hw2⟩:=nm_ (((w.alloc (.cells #[.int .i64 k1,.int .i64 o1,.int .i64 z1,.string n1,.bool a1,.slice A1 m1 c1] 172)).alloc (.cells #[.int .i64 k2,.int .i64 o2,.int .i64 z2,.string n2,.bool a2,.slice A2 m2 c2] 172)).alloc (.cells #[.int .i64 0,.int .i64 0,.int .i64 0,.string ⟨#[]⟩,.bool false,.slice none 0 0] 172));have b2:=H_ (show Below w.heap.size w w2 from hw2▸(((AC _ _).alloc (AB _) _).alloc (by simp) _).alloc (by simp;omega) _);have q0:=H_ (show Blk w2 w.heap.size 172 _ from hw2▸((Blk.new w 172 #[.int .i64 k1,.int .i64 o1,.int .i64 z1,.string n1,.bool a1,.slice A1 m1 c1]).alloc _).alloc _);have q1:=H_ (show Blk w2 (w.heap.size+1) 172 #[.int .i64 k2,.int .i64 o2,.int .i64 z2,.string n2,.bool a2,.slice A2 m2 c2]from hw2▸(by have:=Blk.new (w.alloc (.cells #[.int .i64 k1,.int .i64 o1,.int .i64 z1,.string n1,.bool a1,.slice A1 m1 c1] 172)) 172 #[.int .i64 k2,.int .i64 o2,.int .i64 z2,.string n2,.bool a2,.slice A2 m2 c2];simp only[AR]at this;exact this.alloc _));have q2:=H_ (show Blk w2 (w.heap.size+1+1) 172 #[.int .i64 0,.int .i64 0,.int .i64 0,.string ⟨#[]⟩,.bool false,.slice none 0 0]from hw2▸(by have:=Blk.new ((w.alloc (.cells #[.int .i64 k1,.int .i64 o1,.int .i64 z1,.string n1,.bool a1,.slice A1 m1 c1] 172)).alloc (.cells #[.int .i64 k2,.int .i64 o2,.int .i64 z2,.string n2,.bool a2,.slice A2 m2 c2] 172)) 172 #[.int .i64 0,.int .i64 0,.int .i64 0,.string ⟨#[]⟩,.bool false,.slice none 0 0];simp only[AR]at this;exact this));rw[hw2];have hz2:=q2.out.lt;obtain⟨g0,hg0⟩:∃g,w.heap.size=g:=⟨_,rfl⟩;rw[hg0]at q0 q1 q2 hz2 b2⊢;obtain⟨q0c0,q0c1,q0c2,q0c3,q0c4,q0c5⟩:=q0.out.c6;obtain⟨q1c0,q1c1,q1c2,q1c3,q1c4,q1c5⟩:=q1.out.c6;have q2c0:=q2.out.k0;have q2f0:=q2.out.frozen 0;have q2c1:=q2.out.k1;have q2f1:=q2.out.frozen 1;have q2c2:=q2.out.k2;have q2f2:=q2.out.frozen 2;have q2c3:=q2.out.k3;have q2f3:=q2.out.frozen 3;have q2c4:=q2.out.k4;have q2f4:=q2.out.frozen 4;have q2c5:=q2.out.k5;have q2f5:=q2.out.frozen 5;clear hw2;go_wp2_with fail;subst hg0;have qz:=q2.out.set6 (a':= .int .i64 10) (b':= .int .i64 o) (c':= .int .i64 0) (d':= .string ⟨#[]⟩) (e':= .bool false) (f':= .slice (some ⟨w2.heap.size,0,none⟩) 2 2);have bz:=iy b2.out (g:=w.heap.size+1+1) (by omega) (.int .i64 10) (.int .i64 o) (.int .i64 0) (.string ⟨#[]⟩) (.bool false) (.slice (some ⟨w2.heap.size,0,none⟩) 2 2);have hs:((((((w2.setCell ⟨w.heap.size+1+1,0,none⟩ (.int .i64 10)).setCell ⟨w.heap.size+1+1,1,none⟩ (.int .i64 o)).setCell ⟨w.heap.size+1+1,2,none⟩ (.int .i64 0)).setCell ⟨w.heap.size+1+1,3,none⟩ (.string ⟨#[]⟩)).setCell ⟨w.heap.size+1+1,4,none⟩ (.bool false)).setCell ⟨w.heap.size+1+1,5,none⟩ (.slice (some ⟨w2.heap.size,0,none⟩) 2 2)).heap.size=w2.heap.size:=by simp
 generalize((((((w2.setCell ⟨w.heap.size+1+1,0,none⟩ (.int .i64 10)).setCell ⟨w.heap.size+1+1,1,none⟩ (.int .i64 o)).setCell ⟨w.heap.size+1+1,2,none⟩ (.int .i64 0)).setCell ⟨w.heap.size+1+1,3,none⟩ (.string ⟨#[]⟩)).setCell ⟨w.heap.size+1+1,4,none⟩ (.bool false)).setCell ⟨w.heap.size+1+1,5,none⟩ (.slice (some ⟨w2.heap.size,0,none⟩) 2 2))=W at qz bz hs⊢;have hbz:=bz.alloc (by omega) (.cells ([.int .i64 k1,.int .i64 o1,.int .i64 z1,.string n1,.bool a1,.slice A1 m1 c1]++[.int .i64 k2,.int .i64 o2,.int .i64 z2,.string n2,.bool a2,.slice A2 m2 c2]:List Value).toArray 172);have hnew:=Blk.new W 172 ([.int .i64 k1,.int .i64 o1,.int .i64 z1,.string n1,.bool a1,.slice A1 m1 c1]++[.int .i64 k2,.int .i64 o2,.int .i64 z2,.string n2,.bool a2,.slice A2 m2 c2]:List Value).toArray;refine lZ (w.heap.size+1+1) 172 _ _ rfl (by simp) (qz.alloc _) Tryz.underlying172 rfl (by kernel_rfl) ⟨⟨_,rfl,_,rfl,?_⟩,hbz⟩;refine ExC.of 10 o 0 ⟨#[]⟩ false 2 ?_;rw[<-hs];exact l6 (K:=kEx) hnew (.inr ⟨by omega,by simp⟩) (ExC.aA (λb hb=>⟨.inl hb,hbz.block b (hG b hb)⟩) HX.out) (ExC.aA (λb hb=>⟨.inl hb,hbz.block b (hG b hb)⟩) HY.out)
mutual
def esz:Ex->Nat
 | .mk _ _ _ _ _ args=>1+vM args
def vM:List Ex->Nat
 |[]=>0
 |x::l=>esz x+vM l
end
mutual
def ssz:St->Nat
 | .mk _ _ ex b e=>1+vM ex+ud b+ud e
def ud:List St->Nat
 |[]=>0
 |x::l=>ssz x+ud l
end
def lsz{α:Type}(sz:α->Nat)(l:List α):Nat:=(l.map sz).sum
theorem p3(sz:α->Nat)(l:List α)(x:α):lsz sz (l++[x])=lsz sz l+sz x:=by simp[lsz]
theorem nY:∀l,vM l=lsz esz l
 |[]=>rfl
 |x::l=>by unfold vM;rw[nY l];simp[lsz]
theorem np:∀l,ud l=lsz ssz l
 |[]=>rfl
 |x::l=>by unfold ud;rw[np l];simp[lsz]
theorem fU(k op z:Int)(nm:ByteArray)(at_:Bool)(args:List Ex):esz (.mk k op z nm at_ args)=1+lsz esz args:=by unfold esz;rw[nY]
theorem dw(x:Ex):1<=esz x:=by cases x;rw[fU];omega
theorem gu(k:Int)(nm:ByteArray)(ex:List Ex)(b e:List St):ssz (.mk k nm ex b e)=1+lsz esz ex+lsz ssz b+lsz ssz e:=by unfold ssz;rw[nY,np,np]
theorem nr(x:St):1<=ssz x:=by cases x;rw[gu];omega
theorem rF(sz:α->Nat):lsz sz []=0:=rfl
theorem ep(sz:α->Nat)(x:α)(l:List α):lsz sz (x::l)=sz x+lsz sz l:=by simp[lsz]
theorem xO(z:Int):esz (lJ z)=1:=rfl
theorem vN(k:Int)(s:ByteArray):esz (ib k s)=1:=rfl
theorem zC(k:Int)(a:Ex):esz (eUn k a)=1+esz a:=by unfold eUn;rw[fU];simp[lsz]
theorem tw(s:ByteArray)(a:Ex):esz (cY s a)=1+esz a:=by unfold cY;rw[fU];simp[lsz]
theorem xP(o:Nat)(a b:Ex):esz (gK o a b)=1+esz a+esz b:=by unfold gK;rw[fU];simp[lsz];omega
theorem wM(k:Int)(s:ByteArray)(xs:List Ex):ssz (stE k s xs)=1+lsz esz xs:=by unfold stE;rw[gu];simp[lsz]
def bF{α:Type}:α->Nat:=λ_=>1
theorem xg(l:List α):lsz bF l=l.length:=by
 induction l with
 |nil=>rfl
 |cons x l ih=>simp[lsz,bF]at ih⊢;omega
def msz(m:Me):Nat:=1+m.params.length+lsz ssz m.body
def csz(c:Cl):Nat:=1+c.fields.length+lsz msz c.methods
def Bd{α:Type}(sz:α->Nat)(f:Nat->R α):Prop:=∀i x j,f i= .ok x j->i+sz x<=j
def Up{α:Type}(f:Nat->R α):Prop:=∀i x j,f i= .ok x j->i<j
theorem Bd.up{sz:α->Nat}{f:Nat->R α}(h:Bd sz f)(hp:∀x,1<=sz x):Up f:=λi x j hf=>by have:=h i x j hf;have:=hp x;omega
section
variable{T:List Tk}
theorem bV{u:Unit}(h:ap T s i= .ok u j):isT T s i=true/\j=i+1:=by
 unfold ap at h;split at h
 ·cases h;exact⟨‹_›,rfl⟩
 ·cases h
theorem vI(h:ap T s i= .bad j):isT T s i=false/\j=i:=by
 unfold ap at h;split at h
 ·cases h
 ·rename_i h1;cases h;exact⟨by simpa using h1,rfl⟩
theorem dm{k:Int}(h:aj T k i= .ok s j):(tk T i).1=k/\s=(tk T i).2.1/\j=i+1:=by
 unfold aj at h;split at h
 ·cases h;exact⟨‹_›,rfl,rfl⟩
 ·cases h
theorem sz_:type_of%(And.intro @xO (And.intro @vN (And.intro @zC (And.intro @tw (And.intro @xP (And.intro @fU (And.intro @wM (And.intro @gu (And.intro @p3 (And.intro @ep @rF)))))))))):=And.intro @xO (And.intro @vN (And.intro @zC (And.intro @tw (And.intro @xP (And.intro @fU (And.intro @wM (And.intro @gu (And.intro @p3 (And.intro @ep @rF)))))))))
theorem cm(s:ByteArray):Bd bF (ap T s):=λi x j h=>by have:=(bV h).2;unfold bF;(try simp only[sz_,bF]at*);omega
theorem cK(k:Int):Bd bF (aj T k):=λi x j h=>by have:=(dm h).2.2;unfold bF;(try simp only[sz_,bF]at*);omega
theorem kj{f:Nat->R Ex}{ops:List Nat}(hf:Bd esz f):∀k x i y j,cp T f ops k x i= .ok y j->i+esz y<=esz x+j
 |0,x,i,y,j,h=>by cases h
 |k+1,x,i,y,j,h=>by
  unfold cp at h;split at h
  ·cases h;omega
  ·split at h
   ·cases h
   ·have h1:=hf _ _ _ ‹_›;have h2:=kj hf k _ _ _ _ h
    (try simp only[sz_,bF]at*);omega
theorem jc{f:Nat->R Ex}{ops:List Nat}(hf:Bd esz f):Bd esz (dB T f ops):=λi x j h=>by
 unfold dB at h;split at h
 ·cases h
 ·have h1:=hf _ _ _ ‹_›;have h2:=kj hf _ _ _ _ _ h
  (try simp only[sz_,bF]at*);omega
theorem oX{α:Type}{f:Nat->R α}{sz:α->Nat}(hf:Bd sz f):∀k xs i ys j,cx T f k xs i= .ok ys j->i+lsz sz ys+1<=lsz sz xs+j
 |0,x,i,y,j,h=>by cases h
 |k+1,x,i,y,j,h=>by
  unfold cx at h;split at h
  ·split at h
   ·cases h
   ·have h1:=hf _ _ _ ‹_›;have h2:=oX hf k _ _ _ _ h
    (try simp only[sz_,bF]at*);omega
  ·split at h
   ·cases h
   ·cases h;have:=cm _ _ _ _ ‹ap _ _ _=_›
    (try simp only[sz_,bF]at*);omega
theorem jb{f:Nat->R α}{sz:α->Nat}(hf:Bd sz f):∀i x j,bg T f i= .ok x j->i+lsz sz x+2<=j:=λi x j h=>by
 unfold bg at h;split at h
 ·cases h
 ·have h0:=cm _ _ _ _ ‹ap _ _ _=_›;split at h
  ·cases h;(try simp only[sz_,bF]at*);omega
  ·split at h
   ·cases h
   ·have h1:=hf _ _ _ ‹_›;have h2:=oX hf _ _ _ _ _ h
    (try simp only[sz_,bF]at*);omega
theorem ia:∀k x i y j,bH T k x i= .ok y j->i+esz y<=esz x+j
 |0,x,i,y,j,h=>by cases h
 |k+1,x,i,y,j,h=>by
  unfold bH at h;split at h
  ·split at h
   ·cases h
   ·have h1:=cK _ _ _ _ ‹_›;have h2:=ia k _ _ _ _ h
    (try simp only[sz_,bF]at*);omega
  ·cases h;omega
section
variable{rec:Nat->Nat->R Ex}(hr:∀l,Bd esz (rec l))
include hr
theorem wY:Bd esz (iZ T rec):=λi x j h=>by
 unfold iZ at h;split at h
 ·cases h
 ·have h0:=cm _ _ _ _ ‹ap _ _ _=_›;split at h
  ·cases h
  ·have h1:=cK _ _ _ _ ‹aj _ _ _=_›;split at h
   ·cases h
   ·have h2:=jb (hr 0) _ _ _ ‹bg _ _ _=_›;split at h
    ·split at h
     ·cases h
     ·have h3:=hr _ _ _ _ ‹rec _ _=_›;cases h;(try simp only[sz_,bF]at*);omega
    ·cases h;(try simp only[sz_,bF]at*);omega
theorem gy:Bd esz (ai T rec):=λi x j h=>by
 unfold ai at h;split at h
 ·cases h;(try simp only[sz_,bF]at*);omega
 ·split at h
  ·cases h;(try simp only[sz_,bF]at*);omega
  ·split at h
   ·cases h;(try simp only[sz_,bF]at*);omega
   ·split at h
    ·cases h;(try simp only[sz_,bF]at*);omega
    ·split at h
     ·split at h
      ·cases h
      ·have h1:=hr _ _ _ _ ‹rec _ _=_›;split at h
       ·cases h
       ·have h0:=cm _ _ _ _ ‹ap _ _ _=_›;cases h;(try simp only[sz_,bF]at*);omega
     ·exact wY hr _ _ _ h
theorem kf:Bd esz (bD T rec):=λi x j h=>by
 unfold bD at h;split at h
 ·cases h
 ·have h1:=gy hr _ _ _ ‹_›;have h2:=ia _ _ _ _ _ h
  (try simp only[sz_,bF]at*);omega
theorem iR(k:Int)(l:Nat):∀i x j,eE rec k l i= .ok x j->i+esz x<=j+1:=λi x j h=>by
 unfold eE at h;split at h
 ·cases h
 ·have h1:=hr _ _ _ _ ‹rec _ _=_›;cases h;(try simp only[sz_,bF]at*);omega
theorem jx:Bd esz (bS T rec):=λi x j h=>by
 unfold bS at h;split at h
 ·have:=iR hr _ _ _ _ _ h;(try simp only[sz_,bF]at*);omega
 ·split at h
  ·have:=iR hr _ _ _ _ _ h;(try simp only[sz_,bF]at*);omega
  ·split at h
   ·have:=iR hr _ _ _ _ _ h;(try simp only[sz_,bF]at*);omega
   ·exact kf hr _ _ _ h
theorem gx:Bd esz (ej T rec):=jc (jx hr)
theorem kF:Bd esz (fp T rec):=jc (gx hr)
theorem kp:Bd esz (bN T rec):=λi x j h=>by
 unfold bN at h;split at h
 ·cases h
 ·have h1:=kF hr _ _ _ ‹fp _ _ _=_›;split at h
  ·cases h;(try simp only[sz_,bF]at*);omega
  ·split at h
   ·cases h
   ·have h2:=kF hr _ _ _ ‹fp _ _ (_+1)=_›;cases h;(try simp only[sz_,bF]at*);omega
theorem nN:Bd esz (gk T rec):=λi x j h=>by
 unfold gk at h;split at h
 ·have:=iR hr _ _ _ _ _ h;(try simp only[sz_,bF]at*);omega
 ·exact kp hr _ _ _ h
theorem oh:Bd esz (pJ T rec):=jc (nN hr)
theorem vH:Bd esz (pB T rec):=jc (oh hr)
theorem xx(l:Nat):Bd esz (zj T rec l):=λi x j h=>by
 unfold zj at h;split at h
 ·exact vH hr _ _ _ h
 ·exact oh hr _ _ _ h
 ·exact nN hr _ _ _ h
 ·exact kp hr _ _ _ h
 ·exact kF hr _ _ _ h
 ·exact gx hr _ _ _ h
 ·exact jx hr _ _ _ h
 ·exact kf hr _ _ _ h
 ·exact gy hr _ _ _ h
end
theorem om:∀n l,Bd esz (E T n l)
 |0,l=>λi x j h=>by cases h
 |n+1,l=>λi x j h=>by
  unfold E at h;exact xx (λl=>om n l) l _ _ _ h
section
variable{ex:Nat->Nat->R Ex}{st:Nat->R St}
theorem l4(hs:Bd ssz st):∀k ss i ys j,ck T st k ss i= .ok ys j->i+lsz ssz ys+1<=lsz ssz ss+j
 |0,ss,i,ys,j,h=>by cases h
 |k+1,ss,i,ys,j,h=>by
  unfold ck at h;split at h
  ·cases h;(try simp only[sz_,bF]at*);omega
  ·split at h
   ·cases h
   ·have h1:=hs _ _ _ ‹_›;have h2:=l4 hs k _ _ _ _ h
    (try simp only[sz_,bF]at*);omega
theorem gZ(hs:Bd ssz st):∀i x j,bp T st i= .ok x j->i+lsz ssz x+2<=j:=λi x j h=>by
 unfold bp at h;split at h
 ·cases h
 ·have h0:=cm _ _ _ _ ‹ap _ _ _=_›;have h1:=l4 hs _ _ _ _ _ h
  (try simp only[sz_,bF]at*);omega
variable(hx:∀l,Bd esz (ex l))
include hx
theorem lS(k:Int):Bd ssz (cR T ex k):=λi x j h=>by
 unfold cR at h;split at h
 ·cases h
 ·have h0:=cK _ _ _ _ ‹aj _ _ _=_›;split at h
  ·cases h
  ·have h1:=cm _ _ _ _ ‹ap _ _ _=_›;split at h
   ·cases h
   ·have h2:=hx _ _ _ _ ‹ex _ _=_›;cases h;(try simp only[sz_,bF]at*);omega
theorem jZ:∀k x i y j,bW T ex k x i= .ok y j->i+ssz y<=esz x+j
 |0,x,i,y,j,h=>by cases h
 |k+1,x,i,y,j,h=>by
  unfold bW at h;split at h
  ·cases h
  ·have h1:=cm _ _ _ _ ‹ap _ _ _=_›;split at h
   ·cases h
   ·have h0:=cK _ _ _ _ ‹aj _ _ _=_›;split at h
    ·split at h
     ·cases h
     ·have h2:=jb (hx 0) _ _ _ ‹bg _ _ _=_›;cases h;(try simp only[sz_,bF]at*);omega
    ·have:=jZ k _ _ _ _ h
     (try simp only[sz_,bF]at*);omega
theorem ug:Bd ssz (fu T ex):=λi x j h=>by
 unfold fu at h;split at h
 ·cases h
 ·have h2:=hx _ _ _ _ ‹ex _ _=_›;have:=jZ hx _ _ _ _ _ h
  (try simp only[sz_,bF]at*);omega
theorem ve:Bd ssz (i8 T ex):=λi x j h=>by
 unfold i8 at h;split at h
 ·cases h
 ·have h2:=hx _ _ _ _ ‹ex _ _=_›;split at h
  ·cases h
  ·have h1:=cm _ _ _ _ ‹ap _ _ _=_›;split at h
   ·cases h
   ·rename_i h3;have h4:=hx _ _ _ _ h3;cases h;(try simp only[sz_,bF]at*);omega
theorem sj:Bd ssz (dU T ex):=λi x j h=>by
 unfold dU at h;split at h
 ·cases h
 ·have h2:=hx _ _ _ _ ‹ex _ _=_›;split at h
  ·cases h
  ·rename_i h3;have h3:=cm _ _ _ _ h3;split at h
   ·cases h
   ·rename_i h4;have h4:=cK _ _ _ _ h4;split at h
    ·cases h
    ·rename_i h5;have h5:=cm _ _ _ _ h5;split at h
     ·cases h
     ·rename_i h6;have h6:=hx _ _ _ _ h6;split at h
      ·cases h
      ·rename_i h7;have h7:=cm _ _ _ _ h7;cases h;(try simp only[sz_,bF]at*);omega
theorem sr:Bd ssz (dV T ex):=λi x j h=>by
 unfold dV at h;split at h
 ·cases h
 ·have h2:=hx _ _ _ _ ‹ex _ _=_›;split at h
  ·cases h
  ·rename_i h3;have h3:=cm _ _ _ _ h3;split at h
   ·cases h
   ·rename_i h4;have h4:=cK _ _ _ _ h4;split at h
    ·cases h
    ·rename_i h5;have h5:=cm _ _ _ _ h5;split at h
     ·cases h
     ·rename_i h6;have h6:=hx _ _ _ _ h6;cases h;(try simp only[sz_,bF]at*);omega
theorem pY:Bd ssz (ak T ex):=λi x j h=>by
 unfold ak at h;split at h
 ·have:=lS hx _ _ _ _ h;(try simp only[sz_,bF]at*);omega
 ·split at h
  ·have:=ug hx _ _ _ h;(try simp only[sz_,bF]at*);omega
  ·split at h
   ·split at h
    ·cases h
    ·have h2:=hx _ _ _ _ ‹ex _ _=_›;cases h;(try simp only[sz_,bF]at*);omega
   ·split at h
    ·have:=ve hx _ _ _ h;(try simp only[sz_,bF]at*);omega
    ·split at h
     ·have:=sj hx _ _ _ h;(try simp only[sz_,bF]at*);omega
     ·split at h
      ·cases h;(try simp only[sz_,bF]at*);omega
      ·split at h
       ·exact lS hx _ _ _ _ h
       ·exact sr hx _ _ _ h
variable(hs:Bd ssz st)
include hs
theorem si:Bd ssz (ie T ex st):=λi x j h=>by
 unfold ie at h;split at h
 ·cases h
 ·have h2:=hx _ _ _ _ ‹ex _ _=_›;split at h
  ·cases h
  ·have h3:=gZ hs _ _ _ ‹bp _ _ _=_›;cases h;(try simp only[sz_,bF]at*);omega
theorem zt:Bd ssz (ifT T ex st):=λi x j h=>by
 unfold ifT at h;split at h
 ·cases h
 ·have h2:=hx _ _ _ _ ‹ex _ _=_›;split at h
  ·cases h
  ·have h3:=gZ hs _ _ _ ‹bp _ _ _=_›;split at h
   ·split at h
    ·cases h
    ·rename_i h4;have h4:=gZ hs _ _ _ h4;cases h;(try simp only[sz_,bF]at*);omega
   ·cases h;(try simp only[sz_,bF]at*);omega
theorem ua:Bd ssz (cL T ex st):=λi x j h=>by
 unfold cL at h;split at h
 ·have:=zt hx hs _ _ _ h;(try simp only[sz_,bF]at*);omega
 ·split at h
  ·have:=si hx hs _ _ _ h;(try simp only[sz_,bF]at*);omega
  ·split at h
   ·cases h
   ·have h2:=pY hx _ _ _ ‹ak _ _ _=_›;split at h
    ·cases h
    ·have h3:=cm _ _ _ _ ‹ap _ _ _=_›;cases h;(try simp only[sz_,bF]at*);omega
end
theorem zL:∀n,Bd ssz (S T n)
 |0=>λi x j h=>by cases h
 |n+1=>λi x j h=>by
  unfold S at h;exact ua (λl=>om _ l) (zL n) _ _ _ h
theorem jV:∀k fs i ys j,bK T k fs i= .ok ys j->i+ys.length<=fs.length+j
 |0,x,i,y,j,h=>by cases h
 |k+1,x,i,y,j,h=>by
  unfold bK at h;split at h
  ·split at h
   ·cases h
   ·have h1:=cK _ _ _ _ ‹aj _ _ _=_›;split at h
    ·cases h
    ·have h0:=cm _ _ _ _ ‹ap _ _ _=_›;have h2:=jV k _ _ _ _ h;rw[AT,BV]at h2
     (try simp only[sz_,bF]at*);omega
  ·cases h;omega
theorem qH(n:Nat):Bd msz (dM T n):=λi x j h=>by
 unfold dM at h;split at h
 ·cases h
 ·have h0:=cK _ _ _ _ ‹aj _ _ _=_›;split at h
  ·cases h
  ·have h1:=jb (cK 2) _ _ _ ‹bg _ _ _=_›;rw[xg]at h1;split at h
   ·cases h
   ·have h2:=gZ (zL n) _ _ _ ‹bp _ _ _=_›;cases h;unfold msz
    (try simp only[sz_,bF]at*);omega
theorem gz(n:Nat):∀k ms i ys j,aS T n k ms i= .ok ys j->i+lsz msz ys<=lsz msz ms+j
 |0,x,i,y,j,h=>by cases h
 |k+1,x,i,y,j,h=>by
  unfold aS at h;split at h
  ·split at h
   ·cases h
   ·have h1:=qH n _ _ _ ‹_›;have h2:=gz n k _ _ _ _ h
    (try simp only[sz_,bF]at*);omega
  ·cases h;omega
theorem eM(n:Nat)(a:Bool):Bd csz (cw T n a):=λi x j h=>by
 unfold cw at h;split at h
 ·cases h
 ·have h0:=cK _ _ _ _ ‹aj _ _ _=_›;split at h
  ·cases h
  ·rename_i h1;have h1:=cm _ _ _ _ h1;split at h
   ·cases h
   ·have h2:=jV _ _ _ _ _ ‹bK _ _ _ _=_›;rw[BS]at h2;split at h
    ·cases h
    ·rename_i _ fs l _ _ ms q hm
     have h3:l+lsz msz ms<=lsz msz []+q:=by
      split at hm
      ·exact gz n _ _ _ _ _ hm
      ·cases hm;omega
     split at h
     ·cases h
     ·rename_i h4;have h4:=cm _ _ _ _ h4;cases h;unfold csz
      (try simp only[sz_,bF]at*);omega
theorem eW(n:Nat):∀k cs i ys j,aY T n k cs i= .ok ys j->i+lsz csz ys<=lsz csz cs+j
 |0,x,i,y,j,h=>by cases h
 |k+1,x,i,y,j,h=>by
  unfold aY at h;split at h
  ·split at h
   ·cases h
   ·have h1:=eM n _ _ _ _ ‹_›;have h2:=eW n k _ _ _ _ h
    (try simp only[sz_,bF]at*);omega
  ·split at h
   ·split at h
    ·cases h
    ·have h1:=eM n _ _ _ _ ‹_›;have h2:=eW n k _ _ _ _ h
     (try simp only[sz_,bF]at*);omega
   ·split at h
    ·cases h;omega
    ·cases h
theorem ke{cs:List Cl}(h:cn T= .ok cs j):lsz csz cs<=j:=by
 have:=eW _ _ _ _ _ _ h;rw[rF]at this;omega
theorem tH(n l:Nat):Up (E T n l):=(om n l).up dw
theorem wA(n:Nat):Up (S T n):=(zL n).up nr
end
abbrev Rv(α:Type):=World->(Nat->Prop)->α->Value->Prop
def uk:Rv ByteArray:=λ_ _ s v=>v= .string s
def rvSl{α:Type}(K:Kd α):Rv (List α):=λw G xs v=>∃A n c,v= .slice A n c/\Sl K w G xs A n
def rvC{α:Type}(K:Kd α):Rv α:=λw G x v=>∃cs,v= .agg cs.toArray/\K.rd w G x cs
theorem rvSl.aA{K:Kd α}{xs:List α}(hk:∀b,G b->G' b/\w'.heap[b]?=w.heap[b]?)(h:rvSl K w G xs v):rvSl K w' G' xs v:=by
 obtain⟨A',n,c',h1,h2⟩:=h;exact⟨A',n,c',h1,h2.aA hk⟩
theorem rvC.aA{K:Kd α}{x:α}(hk:∀b,G b->G' b/\w'.heap[b]?=w.heap[b]?)(h:rvC K w G x v):rvC K w' G' x v:=by
 obtain⟨cs,h1,h2⟩:=h;exact⟨cs,h1,K.aA hk h2⟩
def Out{α:Type}(rv:Rv α)(p:Nat)(A:Option Addr)(c:Nat)(T:List Tk)(w:World)(r:R α)(e:Ending)(w':World):Prop:=
 match r with
 | .ok x j=>(∃v,e= .returned v/\rv w' (Fr w w') x v)/\PS w' p A c T j/\Bx w.heap.size p w w'
 | .bad j=>e=gi T j/\Bx w.heap.size p w w'
section
variable{p c i:Nat}{A:Option Addr}{T:List Tk}{w w':World}
theorem Out.use{n:Nat}{args:Array Value}{rv:Rv α}{r:R α}(h:Calls Tryz.prog n args w (Out rv p A c T w r))
 (hb:∀j w',r= .bad j->Bx w.heap.size p w w'->Q (gi T j) w')
 (ho:∀x j v w',r= .ok x j->rv w' (Fr w w') x v->PS w' p A c T j->Bx w.heap.size p w w'->Q (.returned v) w'):Calls Tryz.prog n args w Q:=
 h.mono λe w' h'=>by
  cases r with
  |bad j=>obtain⟨rfl,b⟩:=h';exact hb j w' rfl b
  |ok x j=>obtain⟨⟨v,rfl,hv⟩,P,b⟩:=h';exact ho x j v w' rfl hv P b
theorem Out.bad{rv:Rv α}{r:R α}(hr:r= .bad j)(hb:Bx w.heap.size p w w'):Out rv p A c T w r (gi T j) w':=by subst hr;exact⟨rfl,hb⟩
theorem Out.ok{rv:Rv α}{r:R α}{x:α}(hr:r= .ok x j)(hv:rv w' (Fr w w') x v)(hP:PS w' p A c T j)(hb:Bx w.heap.size p w w'):Out rv p A c T w r (.returned v) w':=by
 subst hr;exact⟨⟨v,rfl,hv⟩,hP,hb⟩
theorem bd(h:PS w p A c T i)(s:ByteArray)
 (hy:isT T s i=true->∀w',PS w' p A c T (i+1)->Bx w.heap.size p w w'->Q (.returned (.bool true)) w')
 (hn:isT T s i=false->∀w',PS w' p A c T i->Bx w.heap.size p w w'->Q (.returned (.bool false)) w'):Calls Tryz.prog 210 #[.pointer (some ⟨p,0,none⟩),.string s] w Q:=by
 cases ht:isT T s i with
 |true=>exact(kW p i c A T s w h ht).mono λe w' ⟨h1,h2,h3⟩=>h1▸hy ht w' h2 h3
 |false=>exact(kE p i c A T s w h ht).mono λe w' ⟨h1,h2⟩=>h1▸hn ht w' (h.below h2) (Bx.of h2)
theorem lA(h:PS w p A c T i)(s:ByteArray)
 (hy:isT T s i=true->∀w',PS w' p A c T i->Bx w.heap.size p w w'->Q (.returned (.bool true)) w')
 (hn:isT T s i=false->∀w',PS w' p A c T i->Bx w.heap.size p w w'->Q (.returned (.bool false)) w'):Calls Tryz.prog 136 #[.pointer (some ⟨p,0,none⟩),.string s] w Q:=by
 refine(rN p i c A T s w h).mono λe w' ⟨h1,h2⟩=>?_;subst h1;cases ht:isT T s i with
 |true=>exact hy ht w' (h.below h2) (Bx.of h2)
 |false=>exact hn ht w' (h.below h2) (Bx.of h2)
theorem bR{o c2:Nat}(h:PS w p A c T i)(hc:w.cell? ⟨g,o,none⟩=some (.string s))
 (hb:∀j w',ap T s i= .bad j->Bx w.heap.size p w w'->Q (gi T j) w')
 (ho:∀j w',ap T s i= .ok () j->PS w' p A c T j->Bx w.heap.size p w w'->Q (.returned (.tuple #[])) w'):Calls Tryz.prog 209 #[.pointer (some ⟨p,0,none⟩),.slice (some ⟨g,o,none⟩) 1 c2] w Q:=by
 cases ht:isT T s i with
 |true=>exact(xN p i c A T s g o c2 w h hc ht).mono λe w' ⟨h1,h2,h3⟩=>h1▸ho (i+1) w' (by unfold ap;rw[ht];rfl) h2 h3
 |false=>exact(zA p i c A T s g o c2 w h hc ht).mono λe w' ⟨h1,h2⟩=>h1▸hb i w' (by unfold ap;rw[ht];rfl) (Bx.of h2)
theorem ot(h:PS w p A c T i)(k:Int)(h0:k≠0):Calls Tryz.prog 208 #[.pointer (some ⟨p,0,none⟩),.int .i64 k] w (Out uk p A c T w (aj T k i)):=by
 by_cases hk:(tk T i).1=k
 ·exact(oq p i c A T k w h hk h0).mono λe w' ⟨h1,h2,h3⟩=>h1▸Out.ok (by unfold aj;rw[AP hk]) rfl h2 h3
 ·exact(rk p i c A T k w h hk).mono λe w' ⟨h1,h2⟩=>h1▸Out.bad (by unfold aj;rw[AL hk]) (Bx.of h2)
theorem dL(h:PS w p A c T i):Calls Tryz.prog 211 #[.pointer (some ⟨p,0,none⟩)] w (Out uk p A c T w (aj T 2 i)):=by
 by_cases hk:(tk T i).1=2
 ·exact(uS p i c A T w h hk).mono λe w' ⟨h1,h2,h3⟩=>h1▸Out.ok (by unfold aj;rw[AP hk]) rfl h2 h3
 ·exact(x8 p i c A T w h hk).mono λe w' ⟨h1,h2⟩=>h1▸Out.bad (by unfold aj;rw[AL hk]) (Bx.of h2)
end
def fnL:Nat->Nat
 |0=>293|1=>301|2=>308|3=>311|4=>312|5=>313|6=>303|7=>309|_=>296
def RdAt{α:Type}(rv:Rv α)(n:Nat)(T:List Tk)(f:Nat->R α)(i:Nat):Prop:=
 ∀(p c:Nat) (A:Option Addr) (w:World),PS w p A c T i->Calls Tryz.prog n #[.pointer (some ⟨p,0,none⟩)] w (Out rv p A c T w (f i))
def oA(x:Ex):Nat:=esz x-1
theorem gA:∀xs:List Ex,xs.length+lsz oA xs=lsz esz xs
 |[]=>rfl
 |x::l=>by
  have h1:=gA l;have h2:=dw x;rw[ep,ep,AZ];unfold oA at h1⊢;omega
theorem dr(sz:α->Nat)(xs:List α){x:α}(hx:xs[k]?=some x):lsz sz (xs.take (k+1))=lsz sz (xs.take k)+sz x:=by
 rw[BT,hx];exact p3 sz _ x
theorem xh(sz:α->Nat)(a b:List α):lsz sz (a++b)=lsz sz a+lsz sz b:=by simp[lsz]
theorem aT(sz:α->Nat)(xs:List α)(k:Nat):lsz sz (xs.take k)<=lsz sz xs:=by
 have h:=CU (lsz sz) (Bu k xs);rw[show lsz sz (xs.take k++xs.drop k)=lsz sz (xs.take k)+lsz sz (xs.drop k)from xh sz _ _]at h;omega
theorem d9(sz:α->Nat){xs:List α}{x:α}(hx:xs[k]?=some x):sz x<=lsz sz xs:=by
 have h1:=dr sz xs hx;have h2:=aT sz xs (k+1);omega
theorem pD:∀(n:Nat) (xs:List Ex) (A:Option Addr) (m c:Nat) (w:World) (G:Nat->Prop),lsz esz xs<=n->Sl kEx w G xs A m->(∀b,G b->b<w.heap.size)->lsz esz xs<=100000->
 Calls Tryz.prog 214 #[.slice A m c] w λe w'=>e= .returned (.int .i64 (lsz esz xs:Nat))/\Below w.heap.size w w':=by
 intro n;induction n with
 |zero=>
  intro xs A m c w G hn hs hG hb;have h0:=gA xs;have hx:xs=[]:=Bc (by omega);subst hx;obtain rfl:m=0:=hs.1.symm;go_enter Tryz.func214,Tryz.ntmps214;go_wp2_with fail;refine D7 1 ?_;rw[Dg];go_wp2_with fail;go_ret;exact⟨rfl,AC _ _⟩
 |succ n ih=>
  intro xs A m c w G hn hs hG hb;have h0:=gA xs;have hm:=hs.1;have HS:=H_ hs;have HIH:=H_ ih;have HG:=H_ hG;clear hs ih hG;go_enter Tryz.func214,Tryz.ntmps214;go_wp2_with fail;go_loopw [3,10] (λu i wr=>∃k:Nat,k<=m/\i= .int .i64 k/\u= .int .i64 ((m+lsz oA (xs.take k):Nat):Int)/\Hid (Below w.heap.size w wr)) (λ_ i _=>m-(intOf i).toNat)
  case atStart=>exact⟨0,AM _,rfl,by simp[lsz],H_ (AC _ _)⟩
  case round=>
   obtain⟨k,hk,rfl,rfl,HB⟩:=hrel;have hle:=aT oA xs k;by_cases hkm:k<m
   ·have hkz:(k:Int)<(m:Int):=by omega
    have hS2:=HS.out.aA (G':=G) (w':=wr) (λb hb'=>⟨hb',HB.out.block b (HG.out b hb')⟩);obtain⟨b,off,x,cs,rfl,hgb,hx,hrd,hat⟩:=hS2.at_ hkm;obtain⟨xk,xo,xz,xn,xa,args⟩:=x;obtain⟨A2,n2,c2,rfl,hsa⟩:=ExC.inv hrd;have hsz:=d9 esz hx;rw[fU]at hsz;have htk:=dr oA xs hx;have hsub:oA (.mk xk xo xz xn xa args)=lsz esz args:=by unfold oA;rw[fU];omega
    rw[hsub]at htk;have hle2:=aT oA xs (k+1);have d0:wr.cell? ⟨b,off+k*6,none⟩=some (.int .i64 xk):=by have:=hat 0 _ rfl;rwa[show kEx.sz=6 from rfl,AQ]at this
    have d1:wr.cell? ⟨b,off+k*6+1,none⟩=some (.int .i64 xo):=by have:=hat 1 _ rfl;rwa[show kEx.sz=6 from rfl,AQ]at this
    have d2:wr.cell? ⟨b,off+k*6+2,none⟩=some (.int .i64 xz):=by have:=hat 2 _ rfl;rwa[show kEx.sz=6 from rfl,AQ]at this
    have d3:wr.cell? ⟨b,off+k*6+3,none⟩=some (.string xn):=by have:=hat 3 _ rfl;rwa[show kEx.sz=6 from rfl,AQ]at this
    have d4:wr.cell? ⟨b,off+k*6+4,none⟩=some (.bool xa):=by have:=hat 4 _ rfl;rwa[show kEx.sz=6 from rfl,AQ]at this
    have d5:wr.cell? ⟨b,off+k*6+5,none⟩=some (.slice A2 n2 c2):=by have:=hat 5 _ rfl;rwa[show kEx.sz=6 from rfl,AQ]at this
    have hbb:=HB.out.size;have HC:=H_ (HIH.out args A2 n2 c2 (wr.alloc (.cells #[.int .i64 xk,.int .i64 xo,.int .i64 xz,.string xn,.bool xa,.slice A2 n2 c2] 172)) G (by omega) (hsa.aA λq hq=>⟨hq,BR _ _ _ (by have:=HG.out q hq;omega)⟩) (λq hq=>by have:=HG.out q hq;simp;omega) (by omega));clear hat hrd hsa hS2;go_wp2_with fail;refine HC.out.mono ?_;rintro e w1 ⟨rfl,b1⟩;have B1:=H_ ((HB.out.alloc hbb _).trans (b1.mono (by simp;omega)));clear b1 HB;go_wp2_with fail;go_roundw
    case rel=>exact⟨k+1,by omega,by go_num,by rw[htk];go_num,B1⟩
    case measure=>simp[intOf];omega
   ·obtain rfl:k=m:=by omega
    go_wp2_with fail;go_ret;have ht:xs.take k=xs:=AK (by omega);rw[ht,<-h0,hm];exact⟨rfl,HB.out⟩
theorem Blk.aC{t:TypeId}{b:Value}(h:Blk w g t #[a,b,c,d,e,f]):
 (w.cell? ⟨g,0,none⟩=some a/\w.cell? ⟨g,1,none⟩=some b/\w.cell? ⟨g,2,none⟩=some c/\w.cell? ⟨g,3,none⟩=some d/\w.cell? ⟨g,4,none⟩=some e/\w.cell? ⟨g,5,none⟩=some f)/\
 w.frozen? ⟨g,0,none⟩=false/\w.frozen? ⟨g,1,none⟩=false/\w.frozen? ⟨g,2,none⟩=false/\w.frozen? ⟨g,3,none⟩=false/\w.frozen? ⟨g,4,none⟩=false/\w.frozen? ⟨g,5,none⟩=false:=
 ⟨⟨h.cell 0,h.cell 1,h.cell 2,h.cell 3,h.cell 4,h.cell 5⟩,h.frozen 0,h.frozen 1,h.frozen 2,h.frozen 3,h.frozen 4,h.frozen 5⟩
theorem y7{a:World}(h:Bx B p a w)(hg:B<=g\/g=p)(a' b' c' d' e' f':Value):
 Bx B p a ((((((w.setCell ⟨g,0,none⟩ a').setCell ⟨g,1,none⟩ b').setCell ⟨g,2,none⟩ c').setCell ⟨g,3,none⟩ d').setCell ⟨g,4,none⟩ e').setCell ⟨g,5,none⟩ f'):=
 (((((h.setCell (q:=⟨g,0,none⟩) hg a').setCell (q:=⟨g,1,none⟩) hg b').setCell (q:=⟨g,2,none⟩) hg c').setCell (q:=⟨g,3,none⟩) hg d').setCell (q:=⟨g,4,none⟩) hg e').setCell (q:=⟨g,5,none⟩) hg f'
theorem PS.on{c:Nat}(h:PS w1 p A c T i)(hw:p<w.heap.size)(he:∀k,k<w.heap.size->w2.heap[k]?=w1.heap[k]?):PS w2 p A c T i:=by
 refine⟨(he p hw).trans h.aG,?_,h.wf,h.lt⟩;obtain⟨b,off,h1,h2,h3⟩:=h.tok;exact⟨b,off,h1,h2,h3.aA (he b (by omega))⟩
abbrev rvE:Rv Ex:=rvC kEx
theorem m9{c:Nat}(h:PS w p A c T i):
 ∃w0,w.alloc (.cells #[.int .i64 0,.int .i64 0,.int .i64 0,.string ⟨#[]⟩,.bool false,.slice none 0 0] 172)=w0/\Blk w0 w.heap.size 172 #[.int .i64 0,.int .i64 0,.int .i64 0,.string ⟨#[]⟩,.bool false,.slice none 0 0]/\Bx w.heap.size p w w0/\PS w0 p A c T i:=
 ⟨_,rfl,Blk.new w 172 _,(Bx.refl _ _ _).alloc (AB _) _,h.below ((AC _ _).alloc (AB _) _)⟩
theorem Bx.put{S:Nat}(B:Bx S p w w2)(bw:Bx w2.heap.size g w2 W)(hg:S<=g)(hS:S<=w.heap.size):Bx S p w W:=
 B.trans ⟨bw.os,bw.tape,bw.output,bw.size,λk hk hp=>bw.block k (by have:=B.size;omega) (by omega)⟩
theorem PS.put{c:Nat}(P:PS w2 p A c T i)(bw:Bx w2.heap.size g w2 W)(hg:p<g):PS W p A c T i:=by
 have hp:=P.aG.lt;refine⟨(bw.block p hp (by omega)).trans P.aG,?_,P.wf,P.lt⟩;obtain⟨b,off,h1,h2,h3⟩:=P.tok;exact⟨b,off,h1,h2,h3.aA (bw.block b (by omega) (by omega))⟩
theorem Fr.aA(bw:Bx w2.heap.size g w2 W)(hw:w.heap.size<=w1.heap.size)(hg:g<w1.heap.size):∀b,Fr w1 w2 b->Fr w W b/\W.heap[b]?=w2.heap[b]?:=
 λb hb=>⟨⟨AW hw hb.1,AF hb.2 bw.size⟩,bw.block b hb.2 (by have:=hb.1;omega)⟩
theorem eB{t:TypeId}{b:Value}(q:Blk w g t #[a,b,c,d,e,f])(a' b' c' d' e' f':Value):
 Blk ((((((w.setCell ⟨g,0,none⟩ a').setCell ⟨g,1,none⟩ b').setCell ⟨g,2,none⟩ c').setCell ⟨g,3,none⟩ d').setCell ⟨g,4,none⟩ e').setCell ⟨g,5,none⟩ f') g t #[a',b',c',d',e',f']/\
 Bx w.heap.size g w ((((((w.setCell ⟨g,0,none⟩ a').setCell ⟨g,1,none⟩ b').setCell ⟨g,2,none⟩ c').setCell ⟨g,3,none⟩ d').setCell ⟨g,4,none⟩ e').setCell ⟨g,5,none⟩ f'):=
 ⟨q.set6,y7 (Bx.refl _ _ _) (.inr rfl) _ _ _ _ _ _⟩
theorem rP:(Tryz.prog.info? 172).map (·.size)=some 6:=by kernel_rfl
theorem eG{s:Tmp}{R:Ending->World->Prop}(hf:fn.results= #[.cell s 172])(hs:tmps.getD s undef= .pointer (some ⟨g,0,none⟩))(q:Blk W g 172 #[v0,v1,v2,v3,v4,v5])
 (hR:R (.returned (.agg #[v0,v1,v2,v3,v4,v5])) W):bodyPost Tryz.prog fn R .ret {tmps:=tmps,defers:=[]} W:=
 lZ g 172 _ _ hf hs q Tryz.underlying172 rfl rP hR
theorem mL{o0 o1 o2 o3 o4 o5:Value}(q:Blk w2 g 172 #[o0,o1,o2,o3,o4,o5])(hx:ExC w2 G x [v0,v1,v2,v3,v4,v5])(hG:∀b,G b->b<w2.heap.size/\b≠g)
 (k op z:Int) (nm:ByteArray) (at_:Bool) (W:World) (hW:W=((((((w2.setCell ⟨g,0,none⟩ (.int .i64 k)).setCell ⟨g,1,none⟩ (.int .i64 op)).setCell ⟨g,2,none⟩ (.int .i64 z)).setCell ⟨g,3,none⟩ (.string nm)).setCell ⟨g,4,none⟩ (.bool at_)).setCell ⟨g,5,none⟩ (.slice (some ⟨w2.heap.size,0,none⟩) 1 1)).alloc (.cells #[v0,v1,v2,v3,v4,v5] 172)):
 Blk W g 172 #[.int .i64 k,.int .i64 op,.int .i64 z,.string nm,.bool at_,.slice (some ⟨w2.heap.size,0,none⟩) 1 1]/\Bx w2.heap.size g w2 W/\
 ExC W (λb=>G b\/(b=w2.heap.size/\b<W.heap.size)) (.mk k op z nm at_ [x]) [.int .i64 k,.int .i64 op,.int .i64 z,.string nm,.bool at_,.slice (some ⟨w2.heap.size,0,none⟩) 1 1]:=by
 have h1:=eB q (.int .i64 k) (.int .i64 op) (.int .i64 z) (.string nm) (.bool at_) (.slice (some ⟨w2.heap.size,0,none⟩) 1 1);have hs:((((((w2.setCell ⟨g,0,none⟩ (.int .i64 k)).setCell ⟨g,1,none⟩ (.int .i64 op)).setCell ⟨g,2,none⟩ (.int .i64 z)).setCell ⟨g,3,none⟩ (.string nm)).setCell ⟨g,4,none⟩ (.bool at_)).setCell ⟨g,5,none⟩ (.slice (some ⟨w2.heap.size,0,none⟩) 1 1)).heap.size=w2.heap.size:=by simp
 generalize((((((w2.setCell ⟨g,0,none⟩ (.int .i64 k)).setCell ⟨g,1,none⟩ (.int .i64 op)).setCell ⟨g,2,none⟩ (.int .i64 z)).setCell ⟨g,3,none⟩ (.string nm)).setCell ⟨g,4,none⟩ (.bool at_)).setCell ⟨g,5,none⟩ (.slice (some ⟨w2.heap.size,0,none⟩) 1 1))=V at h1 hs hW;subst hW;have hb:=h1.2.alloc (by omega) (.cells #[v0,v1,v2,v3,v4,v5] 172);refine⟨h1.1.alloc _,hb,?_⟩;refine ExC.of k op z nm at_ 1 ?_;rw[<-hs];exact dW (K:=kEx) (Blk.new V 172 #[v0,v1,v2,v3,v4,v5]) (.inr ⟨rfl,by simp⟩) (ExC.aA (λb hb'=>⟨.inl hb',hb.block b (hG b hb').1 (hG b hb').2⟩) hx)
theorem iw(bw:Bx w2.heap.size g w2 W)(hw:w.heap.size<=w1.heap.size)(hg:w.heap.size<=w2.heap.size):∀b,(Fr w1 w2 b\/(b=w2.heap.size/\b<W.heap.size))->Fr w W b/\W.heap[b]?=W.heap[b]?:=by
 intro b hb;have:=bw.size;rcases hb with hb|⟨rfl,hb⟩
 ·exact⟨⟨AW hw hb.1,AF hb.2 bw.size⟩,rfl⟩
 ·exact⟨⟨hg,hb⟩,rfl⟩
--walks
section
variable{T:List Tk}{rec:Nat->Nat->R Ex}{i:Nat}
theorem yZ(HC:RdAt rvE 311 T (bN T rec) i)(HR:∀j,i<j->RdAt rvE 308 T (rec 2) j):RdAt rvE 308 T (gk T rec) i:=by
 intro p c A w h;have hp:=h.aG.lt;obtain⟨w0,hw0,q0,b0,P0⟩:=m9 h;have Q0:=H_ q0;have B0:=H_ b0;have HP0:=H_ P0;have HC':=H_ HC;have HR':=H_ HR;clear h HC HR q0 b0 P0;go_enter Tryz.func308,Tryz.ntmps308;go_upto_region 1 with(fail);have hsz:=B0.out.size;have hg0:=Q0.out.lt;obtain⟨g,hgz⟩:=nm_ (w.heap.size);rw[hgz]at Q0 hg0⊢;clear hw0;go_wp2_with fail;refine bd HP0.out _ (λht w1 P1 b1=>?_) (λht w1 P1 b1=>?_)
 ·obtain⟨-,B1,Q1,hg1⟩:=fr1 B0 Q0 b1;have HP1:=H_ P1;have HT:=H_ ht;clear Q0 B0 HP0 P1 b1 ht;go_wp2_with fail;refine Out.use (HR'.out (i+1) (by omega) p c A w1 HP1.out) (λj w2 hr b2=>?_) (λx j v w2 hr hv P2 b2=>?_)
  ·exact⟨rfl,Out.bad (by unfold gk eE;rw[AP (show isT T nQ i=true from HT.out),hr]) (B1.out.aB b2)⟩
  obtain⟨-,B2,Q2,hg2⟩:=fr1 B1 Q1 b2;have HP2:=H_ P2;clear Q1 B1 HP1 P2 b2;obtain⟨k,op,z,nm,at_,A',n,c',rfl,hv'⟩:=ExV.inv hv;have HV:=H_ hv';have HR2:=H_ hr;clear hv hv' hr;obtain⟨⟨c0,c1,c2,c3,c4,c5⟩,f0,f1,f2,f3,f4,f5⟩:=Q2.out.aC;go_wp2_with fail;obtain⟨N1,N2,N3⟩:=mL Q2.out HV.out (λb hb=>⟨hb.2,by have:=hb.1;omega⟩) 9 0 0 ⟨#[]⟩ false _ rfl;exact eG rfl (by simp) N1 (Out.ok (by unfold gk eE;rw[AP (show isT T nQ i=true from HT.out),HR2.out];rfl) ⟨_,rfl,N3.aA (iw N2 (by omega) (by omega))⟩ (HP2.out.put N2 (by omega)) (B2.out.put N2 (by omega) (AB _)))
 ·obtain⟨-,B1,Q1,hg1⟩:=fr1 B0 Q0 b1;have HP1:=H_ P1;have HT:=H_ ht;clear Q0 B0 HP0 P1 b1 ht;go_wp2_with fail;refine Out.use (HC'.out p c A w1 HP1.out) (λj w2 hr b2=>?_) (λx j v w2 hr hv P2 b2=>?_)
  ·exact⟨rfl,Out.bad (by unfold gk;rw[AL (show ¬isT T nQ i=true from by rw[show isT T nQ i=false from HT.out];simp),hr]) (B1.out.aB b2)⟩
  obtain⟨-,B2,Q2,hg2⟩:=fr1 B1 Q1 b2;have HP2:=H_ P2;clear Q1 B1 HP1 P2 b2;obtain⟨k,op,z,nm,at_,A',n,c',rfl,hv'⟩:=ExV.inv hv;have HV:=H_ hv';have HR2:=H_ hr;clear hv hv' hr;obtain⟨⟨c0,c1,c2,c3,c4,c5⟩,f0,f1,f2,f3,f4,f5⟩:=Q2.out.aC;go_wp2_with fail;obtain⟨N1,N2⟩:=eB Q2.out (.int .i64 k) (.int .i64 op) (.int .i64 z) (.string nm) (.bool at_) (.slice A' n c');exact eG rfl (by simp) N1 (Out.ok (by unfold gk;rw[AL (show ¬isT T nQ i=true from by rw[show isT T nQ i=false from HT.out];simp),HR2.out]) ⟨_,rfl,HV.out.aA (Fr.aA N2 (by omega) hg1)⟩ (HP2.out.put N2 (by omega)) (B2.out.put N2 (by omega) (AB _)))
theorem tS(HC:RdAt rvE 309 T (bD T rec) i)(HR:∀j,i<j->RdAt rvE 303 T (rec 6) j):RdAt rvE 303 T (bS T rec) i:=by
 intro p c A w h;have hp:=h.aG.lt;obtain⟨w0,hw0,q0,b0,P0⟩:=m9 h;have Q0:=H_ q0;have B0:=H_ b0;have HP0:=H_ P0;have HC':=H_ HC;have HR':=H_ HR;clear h HC HR q0 b0 P0;go_enter Tryz.func303,Tryz.ntmps303;go_upto_region 1 with(fail);have hsz:=B0.out.size;have hg0:=Q0.out.lt;obtain⟨g,hgz⟩:=nm_ (w.heap.size);rw[hgz]at Q0 hg0⊢;clear hw0;go_wp2_with fail;refine bd HP0.out _ (λht w1 P1 b1=>?_) (λht w1 P1 b1=>?_)
 ·obtain⟨-,B1,Q1,hg1⟩:=fr1 B0 Q0 b1;have HP1:=H_ P1;have HT:=H_ ht;clear Q0 B0 HP0 P1 b1 ht;go_wp2_with fail;refine Out.use (HR'.out (i+1) (by omega) p c A w1 HP1.out) (λj w2 hr b2=>?_) (λx j v w2 hr hv P2 b2=>?_)
  ·exact⟨rfl,Out.bad (by unfold bS eE;rw[AP (show isT T ey i=true from HT.out),hr]) (B1.out.aB b2)⟩
  obtain⟨-,B2,Q2,hg2⟩:=fr1 B1 Q1 b2;have HP2:=H_ P2;clear Q1 B1 HP1 P2 b2;obtain⟨k,op,z,nm,at_,A',n,c',rfl,hv'⟩:=ExV.inv hv;have HV:=H_ hv';have HR2:=H_ hr;clear hv hv' hr;obtain⟨⟨c0,c1,c2,c3,c4,c5⟩,f0,f1,f2,f3,f4,f5⟩:=Q2.out.aC;go_wp2_with fail;obtain⟨N1,N2,N3⟩:=mL Q2.out HV.out (λb hb=>⟨hb.2,by have:=hb.1;omega⟩) 8 0 0 ⟨#[]⟩ false _ rfl;exact eG rfl (by simp) N1 (Out.ok (by unfold bS eE;rw[AP (show isT T ey i=true from HT.out),HR2.out];rfl) ⟨_,rfl,N3.aA (iw N2 (by omega) (by omega))⟩ (HP2.out.put N2 (by omega)) (B2.out.put N2 (by omega) (AB _)))
 ·obtain⟨-,B1,Q1,hg1⟩:=fr1 B0 Q0 b1;have HP1:=H_ P1;have HN0:=H_ ht;clear Q0 B0 HP0 P1 b1 ht;go_wp2_with fail;refine bd HP1.out _ (λht w2 P2 b2=>?_) (λht w2 P2 b2=>?_)
  ·obtain⟨-,B2,Q2,hg2⟩:=fr1 B1 Q1 b2;have HP2:=H_ P2;have HT:=H_ ht;clear Q1 B1 HP1 P2 b2 ht;go_wp2_with fail;refine Out.use (HR'.out (i+1) (by omega) p c A w2 HP2.out) (λj w3 hr b3=>?_) (λx j v w3 hr hv P3 b3=>?_)
   ·exact⟨rfl,Out.bad (by unfold bS eE;rw[AL (show ¬isT T ey i=true from by rw[show isT T ey i=false from HN0.out];simp)];rw[AP (show isT T fF i=true from HT.out),hr]) (B2.out.aB b3)⟩
   obtain⟨-,B3,Q3,hg3⟩:=fr1 B2 Q2 b3;have HP3:=H_ P3;clear Q2 B2 HP2 P3 b3;obtain⟨k,op,z,nm,at_,A',n,c',rfl,hv'⟩:=ExV.inv hv;have HV:=H_ hv';have HR2:=H_ hr;clear hv hv' hr;obtain⟨⟨c0,c1,c2,c3,c4,c5⟩,f0,f1,f2,f3,f4,f5⟩:=Q3.out.aC;go_wp2_with fail;obtain⟨N1,N2,N3⟩:=mL Q3.out HV.out (λb hb=>⟨hb.2,by have:=hb.1;omega⟩) 6 0 0 ⟨#[]⟩ false _ rfl;exact eG rfl (by simp) N1 (Out.ok (by unfold bS eE;rw[AL (show ¬isT T ey i=true from by rw[show isT T ey i=false from HN0.out];simp)];rw[AP (show isT T fF i=true from HT.out),HR2.out];rfl) ⟨_,rfl,N3.aA (iw N2 (by omega) (by omega))⟩ (HP3.out.put N2 (by omega)) (B3.out.put N2 (by omega) (AB _)))
  ·obtain⟨-,B2,Q2,hg2⟩:=fr1 B1 Q1 b2;have HP2:=H_ P2;have HN1:=H_ ht;clear Q1 B1 HP1 P2 b2 ht;go_wp2_with fail;refine bd HP2.out _ (λht w3 P3 b3=>?_) (λht w3 P3 b3=>?_)
   ·obtain⟨-,B3,Q3,hg3⟩:=fr1 B2 Q2 b3;have HP3:=H_ P3;have HT:=H_ ht;clear Q2 B2 HP2 P3 b3 ht;go_wp2_with fail;refine Out.use (HR'.out (i+1) (by omega) p c A w3 HP3.out) (λj w4 hr b4=>?_) (λx j v w4 hr hv P4 b4=>?_)
    ·exact⟨rfl,Out.bad (by unfold bS eE;rw[AL (show ¬isT T ey i=true from by rw[show isT T ey i=false from HN0.out];simp)];rw[AL (show ¬isT T fF i=true from by rw[show isT T fF i=false from HN1.out];simp)];rw[AP (show isT T nS i=true from HT.out),hr]) (B3.out.aB b4)⟩
    obtain⟨-,B4,Q4,hg4⟩:=fr1 B3 Q3 b4;have HP4:=H_ P4;clear Q3 B3 HP3 P4 b4;obtain⟨k,op,z,nm,at_,A',n,c',rfl,hv'⟩:=ExV.inv hv;have HV:=H_ hv';have HR2:=H_ hr;clear hv hv' hr;obtain⟨⟨c0,c1,c2,c3,c4,c5⟩,f0,f1,f2,f3,f4,f5⟩:=Q4.out.aC;go_wp2_with fail;obtain⟨N1,N2,N3⟩:=mL Q4.out HV.out (λb hb=>⟨hb.2,by have:=hb.1;omega⟩) 7 0 0 ⟨#[]⟩ false _ rfl;exact eG rfl (by simp) N1 (Out.ok (by unfold bS eE;rw[AL (show ¬isT T ey i=true from by rw[show isT T ey i=false from HN0.out];simp)];rw[AL (show ¬isT T fF i=true from by rw[show isT T fF i=false from HN1.out];simp)];rw[AP (show isT T nS i=true from HT.out),HR2.out];rfl) ⟨_,rfl,N3.aA (iw N2 (by omega) (by omega))⟩ (HP4.out.put N2 (by omega)) (B4.out.put N2 (by omega) (AB _)))
   ·obtain⟨-,B3,Q3,hg3⟩:=fr1 B2 Q2 b3;have HP3:=H_ P3;have HN2:=H_ ht;clear Q2 B2 HP2 P3 b3 ht;go_wp2_with fail;refine Out.use (HC'.out p c A w3 HP3.out) (λj w4 hr b4=>?_) (λx j v w4 hr hv P4 b4=>?_)
    ·exact⟨rfl,Out.bad (by unfold bS;rw[AL (show ¬isT T ey i=true from by rw[show isT T ey i=false from HN0.out];simp)];rw[AL (show ¬isT T fF i=true from by rw[show isT T fF i=false from HN1.out];simp)];rw[AL (show ¬isT T nS i=true from by rw[show isT T nS i=false from HN2.out];simp)];rw[hr]) (B3.out.aB b4)⟩
    obtain⟨-,B4,Q4,hg4⟩:=fr1 B3 Q3 b4;have HP4:=H_ P4;clear Q3 B3 HP3 P4 b4;obtain⟨k,op,z,nm,at_,A',n,c',rfl,hv'⟩:=ExV.inv hv;have HV:=H_ hv';have HR2:=H_ hr;clear hv hv' hr;obtain⟨⟨c0,c1,c2,c3,c4,c5⟩,f0,f1,f2,f3,f4,f5⟩:=Q4.out.aC;go_wp2_with fail;obtain⟨N1,N2⟩:=eB Q4.out (.int .i64 k) (.int .i64 op) (.int .i64 z) (.string nm) (.bool at_) (.slice A' n c');exact eG rfl (by simp) N1 (Out.ok (by unfold bS;rw[AL (show ¬isT T ey i=true from by rw[show isT T ey i=false from HN0.out];simp)];rw[AL (show ¬isT T fF i=true from by rw[show isT T fF i=false from HN1.out];simp)];rw[AL (show ¬isT T nS i=true from by rw[show isT T nS i=false from HN2.out];simp)];rw[HR2.out]) ⟨_,rfl,HV.out.aA (Fr.aA N2 (by omega) hg3)⟩ (HP4.out.put N2 (by omega)) (B4.out.put N2 (by omega) (AB _)))
end
end
end Go.Proofs.YtjpbckbpeblibaaGreatDoor
