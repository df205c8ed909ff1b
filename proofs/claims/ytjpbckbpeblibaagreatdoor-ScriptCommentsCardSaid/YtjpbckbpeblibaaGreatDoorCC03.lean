/- part of a proof -/
import Derived.Test.YtjpbckbpeblibaaGreatDoorCC02
import Derived.Laws.AppendOwn
import Derived.Laws.OwnMore
import Derived.RangeFuncBox
import Derived.Orders
import Derived.RegionTactic
namespace Go.Proofs.YtjpbckbpeblibaaGreatDoor
set_option linter.unusedVariables false
set_option linter.unusedSimpArgs false
set_option maxRecDepth 100000
set_option maxHeartbeats 64000000
section
open Go.RowKit
variable{B base size:Nat}{W w w':World}{e:TypeId}{l:List UInt8}{ts:List (Int×ByteArray×Int×Int)}{u v:Value}{vs xs:List Value}{x:Lx}
theorem EX:type_of% @List.flatMap_append:=@List.flatMap_append
theorem Fa:type_of% @Array.getElem?_setIfInBounds:=@Array.getElem?_setIfInBounds
theorem Fe:type_of% @List.length_map:=@List.length_map
theorem Fi:type_of% @World.ownsRow_nil:=@World.ownsRow_nil
theorem Fk:type_of% @Array.getD_eq_getD_getElem?:=@Array.getD_eq_getD_getElem?
theorem FL:type_of% @List.length_filter_le:=@List.length_filter_le
theorem FN:type_of% @wpList_append_own:=@wpList_append_own
theorem FY:type_of% @info_parts:=@info_parts
theorem qv(h:Below w.heap.size w w'):w.grownBy w' none:=⟨h.os,h.tape,h.output,h.size,λk hk _=>h.block k hk⟩
theorem dY{t:TypeId}{n:Nat}(h:w.ownsRow base t size v n xs)(hb:Below w.heap.size w w'):w'.ownsRow base t size v n xs:=
 h.kept (row:=none) (qv hb) (by cases v.ownBlock<;>simp)
theorem pY{n:Nat}(h:w.ownsRow base e size u n xs)(hs:∀g,u.ownBlock=some g->w'.heap[g]?=w.heap[g]?):w'.ownsRow base e size u n xs:=by
 refine⟨h.1,?_⟩;rcases h.2 with h1|⟨g,cap,cur,rfl,h2,h3,h4⟩
 ·exact .inl h1
 ·exact .inr ⟨g,cap,cur,rfl,h2,(hs g rfl).trans h3,h4⟩
theorem eh{t:TypeId}{n:Nat}(h:w.ownsRow base t size v n xs):∃A c,v= .slice A n c/\n<=c\/v= .slice none 0 0/\n=0:=by
 rcases h.2 with⟨rfl,h0⟩|⟨g,cap,cur,rfl,h2,h3,h4⟩
 ·exact⟨none,0,.inr ⟨rfl,by simpa using h0⟩⟩
 ·refine⟨_,_,.inl ⟨rfl,?_⟩⟩;exact h4.1
theorem dh(b o j:Nat):(⟨b,o,none⟩:Addr).add j=⟨b,o+j,none⟩:=by unfold Addr.add;split<;>simp_all
theorem Row.aI{A:Option Addr}{n c:Nat}(h:w.ownsRow base e 1 (.slice A n c) n xs)(hx:xs.length=n):Row w w.heap.size A n xs:=by
 refine⟨hx,λh0=>?_⟩;rcases h.2 with⟨h1,h2⟩|⟨g,cap,cur,h1,h2,h3,h4⟩
 ·simp only[Value.slice.injEq]at h1;omega
 ·simp only[Value.slice.injEq,true_and]at h1;obtain⟨rfl,rfl⟩:=h1;refine⟨g,0,rfl,(h.lt g rfl).2,λj v hv=>?_⟩;rw[ET,h.cellAt j (by have:=(DQ.1 hv).1;omega)];exact hv
theorem xJ:(Tryz.prog.info? 9).map (λi=>(i.zero,i.size,i.bytes))=some (some (.string ⟨#[]⟩),1,16):=by kernel_rfl
theorem CO:(Tryz.prog.info? 3).map (λi=>(i.zero,i.size,i.bytes))=some (some (.int .i64 0),1,8):=by kernel_rfl
theorem CP:(Tryz.prog.info? 2).map (λi=>(i.zero,i.size,i.bytes))=some (some (.int .i64 0),1,8):=by kernel_rfl
theorem qe{α β:Type}{f:α->β}{l:List α}{k:Nat}{x:α}(h:l[k]?=some x):(l.take (k+1)).map f=(l.take k).map f++[f x]:=by
 have hk:=(DQ.1 h).1;have hz:l[k]=x:=by rw[DT hk]at h;simpa using h
 rw[List.take_succ_eq_append_getElem hk,FQ,hz];rfl
def qq(zs:List Int):List Value:=(zs.map du).map Value.string
theorem mE{zs:List Int}{k:Nat}{z:Int}(h:zs[k]?=some z):qq (zs.take (k+1))=qq (zs.take k)++[.string (du z)]:=by
 unfold qq;rw[qe h,FQ];rfl
def tN(w:World)(ws:List ByteArray)(e:Ending)(w':World):Prop:=∃A c,e= .returned (.slice A ws.length c)/\Strs w' w'.heap.size A ws.length ws/\Below w.heap.size w w'
theorem yH(v:Av)(zs:List Int)(w:World)(hg:Gl w)(h:Ints w w.heap.size v.A2 v.n2 zs)(hn:v.n2<=1000000)(hI:∀z∈zs,I64 z):
 Calls Tryz.prog 186 #[.agg v.cells] w (tN w (zs.map du)):=by
 obtain⟨i0,hi,hz0,hz1,hz2⟩:=FY xJ;unfold Av.cells;have hbel:Below w.heap.size w (w.alloc (.cells #[.int .i64 v.k,.int .i64 v.a,.int .i64 v.b,.string v.nm,.string v.mt,.slice v.A v.n v.c,.slice v.A2 v.n2 v.c2] 48)):=(DN _ _).alloc (DK _) _;have c5:(w.alloc (.cells #[.int .i64 v.k,.int .i64 v.a,.int .i64 v.b,.string v.nm,.string v.mt,.slice v.A v.n v.c,.slice v.A2 v.n2 v.c2] 48)).cell? ⟨w.heap.size,6,none⟩=some (.slice v.A2 v.n2 v.c2):=(Blk.new w 48 _).cell 6;have hI2:=h.below hbel;have HL:=H_ h.len;have HB:=H_ hbel;have HG:=H_ (GlB.below hg hbel);have HI:=H_ hI;have hsz:w.heap.size+1=(w.alloc (.cells #[.int .i64 v.k,.int .i64 v.a,.int .i64 v.b,.string v.nm,.string v.mt,.slice v.A v.n v.c,.slice v.A2 v.n2 v.c2] 48)).heap.size:=by simp
 clear h hbel hg hI;go_enter Tryz.func186,Tryz.ntmps186;go_upto_region 1 with(fail);generalize w.alloc (.cells #[.int .i64 v.k,.int .i64 v.a,.int .i64 v.b,.string v.nm,.string v.mt,.slice v.A v.n v.c,.slice v.A2 v.n2 v.c2] 48)=W at*
 have hwW:w.heap.size<=W.heap.size:=by omega
 have HSZ:=H_ hsz;clear hsz;go_wp2_with fail;go_loopw [3,9] (λu i wr=>∃q:Nat,q<=v.n2/\i= .int .i64 q/\wr.ownsRow W.heap.size 9 1 u q (qq (zs.take q))/\Below W.heap.size W wr) (λ_ i _=>v.n2-(intOf i).toNat)
 case atStart=>exact⟨0,Ea _,rfl,Fi _ _ _ _,DN _ _⟩
 case round=>
  obtain⟨q,hq,rfl,hown,hbw⟩:=hrel;by_cases hlt:q<v.n2
  ·obtain⟨b,off,z,hA,hbb,hz,hc⟩:=hI2.at_ hlt;have hc':=(ab hbw (by omega) _).trans hc;have hk0:0<=(q:Int):=by omega
   have hk1:(q:Int)<v.n2:=by omega
   have HZ:=H_ hz;have HOWN:=H_ hown;have HBW:=H_ hbw;clear hz hc hown hbw;rw[hA];go_wp2_with fail;refine(oH _ _ (HI.out z (DW HZ.out)) (GlB.gl ((GlB.below HG.out (HBW.out.mono hwW)).more (DK _) (by have:=HBW.out.size;omega)))).mono ?_;rintro e w1 ⟨rfl,b1⟩;have hown1:=dY HOWN.out b1;have hb1:=HBW.out.trans (b1.mono HBW.out.size);clear b1 hc';go_wp2_with (at_builtin;refine FN _ rfl (.tmp 13) (.tmp 16) 67 rfl W.heap.size 9 i0 _ 1 16 Tryz.underlying67 hi hz0 hz1 hz2 rfl (by decide) _ _ _ rfl (hown1.alloc _) ⟨w1.heap.size,0,none⟩ 1 1 [.string (du z)] rfl rfl (λj u hu=>by rw[dh,ET,(Blk.new w1 9 #[.string (du z)]).cell j];simpa using hu) (by simp[Value.oneCell']) (by unfold maxLen;omega) (by omega) (by have:=hb1.size;simp;omega) ?_);intro u' w3 hown3 hgrow _;have hb3:=(hb1.alloc hb1.size _).grown hgrow (by have:=hb1.size;simp;omega) (λr hr=>(hown1.lt r hr).1);have HO3:=H_ hown3;have HB3:=H_ hb3;clear hown3 hgrow hb3 hb1 hown1;go_wp2_with fail;go_roundw
   case rel=>exact⟨q+1,by omega,by go_num,by rw[mE HZ.out];exact HO3.out,HB3.out⟩
   case measure=>simp[intOf];omega
  ·obtain rfl:q=v.n2:=by omega
   have HO:=H_ hown;have HBW:=H_ hbw;clear hown hbw;go_wp2_with fail;go_ret;have h1:=HO.out;rw[DP (by rw[HL.out];omega)]at h1;have hlen:(zs.map du).length=v.n2:=by rw[Fe];exact HL.out
   have hbel:=HB.out.trans (HBW.out.mono (by have:=HSZ.out;omega));obtain⟨A',c',h2|h2⟩:=eh h1
   ·obtain⟨rfl,_⟩:=h2;refine⟨A',c',by rw[hlen];rfl,?_,hbel⟩;rw[hlen];exact Row.aI h1 (by rw[Fe];exact hlen)
   ·obtain⟨rfl,h3⟩:=h2;refine⟨none,0,by rw[hlen,h3];rfl,?_,hbel⟩;rw[hlen,h3];exact⟨by rw[Fe,hlen,h3],λh0=>absurd h0 (Fv 0)⟩
theorem yG(v:Av)(zs:List Int)(w:World)(hg:Gl w)(h:Ints w w.heap.size v.A v.n zs)(hn:v.n<=1000000)(hI:∀z∈zs,I64 z):
 Calls Tryz.prog 192 #[.agg v.cells] w (tN w (zs.map du)):=by
 obtain⟨i0,hi,hz0,hz1,hz2⟩:=FY xJ;unfold Av.cells;have hbel:Below w.heap.size w (w.alloc (.cells #[.int .i64 v.k,.int .i64 v.a,.int .i64 v.b,.string v.nm,.string v.mt,.slice v.A v.n v.c,.slice v.A2 v.n2 v.c2] 48)):=(DN _ _).alloc (DK _) _;have c5:(w.alloc (.cells #[.int .i64 v.k,.int .i64 v.a,.int .i64 v.b,.string v.nm,.string v.mt,.slice v.A v.n v.c,.slice v.A2 v.n2 v.c2] 48)).cell? ⟨w.heap.size,5,none⟩=some (.slice v.A v.n v.c):=(Blk.new w 48 _).cell 5;have hI2:=h.below hbel;have HL:=H_ h.len;have HB:=H_ hbel;have HG:=H_ (GlB.below hg hbel);have HI:=H_ hI;have hsz:w.heap.size+1=(w.alloc (.cells #[.int .i64 v.k,.int .i64 v.a,.int .i64 v.b,.string v.nm,.string v.mt,.slice v.A v.n v.c,.slice v.A2 v.n2 v.c2] 48)).heap.size:=by simp
 clear h hbel hg hI;go_enter Tryz.func192,Tryz.ntmps192;go_upto_region 1 with(fail);generalize w.alloc (.cells #[.int .i64 v.k,.int .i64 v.a,.int .i64 v.b,.string v.nm,.string v.mt,.slice v.A v.n v.c,.slice v.A2 v.n2 v.c2] 48)=W at*
 have hwW:w.heap.size<=W.heap.size:=by omega
 have HSZ:=H_ hsz;clear hsz;go_wp2_with fail;go_loopw [3,9] (λu i wr=>∃q:Nat,q<=v.n/\i= .int .i64 q/\wr.ownsRow W.heap.size 9 1 u q (qq (zs.take q))/\Below W.heap.size W wr) (λ_ i _=>v.n-(intOf i).toNat)
 case atStart=>exact⟨0,Ea _,rfl,Fi _ _ _ _,DN _ _⟩
 case round=>
  obtain⟨q,hq,rfl,hown,hbw⟩:=hrel;by_cases hlt:q<v.n
  ·obtain⟨b,off,z,hA,hbb,hz,hc⟩:=hI2.at_ hlt;have hc':=(ab hbw (by omega) _).trans hc;have hk0:0<=(q:Int):=by omega
   have hk1:(q:Int)<v.n:=by omega
   have HZ:=H_ hz;have HOWN:=H_ hown;have HBW:=H_ hbw;clear hz hc hown hbw;rw[hA];go_wp2_with fail;refine(mK _ _ (HI.out z (DW HZ.out)) (GlB.gl ((GlB.below HG.out (HBW.out.mono hwW)).more (DK _) (by have:=HBW.out.size;omega)))).mono ?_;rintro e w1 ⟨rfl,b1⟩;have hown1:=dY HOWN.out b1;have hb1:=HBW.out.trans (b1.mono HBW.out.size);clear b1 hc';go_wp2_with (at_builtin;refine FN _ rfl (.tmp 13) (.tmp 16) 67 rfl W.heap.size 9 i0 _ 1 16 Tryz.underlying67 hi hz0 hz1 hz2 rfl (by decide) _ _ _ rfl (hown1.alloc _) ⟨w1.heap.size,0,none⟩ 1 1 [.string (du z)] rfl rfl (λj u hu=>by rw[dh,ET,(Blk.new w1 9 #[.string (du z)]).cell j];simpa using hu) (by simp[Value.oneCell']) (by unfold maxLen;omega) (by omega) (by have:=hb1.size;simp;omega) ?_);intro u' w3 hown3 hgrow _;have hb3:=(hb1.alloc hb1.size _).grown hgrow (by have:=hb1.size;simp;omega) (λr hr=>(hown1.lt r hr).1);have HO3:=H_ hown3;have HB3:=H_ hb3;clear hown3 hgrow hb3 hb1 hown1;go_wp2_with fail;go_roundw
   case rel=>exact⟨q+1,by omega,by go_num,by rw[mE HZ.out];exact HO3.out,HB3.out⟩
   case measure=>simp[intOf];omega
  ·obtain rfl:q=v.n:=by omega
   have HO:=H_ hown;have HBW:=H_ hbw;clear hown hbw;go_wp2_with fail;go_ret;have h1:=HO.out;rw[DP (by rw[HL.out];omega)]at h1;have hlen:(zs.map du).length=v.n:=by rw[Fe];exact HL.out
   have hbel:=HB.out.trans (HBW.out.mono (by have:=HSZ.out;omega));obtain⟨A',c',h2|h2⟩:=eh h1
   ·obtain⟨rfl,_⟩:=h2;refine⟨A',c',by rw[hlen];rfl,?_,hbel⟩;rw[hlen];exact Row.aI h1 (by rw[Fe];exact hlen)
   ·obtain⟨rfl,h3⟩:=h2;refine⟨none,0,by rw[hlen,h3];rfl,?_,hbel⟩;rw[hlen,h3];exact⟨by rw[Fe,hlen,h3],λh0=>absurd h0 (Fv 0)⟩
def ints(ss:List ByteArray):List Value:=(ss.map dj).map (Value.int .i64)
theorem nT{ss:List ByteArray}{k:Nat}{s:ByteArray}(h:ss[k]?=some s):ints (ss.take (k+1))=ints (ss.take k)++[.int .i64 (dj s)]:=by
 unfold ints;rw[qe h,FQ];rfl
def pe(w:World)(L:Nat)(cs:Array Value)(j:Nat)(ss:List ByteArray)(e:Ending)(w':World):Prop:=
 ∃A c,e= .returned (.tuple #[.slice none 0 0,.bool true])/\Ints w' w'.heap.size A ss.length (ss.map dj)/\Blk w' L 48 (cs.setIfInBounds j (.slice A ss.length c))/\Below L w w'/\w.heap.size<=w'.heap.size/\∀b o,A=some ⟨b,o,none⟩->L<b
theorem kV{cs:Array Value}{j:Nat}:(cs.setIfInBounds j u).setIfInBounds j v=cs.setIfInBounds j v:=by simp
def tP(w:World)(L:Nat)(cs:Array Value)(k:Nat)(ss:List ByteArray)(e:Ending)(w':World):Prop:=(ss.all bY=true->pe w L cs k ss e w')/\(ss.all bY=false->e= .returned (.tuple #[.slice none 0 0,.bool false])/\Below L w w')
theorem wE(L:Nat)(cs:Array Value)(A:Option Addr)(n c:Nat)(ss:List ByteArray)(w:World)(hg:GlB w L)(hs:Strs w L A n ss)(hn:n<=1000000)(hsz:∀s∈ss,s.size<=1000000)(hL:Blk w L 48 cs)(hx:cs[6]?=some (.slice none 0 0)):Calls Tryz.prog 185 #[.pointer (some ⟨L,0,none⟩),.slice A n c] w (tP w L cs 6 ss):=by
 obtain⟨i0,hi,hz0,hz1,hz2⟩:=FY CO;have HLN:=H_ hs.len;have hLw:=hL.lt;have HX:=H_ hx;have HG:=H_ hg;have HSZ:=H_ hsz
 have hcs:cs.setIfInBounds 6 (.slice none 0 0)=cs:=by
  apply Array.ext_getElem?;intro k;rw[Fa];by_cases hk:6=k
  ·subst hk;rw[Ed rfl,Ed (Ef.1 hx).1,hx]
  ·rw[DS hk]
 have hL0:Blk w L 48 (cs.setIfInBounds 6 (.slice none 0 0)):=by rw[hcs];exact hL
 clear hx hg hsz hcs hL;go_enter Tryz.func185,Tryz.ntmps185;go_wp2_with fail;go_loopw [12] (λi wr=>∃(q:Nat) (u:Value),q<=n/\i= .int .i64 q/\wr.ownsRow w.heap.size 3 1 u q (ints (ss.take q))/\Blk wr L 48 (cs.setIfInBounds 6 u)/\Below L w wr/\w.heap.size<=wr.heap.size/\Hid ((ss.take q).all bY=true)) (λi _=>n-(intOf i).toNat)
 case atStart=>exact⟨0,_,Ea _,rfl,Fi _ _ _ _,hL0,DN _ _,DK _,H_ (by simp)⟩
 case round=>
  obtain⟨q,u,hq,rfl,hown,hbl,hbw,hsw,HAL⟩:=hrel;clear hL0;by_cases hlt:q<n
  ·obtain⟨b,off,s,rfl,hbb,hss,hc⟩:=hs.at_ hlt;have hc':=(ab hbw hbb _).trans hc;have hk0:0<=(q:Int):=by omega
   have hk1:(q:Int)<n:=by omega
   have hs6:=HSZ.out s (DW hss);have HSS:=H_ hss;have HOWN:=H_ hown;have HBL:=H_ hbl;have HBW:=H_ hbw;clear hss hc hown hbl hbw;go_wp2_with fail;refine(fj s _ (GlB.gl ((GlB.below HG.out HBW.out))) hs6).mono ?_;rintro e w1 ⟨rfl,b1⟩;cases hok:bY s with
   |false=>
    have HOK:=H_ hok;clear hok;have hbf:=HBW.out.trans (b1.mono (Ek (EF hLw) hsw));clear b1;go_wp2_with fail;go_ret2;exact⟨λh=>absurd (Ec.1 h s (DW HSS.out)) (by rw[HOK.out];simp),λ_=>⟨rfl,hbf⟩⟩
   |true=>
    have HOK:=H_ hok;clear hok;have hown1:=dY HOWN.out b1;have hbl1:=HBL.out.below b1 HBL.out.lt;have hb1:=HBW.out.trans (b1.mono (Ek (EF hLw) hsw));have hs1:=Ek hsw b1.size;have d5:w1.cell? ⟨L,6,none⟩=some u:=by rw[hbl1.cell];simp[Fa,(Ef.1 HX.out).1]
    have d6:(w1.alloc (.cells #[.int .i64 (dj s)] 3)).cell? ⟨L,6,none⟩=some u:=((hbl1.alloc _).cell 6).trans (by rw[<-hbl1.cell];exact d5);have HB1:=H_ (And.intro hbl1 hb1);clear b1 hc' hbl1 hb1;go_wp2_with (at_builtin;refine FN _ rfl (.tmp 27) (.tmp 29) 46 rfl w.heap.size 3 i0 _ 1 8 Tryz.underlying46 hi hz0 hz1 hz2 rfl (by decide) _ _ _ rfl (hown1.alloc _) ⟨w1.heap.size,0,none⟩ 1 1 [.int .i64 (dj s)] rfl rfl (λj u hu=>by rw[dh,ET,(Blk.new w1 3 #[.int .i64 (dj s)]).cell j];simpa using hu) (by simp[Value.oneCell']) (by unfold maxLen;omega) (by omega) (by simp;omega) ?_);intro u' w3 hown3 hgrow _;obtain⟨g',cap',rfl⟩:=ownsRow_succ hown3;have hLu:some L≠u.ownBlock:=λe=>by have:=(hown1.lt L e.symm).1;omega
    have hbl3:Blk w3 L 48 (cs.setIfInBounds 6 u):=(hgrow.block L (by simp;omega) hLu).trans (HB1.out.1.alloc _);have hLu':some L≠(Value.slice (some ⟨g',0,none⟩) (q+1) cap').ownBlock:=λe=>by have:=(hown3.lt L e.symm).1;omega
    have hb3:=((HB1.out.2.alloc (by omega) _).grown hgrow (by simp;omega) (λr hr=>by have:=(hown1.lt r hr).1;omega));have hs3:w.heap.size<=w3.heap.size:=by have:=hgrow.size;simp at this;omega
    have d7:w3.cell? ⟨L,6,none⟩=some u:=by rw[hbl3.cell];simp[Fa,(Ef.1 HX.out).1]
    have f7:=hbl3.frozen 6
    have HEND:=H_ (show(w3.setCell ⟨L,6,none⟩ (.slice (some ⟨g',0,none⟩) (q+1) cap')).ownsRow w.heap.size 3 1 (.slice (some ⟨g',0,none⟩) (q+1) cap') (q+1) (ints (ss.take (q+1)))/\Blk (w3.setCell ⟨L,6,none⟩ (.slice (some ⟨g',0,none⟩) (q+1) cap')) L 48 (cs.setIfInBounds 6 (.slice (some ⟨g',0,none⟩) (q+1) cap'))/\Below L w (w3.setCell ⟨L,6,none⟩ (.slice (some ⟨g',0,none⟩) (q+1) cap'))/\w.heap.size<=(w3.setCell ⟨L,6,none⟩ (.slice (some ⟨g',0,none⟩) (q+1) cap')).heap.size from
     ⟨pY (by rw[nT HSS.out];exact hown3) (λg hg=>DZ _ _ _ _ (λe=>hLu' (by rw[hg,e]))),by have:=hbl3.set 6 (.slice (some ⟨g',0,none⟩) (q+1) cap');rwa[kV]at this,hb3.setCell (DK _) _,by simpa using hs3⟩)
    clear hown3 hgrow hb3 hown1 hbl3 hLu hLu' HB1 hs3;go_wp2_with fail;go_roundw
    case rel=>exact⟨q+1,(.slice (some ⟨g',0,none⟩) (q+1) cap'),by omega,by go_num,HEND.out.1,HEND.out.2.1,HEND.out.2.2.1,HEND.out.2.2.2,H_ (by rw[br HSS.out,HAL.out,HOK.out];rfl)⟩
    case measure=>simp[intOf];omega
  ·obtain rfl:q=n:=by omega
   have HEND:=H_ (And.intro hown (And.intro hbl hbw));clear hown hbl hbw;go_wp2_with fail;go_ret2;have hal:=HAL.out;rw[DP (by rw[HLN.out];omega)]at hal;refine⟨λ_=>?_,λh=>by rw[hal]at h;cases h⟩;obtain⟨h1,h2,h3⟩:=HEND.out;rw[DP (by rw[HLN.out];omega)]at h1;have hlen:=HLN.out;obtain⟨A',c',h4|h4⟩:=eh h1
   ·obtain⟨rfl,_⟩:=h4;refine⟨A',c',rfl,?_,by rw[hlen];exact h2,h3,hsw,λb o hA=>DR hLw (h1.lt b (by rw[hA];rfl)).1⟩;rw[hlen];exact Row.aI h1 (by simp[hlen])
   ·obtain⟨rfl,h5⟩:=h4;refine⟨none,0,rfl,?_,by rw[hlen,h5];exact h2,h3,hsw,λb o hA=>by cases hA⟩;have:ss=[]:=En (by omega);subst this;exact⟨rfl,λh0=>absurd h0 (Fv 0)⟩
theorem rq(L:Nat)(cs:Array Value)(A:Option Addr)(n c:Nat)(ss:List ByteArray)(w:World)(hg:GlB w L)(hs:Strs w L A n ss)(hn:n<=1000000)(hsz:∀s∈ss,s.size<=1000000)(hL:Blk w L 48 cs)(hx:cs[6]?=some (.slice none 0 0))(hall:ss.all bY=true):Calls Tryz.prog 185 #[.pointer (some ⟨L,0,none⟩),.slice A n c] w (pe w L cs 6 ss):=
 (wE L cs A n c ss w hg hs hn hsz hL hx).mono λe w' h=>h.1 hall
theorem ur(L:Nat)(cs:Array Value)(A:Option Addr)(n c:Nat)(ss:List ByteArray)(w:World)(hg:GlB w L)(hs:Strs w L A n ss)(hn:n<=1000000)(hsz:∀s∈ss,s.size<=1000000)(hL:Blk w L 48 cs)(hx:cs[6]?=some (.slice none 0 0))(hall:ss.all bY=false):Calls Tryz.prog 185 #[.pointer (some ⟨L,0,none⟩),.slice A n c] w λe w'=>e= .returned (.tuple #[.slice none 0 0,.bool false])/\Below L w w':=
 (wE L cs A n c ss w hg hs hn hsz hL hx).mono λe w' h=>h.2 hall
theorem wD(L:Nat)(cs:Array Value)(A:Option Addr)(n c:Nat)(ss:List ByteArray)(w:World)(hg:GlB w L)(hs:Strs w L A n ss)(hn:n<=1000000)(hsz:∀s∈ss,s.size<=1000000)(hL:Blk w L 48 cs)(hx:cs[5]?=some (.slice none 0 0)):Calls Tryz.prog 191 #[.pointer (some ⟨L,0,none⟩),.slice A n c] w (tP w L cs 5 ss):=by
 obtain⟨i0,hi,hz0,hz1,hz2⟩:=FY CP;have HLN:=H_ hs.len;have hLw:=hL.lt;have HX:=H_ hx;have HG:=H_ hg;have HSZ:=H_ hsz
 have hcs:cs.setIfInBounds 5 (.slice none 0 0)=cs:=by
  apply Array.ext_getElem?;intro k;rw[Fa];by_cases hk:5=k
  ·subst hk;rw[Ed rfl,Ed (Ef.1 hx).1,hx]
  ·rw[DS hk]
 have hL0:Blk w L 48 (cs.setIfInBounds 5 (.slice none 0 0)):=by rw[hcs];exact hL
 clear hx hg hsz hcs hL;go_enter Tryz.func191,Tryz.ntmps191;go_wp2_with fail;go_loopw [12] (λi wr=>∃(q:Nat) (u:Value),q<=n/\i= .int .i64 q/\wr.ownsRow w.heap.size 2 1 u q (ints (ss.take q))/\Blk wr L 48 (cs.setIfInBounds 5 u)/\Below L w wr/\w.heap.size<=wr.heap.size/\Hid ((ss.take q).all bY=true)) (λi _=>n-(intOf i).toNat)
 case atStart=>exact⟨0,_,Ea _,rfl,Fi _ _ _ _,hL0,DN _ _,DK _,H_ (by simp)⟩
 case round=>
  obtain⟨q,u,hq,rfl,hown,hbl,hbw,hsw,HAL⟩:=hrel;clear hL0;by_cases hlt:q<n
  ·obtain⟨b,off,s,rfl,hbb,hss,hc⟩:=hs.at_ hlt;have hc':=(ab hbw hbb _).trans hc;have hk0:0<=(q:Int):=by omega
   have hk1:(q:Int)<n:=by omega
   have hs6:=HSZ.out s (DW hss);have HSS:=H_ hss;have HOWN:=H_ hown;have HBL:=H_ hbl;have HBW:=H_ hbw;clear hss hc hown hbl hbw;go_wp2_with fail;refine(fj s _ (GlB.gl ((GlB.below HG.out HBW.out))) hs6).mono ?_;rintro e w1 ⟨rfl,b1⟩;cases hok:bY s with
   |false=>
    have HOK:=H_ hok;clear hok;have hbf:=HBW.out.trans (b1.mono (Ek (EF hLw) hsw));clear b1;go_wp2_with fail;go_ret2;exact⟨λh=>absurd (Ec.1 h s (DW HSS.out)) (by rw[HOK.out];simp),λ_=>⟨rfl,hbf⟩⟩
   |true=>
    have HOK:=H_ hok;clear hok;have hown1:=dY HOWN.out b1;have hbl1:=HBL.out.below b1 HBL.out.lt;have hb1:=HBW.out.trans (b1.mono (Ek (EF hLw) hsw));have hs1:=Ek hsw b1.size;have d5:w1.cell? ⟨L,5,none⟩=some u:=by rw[hbl1.cell];simp[Fa,(Ef.1 HX.out).1]
    have d6:(w1.alloc (.cells #[.int .i64 (dj s)] 2)).cell? ⟨L,5,none⟩=some u:=((hbl1.alloc _).cell 5).trans (by rw[<-hbl1.cell];exact d5);have HB1:=H_ (And.intro hbl1 hb1);clear b1 hc' hbl1 hb1;go_wp2_with (at_builtin;refine FN _ rfl (.tmp 27) (.tmp 29) 45 rfl w.heap.size 2 i0 _ 1 8 Tryz.underlying45 hi hz0 hz1 hz2 rfl (by decide) _ _ _ rfl (hown1.alloc _) ⟨w1.heap.size,0,none⟩ 1 1 [.int .i64 (dj s)] rfl rfl (λj u hu=>by rw[dh,ET,(Blk.new w1 2 #[.int .i64 (dj s)]).cell j];simpa using hu) (by simp[Value.oneCell']) (by unfold maxLen;omega) (by omega) (by simp;omega) ?_);intro u' w3 hown3 hgrow _;obtain⟨g',cap',rfl⟩:=ownsRow_succ hown3;have hLu:some L≠u.ownBlock:=λe=>by have:=(hown1.lt L e.symm).1;omega
    have hbl3:Blk w3 L 48 (cs.setIfInBounds 5 u):=(hgrow.block L (by simp;omega) hLu).trans (HB1.out.1.alloc _);have hLu':some L≠(Value.slice (some ⟨g',0,none⟩) (q+1) cap').ownBlock:=λe=>by have:=(hown3.lt L e.symm).1;omega
    have hb3:=((HB1.out.2.alloc (by omega) _).grown hgrow (by simp;omega) (λr hr=>by have:=(hown1.lt r hr).1;omega));have hs3:w.heap.size<=w3.heap.size:=by have:=hgrow.size;simp at this;omega
    have d7:w3.cell? ⟨L,5,none⟩=some u:=by rw[hbl3.cell];simp[Fa,(Ef.1 HX.out).1]
    have f7:=hbl3.frozen 5
    have HEND:=H_ (show(w3.setCell ⟨L,5,none⟩ (.slice (some ⟨g',0,none⟩) (q+1) cap')).ownsRow w.heap.size 2 1 (.slice (some ⟨g',0,none⟩) (q+1) cap') (q+1) (ints (ss.take (q+1)))/\Blk (w3.setCell ⟨L,5,none⟩ (.slice (some ⟨g',0,none⟩) (q+1) cap')) L 48 (cs.setIfInBounds 5 (.slice (some ⟨g',0,none⟩) (q+1) cap'))/\Below L w (w3.setCell ⟨L,5,none⟩ (.slice (some ⟨g',0,none⟩) (q+1) cap'))/\w.heap.size<=(w3.setCell ⟨L,5,none⟩ (.slice (some ⟨g',0,none⟩) (q+1) cap')).heap.size from
     ⟨pY (by rw[nT HSS.out];exact hown3) (λg hg=>DZ _ _ _ _ (λe=>hLu' (by rw[hg,e]))),by have:=hbl3.set 5 (.slice (some ⟨g',0,none⟩) (q+1) cap');rwa[kV]at this,hb3.setCell (DK _) _,by simpa using hs3⟩)
    clear hown3 hgrow hb3 hown1 hbl3 hLu hLu' HB1 hs3;go_wp2_with fail;go_roundw
    case rel=>exact⟨q+1,(.slice (some ⟨g',0,none⟩) (q+1) cap'),by omega,by go_num,HEND.out.1,HEND.out.2.1,HEND.out.2.2.1,HEND.out.2.2.2,H_ (by rw[br HSS.out,HAL.out,HOK.out];rfl)⟩
    case measure=>simp[intOf];omega
  ·obtain rfl:q=n:=by omega
   have HEND:=H_ (And.intro hown (And.intro hbl hbw));clear hown hbl hbw;go_wp2_with fail;go_ret2;have hal:=HAL.out;rw[DP (by rw[HLN.out];omega)]at hal;refine⟨λ_=>?_,λh=>by rw[hal]at h;cases h⟩;obtain⟨h1,h2,h3⟩:=HEND.out;rw[DP (by rw[HLN.out];omega)]at h1;have hlen:=HLN.out;obtain⟨A',c',h4|h4⟩:=eh h1
   ·obtain⟨rfl,_⟩:=h4;refine⟨A',c',rfl,?_,by rw[hlen];exact h2,h3,hsw,λb o hA=>DR hLw (h1.lt b (by rw[hA];rfl)).1⟩;rw[hlen];exact Row.aI h1 (by simp[hlen])
   ·obtain⟨rfl,h5⟩:=h4;refine⟨none,0,rfl,?_,by rw[hlen,h5];exact h2,h3,hsw,λb o hA=>by cases hA⟩;have:ss=[]:=En (by omega);subst this;exact⟨rfl,λh0=>absurd h0 (Fv 0)⟩
theorem ro(L:Nat)(cs:Array Value)(A:Option Addr)(n c:Nat)(ss:List ByteArray)(w:World)(hg:GlB w L)(hs:Strs w L A n ss)(hn:n<=1000000)(hsz:∀s∈ss,s.size<=1000000)(hL:Blk w L 48 cs)(hx:cs[5]?=some (.slice none 0 0))(hall:ss.all bY=true):Calls Tryz.prog 191 #[.pointer (some ⟨L,0,none⟩),.slice A n c] w (pe w L cs 5 ss):=
 (wD L cs A n c ss w hg hs hn hsz hL hx).mono λe w' h=>h.1 hall
theorem uq(L:Nat)(cs:Array Value)(A:Option Addr)(n c:Nat)(ss:List ByteArray)(w:World)(hg:GlB w L)(hs:Strs w L A n ss)(hn:n<=1000000)(hsz:∀s∈ss,s.size<=1000000)(hL:Blk w L 48 cs)(hx:cs[5]?=some (.slice none 0 0))(hall:ss.all bY=false):Calls Tryz.prog 191 #[.pointer (some ⟨L,0,none⟩),.slice A n c] w λe w'=>e= .returned (.tuple #[.slice none 0 0,.bool false])/\Below L w w':=
 (wD L cs A n c ss w hg hs hn hsz hL hx).mono λe w' h=>h.2 hall
def Ao(x:Int×ByteArray×Int×Int):List Value:=[.int .i64 x.1,.string x.2.1,.int .i64 x.2.2.1,.int .i64 x.2.2.2]
def fU(ts:List (Int×ByteArray×Int×Int)):List Value:=ts.flatMap Ao
theorem zS:(Tryz.prog.info? 162).map (λi=>(i.zero,i.size,i.bytes))=some (some (.agg #[.int .i64 0,.string ⟨#[]⟩,.int .i64 0,.int .i64 0]),4,40):=by kernel_rfl
def yB(s:ByteArray)(w:World)(e':Ending)(w':World):Prop:=
 ∃(v:Value) (ts:List (Int×ByteArray×Int×Int)) (p e:Int),e'= .returned (.tuple #[v,.int .i64 p,.int .i64 e])/\Below w.heap.size w w'/\
  (e=0->w'.ownsRow w.heap.size 162 4 v ts.length (fU ts)/\1<=ts.length/\(2<=ts.length->∃k t x y R,ts[0]?=some (k,t,x,y)/\tO s R/\t.size<=R.size/\(k=2\/k=3->fG R k t)))/\
  (∀k,fG s k s->e=0/\ts.length=2/\∃x y,ts[0]?=some (k,s,x,y))/\
  (match dK s.data.toList with| .toks T=>e=0/\p=0/\ts=T| .err p' e''=>p=(p':Int)/\e=e''/\e≠0)
theorem ig(s:ByteArray)(w:World)(h:16384<s.size):Calls Tryz.prog 132 #[.string s] w λe' w'=>e'= .returned (.tuple #[.slice none 0 0,.int .i64 0,.int .i64 8])/\w=w':=by
 have h1:decide ((16384:Int)<(s.size:Int))=true:=by simp;omega
 go_enter Tryz.func132,Tryz.ntmps132;go_wp2_with fail;go_ret3;exact⟨rfl,rfl⟩
theorem dM{s:ByteArray}{k:Int}{t:ByteArray}(h:fG s k t):Begins s:=by
 obtain⟨c,l,h1,h2,_⟩:=h;refine⟨c,l,h1,?_⟩;have hm:=List.contains_iff_mem.1 h2;unfold gD at hm;simp only[DY,DX,Ew]at hm;rcases hm with rfl|rfl|rfl|rfl|rfl|rfl|rfl|rfl|rfl|rfl|rfl|rfl|rfl|rfl|rfl|rfl|rfl|rfl|rfl|rfl|rfl|rfl|rfl|rfl|rfl|rfl|rfl|rfl|rfl|rfl|rfl|rfl|rfl|rfl|rfl|rfl|rfl|rfl|rfl|rfl|rfl|rfl|rfl|rfl|rfl|rfl|rfl|rfl|rfl|rfl|rfl|rfl<;>decide
theorem uD(w:World):(binOp .eql 247 Value.nilFunc Value.nilFunc).run Tryz.prog w= .ok (.bool true) w:=by kernel_rfl
theorem x8(n:Nat)(w:World):(binOp .eql 247 (Value.func (.func n) #[] #[]) Value.nilFunc).run Tryz.prog w= .ok (.bool false) w:=by kernel_rfl
theorem rO{k v:Int}{t:ByteArray}(h:nu x k t v 0):x= .tok k t.data.toList v:=by
 cases x with
 |err e=>exact absurd rfl h.2
 |tok k' t' v'=>obtain⟨_,rfl,rfl,rfl⟩:=h;rfl
theorem rP{k v e:Int}{t:ByteArray}(h:nu x k t v e)(he:e≠0):x= .err e:=by
 cases x with
 |err e'=>obtain⟨rfl,_⟩:=h;rfl
 |tok k' t' v'=>exact absurd h.1 he
def ScF(s:ByteArray)(ts:List (Int×ByteArray×Int×Int))(r:ByteArray):Prop:=∃kk rr,dK s.data.toList=cV s.size kk rr ts/\bp false rr=r.data.toList/\r.size<kk
theorem ScF.nil{s r:ByteArray}(h:s.size<=16384)(hr:r.data.toList=bp false s.data.toList)(hs:r.size<=s.size):ScF s [] r:=
 ⟨s.size+1,s.data.toList,by unfold dK;rw[DS (by show ¬16384<s.size;omega)];rfl,hr.symm,by omega⟩
theorem ScF.end_{s:ByteArray}(h:ScF s ts ⟨#[]⟩):dK s.data.toList= .toks (ts++[(0,⟨#[]⟩,0,(s.size:Int))]):=by
 obtain⟨kk,rr,h1,h2,h3⟩:=h;obtain⟨kk,rfl⟩:∃k',kk=k'+1:=⟨kk-1,by omega⟩;rw[h1];unfold cV;rw[h2]
theorem ScF.err{s r:ByteArray}{e:Int}{c:UInt8}(h:ScF s ts r)(hr:r.data.toList=c::l)(ht:eB r.data.toList= .err e):dK s.data.toList= .err (s.size-r.size) e:=by
 obtain⟨kk,rr,h1,h2,h3⟩:=h;obtain⟨kk,rfl⟩:∃k',kk=k'+1:=⟨kk-1,by omega⟩;rw[h1];unfold cV;rw[h2,hr];simp only;rw[<-hr,ht];rfl
theorem ScF.step{s r R:ByteArray}{k v:Int}{t:ByteArray}{c:UInt8}(h:ScF s ts r)(hr:r.data.toList=c::l)(ht:eB r.data.toList= .tok k t.data.toList v)(ht1:1<=t.size)(hR:R.data.toList=bp false (r.extract t.size r.size).data.toList):
 ScF s (ts++[(k,t,v,((s.size-r.size:Nat):Int))]) R:=by
 obtain⟨kk,rr,h1,h2,h3⟩:=h;obtain⟨kk,rfl⟩:∃k',kk=k'+1:=⟨kk-1,by omega⟩
 have hx:(r.extract t.size r.size).data.toList=r.data.toList.drop t.size:=by
  rw[EO,F0,EH];exact DP (by rw[FJ];exact DK _)
 have hsk:=gq false (r.data.toList.drop t.size);rw[<-hx,<-hR,hx,FJ]at hsk;have hsz:R.size=R.data.toList.length:=rfl;have hrz:r.size=r.data.toList.length:=rfl;have htz:t.data.toList.length=t.size:=rfl;have hll:r.data.toList.length=l.length+1:=by rw[hr];rfl
 refine⟨kk,r.data.toList.drop t.size,?_,by rw[hR,hx],by omega⟩;rw[h1]
 conv=>lhs;unfold cV
 rw[h2,hr];simp only;rw[<-hr,ht];simp only;rw[htz,show ba t.data.toList=t from Eh (by simp[ba])];rfl
def Mid(s:ByteArray)(ts:List (Int×ByteArray×Int×Int))(r:ByteArray):Prop:=
 r.size+ts.length<=s.size/\((ts=[]/\tO s r)\/(∃k t x y R,ts[0]?=some (k,t,x,y)/\tO s R/\t.size<=R.size/\(k=2\/k=3->fG R k t)/\∀k',fG s k' s->ts.length=1/\r.size=0/\k=k'/\t=s))
theorem rj(s:ByteArray)(w:World)(hg:Gl w)(h:s.size<=16384):Calls Tryz.prog 132 #[.string s] w (yB s w):=by
 have h1:decide ((16384:Int)<(s.size:Int))=false:=by simp;omega
 have HG:=H_ hg;clear hg;go_enter Tryz.func132,Tryz.ntmps132;go_wp2_with fail;refine(ri _).mono ?_;rintro e w1 ⟨m,rfl,hm1,hwm,b1⟩;have HM1:=H_ hm1;have B1:=H_ b1;clear hm1 b1;go_wp2_with fail;refine(wk s _ (by omega)).mono ?_;rintro e w2 ⟨R0,rfl,b2,hsk⟩;have HM2:=H_ (HM1.out.below b2 HM1.out.lt);have B2:=htr B1 b2;have MID0:=H_ (show Mid s [] R0 from⟨by simpa using hsk.1.le,.inl ⟨rfl,hsk⟩⟩);have SCF0:=H_ (ScF.nil h hsk.2.2 hsk.1.le);clear hsk HM1 B1 b2;go_wp2_with fail;go_loopw [5,7] (λu i wr=>∃(ts:List (Int×ByteArray×Int×Int)) (r:ByteArray),i= .string r/\Hid (wr.ownsRow w.heap.size 162 4 u ts.length (fU ts))/\Hid (u.ownBlock≠some m)/\Hid (KMap wr m lU)/\Hid (Below w.heap.size w wr)/\Hid (Mid s ts r)/\Hid (ScF s ts r)) (λ_ i _=>(match i with| .string x=>x.size|_=>0))
 case atStart=>exact⟨[],R0,rfl,H_ (Fi _ _ _ _),H_ (by simp[Value.ownBlock]),HM2,B2,MID0,SCF0⟩
 case round=>
  clear HM2 B2 MID0 SCF0;obtain⟨ts,r,rfl,HO,HU,HM,HB,HMID,HSC⟩:=hrel;obtain⟨i0,hi,hz0,hz1,hz2⟩:=FY zS;have hsz:=HMID.out.1;have hbase:=HB.out.size;have hats:((s.size:Int)-(r.size:Int))=((s.size-r.size:Nat):Int):=by omega
  by_cases he:r=⟨#[]⟩
  ·subst he;have hown1:=HO.out;clear HM;go_wp2_with (at_builtin;refine FN _ rfl (.tmp 27) (.tmp 30) 155 rfl w.heap.size 162 i0 _ 4 40 Tryz.underlying155 hi hz0 hz1 hz2 rfl (by decide) _ _ _ rfl (hown1.alloc _) ⟨wr.heap.size,0,none⟩ 1 1 [.int .i64 0,.string ⟨#[]⟩,.int .i64 0,.int .i64 s.size] rfl rfl (λj u hu=>by rw[dh,ET,(Blk.new wr 162 #[.int .i64 0,.string ⟨#[]⟩,.int .i64 0,.int .i64 s.size]).cell j];simpa using hu) (by simp[Value.oneCell']) (by unfold maxLen;omega) (by omega) (by simp;omega) ?_);intro u' w3 hown3 hgrow _;have HW3:=H_ hown3;have B3:=H_ ((HB.out.alloc hbase (.cells #[.int .i64 0,.string ⟨#[]⟩,.int .i64 0,.int .i64 s.size] 162)).grown hgrow (by simp;omega) (λq hq=>(HO.out.lt q hq).1));clear hown1 hown3 hgrow;go_wp2_with fail;go_ret3;refine⟨u',ts++[(0,⟨#[]⟩,0,(s.size:Int))],0,0,rfl,B3.out,λ_=>⟨?_,by simp,λh2=>?_⟩,λk hk=>⟨rfl,?_,?_⟩,?_⟩
   ·have:=HW3.out;unfold fU at this⊢;rw[EX,DJ];exact this
   ·rcases HMID.out.2 with⟨rfl,_⟩|⟨k,t,x,y,R,h3,h4,h5,h6,_⟩
    ·simp at h2
    ·exact⟨k,t,x,y,R,by rw[EI (DQ.1 h3).1];exact h3,h4,h5,h6⟩
   ·rcases HMID.out.2 with⟨rfl,h3⟩|⟨_,_,_,_,_,_,_,_,_,h3⟩
    ·have h4:=h3.2.1 (dM hk);obtain⟨c,l,h5,_⟩:=hk;rw[<-h4]at h5;simp at h5
    ·rw[DJ,(h3 k hk).1];rfl
   ·rcases HMID.out.2 with⟨rfl,h3⟩|⟨k0,t,x,y,R,h3,h4,h5,h6,h7⟩
    ·have h4:=h3.2.1 (dM hk);obtain⟨c,l,h5,_⟩:=hk;rw[<-h4]at h5;simp at h5
    ·obtain⟨h8,_,rfl,rfl⟩:=h7 k hk;exact⟨x,y,by rw[EI (DQ.1 h3).1];exact h3⟩
   ·rw[HSC.out.end_];exact⟨rfl,rfl,rfl⟩
  ·obtain⟨c,l,hcl⟩:∃c l,r.data.toList=c::l:=by
    cases hb:r.data.toList with
    |nil=>exact absurd (Eh (by rw[hb])) he
    |cons c l=>exact⟨c,l,rfl⟩
   have hr1:1<=r.size:=by
    change 1<=r.data.toList.length;rw[hcl];simp
   have hr0:(0:Int)<(r.size:Int):=by omega
   have hne:r.toList.isEmpty=false:=by
    rw[Ey,hcl];rfl
   have hr0c:(r[0]'(by omega))=c:=by
    have h2:r.data.toList[0]?=some c:=by rw[hcl];rfl
    exact(DQ.1 h2).2
   have hlk:=wG HM.out c;have HFT:=H_ (uP r wr (GlB.gl (GlB.below HG.out HB.out)) (by omega) c l hcl);have HCL:=H_ hcl;clear hcl he;rcases HFT.out with⟨hp,hnn,htk⟩|⟨f,hp,hf,hcall⟩
   ·rw[hp]at hlk;have HNN:=H_ hnn;have HTK:=H_ (HSC.out.err HCL.out htk);clear htk;have hny:=uD;clear HFT hp hnn;go_wp2_with fail;go_ret3;refine⟨.slice none 0 0,[],_,3,rfl,HB.out,λh=>absurd h (by decide),λk' hk'=>?_,by rw[HTK.out];exact⟨rfl,rfl,by decide⟩⟩;rcases HMID.out.2 with⟨rfl,h3⟩|⟨_,_,_,_,_,_,_,_,_,h3⟩
    ·have h4:=h3.2.1 (dM hk');subst h4;exact absurd hk' (HNN.out _ _)
    ·have:=(h3 k' hk').2.1;omega
   ·rw[hp]at hlk;unfold fnv at hlk;have hny:=x8;have HC:=H_ hcall;clear HFT hp hcall;rcases hf with rfl|rfl|rfl
    all_goals
     go_wp2_with fail;refine HC.out.mono ?_;rintro e' w3 ⟨k,t,tv,e,rfl,b3,ht1,ht2,hlx⟩;have HLX:=H_ hlx;clear hlx;have B3:=H_ (HB.out.trans (b3.mono hbase));have HO3:=H_ (dY HO.out b3);have HM3:=H_ (HM.out.below b3 HM.out.lt);have HT:=H_ (And.intro ht1 ht2);have hb3:=b3.size;clear HC b3 ht1 ht2 hlk;unfold px;by_cases he0:e=0
     ·subst he0;go_upto_region 17 with fail;obtain⟨cs4,hcs4⟩:∃cs4:Array Value,#[.int .i64 k,.string t,.int .i64 tv,.int .i64 ((s.size-r.size:Nat):Int)]=cs4:=⟨_,rfl⟩;rw[hcs4];have HO4:=H_ (HO3.out.alloc (.cells cs4 162));have HM4:=H_ (HM3.out.alloc (.cells cs4 162));have B4:=H_ (B3.out.alloc B3.out.size (.cells cs4 162));have hq4:=Blk.new w3 162 cs4;have HU4:=H_ (λq hq=>(HO3.out.lt q hq).2);generalize w3.alloc (.cells cs4 162)=w4 at HO4 HM4 B4 hq4⊢;have hg4:=hq4.lt;generalize w3.heap.size=g4 at hq4 hg4 HU4⊢;subst hcs4;obtain⟨d0,d1,d2,d3⟩:=hq4.c4;have HQ4:=H_ hq4;have hbase4:=B4.out.size;clear hq4 HO3 HM3 B3;go_wp2_with (at_builtin;refine FN _ rfl (.tmp 51) (.tmp 53) 155 rfl w.heap.size 162 i0 _ 4 40 Tryz.underlying155 hi hz0 hz1 hz2 rfl (by decide) _ _ _ rfl (HO4.out.alloc _) ⟨w4.heap.size,0,none⟩ 1 1 [.int .i64 k,.string t,.int .i64 tv,.int .i64 ((s.size-r.size:Nat):Int)] rfl rfl (λj u hu=>by rw[dh,ET,(Blk.new w4 162 #[.int .i64 k,.string t,.int .i64 tv,.int .i64 ((s.size-r.size:Nat):Int)]).cell j];simpa using hu) (by simp[Value.oneCell']) (by unfold maxLen;omega) (by omega) (by simp;omega) ?_);intro u' w6 hown6 hgrow _;have HW6:=H_ hown6;have B6:=H_ ((B4.out.alloc hbase4 (.cells #[.int .i64 k,.string t,.int .i64 tv,.int .i64 ((s.size-r.size:Nat):Int)] 162)).grown hgrow (by simp;omega) (λq hq=>(HO4.out.lt q hq).1));have HM6:=H_ (show KMap w6 m lU from(hgrow.block m (by have:=HM4.out.lt;simp;omega) (λe=>HU.out e.symm)).trans (HM4.out.alloc _));have HQ6:=H_ (show Blk w6 g4 162 #[.int .i64 k,.string t,.int .i64 tv,.int .i64 ((s.size-r.size:Nat):Int)]from(hgrow.block g4 (by simp;omega) (λe=>by have:=HU4.out _ e.symm;omega)).trans (HQ4.out.alloc _));have d16:=HQ6.out.k1;have ht1:=(HT.out.1 (by trivial)).1;have ht2:=(HT.out.1 (by trivial)).2.1;have htz:(t.size:Int)<=(r.size:Int):=by omega
      have hxs:(r.extract t.size r.size).size=r.size-t.size:=by rw[ByteArray.size_extract];omega
      clear d0 d1 d2 d3 HO4 HM4 B4 HQ4 hown6 hgrow;go_wp2_with fail;refine(wk _ _ (by omega)).mono ?_;rintro e w7 ⟨R7,rfl,b7,hsk7⟩;have HS7:=H_ hsk7;have hle7:=hsk7.1.le;have HW7:=H_ (dY HW6.out b7);have HM7:=H_ (HM6.out.below b7 HM6.out.lt);have B7:=htr B6 b7;clear HW6 HM6 B6 HQ6 b7 hsk7 d16;go_wp2_with fail;go_roundw
      case rel=>
       refine⟨ts++[(k,t,tv,((s.size-r.size:Nat):Int))],R7,rfl,?_,?_,HM7,B7,?_,H_ (HSC.out.step HCL.out (rO HLX.out) ht1 HS7.out.2.2)⟩
       ·have:=HW7.out;unfold fU at this⊢;rw[EX,DJ];exact H_ this
       ·refine H_ λe=>?_;obtain⟨hm1,hm2⟩:=HW7.out;rcases hm2 with⟨rfl,_⟩|⟨g,cap,cur,rfl,_,hm3,_⟩
        ·simp[Value.ownBlock]at e
        ·simp only[Value.ownBlock,Option.some.injEq]at e;subst e;have:=HM7.out;unfold KMap at this;rw[this]at hm3;cases hm3
       ·refine H_ ⟨by rw[DJ,Fx];omega,.inr ?_⟩;rcases HMID.out.2 with⟨rfl,h3⟩|⟨k0,t0,x0,y0,Rr,h3,h4,h5,h6,h7⟩
        ·refine⟨k,t,tv,_,r,rfl,h3,ht2,(HT.out.1 (by trivial)).2.2,λk' hk'=>?_⟩;have h4:=h3.2.1 (dM hk');subst h4;obtain⟨_,h5,h6⟩:=HT.out.2 _ _ hk';subst h5 h6;exact⟨rfl,by omega,rfl,rfl⟩
        ·refine⟨k0,t0,x0,y0,Rr,by rw[EI (DQ.1 h3).1];exact h3,h4,h5,h6,λk' hk'=>?_⟩;have:=(h7 k' hk').2.1;omega
      case measure=>simp;omega
     ·go_wp2_with fail;go_ret3;refine⟨.slice none 0 0,[],_,e,rfl,B3.out.alloc B3.out.size _,λh=>absurd h he0,λk' hk'=>?_,by rw[HSC.out.err HCL.out (rP HLX.out he0)];exact⟨rfl,rfl,he0⟩⟩;rcases HMID.out.2 with⟨rfl,h3⟩|⟨_,_,_,_,_,_,_,_,_,h3⟩
      ·have h4:=h3.2.1 (dM hk');subst h4;exact absurd (HT.out.2 _ _ hk').1 he0
      ·have:=(h3 k' hk').2.1;omega
inductive PD where
 |numA (lo hi:Int)
 |numB (lo hi:Int)
 |nam (kind:Int)
 |met (kind:Int)
 |surv
 |rest (most:Int)
def ptr(b:Nat):Value:= .pointer (some ⟨b,0,none⟩)
def PartV(W:World)(B:Nat)(pd:PD)(vs:List Value):Prop:=
 match pd with
 | .numA lo hi=>∃b0 b1 b2,vs=[.func (.func 175) #[] #[ptr b0],.func (.func 177) #[] #[ptr b0],.func (.func 178) #[] #[ptr b0,ptr b1,ptr b2],.func (.func 179) #[] #[ptr b0]]/\b0<B/\b1<B/\b2<B/\Blk W b0 194 #[fnv 120]/\Blk W b1 3 #[.int .i64 lo]/\Blk W b2 3 #[.int .i64 hi]
 | .numB lo hi=>∃b0 b1 b2,vs=[.func (.func 175) #[] #[ptr b0],.func (.func 177) #[] #[ptr b0],.func (.func 178) #[] #[ptr b0,ptr b1,ptr b2],.func (.func 179) #[] #[ptr b0]]/\b0<B/\b1<B/\b2<B/\Blk W b0 194 #[fnv 121]/\Blk W b1 3 #[.int .i64 lo]/\Blk W b2 3 #[.int .i64 hi]
 | .nam k=>∃b0 b1,vs=[.func (.func 180) #[] #[ptr b0],.func (.func 181) #[] #[ptr b0],.func (.func 182) #[] #[ptr b0,ptr b1],.func (.func 184) #[] #[ptr b0]]/\b0<B/\b1<B/\Blk W b0 196 #[fnv 123]/\Blk W b1 3 #[.int .i64 k]
 | .met k=>∃b0 b1,vs=[.func (.func 180) #[] #[ptr b0],.func (.func 181) #[] #[ptr b0],.func (.func 182) #[] #[ptr b0,ptr b1],.func (.func 184) #[] #[ptr b0]]/\b0<B/\b1<B/\Blk W b0 196 #[fnv 124]/\Blk W b1 3 #[.int .i64 k]
 | .surv=>vs=[fnv 185,fnv 186,fnv 187,fnv 190]
 | .rest most=>∃b0,vs=[fnv 191,fnv 192,.func (.func 194) #[] #[ptr b0],fnv 197]/\b0<B/\Blk W b0 3 #[.int .i64 most]
theorem PartV.below{W':World}{pd:PD}(h:PartV W B pd vs)(hb:Below B W W'):PartV W' B pd vs:=by
 cases pd with
 |numA lo hi=>obtain⟨b0,b1,b2,e,h0,h1,h2,k0,k1,k2⟩:=h;exact⟨b0,b1,b2,e,h0,h1,h2,k0.below hb h0,k1.below hb h1,k2.below hb h2⟩
 |numB lo hi=>obtain⟨b0,b1,b2,e,h0,h1,h2,k0,k1,k2⟩:=h;exact⟨b0,b1,b2,e,h0,h1,h2,k0.below hb h0,k1.below hb h1,k2.below hb h2⟩
 |nam k=>obtain⟨b0,b1,e,h0,h1,k0,k1⟩:=h;exact⟨b0,b1,e,h0,h1,k0.below hb h0,k1.below hb h1⟩
 |met k=>obtain⟨b0,b1,e,h0,h1,k0,k1⟩:=h;exact⟨b0,b1,e,h0,h1,k0.below hb h0,k1.below hb h1⟩
 |surv=>exact h
 |rest m=>obtain⟨b0,e,h0,k0⟩:=h;exact⟨b0,e,h0,k0.below hb h0⟩
theorem PartV.more{B':Nat}{pd:PD}(h:PartV W B pd vs)(hB:B<=B'):PartV W B' pd vs:=by
 cases pd with
 |numA lo hi=>obtain⟨b0,b1,b2,e,h0,h1,h2,k⟩:=h;exact⟨b0,b1,b2,e,by omega,by omega,by omega,k⟩
 |numB lo hi=>obtain⟨b0,b1,b2,e,h0,h1,h2,k⟩:=h;exact⟨b0,b1,b2,e,by omega,by omega,by omega,k⟩
 |nam k=>obtain⟨b0,b1,e,h0,h1,k⟩:=h;exact⟨b0,b1,e,by omega,by omega,k⟩
 |met k=>obtain⟨b0,b1,e,h0,h1,k⟩:=h;exact⟨b0,b1,e,by omega,by omega,k⟩
 |surv=>exact h
 |rest m=>obtain⟨b0,e,h0,k⟩:=h;exact⟨b0,e,by omega,k⟩
theorem PartV.four{pd:PD}(h:PartV W B pd vs):∃a b c d,vs=[a,b,c,d]:=by
 cases pd with
 |numA lo hi=>obtain⟨b0,b1,b2,e,_⟩:=h;exact⟨_,_,_,_,e⟩
 |numB lo hi=>obtain⟨b0,b1,b2,e,_⟩:=h;exact⟨_,_,_,_,e⟩
 |nam k=>obtain⟨b0,b1,e,_⟩:=h;exact⟨_,_,_,_,e⟩
 |met k=>obtain⟨b0,b1,e,_⟩:=h;exact⟨_,_,_,_,e⟩
 |surv=>exact⟨_,_,_,_,h⟩
 |rest m=>obtain⟨b0,e,_⟩:=h;exact⟨_,_,_,_,e⟩
def fo(w:World)(pd:PD)(e:Ending)(w':World):Prop:=∃a b c d,e= .returned (.agg #[a,b,c,d])/\PartV w' w'.heap.size pd [a,b,c,d]/\Below w.heap.size w w'
theorem oC(lo hi:Int)(w:World):Calls Tryz.prog 119 #[fnv 120,.int .i64 lo,.int .i64 hi] w (fo w (.numA lo hi)):=by
 unfold fnv;go_enter Tryz.func119,Tryz.ntmps119;go_wp2;refine Ej (v:= .agg #[.func (.func 175) #[] #[ptr w.heap.size],.func (.func 177) #[] #[ptr w.heap.size],.func (.func 178) #[] #[ptr w.heap.size,ptr (w.heap.size+1),ptr (w.heap.size+2)],.func (.func 179) #[] #[ptr w.heap.size]]) (by simp[results,Tryz.results119,go_sem,ptr]) rfl ?_;have h0:=((((Blk.new w 194 #[.func (.func 120) #[] #[]]).alloc (.cells #[.int .i64 lo] 3)).alloc (.cells #[.int .i64 hi] 3)));have h1:=(Blk.new (w.alloc (.cells #[.func (.func 120) #[] #[]] 194)) 3 #[.int .i64 lo]).alloc (.cells #[.int .i64 hi] 3);have h2:=Blk.new ((w.alloc (.cells #[.func (.func 120) #[] #[]] 194)).alloc (.cells #[.int .i64 lo] 3)) 3 #[.int .i64 hi];rw[DV]at h1;rw[DV,DV]at h2;refine⟨_,_,_,_,rfl,⟨w.heap.size,w.heap.size+1,w.heap.size+2,rfl,by simp<;>omega,by simp<;>omega,by simp<;>omega,h0.alloc _,h1.alloc _,h2.alloc _⟩,?_⟩;exact(((((DN _ _).alloc (DK _) _).alloc (by simp) _).alloc (by simp;omega) _).alloc (by simp;omega) _)
theorem oB(lo hi:Int)(w:World):Calls Tryz.prog 119 #[fnv 121,.int .i64 lo,.int .i64 hi] w (fo w (.numB lo hi)):=by
 unfold fnv;go_enter Tryz.func119,Tryz.ntmps119;go_wp2;refine Ej (v:= .agg #[.func (.func 175) #[] #[ptr w.heap.size],.func (.func 177) #[] #[ptr w.heap.size],.func (.func 178) #[] #[ptr w.heap.size,ptr (w.heap.size+1),ptr (w.heap.size+2)],.func (.func 179) #[] #[ptr w.heap.size]]) (by simp[results,Tryz.results119,go_sem,ptr]) rfl ?_;have h0:=((((Blk.new w 194 #[.func (.func 121) #[] #[]]).alloc (.cells #[.int .i64 lo] 3)).alloc (.cells #[.int .i64 hi] 3)));have h1:=(Blk.new (w.alloc (.cells #[.func (.func 121) #[] #[]] 194)) 3 #[.int .i64 lo]).alloc (.cells #[.int .i64 hi] 3);have h2:=Blk.new ((w.alloc (.cells #[.func (.func 121) #[] #[]] 194)).alloc (.cells #[.int .i64 lo] 3)) 3 #[.int .i64 hi];rw[DV]at h1;rw[DV,DV]at h2;refine⟨_,_,_,_,rfl,⟨w.heap.size,w.heap.size+1,w.heap.size+2,rfl,by simp<;>omega,by simp<;>omega,by simp<;>omega,h0.alloc _,h1.alloc _,h2.alloc _⟩,?_⟩;exact(((((DN _ _).alloc (DK _) _).alloc (by simp) _).alloc (by simp;omega) _).alloc (by simp;omega) _)
theorem rL(k:Int)(w:World):Calls Tryz.prog 122 #[fnv 123,.int .i64 k] w (fo w (.nam k)):=by
 unfold fnv;go_enter Tryz.func122,Tryz.ntmps122;go_wp2;refine Ej (v:= .agg #[.func (.func 180) #[] #[ptr w.heap.size],.func (.func 181) #[] #[ptr w.heap.size],.func (.func 182) #[] #[ptr w.heap.size,ptr (w.heap.size+1)],.func (.func 184) #[] #[ptr w.heap.size]]) (by simp[results,Tryz.results122,go_sem,ptr]) rfl ?_;have h0:=(((Blk.new w 196 #[.func (.func 123) #[] #[]]).alloc (.cells #[.int .i64 k] 3)));have h1:=(Blk.new (w.alloc (.cells #[.func (.func 123) #[] #[]] 196)) 3 #[.int .i64 k]);rw[DV]at h1;refine⟨_,_,_,_,rfl,⟨w.heap.size,w.heap.size+1,rfl,by simp<;>omega,by simp<;>omega,h0.alloc _,h1.alloc _⟩,?_⟩;exact((((DN _ _).alloc (DK _) _).alloc (by simp) _).alloc (by simp;omega) _)
theorem rK(k:Int)(w:World):Calls Tryz.prog 122 #[fnv 124,.int .i64 k] w (fo w (.met k)):=by
 unfold fnv;go_enter Tryz.func122,Tryz.ntmps122;go_wp2;refine Ej (v:= .agg #[.func (.func 180) #[] #[ptr w.heap.size],.func (.func 181) #[] #[ptr w.heap.size],.func (.func 182) #[] #[ptr w.heap.size,ptr (w.heap.size+1)],.func (.func 184) #[] #[ptr w.heap.size]]) (by simp[results,Tryz.results122,go_sem,ptr]) rfl ?_;have h0:=(((Blk.new w 196 #[.func (.func 124) #[] #[]]).alloc (.cells #[.int .i64 k] 3)));have h1:=(Blk.new (w.alloc (.cells #[.func (.func 124) #[] #[]] 196)) 3 #[.int .i64 k]);rw[DV]at h1;refine⟨_,_,_,_,rfl,⟨w.heap.size,w.heap.size+1,rfl,by simp<;>omega,by simp<;>omega,h0.alloc _,h1.alloc _⟩,?_⟩;exact((((DN _ _).alloc (DK _) _).alloc (by simp) _).alloc (by simp;omega) _)
theorem ud(w:World):Calls Tryz.prog 125 #[] w (fo w .surv):=by
 go_enter Tryz.func125,Tryz.ntmps125;go_wp2;refine Ej (v:= .agg #[fnv 185,fnv 186,fnv 187,fnv 190]) (by simp[results,Tryz.results125,go_sem,fnv]) rfl ?_;exact⟨_,_,_,_,rfl,rfl,(DN _ _).alloc (DK _) _⟩
theorem wC(most:Int)(w:World):Calls Tryz.prog 126 #[.int .i64 most] w (fo w (.rest most)):=by
 go_enter Tryz.func126,Tryz.ntmps126;go_wp2;refine Ej (v:= .agg #[fnv 191,fnv 192,.func (.func 194) #[] #[ptr w.heap.size],fnv 197]) (by simp[results,Tryz.results126,go_sem,fnv,ptr]) rfl ?_;exact⟨_,_,_,_,rfl,⟨w.heap.size,rfl,by simp;omega,(Blk.new w 3 _).alloc _⟩,((DN _ _).alloc (DK _) _).alloc (by simp) _⟩
end
section
open Go
variable{i:Nat}{md:Region.Mode}{o:Oper}{ops:Array Oper}
def js(n:Nat)(ae:Array Bool):Nat:=((List.range n).filter λi=> !ae.getD i true).length
theorem jr{n:Nat}{ae:Array Bool}(hi:i<n)(hl:ae.getD i true=false):js n (ae.setIfInBounds i true)<js n ae:=by
 unfold js
 have hsz:i<ae.size:=by
  rcases ES i ae.size with h|h
  ·exact h
  ·simp[Array.getD,Nat.not_lt.2 h]at hl
 have hsub:∀j,(!(ae.setIfInBounds i true).getD j true)=true->(!ae.getD j true)=true:=by
  intro j hj;by_cases hji:i=j
  ·subst hji;simp[Array.getD,hsz]at hj
  ·simp only[Fk,EJ hji]at hj⊢;exact hj
 have hmem:i∈(List.range n).filter λj=> !ae.getD j true:=by simp[hi];simpa using hl
 have hnot:i∉(List.range n).filter λj=> !(ae.setIfInBounds i true).getD j true:=by simp[Array.getD,hsz]
 have hle:((List.range n).filter λj=> !(ae.setIfInBounds i true).getD j true)=((List.range n).filter λj=> !ae.getD j true).filter λj=> !(ae.setIfInBounds i true).getD j true:=by
  rw[List.filter_filter]
  congr 1
  funext j
  by_cases h:(!(ae.setIfInBounds i true).getD j true)=true
  ·rw[h,hsub j h];rfl
  ·rw[Bool.not_eq_true]at h;rw[h];rfl
 rw[hle];refine Nat.lt_of_le_of_ne (FL _ _) λe=>?_;have:=(List.length_filter_eq_length_iff.1 e) i hmem;simp[Array.getD,hsz]at this
theorem gj{P:Program}{md:Region.Mode}{ops:Array Oper}{Q:Exit->Act->World->Prop}{I:Array Bool->Act->World->Prop}
 (hstep:∀ae a w i,I ae a w->i∈Region.ready md ops ae->wpOp P ops Q i (I (ae.setIfInBounds i true)) a w)
 (hend:∀ae a w,I ae a w->Region.ready md ops ae=[]->Q .normal a w):
 ∀(fuel:Nat) (ae:Array Bool) (a:Act) (w:World),js ops.size ae<=fuel->I ae a w->wpAny P md ops Q fuel ae a w
 |0,ae,a,w,hf,hI=>by
  have hr:Region.ready md ops ae=[]:=by
   refine List.eq_nil_iff_forall_not_mem.2 λi hi=>?_;obtain⟨h1,o,ho,_⟩:=mem_ready.1 hi;have:=jr (n:=ops.size) (Ef.1 ho).1 h1;omega
  exact⟨hr,hend ae a w hI hr⟩
 |fuel+1,ae,a,w,hf,hI=>by
  refine⟨hend ae a w hI,λi hi=>?_⟩;obtain⟨h1,o,ho,_⟩:=mem_ready.1 hi;have:=jr (n:=ops.size) (Ef.1 ho).1 h1;exact wpOp_mono (λa' w' h'=>gj hstep hend fuel _ a' w' (by omega) h') (hstep ae a w i hI hi)
def pa(md:Region.Mode)(ops:Array Oper):Bool:=
 (List.range ops.size).all λi=>match ops[i]? with|none=>true|some o=>o.after.all λe=> !Region.binds md e||decide (e.on<i)
theorem gB(h:pa md ops=true)(ho:ops[i]?=some o):∀e∈o.after,Region.binds md e=true->e.on<i:=by
 intro e he hb;unfold pa at h;rw[Ec]at h;have h1:=h i (FC.2 (Ef.1 ho).1);simp only[ho]at h1;rw[Array.all_eq_true']at h1;have h2:=h1 e he;simpa[hb]using h2
theorem fF{md:Region.Mode}{ops:Array Oper}{ae:Array Bool}(hac:pa md ops=true)(hr:Region.ready md ops ae=[]):∀n i,i<n->i<ops.size->ae.getD i true=true
 |0,i,hi,_=>by omega
 |n+1,i,hi,hs=>by
  rcases Bool.eq_false_or_eq_true (ae.getD i true)with h|h
  ·exact h
  ·exfalso
   have hm:i∈Region.ready md ops ae:=mem_ready.2 ⟨h,ops[i],Eq hs,λe he hb=>by
    have hlt:=gB hac (Eq hs) e he hb;have h2:=fF hac hr n e.on (by omega) (by omega)
    have hsz:i<ae.size:=by
     rcases ES i ae.size with h'|h'
     ·exact h'
     ·simp[Array.getD,Nat.not_lt.2 h']at h
    have hsz2:e.on<ae.size:=by omega
    simpa[Array.getD,hsz2]using h2⟩
   rw[hr]at hm;cases hm
def upd(xs:Nat->Value)(i:Nat)(v:Value):Nat->Value:=λk=>if k=i then v else xs k
theorem pw(xs:Nat->Value)(i:Nat)(v:Value):upd xs i v i=v:=Ed rfl
theorem iZ(xs:Nat->Value){k:Nat}(v:Value)(h:k≠i):upd xs i v k=xs k:=DS h
def av(md:Region.Mode)(ops:Array Oper)(i j:Nat):Bool:=match ops[i]? with|none=>false|some o=>o.after.any λe=>Region.binds md e&&e.on==j
theorem ez{j:Nat}(ho:ops[i]?=some o)(h:av md ops i j=true):∃e∈o.after,Region.binds md e=true/\e.on=j:=by
 unfold av at h;simp only[ho]at h;rw[Array.any_eq_true']at h;obtain⟨e,he,h1⟩:=h;simp only[Ee,FG]at h1;exact⟨e,he,h1⟩
theorem ll{P:Program}{id:Nat}{Q:Exit->Act->World->Prop}{a:Act}{w:World}(fr:(Nat->Value)->Act)(xs0:Nat->Value)(J:World->Prop)(F:Nat->Value->World->Prop)
 (hm:P.follows .mixedOrders=true) (hac:pa .any ops=true) (ha:a=fr xs0) (hJ:J w.drew)
 (hstep:∀i,i<ops.size->∀xs W,J W->(∀j,(_:av .any ops i j=true:=by kernel_rfl)->F j (xs j) W)->
   wpOp P ops Q i (λa' W'=>∃v,a'=fr (upd xs i v)/\J W'/\F i v W'/\∀k u,F k u W->F k u W') (fr xs) W)
 (hend:∀xs W,J W->(∀i,(_:i<ops.size:=by decide)->F i (xs i) W)->Q .normal (fr xs) W):(Code.region id ops true).wp P Q a w:=by
 refine wp_region_any hm (gj (I:=λae a W=>∃xs,a=fr xs/\J W/\ae.size=ops.size/\∀i,i<ops.size->ae.getD i false=true->F i (xs i) W) ?_ ?_ _ _ _ _ ?_ ?_)
 ·rintro ae a W i ⟨xs,rfl,hJW,hsz,hF⟩ hi;obtain⟨h1,o,ho,hall⟩:=mem_ready.1 hi;have hil:=(Ef.1 ho).1
  refine wpOp_mono ?_ (hstep i hil xs W hJW λj hj=>by
   obtain⟨e,he,hb,rfl⟩:=ez ho hj;exact hF e.on (by have:=gB hac ho e he hb;omega) (hall e he hb))
  rintro a' W' ⟨v,rfl,hJ',hv,hk⟩;refine⟨_,rfl,hJ',by simpa using hsz,λk hkl hks=>?_⟩;by_cases hki:k=i
  ·subst hki;rw[pw];exact hv
  ·rw[iZ xs v hki];refine hk _ _ (hF k hkl ?_);have:i≠k:=λe=>hki e.symm;simpa only[Fk,EJ this]using hks
 ·rintro ae a W ⟨xs,rfl,hJW,hsz,hF⟩ hr;refine hend xs W hJW λi hi=>hF i hi ?_;have h1:=fF hac hr ops.size i hi hi;have hsz2:i<ae.size:=by omega
  simpa[Array.getD,hsz2]using h1
 ·refine Ek (FL _ _) (by simp)
 ·exact⟨xs0,ha,hJ,by simp,λi hi h=>by simp[Array.getD,hi]at h⟩
end
section
open Go.RowKit
variable{B B':Nat}{W W':World}{pds:List PD}{v:Value}
structure FD where
 k:Int
 word:ByteArray
 pds:List PD
def au:List FD:=[⟨0,⟨#[116,117,114,110]⟩,[.numA 1 8,.numB 0 1099511627776]⟩,⟨1,⟨#[100,101,108,105,118,101,114]⟩,[.numA 0 1099511627776]⟩,⟨2,⟨#[100,114,111,112]⟩,[.numA 0 1099511627776]⟩,⟨3,⟨#[100,111,117,98,108,101]⟩,[.numA 0 1099511627776]⟩,⟨4,⟨#[116,105,99,107]⟩,[.numA 1 8]⟩,⟨5,⟨#[109,105,110,111,114]⟩,[.numA 1 8]⟩,⟨6,⟨#[109,97,106,111,114]⟩,[.numA 1 8]⟩,⟨7,⟨#[99,114,97,115,104]⟩,[.numA 1 8,.surv]⟩,⟨8,⟨#[114,101,115,116,97,114,116]⟩,[.numA 1 8]⟩,⟨9,⟨#[99,104,101,99,107,112,111,105,110,116]⟩,[.numA 1 8]⟩,⟨10,⟨#[102,97,105,108]⟩,[.numA 1 8,.numB 0 1099511627776]⟩,⟨11,⟨#[115,112,97,119,110]⟩,[.numA 1 8,.nam 2,.met 3,.rest 30]⟩,⟨12,⟨#[112,111,115,116]⟩,[.nam 2,.met 2,.rest 8]⟩,⟨13,⟨#[114,101,108,101,97,115,101]⟩,[.nam 2]⟩,⟨14,⟨#[114,101,116,105,114,101]⟩,[.numA 1 8,.numB 1 8]⟩,⟨15,⟨#[99,97,108,109]⟩,[.numB 0 1000]⟩]
def Parts(W:World)(B b:Nat)(pds:List PD):Prop:=
 b<B/\∀i pd,pds[i]?=some pd->∃vs,PartV W B pd vs/\∀j v,vs[j]?=some v->W.cell? ⟨b,i*4+j,none⟩=some v
theorem Parts.below{b:Nat}(h:Parts W B b pds)(hb:Below B W W'):Parts W' B b pds:=
 ⟨h.1,λi pd hp=>by
  obtain⟨vs,h1,h2⟩:=h.2 i pd hp;exact⟨vs,h1.below hb,λj v hv=>(ab hb h.1 _).trans (h2 j v hv)⟩⟩
theorem Parts.more{b:Nat}(h:Parts W B b pds)(hB:B<=B'):Parts W B' b pds:=
 ⟨DR h.1 hB,λi pd hp=>by
  obtain⟨vs,h1,h2⟩:=h.2 i pd hp;exact⟨vs,h1.more hB,h2⟩⟩
def qy(fd:FD)(g:Nat):List Value:=[.int .i64 fd.k,.string fd.word,.slice (some ⟨g,0,none⟩) fd.pds.length fd.pds.length]
def Forms(W:World)(B b:Nat)(fds:List FD):Prop:=
 b<B/\∀i fd,fds[i]?=some fd->∃g,Parts W B g fd.pds/\∀j v,(qy fd g)[j]?=some v->W.cell? ⟨b,i*3+j,none⟩=some v
theorem Forms.below{b:Nat}{fds:List FD}(h:Forms W B b fds)(hb:Below B W W'):Forms W' B b fds:=
 ⟨h.1,λi pd hp=>by
  obtain⟨g,h1,h2⟩:=h.2 i pd hp;exact⟨g,h1.below hb,λj v hv=>(ab hb h.1 _).trans (h2 j v hv)⟩⟩
theorem Forms.more{b:Nat}{fds:List FD}(h:Forms W B b fds)(hB:B<=B'):Forms W B' b fds:=
 ⟨DR h.1 hB,λi pd hp=>by
  obtain⟨g,h1,h2⟩:=h.2 i pd hp;exact⟨g,h1.more hB,h2⟩⟩
def IsPart(W:World)(pd:PD)(v:Value):Prop:=∃a b c d,v= .agg #[a,b,c,d]/\PartV W W.heap.size pd [a,b,c,d]
def IsParts(W:World)(pds:List PD)(v:Value):Prop:=∃g,v= .slice (some ⟨g,0,none⟩) pds.length pds.length/\Parts W W.heap.size g pds
def IsForm(W:World)(fd:FD)(v:Value):Prop:=∃g,v= .agg #[.int .i64 fd.k,.string fd.word,.slice (some ⟨g,0,none⟩) fd.pds.length fd.pds.length]/\Parts W W.heap.size g fd.pds
def IsForms(W:World)(fds:List FD)(v:Value):Prop:=∃g,v= .slice (some ⟨g,0,none⟩) 16 16/\Forms W W.heap.size g fds
theorem IsPart.below{pd:PD}(h:IsPart W pd v)(hb:Below W.heap.size W W'):IsPart W' pd v:=by
 obtain⟨a,b,c,d,h1,h2⟩:=h;exact⟨a,b,c,d,h1,(h2.below hb).more hb.size⟩
theorem IsParts.below(h:IsParts W pds v)(hb:Below W.heap.size W W'):IsParts W' pds v:=by
 obtain⟨g,h1,h2⟩:=h;exact⟨g,h1,(h2.below hb).more hb.size⟩
theorem IsForm.below{fd:FD}(h:IsForm W fd v)(hb:Below W.heap.size W W'):IsForm W' fd v:=by
 obtain⟨g,h1,h2⟩:=h;exact⟨g,h1,(h2.below hb).more hb.size⟩
theorem IsForms.below{fds:List FD}(h:IsForms W fds v)(hb:Below W.heap.size W W'):IsForms W' fds v:=by
 obtain⟨g,h1,h2⟩:=h;exact⟨g,h1,(h2.below hb).more hb.size⟩
def F27(i:Nat)(v:Value)(W:World):Prop:=
 match i with
 |0=>IsPart W (.numA 1 8) v
 |1=>IsPart W (.numB 0 1099511627776) v
 |2=>IsParts W [.numA 1 8,.numB 0 1099511627776] v
 |3=>IsForm W ⟨0,⟨#[116,117,114,110]⟩,[.numA 1 8,.numB 0 1099511627776]⟩ v
 |4=>IsPart W (.numA 0 1099511627776) v
 |5=>IsParts W [.numA 0 1099511627776] v
 |6=>IsForm W ⟨1,⟨#[100,101,108,105,118,101,114]⟩,[.numA 0 1099511627776]⟩ v
 |7=>IsPart W (.numA 0 1099511627776) v
 |8=>IsParts W [.numA 0 1099511627776] v
 |9=>IsForm W ⟨2,⟨#[100,114,111,112]⟩,[.numA 0 1099511627776]⟩ v
 |10=>IsPart W (.numA 0 1099511627776) v
 |11=>IsParts W [.numA 0 1099511627776] v
 |12=>IsForm W ⟨3,⟨#[100,111,117,98,108,101]⟩,[.numA 0 1099511627776]⟩ v
 |13=>IsPart W (.numA 1 8) v
 |14=>IsParts W [.numA 1 8] v
 |15=>IsForm W ⟨4,⟨#[116,105,99,107]⟩,[.numA 1 8]⟩ v
 |16=>IsPart W (.numA 1 8) v
 |17=>IsParts W [.numA 1 8] v
 |18=>IsForm W ⟨5,⟨#[109,105,110,111,114]⟩,[.numA 1 8]⟩ v
 |19=>IsPart W (.numA 1 8) v
 |20=>IsParts W [.numA 1 8] v
 |21=>IsForm W ⟨6,⟨#[109,97,106,111,114]⟩,[.numA 1 8]⟩ v
 |22=>IsPart W (.numA 1 8) v
 |23=>IsPart W (.surv) v
 |24=>IsParts W [.numA 1 8,.surv] v
 |25=>IsForm W ⟨7,⟨#[99,114,97,115,104]⟩,[.numA 1 8,.surv]⟩ v
 |26=>IsPart W (.numA 1 8) v
 |27=>IsParts W [.numA 1 8] v
 |28=>IsForm W ⟨8,⟨#[114,101,115,116,97,114,116]⟩,[.numA 1 8]⟩ v
 |29=>IsPart W (.numA 1 8) v
 |30=>IsParts W [.numA 1 8] v
 |31=>IsForm W ⟨9,⟨#[99,104,101,99,107,112,111,105,110,116]⟩,[.numA 1 8]⟩ v
 |32=>IsPart W (.numA 1 8) v
 |33=>IsPart W (.numB 0 1099511627776) v
 |34=>IsParts W [.numA 1 8,.numB 0 1099511627776] v
 |35=>IsForm W ⟨10,⟨#[102,97,105,108]⟩,[.numA 1 8,.numB 0 1099511627776]⟩ v
 |36=>IsPart W (.numA 1 8) v
 |37=>IsPart W (.nam 2) v
 |38=>IsPart W (.met 3) v
 |39=>IsPart W (.rest 30) v
 |40=>IsParts W [.numA 1 8,.nam 2,.met 3,.rest 30] v
 |41=>IsForm W ⟨11,⟨#[115,112,97,119,110]⟩,[.numA 1 8,.nam 2,.met 3,.rest 30]⟩ v
 |42=>IsPart W (.nam 2) v
 |43=>IsPart W (.met 2) v
 |44=>IsPart W (.rest 8) v
 |45=>IsParts W [.nam 2,.met 2,.rest 8] v
 |46=>IsForm W ⟨12,⟨#[112,111,115,116]⟩,[.nam 2,.met 2,.rest 8]⟩ v
 |47=>IsPart W (.nam 2) v
 |48=>IsParts W [.nam 2] v
 |49=>IsForm W ⟨13,⟨#[114,101,108,101,97,115,101]⟩,[.nam 2]⟩ v
 |50=>IsPart W (.numA 1 8) v
 |51=>IsPart W (.numB 1 8) v
 |52=>IsParts W [.numA 1 8,.numB 1 8] v
 |53=>IsForm W ⟨14,⟨#[114,101,116,105,114,101]⟩,[.numA 1 8,.numB 1 8]⟩ v
 |54=>IsPart W (.numB 0 1000) v
 |55=>IsParts W [.numB 0 1000] v
 |56=>IsForm W ⟨15,⟨#[99,97,108,109]⟩,[.numB 0 1000]⟩ v
 |57=>IsForms W au v
 |58=>IsForms W au v
 |_=>True
theorem F27.below{i:Nat}(hb:Below W.heap.size W W')(h:F27 i v W):F27 i v W':=by
 unfold F27 at h⊢;split at h<;>first|exact IsPart.below h hb|exact IsParts.below h hb|exact IsForm.below h hb|exact IsForms.below h hb|trivial
end
end Go.Proofs.YtjpbckbpeblibaaGreatDoor
