/- part of a proof -/
import Derived.Test.YtjpbckbpeblibaaGreatDoorCC01
import Derived.Lib.IndexLaws
import Derived.Laws.EntriesVeiled
namespace Go.Proofs.YtjpbckbpeblibaaGreatDoor
set_option linter.unusedVariables false
set_option linter.unusedSimpArgs false
set_option maxRecDepth 100000
set_option maxHeartbeats 64000000
section
open Go.RowKit
variable{B g m:Nat}{d:TypeDesc}{e v:Int}{kt:TypeId}{kvs:List (Value×Value)}{l:List UInt8}{w:World}{x:ByteArray}
theorem Eb:type_of% @List.append_assoc:=@List.append_assoc
theorem Ec:type_of% @List.all_eq_true:=@List.all_eq_true
theorem Ej:type_of% @bodyPost_ret:=@bodyPost_ret
theorem Eo:type_of% @List.append_nil:=@List.append_nil
theorem EC:type_of% @List.mem_append:=@List.mem_append
theorem EF:type_of% @Nat.le_of_lt:=@Nat.le_of_lt
theorem EH:type_of% @List.extract_eq_take_drop:=@List.extract_eq_take_drop
theorem EJ:type_of% @Array.getElem?_setIfInBounds_ne:=@Array.getElem?_setIfInBounds_ne
theorem EM:type_of% @Result.andThen_ok:=@Result.andThen_ok
theorem EO:type_of% @ByteArray.data_extract:=@ByteArray.data_extract
theorem EQ:type_of% @List.take_add_one:=@List.take_add_one
theorem ER:type_of% @List.take_append_drop:=@List.take_append_drop
theorem EV:type_of% @List.takeWhile_cons_of_pos:=@List.takeWhile_cons_of_pos
theorem F0:type_of% @Array.toList_extract:=@Array.toList_extract
theorem Fg:type_of% @Sem.run_bind:=@Sem.run_bind
theorem Fh:type_of% @Sem.run_pure:=@Sem.run_pure
theorem FB:type_of% @List.length_eq_zero_iff:=@List.length_eq_zero_iff
theorem FQ:type_of% @List.map_append:=@List.map_append
def px(k:Int)(t:ByteArray)(v p:Int):Value:= .agg #[.int .i64 k,.string t,.int .i64 v,.int .i64 p]
def dy:ByteArray:=⟨#[97,98,99,100,101,102,103,104,105,106,107,108,109,110,111,112,113,114,115,116,117,118,119,120,121,122,65,66,67,68,69,70,71,72,73,74,75,76,77,78,79,80,81,82,83,84,85,86,87,88,89,90,48,49,50,51,52,53,54,55,56,57,95]⟩
def UP:ByteArray:=⟨#[65,66,67,68,69,70,71,72,73,74,75,76,77,78,79,80,81,82,83,84,85,86,87,88,89,90]⟩
def qr(t:ByteArray):Bool:=Lib.contains UP.data.toList (t.extract 0 1).data.toList
theorem ai{P:Program}{fn:Func}{p u:Tmp}{ty:TypeId}(h:fn.results= #[.cell p ty,.tmp u])(tmps:Array Value)(w:World)(g:Nat)(t:TypeId)(cs:Array Value)(d:TypeDesc)
 (hp:tmps.getD p undef= .pointer (some ⟨g,0,none⟩)) (hg:Blk w g t cs)
 (hu:P.underlying ty=some d) (hd:(match d with| .struct _| .array _ _=>true|_=>false)=true) (hi:(P.info? ty).map (·.size)=some cs.size):
 (results fn tmps).run P w= .ok (.tuple #[.agg cs,tmps.getD u undef]) w:=by
 rw[results_cell_tmp h,hp];simp[asAddr,Result.andThen,run_loadVar_row w g t ty cs (0,0) d hg hu hd hi]
theorem Blk.aH{t:TypeId}{a b c d a' b' c' d':Value}(h:Blk w g t #[a,b,c,d]):
 Blk ((((w.setCell ⟨g,0,none⟩ a').setCell ⟨g,1,none⟩ b').setCell ⟨g,2,none⟩ c').setCell ⟨g,3,none⟩ d') g t #[a',b',c',d']:=
 (((h.set 0 a').set 1 b').set 2 c').set 3 d'
theorem bB{a:World}(h:Below B a w)(hg:B<=g)(a' b' c' d':Value):
 Below B a ((((w.setCell ⟨g,0,none⟩ a').setCell ⟨g,1,none⟩ b').setCell ⟨g,2,none⟩ c').setCell ⟨g,3,none⟩ d'):=
 (((h.setCell (p:=⟨g,0,none⟩) hg a').setCell (p:=⟨g,1,none⟩) hg b').setCell (p:=⟨g,2,none⟩) hg c').setCell (p:=⟨g,3,none⟩) hg d'
theorem zA(s:ByteArray)(w:World)(hg:Gl w)(hs:s.size<=1000000)(hr:1<=(bM s dy).size):Calls Tryz.prog 250 #[.string s] w λe' w'=>∃k t e,e'= .returned (.tuple #[px k t 0 0,.int .i64 e])/\Below w.heap.size w w'/\
 (if 31<(bM s dy).size then e=8 else e=0/\t=bM s dy/\k=if inB kwL (bM s dy)then 4 else if qr (bM s dy)then 3 else 2):=by
 have hR:=H_ (rl s dy (by decide) (by decide) hs);unfold dy at hR;obtain⟨r,hr'⟩:∃r,bM s dy=r:=⟨_,rfl⟩;have hR':=hR.out;unfold dy at hr';rw[hr']at hR';have HR:=H_ hR';clear hR hR';rw[show bM s dy=r from hr']at hr⊢;clear hr';have hK:=H_ (CM r);have hC':=λ(m:Int)=>Tryz.strings_Contains UP (r.extract 0 1) m;unfold px qr;generalize Lib.contains UP.data.toList (r.extract 0 1).data.toList=u at hC'⊢;generalize inB kwL r=kw at hK⊢;unfold UP at hC';have hC:=H_ hC';clear hC';have hG:=H_ hg;clear hg;go_enter Tryz.func250,Tryz.ntmps250;go_upto_region 1 with(fail);obtain⟨w0,hw0⟩:=nm_ (w.alloc (.cells #[.int .i64 0,.string ⟨#[]⟩,.int .i64 0,.int .i64 0] 162));have q0:=Blk.nw hw0;have b0:=bal hw0;rw[hw0];have l0:=q0.lt;clear hw0;have B0:=H_ b0;have Q0:=H_ q0;clear b0 q0;go_wp2_with fail;refine(HR.out _).mono ?_;rintro e w1 ⟨rfl,hB⟩;have B1:=htr B0 hB;have Q1:=H_ (Q0.out.below hB l0);clear hB B0 Q0;go_upto_region 2 with(fail);obtain⟨w2,hw2⟩:=nm_ (w1.alloc (.cells #[.int .i64 2,.string r,.int .i64 0,.int .i64 0] 162));have q2:=Blk.nw hw2;have Q2:=H_ q2;have B2:=H_ (B1.out.alloc B1.out.size (.cells #[.int .i64 2,.string r,.int .i64 0,.int .i64 0] 162));have Q12:=H_ (Q1.out.alloc (.cells #[.int .i64 2,.string r,.int .i64 0,.int .i64 0] 162));rw[hw2]at B2 Q12⊢;have l2:=q2.lt;have l1:=Q1.out.lt;clear Q1 hw2 q2;obtain⟨g,hg⟩:=nm_ (w.heap.size);obtain⟨gh,hh⟩:=nm_ (w1.heap.size);have HW:=H_ (And.intro hg hh);rw[hg]at l0 l1 Q12 B2⊢;rw[hh]at l1 l2 Q2⊢;have hgh:g≠gh:=by omega
 clear hg hh B1;obtain⟨d0,d1,d2,d3⟩:=Q2.out.c4;obtain⟨e0,e1,e2,e3⟩:=Q12.out.c4;obtain⟨f0,f1,f2,f3⟩:=Q12.out.f4;by_cases hb:31<r.size
 ·have hbd:decide ((31:Int)<(r.size:Int))=true:=by simp;omega
  go_wp2_with fail
  (try simp only[Exit.inBlock,Exit.then])
  refine Ej (ai rfl _ _ g 162 _ _ rfl Q12.out.aH Tryz.underlying162 rfl (by kernel_rfl)) rfl ?_;exact⟨⟨_,_,rfl⟩,HW.out.1▸bB B2.out (DK _) _ _ _ _⟩
 ·have hbd:decide ((31:Int)<(r.size:Int))=false:=by simp;omega
  have HG2:=H_ (Gl.below hG.out (HW.out.1.symm▸B2.out));have h1:(r.extract 0 1).size=1:=by simp;omega
  go_wp2_with fail;refine(hK.out _ HG2.out).mono ?_;rintro e w3 ⟨rfl,b3⟩;have HG3:=H_ (HG2.out.below b3);have Q3:=H_ (Q2.out.below b3 l2);have Q13:=H_ (Q12.out.below b3 (by omega));have B3:=H_ (B2.out.trans (b3.mono (by have:=B2.out.size;have:=HW.out.1;omega)));have l3:=DR l2 b3.size;have hm3:=GlB.mx HG3.out;obtain⟨m,hm⟩:=hm3;clear d0 d1 d2 d3 e0 e1 e2 e3 f0 f1 f2 f3 b3 HG2 B2 Q2 Q12;obtain⟨d0,d1,d2,d3⟩:=Q3.out.c4;have x0:=Q3.out.frozen 0;obtain⟨e0,e1,e2,e3⟩:=Q13.out.c4;obtain⟨f0,f1,f2,f3⟩:=Q13.out.f4;cases kw with
  |true=>
   go_wp2_with fail
   (try simp only[Exit.inBlock,Exit.then])
   refine Ej (ai rfl _ _ g 162 _ _ rfl (Q13.out.other ⟨gh,0,none⟩ _ hgh).aH Tryz.underlying162 rfl (by kernel_rfl)) rfl ?_;refine⟨_,_,_,rfl,HW.out.1▸bB (B3.out.setCell (p:=⟨gh,0,none⟩) (EF l1) _) (DK _) _ _ _ _,?_⟩;exact⟨rfl,rfl,rfl⟩
  |false=>
   have hUP:=H_ (hC.out m w3 (by decide) hm);cases u with
   |true=>
    go_wp2_with (go_at_call 270;refine hUP.out.mono ?_;rintro e w4 ⟨rfl,rfl⟩)
    (try simp only[Exit.inBlock,Exit.then])
    refine Ej (ai rfl _ _ g 162 _ _ rfl (Q13.out.other ⟨gh,0,none⟩ _ hgh).aH Tryz.underlying162 rfl (by kernel_rfl)) rfl ?_;refine⟨_,_,_,rfl,HW.out.1▸bB (B3.out.setCell (p:=⟨gh,0,none⟩) (EF l1) _) (DK _) _ _ _ _,?_⟩;exact⟨rfl,rfl,rfl⟩
   |false=>
    go_wp2_with (go_at_call 270;refine hUP.out.mono ?_;rintro e w4 ⟨rfl,rfl⟩)
    (try simp only[Exit.inBlock,Exit.then])
    refine Ej (ai rfl _ _ g 162 _ _ rfl Q13.out.aH Tryz.underlying162 rfl (by kernel_rfl)) rfl ?_;refine⟨_,_,_,rfl,HW.out.1▸bB B3.out (DK _) _ _ _ _,?_⟩;exact⟨rfl,rfl,rfl⟩
def nu(x:Lx)(k:Int)(t:ByteArray)(v e:Int):Prop:=match x with
 | .tok k' t' v'=>e=0/\k=k'/\t.data.toList=t'/\v=v'
 | .err e'=>e=e'/\e≠0
theorem Cu(x:ByteArray):Lib.containsS (List.take 19 syL) x=inB bC x:=by
 have h:List.take 19 syL=bC:=by rfl
 rw[h];cases hb:inB bC x with
 |true=>
  unfold inB at hb;obtain⟨y,hy,hyx⟩:=Fs.1 hb
  have:y=x:=by
   have h:=(FG.1 hyx);rw[EN,EN]at h;exact Eh h
  subst this;exact(Lib.containsS_iff _ _).2 hy
 |false=>
  cases hc:Lib.containsS bC x with
  |false=>rfl
  |true=>
   have hm:=(Lib.containsS_iff _ _).1 hc;have:inB bC x=true:=Fs.2 ⟨x,hm,by simp⟩;rw[hb]at this;cases this
theorem mR(s:ByteArray)(m:Nat):s.extract 0 m=ba (s.data.toList.take m):=by
 refine Eh ?_;rw[EO,F0,EH];simp[ba]
theorem uc(s:ByteArray)(w:World)(hg:Gl w)(hs:s.size<=1000000)(h1:1<=s.size):Calls Tryz.prog 251 #[.string s] w λe' w'=>∃k t e,e'= .returned (.tuple #[px k t 0 0,.int .i64 e])/\Below w.heap.size w w'/\
 (e=0->k=5/\1<=t.size/\t.size<=s.size)/\nu (fL s.data.toList) k t 0 e:=by
 unfold px;obtain⟨A,c,hc,hk⟩:=GlB.sy hg;obtain⟨b,off,rfl,hb,hcell⟩:=hk.2 (by omega)
 have hC:=λ(W:World) (x:ByteArray) (hW:Below w.heap.size w W)=>Tryz.slices_Contains_string b off 19 c syL x W (by decide) (by decide) (λj hj=>by
  rw[ab hW hb];refine hcell j _ ?_;rw[Eu,Es,DT hj];rfl)
 have hsy:=Cu;generalize List.take 19 syL=sy at hC hsy;have HSY:=H_ hsy;clear hsy;have HC:=H_ hC;have HS:=H_ (And.intro (GlB.big hg) (GlB.le hg));clear hC hcell hk hb;obtain⟨m0,hm0⟩:∃m0:Nat,min (2:Int) (s.size:Int)=(m0:Int):=⟨min 2 s.size,by omega⟩;have hm1:m0<=s.size:=by omega
 have hm2:m0<=2:=by omega
 have HG:=H_ hg;clear hg;go_enter Tryz.func251,Tryz.ntmps251;go_upto_region 1 with(fail);obtain⟨w0,hw0⟩:=nm_ (w.alloc (.cells #[.int .i64 0,.string ⟨#[]⟩,.int .i64 0,.int .i64 0] 162));have q0:=Blk.nw hw0;have b0:=bal hw0;have H10:=HS.out.1;have HCELL:=H_ hc;rw[hw0];clear hw0 hc HG HS;obtain⟨g,hg⟩:=nm_ (w.heap.size);rw[hg]at q0 b0 HC H10⊢;have HQ:=H_ q0;have B0:=H_ b0;have HGG:=H_ hg;clear q0 b0 hg;go_wp2_with fail;go_loopw [4] (λi wr=>∃m:Nat,m<=2/\m<=s.size/\i= .int .i64 m/\Hid (Below g w wr)/\Hid (Blk wr g 162 #[.int .i64 0,.string ⟨#[]⟩,.int .i64 0,.int .i64 0])/\Hid (∀m',m<m'->m'<=2->m'<=s.size->Lib.containsS sy (s.extract 0 m')=false)) (λi _=>(intOf i).toNat)
 case atStart=>exact⟨m0,hm2,hm1,rfl,B0,HQ,H_ λm' h1 h2 h3=>by omega⟩
 case round=>
  clear B0 HQ;obtain⟨m,h2,hms,rfl,HB,HQ,HNO⟩:=hrel;have c6:=(ab HB.out (by omega) 0).trans HCELL.out;by_cases hpos:0<m
  ·have p1:(0:Int)<(m:Int):=by omega
   have p2:(m:Int)<=(s.size:Int):=by omega
   obtain⟨cb,hcb⟩:=nm_ (Lib.containsS sy (s.extract 0 m));have hCC:=λ(n:Nat)=>HC.out (wr.drewN n) (s.extract 0 m) (aT HB.out n);rw[hcb]at hCC;have HCC:=H_ hCC;have HCB:=H_ hcb;clear hcb hCC;cases cb with
   |true=>
    go_wp2_with fail;go_quiet ((go_at_call 271;exact FH (HCC.out _)));have HQ2:=H_ (show Blk (wr.drewN nq) g 162 _ from HQ.out);have e0:(wr.drewN nq).cell? ⟨g,0,none⟩=some (.int .i64 0):=HQ.out.cell 0;have e1:(wr.drewN nq).cell? ⟨g,1,none⟩=some (.string ⟨#[]⟩):=HQ.out.cell 1;have e2:(wr.drewN nq).cell? ⟨g,2,none⟩=some (.int .i64 0):=HQ.out.cell 2;have e3:(wr.drewN nq).cell? ⟨g,3,none⟩=some (.int .i64 0):=HQ.out.cell 3;obtain⟨f0,f1,f2,f3⟩:=HQ2.out.f4;have HB2:=H_ (aT HB.out nq);clear HB HQ HCC c6;generalize wr.drewN nq=W at*
    have s1:(s.extract 0 m).size=m:=by simp;omega
    have HLX:=H_ (show nu (fL s.data.toList) 5 (s.extract 0 m) 0 0 by
     have hc:=HCB.out;rw[HSY.out,mR]at hc;have hsl:s.data.toList.length=s.size:=rfl;have hxt:(s.extract 0 m).data.toList=s.data.toList.take m:=by rw[mR];simp[ba]
     unfold fL;obtain rfl|rfl:m=1\/m=2:=by omega
     ·rw[DS (λh=>by
       have:=HNO.out 2 (by omega) (by omega) (by rw[<-hsl];exact h.1);rw[HSY.out,mR]at this;rw[this]at h;exact absurd h.2 (by simp)),Ed hc]
      exact⟨rfl,rfl,hxt,rfl⟩
     ·rw[Ed ⟨by rw[hsl];exact hms,hc⟩];exact⟨rfl,rfl,hxt,rfl⟩)
    go_wp2_with fail
    (try simp only[Exit.inBlock,Exit.then])
    refine Ej (ai rfl _ _ g 162 _ _ rfl HQ2.out.aH Tryz.underlying162 rfl (by kernel_rfl)) rfl ?_;exact⟨_,_,_,rfl,HGG.out▸bB HB2.out (DK _) _ _ _ _,λ_=>⟨rfl,by omega,by omega⟩,HLX.out⟩
   |false=>
    have HNO2:=H_ (show∀m',m-1<m'->m'<=2->m'<=s.size->Lib.containsS sy (s.extract 0 m')=false from λm' a1 a2 a3=>by
     by_cases hm':m'=m
     ·subst hm';exact HCB.out
     ·exact HNO.out m' (by omega) a2 a3)
    go_wp2_with fail;go_quiet ((go_at_call 271;exact FH (HCC.out _)));have HQ2:=H_ (show Blk (wr.drewN nq) g 162 _ from HQ.out);have HB2:=H_ (aT HB.out nq);clear HB HQ HCC c6;generalize wr.drewN nq=W at*
    go_wp2_with fail;go_roundw
    case rel=>exact⟨m-1,by omega,by omega,by go_num,HB2,HQ2,HNO2⟩
    case measure=>simp[intOf];omega
  ·obtain rfl:m=0:=by omega
   have HLX:=H_ (show nu (fL s.data.toList) 0 ⟨#[]⟩ 0 3 by
    have hsl:s.data.toList.length=s.size:=rfl;have hc1:=HNO.out 1 (by omega) (by omega) h1;rw[HSY.out,mR]at hc1;unfold fL
    rw[DS (λh=>by
     have:=HNO.out 2 (by omega) (by omega) (by rw[<-hsl];exact h.1);rw[HSY.out,mR]at this;rw[this]at h;exact absurd h.2 (by simp)),DS (by rw[hc1];simp)]
    exact⟨rfl,by decide⟩)
   obtain⟨e0,e1,e2,e3⟩:=HQ.out.c4;obtain⟨f0,f1,f2,f3⟩:=HQ.out.f4;go_wp2_with fail
   (try simp only[Exit.inBlock,Exit.then])
   refine Ej (ai rfl _ _ g 162 _ _ rfl HQ.out.aH Tryz.underlying162 rfl (by kernel_rfl)) rfl ?_;exact⟨_,_,_,rfl,HGG.out▸bB HB.out (DK _) _ _ _ _,λh=>absurd h (by decide),HLX.out⟩
def DIG:ByteArray:=⟨#[48,49,50,51,52,53,54,55,56,57]⟩
def ly:ByteArray:=⟨#[97,98,99,100,101,102,103,104,105,106,107,108,109,110,111,112,113,114,115,116,117,118,119,120,121,122,65,66,67,68,69,70,71,72,73,74,75,76,77,78,79,80,81,82,83,84,85,86,87,88,89,90,95]⟩
theorem sX(s set:ByteArray):(bM s set).size<=s.size:=by
 unfold bM;rw[ByteArray.size_extract];omega
theorem gt(s set:ByteArray):(bM s set).data.toList=s.data.toList.takeWhile (set.data.toList.contains ·):=by
 unfold bM;have h:=List.takeWhile_append_dropWhile (p:=(set.data.toList.contains ·)) (l:=s.data.toList)
 have hsz:s.size-(i1 s set).size=(s.data.toList.takeWhile (set.data.toList.contains ·)).length:=by
  have h2:=Fo List.length h;rw[DJ]at h2;change s.data.toList.length-(Lib.trimLeftS s.data.toList set.data.toList).length=_;unfold Lib.trimLeftS;omega
 rw[hsz,EO,F0,EH,List.drop_zero,Nat.sub_zero];have h4:=List.take_left (l₁:=s.data.toList.takeWhile (set.data.toList.contains ·)) (l₂:=s.data.toList.dropWhile (set.data.toList.contains ·));rw[h]at h4;exact h4
theorem jW(c:UInt8):DIG.data.toList.contains c=ea c:=by
 have h:∀n:Fin 256,DIG.data.toList.contains (UInt8.ofNat n.val)=ea (UInt8.ofNat n.val):=by decide+kernel
 have:=h ⟨c.toNat,c.toNat_lt⟩;simpa using this
theorem BC(c:UInt8):ly.data.toList.contains c=(eV c||c==95):=by
 have h:∀n:Fin 256,ly.data.toList.contains (UInt8.ofNat n.val)=(eV (UInt8.ofNat n.val)||UInt8.ofNat n.val==95):=by decide+kernel
 have:=h ⟨c.toNat,c.toNat_lt⟩;simpa using this
theorem jk{x:Lx}(h:x= .err e)(h0:e≠0)(k:Int)(t:ByteArray)(v:Int):nu x k t v e:=by subst h;exact⟨rfl,h0⟩
theorem xx{x:Lx}{k:Int}{t:ByteArray}(h:x= .tok k t.data.toList v):nu x k t v 0:=by subst h;exact⟨rfl,rfl,rfl,rfl⟩
theorem xL{r:ByteArray}(h:0<r.size):r.data.toList.head?=some (r[0]'h):=by
 have h2:r.data.toList[0]?=some (r[0]'h):=DQ.2 ⟨h,rfl⟩;rw[<-h2,List.head?_eq_getElem?]
theorem BN{r:ByteArray}(h:1<r.size)(hch:(r[0]'(by omega)).toNat=48):2<=r.size/\r.data.toList.head?=some 48:=
 ⟨h,by rw[xL (by omega)];congr 1;exact UInt8.toNat_inj.1 hch⟩
theorem CK{r:ByteArray}(h:1<r.size)(hch:(r[0]'(by omega)).toNat≠48):¬(2<=r.size/\r.data.toList.head?=some 48):=λ⟨_,h2⟩=>by
 rw[xL (by omega)]at h2;simp only[Option.some.injEq]at h2;exact hch (by rw[h2];rfl)
theorem xw{p:UInt8->Bool}{c:UInt8}:∀{l:List UInt8},c∈l.takeWhile p->p c=true
 |[],h=>by cases h
 |d::l,h=>by
  cases hd:p d with
  |true=>
   rw[EV hd]at h;rcases DY.1 h with rfl|h
   ·exact hd
   ·exact xw h
  |false=>rw[List.takeWhile_cons_of_neg (by rw[hd];simp)]at h;cases h
theorem uB(s:ByteArray)(hr:1<=(bM s DIG).size):
 ((2<=(bM s DIG).size/\(bM s DIG).data.toList.head?=some 48)->ku s.data.toList= .err 3)/\
 (bM (s.extract (bM s DIG).size s.size) ly≠⟨#[]⟩->ku s.data.toList= .err 3)/\
 (¬(2<=(bM s DIG).size/\(bM s DIG).data.toList.head?=some 48)->bM (s.extract (bM s DIG).size s.size) ly=⟨#[]⟩->
   ku s.data.toList=if 2305843009213693951<iM (bM s DIG).data.toList then .err 2 else .tok 1 (bM s DIG).data.toList (iM (bM s DIG).data.toList:Int))/\
 (match Lib.parseIntB 64 (bM s DIG).data.toList with| .ok v=>v=(iM (bM s DIG).data.toList:Int)|_=>2305843009213693951<iM (bM s DIG).data.toList):=by
 have ht:(bM s DIG).data.toList=s.data.toList.takeWhile ea:=by
  rw[gt]
  congr 1
  funext c
  exact jW c
 have hsz:(bM s DIG).size=(s.data.toList.takeWhile ea).length:=by rw[<-ht];rfl
 have hrest:(s.extract (bM s DIG).size s.size).data.toList=s.data.toList.dropWhile ea:=by
  rw[EO,F0,EH,hsz];have h:=List.takeWhile_append_dropWhile (p:=ea) (l:=s.data.toList)
  have h2:s.data.toList.drop (s.data.toList.takeWhile ea).length=s.data.toList.dropWhile ea:=by
   have h9:=List.drop_left (l₁:=s.data.toList.takeWhile ea) (l₂:=s.data.toList.dropWhile ea);rw[h]at h9;exact h9
  rw[h2];refine DP ?_;have h3:=Fo List.length h;rw[DJ]at h3;have h4:s.size=s.data.toList.length:=rfl;omega
 have hr2:(bM (s.extract (bM s DIG).size s.size) ly≠⟨#[]⟩)↔((s.data.toList.dropWhile ea).head?.any λc=>eV c||c==95)=true:=by
  have h1:=gt (s.extract (bM s DIG).size s.size) ly;rw[hrest]at h1
  have h2:(bM (s.extract (bM s DIG).size s.size) ly≠⟨#[]⟩)↔(bM (s.extract (bM s DIG).size s.size) ly).data.toList≠[]:=by
   constructor
   ·exact λh e=>h (Eh (by rw[e]))
   ·exact λh e=>h (by rw[e])
  rw[h2,h1];cases hd:s.data.toList.dropWhile ea with
  |nil=>simp
  |cons c l=>
   simp only[List.head?_cons,Option.any_some];rw[<-BC c];cases hc:ly.data.toList.contains c with
   |true=>rw[EV hc];simp
   |false=>rw[List.takeWhile_cons_of_neg (by rw[hc];simp)];simp
 have hr':1<=(s.data.toList.takeWhile ea).length:=by rw[<-hsz];exact hr
 rw[hsz]at hr2;rw[ht,hsz];refine⟨λh=>?_,λh=>?_,λh h2=>?_,?_⟩
 ·unfold ku;simp only;rw[Ed (.inl h)]
 ·unfold ku;simp only;rw[Ed (.inr (hr2.1 h))]
 ·unfold ku;simp only
  rw[DS (λh3=>by
   rcases h3 with h3|h3
   ·exact h h3
   ·exact hr2.2 h3 h2)]
 ·refine ux (λe=>by rw[e]at hr';simp at hr') (λc hc=>xw hc)
theorem uA(s:ByteArray)(w:World)(hg:Gl w)(hs:s.size<=1000000)(hr:1<=(bM s DIG).size):Calls Tryz.prog 249 #[.string s] w λe' w'=>∃k t v e,e'= .returned (.tuple #[px k t v 0,.int .i64 e])/\Below w.heap.size w w'/\
 (e=0->k=1/\1<=t.size/\t.size<=s.size)/\nu (ku s.data.toList) k t v e:=by
 unfold px;have hR:=rl s DIG (by decide) (by decide) hs;have hrs:=sX s DIG;have hnc:=uB s hr;generalize bM s DIG=r at hr hR hrs hnc⊢;have hsz:(s.extract r.size s.size).size<=1000000:=by rw[ByteArray.size_extract];omega
 have hR2:=rl (s.extract r.size s.size) ly (by decide) (by decide) hsz;generalize bM (s.extract r.size s.size) ly=r2 at hR2 hnc;have HNC:=H_ hnc;clear hnc;unfold DIG at hR;unfold ly at hR2;have HR:=H_ hR;have HR2:=H_ hR2;clear hR hR2 hsz;have hr0:(0:Int)<(r.size:Int):=by omega
 have hrs0:(r.size:Int)<=(s.size:Int):=by omega
 have hG:=H_ hg;clear hg;go_enter Tryz.func249,Tryz.ntmps249;go_upto_region 1 with(fail);obtain⟨w0,hw0⟩:=nm_ (w.alloc (.cells #[.int .i64 0,.string ⟨#[]⟩,.int .i64 0,.int .i64 0] 162));have q0:=Blk.nw hw0;have b0:=bal hw0;rw[hw0];clear hw0;obtain⟨g,hg⟩:=nm_ (w.heap.size);rw[hg]at q0 b0⊢;have l0:=q0.lt;have HQ:=H_ q0;have B0:=H_ b0;have HGG:=H_ hg;clear q0 b0 hg;go_wp2_with fail;refine(HR.out _).mono ?_;rintro e w1 ⟨rfl,b1⟩;have Q1:=H_ (HQ.out.below b1 l0);have l1:=DR l0 b1.size;have B1:=H_ (B0.out.trans (b1.mono (EF l0)));clear b1 B0 HQ HR l0;by_cases hone:(1:Int)<(r.size:Int)
 ·obtain⟨ch,hch⟩:=nm_ ((r[0]'(by omega)).toNat);by_cases hz:ch=48
  ·subst hz;have HZ:=H_ (BN (r:=r) (by omega) hch);obtain⟨e0,e1,e2,e3⟩:=Q1.out.c4;obtain⟨f0,f1,f2,f3⟩:=Q1.out.f4;go_wp2_with fail
   (try simp only[Exit.inBlock,Exit.then])
   refine Ej (ai rfl _ _ g 162 _ _ rfl Q1.out.aH Tryz.underlying162 rfl (by kernel_rfl)) rfl ?_;exact⟨_,_,_,_,rfl,HGG.out▸bB B1.out (DK _) _ _ _ _,λh=>absurd h (by decide),jk (HNC.out.1 HZ.out) (by decide) _ _ _⟩
  ·have HZ:=H_ (CK (r:=r) (by omega) (by rw[hch];exact hz));have hz':((ch:Int)==48)=false:=DM.2 (by omega);have hB2:=HR2.out w1;by_cases he:r2=⟨#[]⟩
   ·subst he;go_wp2_with fail;refine hB2.mono ?_;rintro e w2 ⟨rfl,b2⟩;have Q2:=H_ (Q1.out.below b2 l1);have l2:=DR l1 b2.size;have B2:=H_ (B1.out.trans (b2.mono (EF l1)));have hg2:=Gl.below hG.out (HGG.out.symm▸B2.out);have HG2:=H_ hg2;clear b2 B1 Q1 hB2 hg2;by_cases hp:∃v,Lib.parseIntB 64 r.data.toList= .ok v
    ·obtain⟨v,hv⟩:=hp;have HV:=H_ (show v=(iM r.data.toList:Int) by have:=HNC.out.2.2.2;rw[hv]at this;exact this);have HP:=H_ (λW=>jg r v W (by omega) hv);clear hv;by_cases hmx:(2305843009213693951:Int)<v
     ·go_wp2_with fail;refine(HP.out _).mono ?_;rintro e w3 ⟨rfl,b3⟩;have Q3:=H_ (Q2.out.below b3 l2);have B3:=H_ (B2.out.trans (b3.mono (EF l2)));clear b3 B2 Q2;obtain⟨e0,e1,e2,e3⟩:=Q3.out.c4;obtain⟨f0,f1,f2,f3⟩:=Q3.out.f4;go_wp2_with fail
      (try simp only[Exit.inBlock,Exit.then])
      refine Ej (ai rfl _ _ g 162 _ _ rfl Q3.out.aH Tryz.underlying162 rfl (by kernel_rfl)) rfl ?_;exact⟨_,_,_,_,rfl,HGG.out▸bB B3.out (DK _) _ _ _ _,λh=>absurd h (by decide),jk ((HNC.out.2.2.1 HZ.out (by first|trivial|rfl)).trans (Ed (by have:=HV.out;omega))) (by decide) _ _ _⟩
     ·go_wp2_with fail;refine(HP.out _).mono ?_;rintro e w3 ⟨rfl,b3⟩;have Q3:=H_ (Q2.out.below b3 l2);have B3:=H_ (B2.out.trans (b3.mono (EF l2)));clear b3 B2 Q2;obtain⟨e0,e1,e2,e3⟩:=Q3.out.c4;obtain⟨f0,f1,f2,f3⟩:=Q3.out.f4;go_wp2_with fail
      (try simp only[Exit.inBlock,Exit.then])
      refine Ej (ai rfl _ _ g 162 _ _ rfl Q3.out.aH Tryz.underlying162 rfl (by kernel_rfl)) rfl ?_;exact⟨_,_,_,_,rfl,HGG.out▸bB B3.out (DK _) _ _ _ _,λ_=>⟨rfl,hr,hrs⟩,xx ((HNC.out.2.2.1 HZ.out (by first|trivial|rfl)).trans ((DS (by have:=HV.out;omega)).trans (by rw[HV.out])))⟩
    ·have HP:=H_ (λW hW=>jh r W hW (by omega) λv hv=>hp ⟨v,hv⟩)
     have HV:=H_ (show 2305843009213693951<iM r.data.toList by
      have h9:=HNC.out.2.2.2;cases h8:Lib.parseIntB 64 r.data.toList with
      |ok v=>exact absurd ⟨v,h8⟩ hp
      |range=>rw[h8]at h9;exact h9
      |_=>rw[h8]at h9;exact h9)
     clear hp;generalize dj r=nv at HP;go_wp2_with fail;refine(HP.out _ HG2.out).mono ?_;rintro e w3 ⟨NN,rfl,b3⟩;have Q3:=H_ (Q2.out.below b3 l2);have B3:=H_ (B2.out.trans (b3.mono (EF l2)));clear b3 B2 Q2;obtain⟨e0,e1,e2,e3⟩:=Q3.out.c4;obtain⟨f0,f1,f2,f3⟩:=Q3.out.f4;go_wp2_with fail
     (try simp only[Exit.inBlock,Exit.then])
     refine Ej (ai rfl _ _ g 162 _ _ rfl Q3.out.aH Tryz.underlying162 rfl (by kernel_rfl)) rfl ?_;exact⟨_,_,_,_,rfl,HGG.out▸bB B3.out (DK _) _ _ _ _,λh=>absurd h (by decide),jk ((HNC.out.2.2.1 HZ.out (by first|trivial|rfl)).trans (Ed HV.out)) (by decide) _ _ _⟩
   ·have hne:r2.toList.isEmpty=false:=by
     cases hb:r2.toList with
     |nil=>exact absurd (eK (hb.trans (show[]=(⟨#[]⟩:ByteArray).toList by simp[Ey]))) he
     |cons _ _=>rfl
    have HE2:=H_ he;clear he;go_wp2_with fail;refine hB2.mono ?_;rintro e w2 ⟨rfl,b2⟩;have Q2:=H_ (Q1.out.below b2 l1);have B2:=H_ (B1.out.trans (b2.mono (EF l1)));clear b2 B1 Q1 hB2;obtain⟨e0,e1,e2,e3⟩:=Q2.out.c4;obtain⟨f0,f1,f2,f3⟩:=Q2.out.f4;go_wp2_with fail
    (try simp only[Exit.inBlock,Exit.then])
    refine Ej (ai rfl _ _ g 162 _ _ rfl Q2.out.aH Tryz.underlying162 rfl (by kernel_rfl)) rfl ?_;exact⟨_,_,_,_,rfl,HGG.out▸bB B2.out (DK _) _ _ _ _,λh=>absurd h (by decide),jk (HNC.out.2.1 HE2.out) (by decide) _ _ _⟩
 ·have HZ:=H_ (show ¬(2<=r.size/\r.data.toList.head?=some 48)from λh=>by have:=h.1;omega);have hone':decide ((1:Int)<(r.size:Int))=false:=by simpa using hone
  have hB2:=HR2.out w1;by_cases he:r2=⟨#[]⟩
  ·subst he;go_wp2_with fail;refine hB2.mono ?_;rintro e w2 ⟨rfl,b2⟩;have Q2:=H_ (Q1.out.below b2 l1);have l2:=DR l1 b2.size;have B2:=H_ (B1.out.trans (b2.mono (EF l1)));have hg2:=Gl.below hG.out (HGG.out.symm▸B2.out);have HG2:=H_ hg2;clear b2 B1 Q1 hB2 hg2;by_cases hp:∃v,Lib.parseIntB 64 r.data.toList= .ok v
   ·obtain⟨v,hv⟩:=hp;have HV:=H_ (show v=(iM r.data.toList:Int) by have:=HNC.out.2.2.2;rw[hv]at this;exact this);have HP:=H_ (λW=>jg r v W (by omega) hv);clear hv;by_cases hmx:(2305843009213693951:Int)<v
    ·go_wp2_with fail;refine(HP.out _).mono ?_;rintro e w3 ⟨rfl,b3⟩;have Q3:=H_ (Q2.out.below b3 l2);have B3:=H_ (B2.out.trans (b3.mono (EF l2)));clear b3 B2 Q2;obtain⟨e0,e1,e2,e3⟩:=Q3.out.c4;obtain⟨f0,f1,f2,f3⟩:=Q3.out.f4;go_wp2_with fail
     (try simp only[Exit.inBlock,Exit.then])
     refine Ej (ai rfl _ _ g 162 _ _ rfl Q3.out.aH Tryz.underlying162 rfl (by kernel_rfl)) rfl ?_;exact⟨_,_,_,_,rfl,HGG.out▸bB B3.out (DK _) _ _ _ _,λh=>absurd h (by decide),jk ((HNC.out.2.2.1 HZ.out (by first|trivial|rfl)).trans (Ed (by have:=HV.out;omega))) (by decide) _ _ _⟩
    ·go_wp2_with fail;refine(HP.out _).mono ?_;rintro e w3 ⟨rfl,b3⟩;have Q3:=H_ (Q2.out.below b3 l2);have B3:=H_ (B2.out.trans (b3.mono (EF l2)));clear b3 B2 Q2;obtain⟨e0,e1,e2,e3⟩:=Q3.out.c4;obtain⟨f0,f1,f2,f3⟩:=Q3.out.f4;go_wp2_with fail
     (try simp only[Exit.inBlock,Exit.then])
     refine Ej (ai rfl _ _ g 162 _ _ rfl Q3.out.aH Tryz.underlying162 rfl (by kernel_rfl)) rfl ?_;exact⟨_,_,_,_,rfl,HGG.out▸bB B3.out (DK _) _ _ _ _,λ_=>⟨rfl,hr,hrs⟩,xx ((HNC.out.2.2.1 HZ.out (by first|trivial|rfl)).trans ((DS (by have:=HV.out;omega)).trans (by rw[HV.out])))⟩
   ·have HP:=H_ (λW hW=>jh r W hW (by omega) λv hv=>hp ⟨v,hv⟩)
    have HV:=H_ (show 2305843009213693951<iM r.data.toList by
     have h9:=HNC.out.2.2.2;cases h8:Lib.parseIntB 64 r.data.toList with
     |ok v=>exact absurd ⟨v,h8⟩ hp
     |range=>rw[h8]at h9;exact h9
     |_=>rw[h8]at h9;exact h9)
    clear hp;generalize dj r=nv at HP;go_wp2_with fail;refine(HP.out _ HG2.out).mono ?_;rintro e w3 ⟨NN,rfl,b3⟩;have Q3:=H_ (Q2.out.below b3 l2);have B3:=H_ (B2.out.trans (b3.mono (EF l2)));clear b3 B2 Q2;obtain⟨e0,e1,e2,e3⟩:=Q3.out.c4;obtain⟨f0,f1,f2,f3⟩:=Q3.out.f4;go_wp2_with fail
    (try simp only[Exit.inBlock,Exit.then])
    refine Ej (ai rfl _ _ g 162 _ _ rfl Q3.out.aH Tryz.underlying162 rfl (by kernel_rfl)) rfl ?_;exact⟨_,_,_,_,rfl,HGG.out▸bB B3.out (DK _) _ _ _ _,λh=>absurd h (by decide),jk ((HNC.out.2.2.1 HZ.out (by first|trivial|rfl)).trans (Ed HV.out)) (by decide) _ _ _⟩
  ·have hne:r2.toList.isEmpty=false:=by
    cases hb:r2.toList with
    |nil=>exact absurd (eK (hb.trans (show[]=(⟨#[]⟩:ByteArray).toList by simp[Ey]))) he
    |cons _ _=>rfl
   have HE2:=H_ he;clear he;go_wp2_with fail;refine hB2.mono ?_;rintro e w2 ⟨rfl,b2⟩;have Q2:=H_ (Q1.out.below b2 l1);have B2:=H_ (B1.out.trans (b2.mono (EF l1)));clear b2 B1 Q1 hB2;obtain⟨e0,e1,e2,e3⟩:=Q2.out.c4;obtain⟨f0,f1,f2,f3⟩:=Q2.out.f4;go_wp2_with fail
   (try simp only[Exit.inBlock,Exit.then])
   refine Ej (ai rfl _ _ g 162 _ _ rfl Q2.out.aH Tryz.underlying162 rfl (by kernel_rfl)) rfl ?_;exact⟨_,_,_,_,rfl,HGG.out▸bB B2.out (DK _) _ _ _ _,λh=>absurd h (by decide),jk (HNC.out.2.1 HE2.out) (by decide) _ _ _⟩
def SPC:ByteArray:=⟨#[32,9,10,13]⟩
def EndOf(y x:ByteArray):Prop:=∃p,x.data.toList=p++y.data.toList
theorem EndOf.refl(x:ByteArray):EndOf x x:=⟨[],rfl⟩
theorem EndOf.trans{y z:ByteArray}(h:EndOf x y)(h2:EndOf y z):EndOf x z:=by
 obtain⟨p,hp⟩:=h;obtain⟨q,hq⟩:=h2;exact⟨q++p,by rw[hq,hp,Eb]⟩
theorem EndOf.le{y:ByteArray}(h:EndOf y x):y.size<=x.size:=by
 obtain⟨p,hp⟩:=h;have:=Fo List.length hp;rw[DJ]at this;change x.data.size=p.length+y.data.size at this;change y.data.size<=x.data.size;omega
theorem EndOf.eq{y:ByteArray}(h:EndOf y x)(hs:x.size<=y.size):y=x:=by
 obtain⟨p,hp⟩:=h;have:=Fo List.length hp;rw[DJ]at this;change x.data.size=p.length+y.data.size at this;change x.data.size<=y.data.size at hs;have h0:p=[]:=FB.1 (by omega);subst h0;exact Eh hp.symm
theorem EndOf.drop(x:ByteArray)(k:Nat):EndOf (x.extract k x.size) x:=by
 refine⟨x.data.toList.take k,?_⟩;have h:(List.drop k x.data.toList).take (x.size-k)=List.drop k x.data.toList:=DP (by rw[FJ];exact DK _);rw[EO,F0,EH,h,ER]
theorem EndOf.trim(x set:ByteArray):EndOf (i1 x set) x:=by
 refine⟨x.data.toList.takeWhile (set.data.toList.contains ·),?_⟩;change _=_++Lib.trimLeftS x.data.toList set.data.toList;unfold Lib.trimLeftS;rw[List.takeWhile_append_dropWhile]
def Begins(x:ByteArray):Prop:=∃c l,x.data.toList=c::l/\SPC.data.toList.contains c=false/\c≠35
theorem Begins.trim(h:Begins x):i1 x SPC=x:=by
 obtain⟨c,l,h1,h2,h3⟩:=h;refine Eh ?_;change Lib.trimLeftS x.data.toList SPC.data.toList=x.data.toList;unfold Lib.trimLeftS;rw[h1,List.dropWhile_cons_of_neg (by rw[h2];decide)]
theorem rz(h:Lib.hasPrefix l [35]=true):∃r,l=35::r:=by
 unfold Lib.hasPrefix at h;cases l with
 |nil=>simp at h
 |cons c r=>
  simp[List.isPrefixOf]at h;exact⟨r,by rw[<-h]⟩
theorem nF(c:UInt8):SPC.data.toList.contains c=ib c:=by
 unfold SPC ib;simp only[List.contains_cons,List.contains_nil,Bool.or_false];cases c==32<;>cases c==9<;>cases c==10<;>cases c==13<;>rfl
theorem lZ:∀l:List UInt8,bp false (l.dropWhile (SPC.data.toList.contains ·))=bp false l
 |[]=>rfl
 |c::l=>by
  cases h:SPC.data.toList.contains c with
  |true=>
   rw[List.dropWhile_cons_of_pos h,lZ l]
   conv=>rhs;unfold bp
   rw[Ed (by rw[<-nF];exact h)]
  |false=>rw[List.dropWhile_cons_of_neg (by rw[h];simp)]
theorem m7(l:List UInt8):bp false (35::l)=bp true l:=by
 conv=>lhs;unfold bp
 rw[DS (by decide),Ed rfl]
theorem m6:∀(l:List UInt8) (k:Nat),l[k]?=some 10->(∀j,j<k->l[j]?≠some 10)->bp true l=bp false (l.drop k)
 |[],k,h,_=>by simp at h
 |c::l,0,h,_=>by
  simp at h;subst h;rw[List.drop_zero]
  conv=>lhs;unfold bp
  conv=>rhs;unfold bp
  rw[Ed rfl,Ed (by decide)]
 |c::l,k+1,h,hn=>by
  have hc:c≠10:=λe=>hn 0 (by omega) (by simp[e])
  conv=>lhs;unfold bp
  rw[DS hc,List.drop_succ_cons];exact m6 l k (by simpa using h) (λj hj=>by have:=hn (j+1) (by omega);simpa using this)
theorem m5:∀(l:List UInt8),(∀j:Nat,l[j]?≠some 10)->bp true l=[]
 |[],_=>rfl
 |c::l,h=>by
  have hc:c≠10:=λe=>h 0 (by simp[e]);unfold bp;rw[DS hc];exact m5 l (λj=>by have:=h (j+1);simpa using this)
theorem rf(l:List UInt8)(h1:∀c r,l=c::r->SPC.data.toList.contains c=false)(h2:∀r,l≠35::r):bp false l=l:=by
 cases l with
 |nil=>rfl
 |cons c r=>
  unfold bp;rw[DS (by rw[<-nF,h1 c r rfl];simp),DS (λe=>h2 r (by rw[e]))]
theorem tW(x:ByteArray)(c:UInt8)(r:List UInt8)(h:(i1 x SPC).data.toList=c::r):SPC.data.toList.contains c=false:=by
 change Lib.trimLeftS x.data.toList SPC.data.toList=c::r at h;unfold Lib.trimLeftS at h
 have hh:∀l:List UInt8,l.dropWhile (SPC.data.toList.contains ·)=c::r->SPC.data.toList.contains c=false:=by
  intro l;induction l with
  |nil=>intro h;cases h
  |cons d l ih=>
   intro h;cases hd:SPC.data.toList.contains d with
   |true=>rw[List.dropWhile_cons_of_pos hd]at h;exact ih h
   |false=>
    rw[List.dropWhile_cons_of_neg (by rw[hd];simp)]at h;simp only[List.cons.injEq]at h;rw[<-h.1];exact hd
 exact hh _ h
def tO(s R:ByteArray):Prop:=EndOf R s/\(Begins s->R=s)/\R.data.toList=bp false s.data.toList
theorem wk(s:ByteArray)(w:World)(hs:s.size<=1000000):Calls Tryz.prog 207 #[.string s] w λe w'=>∃R,e= .returned (.string R)/\Below w.heap.size w w'/\tO s R:=by
 go_enter Tryz.func207,Tryz.ntmps207;go_wp2_with fail;go_loopw [0] (λi wr=>∃x:ByteArray,i= .string x/\Hid (Below w.heap.size w wr)/\Hid (EndOf x s)/\Hid (Begins s->x=s)/\Hid (bp false x.data.toList=bp false s.data.toList)) (λi _=>(match i with| .string x=>x.size|_=>0))
 case atStart=>exact⟨s,rfl,H_ (DN _ _),H_ (EndOf.refl _),H_ λ_=>rfl,H_ rfl⟩
 case round=>
  obtain⟨x,rfl,HB,HE,HS,HK⟩:=hrel;have hT:=sM x SPC (by decide) (by decide) wr;have ht1:=EndOf.trim x SPC;have ht2:Begins s->i1 x SPC=s:=λh=>by rw[HS.out h,h.trim]
  have hk1:bp false (i1 x SPC).data.toList=bp false s.data.toList:=by
   rw[<-HK.out];exact lZ _
  have hk2:=tW x;have hle:=Ek HE.out.le hs;generalize i1 x SPC=y at hT ht1 ht2 hk1 hk2;have HK1:=H_ hk1;have HK2:=H_ hk2;clear hk1 hk2 HK;unfold SPC at hT;have hE2:=ht1.trans HE.out;have HT:=H_ hT;have HE2:=H_ hE2;have HS2:=H_ ht2;have hyx:=ht1.le;clear hT ht1 ht2 hE2 HE HS;go_wp2_with fail;refine HT.out.mono ?_;rintro e w1 ⟨rfl,b1⟩;have B1:=htr HB b1;clear b1 HB HT;obtain⟨hp,hhp⟩:=nm_ (Lib.hasPrefix y.data.toList [35]);have hPP:=λ(W:World)=>Tryz.strings_HasPrefix y ⟨#[35]⟩ W;change∀W,Calls Tryz.prog 253 #[.string y,.string ⟨#[35]⟩] W (λe w'=>e= .returned (.bool (Lib.hasPrefix y.data.toList [35]))/\w'=W)at hPP;rw[hhp]at hPP;have HP:=H_ hPP;clear hPP;cases hp with
  |false=>
   have HK3:=H_ (show y.data.toList=bp false s.data.toList by
    rw[<-HK1.out];refine(rf _ HK2.out (λr e=>?_)).symm;rw[e]at hhp;unfold Lib.hasPrefix at hhp;simp[List.isPrefixOf]at hhp)
   clear hhp;go_wp2_with fail;refine(HP.out _).mono ?_;rintro e w2 ⟨rfl,rfl⟩;go_wp2_with fail;go_ret;exact⟨y,rfl,B1.out,HE2.out,HS2.out,HK3.out⟩
  |true=>
   obtain⟨l,hl⟩:=rz hhp
   have hnb:¬Begins s:=λh=>by
    have:=HS2.out h;obtain⟨c,l',h1,h2,h3⟩:=h;rw[<-this,hl]at h1;simp only[List.cons.injEq]at h1;exact h3 h1.1.symm
   have hy1:1<=y.size:=by
    change 1<=y.data.toList.length;rw[hl];simp
   have hI:=λ(W:World)=>Tryz.strings_IndexByte y 10 W;obtain⟨i,hi⟩:=nm_ (Lib.indexByte y.data.toList (10:Int).toNat.toUInt8);rw[hi]at hI;have HI:=H_ hI;have hge:=Lib.indexByte_ge y.data.toList (10:Int).toNat.toUInt8;rw[hi]at hge;clear hhp hI;by_cases hneg:0<=i
   ·obtain⟨k,rfl⟩:∃k:Nat,i=(k:Int):=⟨i.toNat,by omega⟩;obtain⟨hk1,hk2⟩:=Lib.indexByte_some hi
    have hk:k<y.size:=by
     change k<y.data.toList.length;exact(DQ.1 hk1).1
    have hk0:k≠0:=by
     rintro rfl;rw[hl]at hk1;simp at hk1
    have hkz:(k:Int)<=(y.size:Int):=by omega
    have hsz:(y.extract k y.size).size=y.size-k:=by rw[ByteArray.size_extract];omega
    have hE3:=(EndOf.drop y k).trans HE2.out;have HE3:=H_ hE3
    have HK3:=H_ (show bp false (y.extract k y.size).data.toList=bp false s.data.toList by
     rw[<-HK1.out]
     have hdr:(y.extract k y.size).data.toList=y.data.toList.drop k:=by
      rw[EO,F0,EH];exact DP (by rw[FJ];exact DK _)
     obtain⟨k',rfl⟩:∃k',k=k'+1:=⟨k-1,by omega⟩;rw[hdr,hl,List.drop_succ_cons,m7];rw[hl]at hk1 hk2;exact(m6 l k' (by simpa using hk1) (λj hj=>by have:=hk2 (j+1) (by omega);simpa using this)).symm)
    clear hk1 hk2 hi hl hge hE3;go_wp2_with fail;refine(HP.out _).mono ?_;rintro e w2 ⟨rfl,rfl⟩;go_wp2_with fail;refine(HI.out _).mono ?_;rintro e w2 ⟨rfl,rfl⟩;go_wp2_with fail;go_roundw
    case rel=>exact⟨_,rfl,B1,HE3,H_ λh=>absurd h hnb,HK3⟩
    case measure=>simp;omega
   ·have hneg':decide (0<=i)=false:=by simpa using hneg
    have HE3:=H_ (show EndOf ⟨#[]⟩ s from⟨s.data.toList,by simp⟩)
    have HK3:=H_ (show bp false (⟨#[]⟩:ByteArray).data.toList=bp false s.data.toList by
     rw[<-HK1.out,hl,m7];have hno:∀j:Nat,y.data.toList[j]?≠some 10:=Lib.indexByte_none (c:=(10:Int).toNat.toUInt8) (by rw[hi];omega);rw[m5 l (λj=>by have:=hno (j+1);rw[hl]at this;simpa using this)];rfl)
    clear hi hl hge;go_wp2_with fail;refine(HP.out _).mono ?_;rintro e w2 ⟨rfl,rfl⟩;go_wp2_with fail;refine(HI.out _).mono ?_;rintro e w2 ⟨rfl,rfl⟩;go_wp2_with fail;go_roundw
    case rel=>exact⟨_,rfl,B1,HE3,H_ λh=>absurd h hnb,HK3⟩
    case measure=>
     have hz:(⟨#[]⟩:ByteArray).size=0:=rfl;simp[hz];omega
def dB:List (Value×Value)->Nat->List MapEntry
 |[],_=>[]
 |o::os,k=>{key:=o.1,val:=o.2,born:=k}::dB os (k+1)
theorem mC:∀(os:List (Value×Value)) (x:Value×Value) (k:Nat),dB (os++[x]) k=dB os k++[{key:=x.1,val:=x.2,born:=k+os.length}]
 |[],x,k=>by simp[dB]
 |o::os,x,k=>by simp[dB,mC os x (k+1)];omega
def KMap(w:World)(m:Nat)(kvs:List (Value×Value)):Prop:=w.heap[m]?=some (.map (dB kvs 0).toArray kvs.length)
theorem KMap.lt(h:KMap w m kvs):m<w.heap.size:=(Ef.1 h).1
theorem KMap.below{w':World}(h:KMap w m kvs)(hb:Below B w w')(hm:m<B):KMap w' m kvs:=(hb.block m hm).trans h
theorem KMap.alloc(h:KMap w m kvs)(o:Obj):KMap (w.alloc o) m kvs:=(EA w o m h.lt).trans h
theorem kF(d:TypeDesc)(k:Value):∀(os:List (Value×Value)) (j i:Nat),(∀o∈os,Instr.sameNow d k o.1=some false)->Instr.findNow d k (dB os j) i=some none
 |[],j,i,_=>rfl
 |o::os,j,i,h=>by
  simp only[dB,Instr.findNow,h o (by simp)];exact kF d k os (j+1) (i+1) (λx hx=>h x (by simp[hx]))
theorem kE(d:TypeDesc)(k v:Value):∀(os:List (Value×Value)) (j i n:Nat),(∀(t:Nat) (o:Value×Value),t<n->os[t]?=some o->Instr.sameNow d k o.1=some false)->(∃k',os[n]?=some (k',v)/\Instr.sameNow d k k'=some true)->Instr.findNow d k (dB os j) i=some (some (i+n,v))
 |[],j,i,n,_,⟨_,h,_⟩=>by simp at h
 |o::os,j,i,0,_,⟨k',h,hs⟩=>by
  simp at h;subst h;simp[dB,Instr.findNow,hs]
 |o::os,j,i,n+1,hn,⟨k',h,hs⟩=>by
  simp only[dB,Instr.findNow,hn 0 o (by omega) rfl];rw[kE d k v os (j+1) (i+1) n (λt x ht hx=>hn (t+1) x (by omega) (by simpa using hx)) ⟨k',by simpa using h,hs⟩];simp;omega
theorem dZ(h:KMap w m kvs):(getObj m).run Tryz.prog w= .ok (.map (dB kvs 0).toArray kvs.length) w:=by
 simp only[getObj,Sem.run,show w.heap[m]?=_ from h]
theorem cM{t e:TypeId}(ht:∀w,(underlying t).run Tryz.prog w= .ok (.map kt e) w)(hd:∀w,(underlying kt).run Tryz.prog w= .ok d w)(h:KMap w m kvs)(k v:Value)
 (hc:∀em w,(Instr.checkKey em 10000 kt k).run Tryz.prog w= .ok () w) (hk:∀o∈kvs,Instr.sameNow d k o.1=some false):
 ∃w',(Instr.mapUpdate t (.map (some m)) k v).run Tryz.prog w= .ok () w'/\KMap w' m (kvs++[(k,v)])/\w.grownBy w' (some m):=by
 have hlt:=h.lt;refine⟨{w with heap:=w.heap.setIfInBounds m (.map ((dB kvs 0).toArray.push {key:=k,val:=v,born:=kvs.length}) (kvs.length+1))},?_,?_,?_⟩
 ·simp only[Instr.mapUpdate,Fg,ht,EM,dZ h,hc,Instr.findKey,hd,kF d k kvs 0 0 hk,Fh,setObj,Sem.run,show w.heap[m]?=_ from h]
 ·show(w.heap.setIfInBounds m _)[m]?=_;rw[Array.getElem?_setIfInBounds_self_of_lt hlt,mC];simp
 ·exact⟨rfl,rfl,rfl,by simp,λk _ hk=>by
   show(w.heap.setIfInBounds m _)[k]?=_;rw[EJ (λe=>hk (by rw[e]))]⟩
theorem oG{t e:TypeId}(ht:∀w,(underlying t).run Tryz.prog w= .ok (.map kt e) w)(hd:∀w,(underlying kt).run Tryz.prog w= .ok d w)(h:KMap w m kvs)(k v:Value)(n:Nat)
 (hc:∀em w,(Instr.checkKey em 10000 kt k).run Tryz.prog w= .ok () w) (hk:∀(t:Nat) (o:Value×Value),t<n->kvs[t]?=some o->Instr.sameNow d k o.1=some false) (hn:∃k',kvs[n]?=some (k',v)/\Instr.sameNow d k k'=some true):
 (Instr.lookup t (.map (some m)) k false).run Tryz.prog w= .ok v w:=by
 simp only[Instr.lookup,Fg,ht,EM,dZ h,hc,Instr.findKey,hd,kE d k v kvs 0 0 n hk hn,Fh];rfl
theorem qW(w:World):(underlying 244).run Tryz.prog w= .ok (.map 5 247) w:=by kernel_rfl
theorem AK(w:World):(underlying 5).run Tryz.prog w= .ok (.int .u8) w:=by kernel_rfl
theorem AJ(w:World):(underlying 9).run Tryz.prog w= .ok .string w:=by kernel_rfl
theorem yF(w:World):(zeroValue 247).run Tryz.prog w= .ok .nilFunc w:=by kernel_rfl
theorem sr(em:Bool)(c:Int)(w:World):(Instr.checkKey em 10000 5 (.int .u8 c)).run Tryz.prog w= .ok () w:=by kernel_rfl
theorem sq(em:Bool)(s:ByteArray)(w:World):(Instr.checkKey em 10000 9 (.string s)).run Tryz.prog w= .ok () w:=by kernel_rfl
def tab(l:List UInt8)(f:Nat):List (Value×Value):=l.map λc=>(.int .u8 c.toNat,fnv f)
theorem vG{k:Nat}{c:UInt8}(h:l[k]?=some c)(f:Nat):tab (l.take (k+1)) f=tab (l.take k) f++[(.int .u8 c.toNat,fnv f)]:=by
 unfold tab;rw[EQ,h];simp
theorem rh(s:ByteArray)(f b m:Nat)(kvs:List (Value×Value))(w:World)(hs:s.size<=1000)(hb:Blk w b 244 #[.map (some m)])(hm:KMap w m kvs)(hbm:b≠m)
 (hk:∀k c,s.data.toList[k]?=some c->∀o∈kvs++tab (s.data.toList.take k) f,Instr.sameNow (.int .u8) (.int .u8 c.toNat) o.1=some false):
 Calls Tryz.prog 248 #[.string s,fnv f,.pointer (some ⟨b,0,none⟩)] w λe w'=>e= .returned (.tuple #[])/\KMap w' m (kvs++tab s.data.toList f)/\w.grownBy w' (some m):=by
 unfold fnv;have HK:=H_ hk;clear hk;go_enter Tryz.func248,Tryz.ntmps248;go_wp2_with fail;go_loopw [8] (λi wr=>∃k:Nat,k<=s.size/\i= .int .i64 k/\Hid (Blk wr b 244 #[.map (some m)])/\Hid (KMap wr m (kvs++tab (s.data.toList.take k) f))/\Hid (w.grownBy wr (some m))) (λi _=>s.size-(intOf i).toNat)
 case atStart=>exact⟨0,Ea _,rfl,H_ hb,H_ (by simpa[tab]using hm),H_ (World.grownBy.refl _ _)⟩
 case round=>
  obtain⟨k,hks,rfl,HB,HM,HG⟩:=hrel;by_cases hlt:k<s.size
  ·have c2:=HB.out.k0;obtain⟨c,hc⟩:∃c,s.data.toList[k]?=some c:=⟨_,DT hlt⟩
   have hck:(s[k]'hlt)=c:=by
    have:=(DQ.1 hc).2;exact this
   have hk0:0<=(k:Int):=by omega
   have hk1:(k:Int)<s.size:=by omega
   have HC:=H_ hc;obtain⟨w3,hup,hm3,hg3⟩:=cM (w:=wr.drew) qW AK (show KMap wr.drew m _ from HM.out) (.int .u8 c.toNat) (.func (.func f) #[] #[]) (λem w=>sr em _ w) (HK.out k c hc);have HM3:=H_ hm3;have HG3:=H_ hg3;clear hc hm3 hg3;go_wp2_with fail;go_region
   all_goals
    (try go_wp2_with fail)
    go_roundw
    case rel=>
     refine⟨k+1,by omega,by go_num,?_,?_,?_⟩
     ·exact H_ ((HG3.out.block b (HB.out.drew.lt) (by simpa using hbm)).trans HB.out)
     ·rw[vG HC.out,<-Eb];exact HM3
     ·exact H_ ((show w.grownBy wr.drew (some m)from⟨HG.out.os,HG.out.tape,HG.out.output,HG.out.size,HG.out.block⟩).trans HG3.out)
    case measure=>simp[intOf];omega
  ·obtain rfl:k=s.size:=by omega
   go_wp2_with fail;go_end0;refine⟨rfl,?_,HG.out⟩;have:=HM.out;rw[DP (by exact DK _)]at this;exact this
def gD:ByteArray:=⟨#[97,98,99,100,101,102,103,104,105,106,107,108,109,110,111,112,113,114,115,116,117,118,119,120,121,122,65,66,67,68,69,70,71,72,73,74,75,76,77,78,79,80,81,82,83,84,85,86,87,88,89,90]⟩
def lx:ByteArray:=⟨#[33,37,40,41,42,43,44,45,46,47,59,60,61,62,123,125]⟩
def lU:List (Value×Value):=tab DIG.data.toList 249++tab gD.data.toList 250++tab lx.data.toList 251
def apart(l:List UInt8)(ks:List UInt8):Bool:=(List.range l.length).all λk=>match l[k]? with|some c=>(ks++l.take k).all λd=>c !=d|none=>true
theorem nd{ks:List UInt8}(h:apart l ks=true)(hk:kvs.map Prod.fst=ks.map λc=> .int .u8 c.toNat)(f k:Nat)(c:UInt8)(hc:l[k]?=some c):
 ∀o∈kvs++tab (l.take k) f,Instr.sameNow (.int .u8) (.int .u8 c.toNat) o.1=some false:=by
 intro o ho;unfold apart at h;have h1:=Ec.1 h k (FC.2 (DQ.1 hc).1);rw[hc]at h1
 have hd:∃d∈ks++l.take k,o.1= .int .u8 d.toNat:=by
  rcases EC.1 ho with ho|ho
  ·have:o.1∈kvs.map Prod.fst:=List.mem_map_of_mem ho;rw[hk]at this;obtain⟨d,hd,he⟩:=EB.1 this;exact⟨d,List.mem_append_left _ hd,he.symm⟩
  ·unfold tab at ho;obtain⟨d,hd,rfl⟩:=EB.1 ho;exact⟨d,List.mem_append_right _ hd,rfl⟩
 obtain⟨d,hd,he⟩:=hd;have h2:=Ec.1 h1 d hd;rw[he]
 have h3:c.toNat≠d.toNat:=λe=>by
  have:c=d:=UInt8.toNat_inj.1 e;subst this;simp at h2
 simp[Instr.sameNow];omega
theorem ri(w:World):Calls Tryz.prog 206 #[] w λe w'=>∃m,e= .returned (.map (some m))/\KMap w' m lU/\w.heap.size<=m/\Below w.heap.size w w':=by
 have hs1:=λb m w (hb:Blk w b 244 #[.map (some m)]) (hm:KMap w m []) (hn:b≠m)=>rh ⟨#[48,49,50,51,52,53,54,55,56,57]⟩ 249 b m [] w (by decide) hb hm hn (nd (ks:=[]) (by decide) rfl 249);have hs2:=λb m w (hb:Blk w b 244 #[.map (some m)]) (hm:KMap w m (tab DIG.data.toList 249)) (hn:b≠m)=>rh ⟨#[97,98,99,100,101,102,103,104,105,106,107,108,109,110,111,112,113,114,115,116,117,118,119,120,121,122,65,66,67,68,69,70,71,72,73,74,75,76,77,78,79,80,81,82,83,84,85,86,87,88,89,90]⟩ 250 b m _ w (by decide) hb hm hn (nd (ks:=DIG.data.toList) (by decide+kernel) (by unfold tab;simp only[List.map_map];rfl) 250);have hs3:=λb m w (hb:Blk w b 244 #[.map (some m)]) (hm:KMap w m (tab DIG.data.toList 249++tab gD.data.toList 250)) (hn:b≠m)=>rh ⟨#[33,37,40,41,42,43,44,45,46,47,59,60,61,62,123,125]⟩ 251 b m _ w (by decide) hb hm hn (nd (ks:=DIG.data.toList++gD.data.toList) (by decide+kernel) (by unfold tab;simp only[FQ,List.map_map];rfl) 251);have hmk:∀w:World,(Instr.makeMap 244 none).run Tryz.prog w= .ok (.map (some w.heap.size)) (w.alloc (.map #[] 0)):=λw=>by kernel_rfl
 unfold fnv at hs1 hs2 hs3;have H1:=H_ hs1;have H2:=H_ hs2;have H3:=H_ hs3;clear hs1 hs2 hs3;go_enter Tryz.func206,Tryz.ntmps206;go_upto_region 2 with(fail);obtain⟨w0,hw0⟩:=nm_ ((w.alloc (.map #[] 0)).alloc (.cells #[.map (some w.heap.size)] 244))
 have hb0:Blk w0 (w.heap.size+1) 244 #[.map (some w.heap.size)]:=by
  have:=Blk.new (w.alloc (.map #[] 0)) 244 #[.map (some w.heap.size)];rw[DV,hw0]at this;exact this
 have hm0:KMap w0 w.heap.size []:=hw0▸KMap.alloc (kvs:=[]) (show KMap (w.alloc (.map #[] 0)) w.heap.size []from heap_alloc_new w _) _;have bel0:Below w.heap.size w w0:=hw0▸((DN _ _).alloc (DK _) _).alloc (by simp) _;rw[hw0];clear hw0 hmk;obtain⟨m,hm⟩:=nm_ (w.heap.size);have HS:=H_ hm;rw[hm]at hb0 hm0 bel0⊢;clear hm;have hne:m+1≠m:=by omega
 have HB0:=H_ hb0;have HM0:=H_ hm0;have BEL0:=H_ bel0;clear hb0 hm0 bel0;go_wp2_with fail;refine(H1.out _ _ _ HB0.out HM0.out hne).mono ?_;rintro e w1 ⟨rfl,hm1,hg1⟩;have HB1:=H_ (show Blk w1 (m+1) 244 #[.map (some m)]from(hg1.block _ HB0.out.lt (by simp)).trans HB0.out);have HM1:=H_ hm1;have HG1:=H_ hg1;clear hm1 hg1 HB0 HM0;go_wp2_with fail;refine(H2.out _ _ _ HB1.out HM1.out hne).mono ?_;rintro e w2 ⟨rfl,hm2,hg2⟩;have HB2:=H_ (show Blk w2 (m+1) 244 #[.map (some m)]from(hg2.block _ HB1.out.lt (by simp)).trans HB1.out);have HM2:=H_ hm2;have HG2:=H_ (HG1.out.trans hg2);clear hm2 hg2 HB1 HM1 HG1;go_wp2_with fail;refine(H3.out _ _ _ HB2.out HM2.out hne).mono ?_;rintro e w3 ⟨rfl,hm3,hg3⟩;have HB3:Blk w3 (m+1) 244 #[.map (some m)]:=(hg3.block _ HB2.out.lt (by simp)).trans HB2.out;have c3:=HB3.k0;have HM3:=H_ hm3;have HG3:=H_ (HG2.out.trans hg3);clear hm3 hg3 HB2 HM2 HG2;go_wp2_with fail;go_ret;refine⟨m,rfl,HM3.out,Nat.le_of_eq HS.out,HS.out▸BEL0.out.grown HG3.out (Ek (Nat.le_of_eq HS.out.symm) BEL0.out.size) (λr hr=>by cases hr;exact DK _)⟩
theorem fB(c:UInt8)(f:Nat)(rest:List (Value×Value)):∀(l:List UInt8) (j i:Nat),
 (l.contains c=true->∃n,Instr.findNow (.int .u8) (.int .u8 c.toNat) (dB (tab l f++rest) j) i=some (some (n,fnv f)))/\
 (l.contains c=false->∃j' i',Instr.findNow (.int .u8) (.int .u8 c.toNat) (dB (tab l f++rest) j) i=Instr.findNow (.int .u8) (.int .u8 c.toNat) (dB rest j') i')
 |[],j,i=>⟨λh=>by simp at h,λ_=>⟨j,i,rfl⟩⟩
 |d::l,j,i=>by
  obtain⟨h1,h2⟩:=fB c f rest l (j+1) (i+1);by_cases hcd:c=d
  ·subst hcd;refine⟨λ_=>⟨i,?_⟩,λh=>by simp at h⟩;simp[tab,dB,Instr.findNow,Instr.sameNow]
  ·have hs:Instr.sameNow (.int .u8) (.int .u8 c.toNat) (.int .u8 d.toNat)=some false:=by
    have h3:c.toNat≠d.toNat:=λe=>hcd (UInt8.toNat_inj.1 e);simp[Instr.sameNow];omega
   have hf:Instr.findNow (.int .u8) (.int .u8 c.toNat) (dB (tab (d::l) f++rest) j) i=Instr.findNow (.int .u8) (.int .u8 c.toNat) (dB (tab l f++rest) (j+1)) (i+1):=by
    change Instr.findNow (.int .u8) (.int .u8 c.toNat) ({key:= .int .u8 d.toNat,val:=fnv f,born:=j}::dB (tab l f++rest) (j+1)) i=_;simp only[Instr.findNow,hs]
   rw[hf]
   have hcl:(d::l).contains c=l.contains c:=by
    rw[List.contains_cons,DM.2 hcd,Bool.false_or]
   rw[hcl];exact⟨h1,h2⟩
def pick(c:UInt8):Value:=if DIG.data.toList.contains c then fnv 249 else if gD.data.toList.contains c then fnv 250 else if lx.data.toList.contains c then fnv 251 else .nilFunc
theorem wG(h:KMap w m lU)(c:UInt8):(Instr.lookup 244 (.map (some m)) (.int .u8 c.toNat) false).run Tryz.prog w= .ok (pick c) w:=by
 have hfind:(pick c= .nilFunc/\Instr.findNow (.int .u8) (.int .u8 c.toNat) (dB lU 0) 0=some none)\/∃n,Instr.findNow (.int .u8) (.int .u8 c.toNat) (dB lU 0) 0=some (some (n,pick c)):=by
  unfold lU pick;rw[Eb];cases h1:DIG.data.toList.contains c with
  |true=>
   obtain⟨n,hn⟩:=(fB c 249 (tab gD.data.toList 250++tab lx.data.toList 251) DIG.data.toList 0 0).1 h1;exact .inr ⟨n,hn⟩
  |false=>
   obtain⟨j,i,hj⟩:=(fB c 249 (tab gD.data.toList 250++tab lx.data.toList 251) DIG.data.toList 0 0).2 h1;rw[hj];cases h2:gD.data.toList.contains c with
   |true=>
    obtain⟨n,hn⟩:=(fB c 250 (tab lx.data.toList 251) gD.data.toList j i).1 h2;exact .inr ⟨n,hn⟩
   |false=>
    obtain⟨j,i,hj⟩:=(fB c 250 (tab lx.data.toList 251) gD.data.toList j i).2 h2;rw[hj];cases h3:lx.data.toList.contains c with
    |true=>
     obtain⟨n,hn⟩:=(fB c 251 [] lx.data.toList j i).1 h3;rw[Eo]at hn;exact .inr ⟨n,hn⟩
    |false=>
     obtain⟨j,i,hj⟩:=(fB c 251 [] lx.data.toList j i).2 h3;rw[Eo]at hj;exact .inl ⟨rfl,hj⟩
 rcases hfind with⟨hp,hf⟩|⟨n,hf⟩
 ·rw[hp];simp only[Instr.lookup,Fg,qW,EM,dZ h,sr,Instr.findKey,AK,hf,Fh,yF];rfl
 ·simp only[Instr.lookup,Fg,qW,EM,dZ h,sr,Instr.findKey,AK,hf,Fh];rfl
theorem pR{s set:ByteArray}{c:UInt8}(hs:s.data.toList=c::l)(hc:set.data.toList.contains c=true):1<=(bM s set).size:=by
 change 1<=(bM s set).data.toList.length;rw[gt,hs,EV hc];simp
theorem xD(c:UInt8)(h:gD.data.toList.contains c=true):dy.data.toList.contains c=true:=by
 have hm:=List.contains_iff_mem.1 h;refine List.contains_iff_mem.2 ?_;unfold gD at hm;unfold dy;simp only[DY,DX,Ew]at hm⊢;rcases hm with h|h|h|h|h|h|h|h|h|h|h|h|h|h|h|h|h|h|h|h|h|h|h|h|h|h|h|h|h|h|h|h|h|h|h|h|h|h|h|h|h|h|h|h|h|h|h|h|h|h|h|h<;>simp[h]
def fG(R:ByteArray)(k:Int)(t:ByteArray):Prop:=
 ∃c l,R.data.toList=c::l/\gD.data.toList.contains c=true/\t=bM R dy/\t.size<=31/\inB kwL t=false/\k=if qr t then 3 else 2
def Al(R:ByteArray)(w:World)(e':Ending)(w':World):Prop:=
 ∃k t v e,e'= .returned (.tuple #[px k t v 0,.int .i64 e])/\Below w.heap.size w w'/\
  (e=0->1<=t.size/\t.size<=R.size/\(k=2\/k=3->fG R k t))/\(∀k' t',fG R k' t'->e=0/\k=k'/\t=t')/\nu (eB R.data.toList) k t v e
theorem zX(c:UInt8)(h:DIG.data.toList.contains c=true):gD.data.toList.contains c=false:=by
 have hm:=List.contains_iff_mem.1 h;unfold DIG at hm;simp only[DY,DX,Ew]at hm;rcases hm with rfl|rfl|rfl|rfl|rfl|rfl|rfl|rfl|rfl|rfl<;>decide
theorem oF(c:UInt8):gD.data.toList.contains c=eV c:=by
 have h:∀n:Fin 256,gD.data.toList.contains (UInt8.ofNat n.val)=eV (UInt8.ofNat n.val):=by decide+kernel
 have:=h ⟨c.toNat,c.toNat_lt⟩;simpa using this
theorem AG(c:UInt8):dy.data.toList.contains c=fS c:=by
 have h:∀n:Fin 256,dy.data.toList.contains (UInt8.ofNat n.val)=fS (UInt8.ofNat n.val):=by decide+kernel
 have:=h ⟨c.toNat,c.toNat_lt⟩;simpa using this
theorem Dm(c:UInt8)(hc:eV c=true):Lib.contains UP.data.toList [c]=decide (c.toNat<=90):=by
 have h:∀n:Fin 256,eV (UInt8.ofNat n.val)=true->Lib.contains UP.data.toList [UInt8.ofNat n.val]=decide ((UInt8.ofNat n.val).toNat<=90):=by decide+kernel
 have:=h ⟨c.toNat,c.toNat_lt⟩;simp only[UInt8.ofNat_toNat]at this;exact this hc
theorem zx(R:ByteArray)(c:UInt8)(l:List UInt8)(hR:R.data.toList=c::l)(hc:eV c=true):eB R.data.toList=(if 31<(bM R dy).size then .err 8 else .tok (if inB kwL (bM R dy)then 4 else if qr (bM R dy)then 3 else 2) (bM R dy).data.toList 0):=by
 have ht:(bM R dy).data.toList=R.data.toList.takeWhile fS:=by
  rw[gt]
  congr 1
  funext d
  exact AG d
 have hw:fS c=true:=by unfold fS;rw[hc];rfl
 have hh:(bM R dy).data.toList=c::l.takeWhile fS:=by rw[ht,hR,EV hw]
 have hb:ba (R.data.toList.takeWhile fS)=bM R dy:=Eh (by rw[ht];simp[ba])
 have hup:qr (bM R dy)=decide (c.toNat<=90):=by
  unfold qr;rw[show((bM R dy).extract 0 1).data.toList=[c]from by rw[EO,F0,EH,hh];rfl];exact Dm c hc
 have hsz:(bM R dy).size=(R.data.toList.takeWhile fS).length:=by rw[<-ht];rfl
 rw[hup,hsz,ht]
 conv=>lhs;rw[hR]
 unfold eB;simp only;rw[Ed hc];unfold nP;simp only;rw[<-hR,hb];have hany:((R.data.toList.takeWhile fS).head?.any λc=>decide (c.toNat<=90))=decide (c.toNat<=90):=by rw[<-ht,hh];rfl
 rw[hany]
theorem AS(c:UInt8)(l:List UInt8)(h:lx.data.toList.contains c=false):fL (c::l)= .err 3:=by
 have hn:∀r:List UInt8,inB bC (ba (c::r))=false:=by
  intro r;cases hb:inB bC (ba (c::r))with
  |false=>rfl
  |true=>
   exfalso;unfold inB at hb;obtain⟨y,hy,hyx⟩:=Fs.1 hb;have e:=FG.1 hyx;rw[EN,EN]at e;have e2:y.data.toList=c::r:=by rw[e];simp[ba]
   have hall:bC.all (λt=>match t.data.toList with|[]=>true|d::_=>lx.data.toList.contains d)=true:=by decide+kernel
   have:=Ec.1 hall y hy;rw[e2]at this;simp only at this;rw[h]at this;cases this
 unfold fL
 rw[DS (λh2=>by
  have:(c::l).take 2=c::l.take 1:=rfl;rw[this,hn]at h2;exact absurd h2.2 (by simp)),DS (by
  have:(c::l).take 1=c::[]:=rfl;rw[this,hn];simp)]
theorem uP(R:ByteArray)(w:World)(hg:Gl w)(hs:R.size<=1000000)(c:UInt8)(l:List UInt8)(hR:R.data.toList=c::l):
 (pick c= .nilFunc/\(∀k t,¬fG R k t)/\eB R.data.toList= .err 3)\/∃f,pick c=fnv f/\(f=249\/f=250\/f=251)/\Calls Tryz.prog f #[.string R] w (Al R w):=by
 have hn:gD.data.toList.contains c=false->∀k t,¬fG R k t:=λh k t ⟨c',l',h1,h2,_⟩=>by
  rw[hR]at h1;simp only[List.cons.injEq]at h1;rw[<-h1.1,h]at h2;cases h2
 have h1s:1<=R.size:=by
  change 1<=R.data.toList.length;rw[hR];simp
 unfold pick;cases h1:DIG.data.toList.contains c with
 |true=>
  have hl:=zX c h1;refine .inr ⟨249,rfl,.inl rfl,(uA R w hg hs (pR hR h1)).mono ?_⟩;rintro e' w' ⟨k,t,v,e,rfl,hb,he,hlx⟩
  have htl:eB R.data.toList=ku R.data.toList:=by
   rw[hR];unfold eB;simp only;rw[DS (by rw[<-oF,hl];simp),Ed (by rw[<-jW];exact h1)]
  exact⟨k,t,v,e,rfl,hb,λh0=>⟨(he h0).2.1,(he h0).2.2,λhk=>by have:=(he h0).1;omega⟩,λk' t' h=>absurd h (hn hl k' t'),htl▸hlx⟩
 |false=>
  cases h2:gD.data.toList.contains c with
  |true=>
   have hp:=pR hR (xD c h2);refine .inr ⟨250,rfl,.inr (.inl rfl),(zA R w hg hs hp).mono ?_⟩;rintro e' w' ⟨k,t,e,rfl,hb,he⟩
   have hlx:nu (eB R.data.toList) k t 0 e:=by
    rw[zx R c l hR (by rw[<-oF];exact h2)];by_cases h31:31<(bM R dy).size
    ·rw[Ed h31]at he⊢;exact⟨he,by rw[he];decide⟩
    ·rw[DS h31]at he⊢;obtain⟨rfl,rfl,rfl⟩:=he;exact⟨rfl,rfl,rfl,rfl⟩
   refine⟨k,t,0,e,rfl,hb,λh0=>?_,λk' t' h=>?_,hlx⟩
   ·split at he
    ·omega
    ·rename_i h31;obtain⟨_,rfl,hk⟩:=he;refine⟨hp,sX R dy,λhk2=>⟨c,l,hR,h2,rfl,by omega,?_,?_⟩⟩
     ·cases hw:inB kwL (bM R dy)with
      |false=>rfl
      |true=>
       rw[hw]at hk;simp only[FZ]at hk;omega
     ·cases hw:inB kwL (bM R dy)with
      |false=>
       rw[hw]at hk;simpa using hk
      |true=>
       rw[hw]at hk;simp only[FZ]at hk;omega
   ·obtain⟨c',l',_,_,rfl,h31,hw,hk⟩:=h;rw[DS (by omega),hw]at he;obtain⟨he0,ht,hk3⟩:=he;refine⟨he0,?_,ht⟩;rw[hk];simpa using hk3
  |false=>
   cases h3:lx.data.toList.contains c with
   |true=>
    refine .inr ⟨251,rfl,.inr (.inr rfl),(uc R w hg hs h1s).mono ?_⟩;rintro e' w' ⟨k,t,e,rfl,hb,he,hlx⟩
    have htl:eB R.data.toList=fL R.data.toList:=by
     rw[hR];unfold eB;simp only;rw[DS (by rw[<-oF,h2];simp),DS (by rw[<-jW,h1];simp)]
    exact⟨k,t,0,e,rfl,hb,λh0=>⟨(he h0).2.1,(he h0).2.2,λhk=>by have:=(he h0).1;omega⟩,λk' t' h=>absurd h (hn h2 k' t'),htl▸hlx⟩
   |false=>exact .inl ⟨rfl,hn h2,by
     rw[hR];unfold eB;simp only;rw[DS (by rw[<-oF,h2];simp),DS (by rw[<-jW,h1];simp)];exact AS c l h3⟩
theorem gq:∀(b:Bool) (l:List UInt8),(bp b l).length<=l.length
 |b,[]=>by cases b<;>simp[bp]
 |true,c::l=>by
  unfold bp;split
  ·have:=gq false l;simp;omega
  ·have:=gq true l;simp;omega
 |false,c::l=>by
  unfold bp;split
  ·have:=gq false l;simp;omega
  ·split
   ·have:=gq true l;simp;omega
   ·exact DK _
theorem vC{k:Int}{t:List UInt8}(h:eB l= .tok k t v):1<=t.length/\t.length<=l.length/\k≠0:=by
 cases l with
 |nil=>cases h
 |cons c r=>
  unfold eB at h;simp only at h;split at h
  ·rename_i hc;unfold nP at h;simp only at h;split at h
   ·cases h
   ·cases h;have hw:fS c=true:=by unfold fS;rw[hc];rfl
    refine⟨by rw[EV hw];simp,List.Sublist.length_le (List.takeWhile_sublist _),?_⟩;split
    ·decide
    ·split<;>decide
  ·split at h
   ·rename_i hc;unfold ku at h;simp only at h;split at h
    ·cases h
    ·split at h
     ·cases h
     ·cases h;exact⟨by rw[EV hc];simp,List.Sublist.length_le (List.takeWhile_sublist _),by decide⟩
   ·unfold fL at h;split at h
    ·cases h;refine⟨by simp,by simp;omega,by decide⟩
    ·split at h
     ·cases h;refine⟨by simp,by simp,by decide⟩
     ·cases h
def Tks(N:Nat)(ts:List Tk):Prop:=∀x∈ts,0<=x.2.2.2/\x.2.2.2<=(N:Int)
theorem Tks.snoc{N:Nat}{ts:List Tk}{x:Tk}(h:Tks N ts)(hx:0<=x.2.2.2/\x.2.2.2<=(N:Int)):Tks N (ts++[x]):=λy hy=>by
 rcases EC.1 hy with h1|h1
 ·exact h y h1
 ·simp at h1;subst h1;exact hx
theorem iR{N:Nat}:∀(k:Nat) (r:List UInt8) (ts T:List Tk),cV N k r ts= .toks T->Tks N ts->T.length<=ts.length+r.length+1/\1<=T.length/\(T.getD (T.length-1) (0,⟨#[]⟩,0,0)).1=0/\Tks N T
 |0,r,ts,T,h,ht=>by cases h
 |k+1,r,ts,T,h,ht=>by
  unfold cV at h;have hs:=gq false r;split at h
  ·cases h;refine⟨by simp,by simp,by simp[Es],ht.snoc ⟨by simp,by simp⟩⟩
  ·rename_i c l hcl;rw[hcl]at hs;split at h
   ·cases h
   ·rename_i kd t v htk;obtain⟨h1,h2,h3⟩:=vC htk;have ih:=iR k _ _ T h (ht.snoc ⟨by simp,by simp⟩);refine⟨?_,ih.2⟩;have:=ih.1;simp at this hs h2;omega
theorem jA{N:Nat}:∀(k:Nat) (r:List UInt8) (ts:List Tk) (p:Nat) (e:Int),cV N k r ts= .err p e->p<=N
 |0,r,ts,p,e,h=>by cases h;omega
 |k+1,r,ts,p,e,h=>by
  unfold cV at h;split at h
  ·cases h
  ·split at h
   ·cases h;omega
   ·exact jA k _ _ _ _ h
theorem jd{s:List UInt8}{T:List Tk}(h:dK s= .toks T):s.length<=16384/\T.length<=s.length+1/\1<=T.length/\(T.getD (T.length-1) (0,⟨#[]⟩,0,0)).1=0/\Tks s.length T:=by
 unfold dK at h;split at h
 ·cases h
 ·have:=iR _ _ _ _ h (λx hx=>by cases hx);simp only[DO,ET]at this;exact⟨by omega,this⟩
theorem uk{s:List UInt8}{p:Nat}(h:dK s= .err p e):p<=s.length:=by
 unfold dK at h;split at h
 ·cases h;omega
 ·exact jA _ _ _ _ _ h
def lK(z:Int):Bool:=decide (-2305843009213693952<=z)&&decide (z<=2305843009213693951)
theorem Dd(z:Int)(w:World):Calls Tryz.prog 189 #[.int .i64 z] w λe w'=>e= .returned (.bool (!countB z))/\w=w':=by
 by_cases h1:z<0
 ·go_enter Tryz.func189,Tryz.ntmps189;go_wp2;go_ret;exact⟨aa (by simp[countB];omega),rfl⟩
 ·by_cases h2:1099511627776<z
  all_goals
   go_enter Tryz.func189,Tryz.ntmps189;go_wp2;go_ret;exact⟨aa (by simp[countB];omega),rfl⟩
theorem Dc(z:Int)(w:World):Calls Tryz.prog 196 #[.int .i64 z] w λe w'=>e= .returned (.bool (!lK z))/\w=w':=by
 by_cases h1:z< -2305843009213693952
 ·go_enter Tryz.func196,Tryz.ntmps196;go_wp2;go_ret;exact⟨aa (by simp[lK];omega),rfl⟩
 ·by_cases h2:2305843009213693951<z
  all_goals
   go_enter Tryz.func196,Tryz.ntmps196;go_wp2;go_ret;exact⟨aa (by simp[lK];omega),rfl⟩
def yA(zs:List Int)(p:Int->Bool)(w:World)(e:Ending)(w':World):Prop:=∃i:Int,e= .returned (.int .i64 i)/\decide (0<=i)=zs.any p/\w=w'
theorem CS(A:Option Addr)(n c:Nat)(zs:List Int)(B:Nat)(w:World)(h:Ints w B A n zs)(hn:n<=1152921504606846976):
 Calls Tryz.prog 243 #[.slice A n c,fnv 189] w (yA zs (λz=> !countB z) w):=by
 have HL:=H_ h.len;unfold fnv;go_enter Tryz.func243,Tryz.ntmps243;go_wp2_with fail;go_loop [8] (λi=>∃k:Nat,k<=n/\i= .int .i64 k/\Hid ((zs.take k).any (λz=> !countB z)=false)) (λi=>n-(intOf i).toNat)
 case atStart=>exact⟨0,Ea _,rfl,H_ (by simp)⟩
 case round=>
  obtain⟨k,hk,rfl,HA⟩:=hrel;by_cases hlt:k<n
  ·obtain⟨b,off,z,rfl,_,hz,hc⟩:=h.at_ hlt;have hk0:0<=(k:Int):=by omega
   have hk1:(k:Int)<n:=by omega
   have HZ:=H_ hz;clear hz;go_wp2_with fail;refine(Dd _ _).mono ?_;rintro e w1 ⟨rfl,rfl⟩;by_cases hb:countB z=true
   ·rw[hb];have HB:=H_ hb;clear hb;go_wp2_with fail;go_round
    case rel=>exact⟨k+1,by omega,by go_num,H_ (by rw[ni HZ.out,HA.out,HB.out];rfl)⟩
    case measure=>simp[intOf];omega
   ·have hb':countB z=false:=by simpa using hb
    rw[hb'];have HB:=H_ hb';clear hb hb';go_wp2_with fail;go_ret;exact⟨(k:Int),rfl,by rw[nh HZ.out (by rw[HB.out];rfl)];simp,rfl⟩
  ·obtain rfl:k=n:=by omega
   go_wp2_with fail;go_ret;refine⟨-1,rfl,?_,rfl⟩;have h1:=HA.out;rw[DP (by rw[HL.out];omega)]at h1;rw[h1];rfl
theorem BZ(A:Option Addr)(n c:Nat)(zs:List Int)(B:Nat)(w:World)(h:Ints w B A n zs)(hn:n<=1152921504606846976):
 Calls Tryz.prog 188 #[.slice A n c,fnv 189] w λe w'=>e= .returned (.bool (zs.any λz=> !countB z))/\w=w':=by
 have HC:=H_ (CS A n c zs B w h hn);clear h;unfold fnv at HC⊢;go_enter Tryz.func188,Tryz.ntmps188;go_wp2_with fail;refine HC.out.mono ?_;rintro e w1 ⟨i,rfl,hi,rfl⟩;have HI:=H_ hi;clear HC hi;go_wp2_with fail;go_ret;exact⟨aa HI.out,rfl⟩
theorem CR(A:Option Addr)(n c:Nat)(zs:List Int)(B:Nat)(w:World)(h:Ints w B A n zs)(hn:n<=1152921504606846976):
 Calls Tryz.prog 244 #[.slice A n c,fnv 196] w (yA zs (λz=> !lK z) w):=by
 have HL:=H_ h.len;unfold fnv;go_enter Tryz.func244,Tryz.ntmps244;go_wp2_with fail;go_loop [8] (λi=>∃k:Nat,k<=n/\i= .int .i64 k/\Hid ((zs.take k).any (λz=> !lK z)=false)) (λi=>n-(intOf i).toNat)
 case atStart=>exact⟨0,Ea _,rfl,H_ (by simp)⟩
 case round=>
  obtain⟨k,hk,rfl,HA⟩:=hrel;by_cases hlt:k<n
  ·obtain⟨b,off,z,rfl,_,hz,hc⟩:=h.at_ hlt;have hk0:0<=(k:Int):=by omega
   have hk1:(k:Int)<n:=by omega
   have HZ:=H_ hz;clear hz;go_wp2_with fail;refine(Dc _ _).mono ?_;rintro e w1 ⟨rfl,rfl⟩;by_cases hb:lK z=true
   ·rw[hb];have HB:=H_ hb;clear hb;go_wp2_with fail;go_round
    case rel=>exact⟨k+1,by omega,by go_num,H_ (by rw[ni HZ.out,HA.out,HB.out];rfl)⟩
    case measure=>simp[intOf];omega
   ·have hb':lK z=false:=by simpa using hb
    rw[hb'];have HB:=H_ hb';clear hb hb';go_wp2_with fail;go_ret;exact⟨(k:Int),rfl,by rw[nh HZ.out (by rw[HB.out];rfl)];simp,rfl⟩
  ·obtain rfl:k=n:=by omega
   go_wp2_with fail;go_ret;refine⟨-1,rfl,?_,rfl⟩;have h1:=HA.out;rw[DP (by rw[HL.out];omega)]at h1;rw[h1];rfl
theorem BY(A:Option Addr)(n c:Nat)(zs:List Int)(B:Nat)(w:World)(h:Ints w B A n zs)(hn:n<=1152921504606846976):
 Calls Tryz.prog 195 #[.slice A n c,fnv 196] w λe w'=>e= .returned (.bool (zs.any λz=> !lK z))/\w=w':=by
 have HC:=H_ (CR A n c zs B w h hn);clear h;unfold fnv at HC⊢;go_enter Tryz.func195,Tryz.ntmps195;go_wp2_with fail;refine HC.out.mono ?_;rintro e w1 ⟨i,rfl,hi,rfl⟩;have HI:=H_ hi;clear HC hi;go_wp2_with fail;go_ret;exact⟨aa HI.out,rfl⟩
theorem Bu(v:Av)(zs:List Int)(w:World)(h:Ints w w.heap.size v.A2 v.n2 zs)(hn:v.n2<=1152921504606846976):
 Calls Tryz.prog 187 #[.agg v.cells] w λe w'=>e= .returned (.bool (decide ((zs.length:Int)<=20)&& !(zs.any λz=> !countB z)))/\Below w.heap.size w w':=by
 unfold Av.cells;have hbel:Below w.heap.size w (w.alloc (.cells #[.int .i64 v.k,.int .i64 v.a,.int .i64 v.b,.string v.nm,.string v.mt,.slice v.A v.n v.c,.slice v.A2 v.n2 v.c2] 48)):=(DN _ _).alloc (DK _) _;have c5:(w.alloc (.cells #[.int .i64 v.k,.int .i64 v.a,.int .i64 v.b,.string v.nm,.string v.mt,.slice v.A v.n v.c,.slice v.A2 v.n2 v.c2] 48)).cell? ⟨w.heap.size,6,none⟩=some (.slice v.A2 v.n2 v.c2):=(Blk.new w 48 _).cell 6;have HI:=H_ (h.below hbel);have HL:=H_ h.len;have HB:=H_ hbel;clear h hbel;by_cases hle:(v.n2:Int)<=20
 all_goals
  go_enter Tryz.func187,Tryz.ntmps187;go_upto_region 1 with(fail);generalize w.alloc (.cells #[.int .i64 v.k,.int .i64 v.a,.int .i64 v.b,.string v.nm,.string v.mt,.slice v.A v.n v.c,.slice v.A2 v.n2 v.c2] 48)=W at*
 ·have hd:decide ((v.n2:Int)<=20)=true:=by simpa using hle
  go_wp2_with fail;refine(BZ _ _ _ zs _ _ HI.out hn).mono ?_;rintro e w1 ⟨rfl,rfl⟩;go_wp2_with fail;go_ret;exact⟨aa (by rw[HL.out,hd];simp),HB.out⟩
 ·have hd:decide ((v.n2:Int)<=20)=false:=by simpa using hle
  go_wp2_with fail;go_ret;exact⟨aa (by rw[HL.out,hd];simp),HB.out⟩
theorem Bt(v:Av)(zs:List Int)(w:World)(h:Ints w w.heap.size v.A v.n zs)(hn:v.n<=1152921504606846976)(b0:Nat)(most:Int)(h0:Blk w b0 3 #[.int .i64 most]):
 Calls Tryz.prog 194 #[.agg v.cells,.pointer (some ⟨b0,0,none⟩)] w λe w'=>e= .returned (.bool (decide ((zs.length:Int)<=most)&& !(zs.any λz=> !lK z)))/\Below w.heap.size w w':=by
 unfold Av.cells;have hbel:Below w.heap.size w (w.alloc (.cells #[.int .i64 v.k,.int .i64 v.a,.int .i64 v.b,.string v.nm,.string v.mt,.slice v.A v.n v.c,.slice v.A2 v.n2 v.c2] 48)):=(DN _ _).alloc (DK _) _;have c5:(w.alloc (.cells #[.int .i64 v.k,.int .i64 v.a,.int .i64 v.b,.string v.nm,.string v.mt,.slice v.A v.n v.c,.slice v.A2 v.n2 v.c2] 48)).cell? ⟨w.heap.size,5,none⟩=some (.slice v.A v.n v.c):=(Blk.new w 48 _).cell 5;have c0:(w.alloc (.cells #[.int .i64 v.k,.int .i64 v.a,.int .i64 v.b,.string v.nm,.string v.mt,.slice v.A v.n v.c,.slice v.A2 v.n2 v.c2] 48)).cell? ⟨b0,0,none⟩=some (.int .i64 most):=(h0.alloc _).cell 0;have HI:=H_ (h.below hbel);have HL:=H_ h.len;have HB:=H_ hbel;clear h hbel h0;by_cases hle:(v.n:Int)<=most
 all_goals
  go_enter Tryz.func194,Tryz.ntmps194;go_upto_region 1 with(fail);generalize w.alloc (.cells #[.int .i64 v.k,.int .i64 v.a,.int .i64 v.b,.string v.nm,.string v.mt,.slice v.A v.n v.c,.slice v.A2 v.n2 v.c2] 48)=W at*
 ·have hd:decide ((v.n:Int)<=most)=true:=by simpa using hle
  go_wp2_with fail;refine(BY _ _ _ zs _ _ HI.out hn).mono ?_;rintro e w1 ⟨rfl,rfl⟩;go_wp2_with fail;go_ret;exact⟨aa (by rw[HL.out,hd];simp),HB.out⟩
 ·have hd:decide ((v.n:Int)<=most)=false:=by simpa using hle
  go_wp2_with fail;go_ret;exact⟨aa (by rw[HL.out,hd];simp),HB.out⟩
theorem Ae(L:Nat)(cs:Array Value)(w:World)(hL:Blk w L 48 cs)(hx:6<cs.size):
 Calls Tryz.prog 190 #[.pointer (some ⟨L,0,none⟩)] w λe w'=>e= .returned (.tuple #[])/\w.setCell ⟨L,6,none⟩ (.slice none 0 0)=w':=by
 obtain⟨u,hu⟩:∃u,w.cell? ⟨L,6,none⟩=some u:=⟨cs[6],by rw[hL.cell,Eq hx]⟩;have f0:=hL.frozen 6;clear hL hx;go_enter Tryz.func190,Tryz.ntmps190;go_wp2;go_end0;exact⟨rfl,rfl⟩
theorem Ac(L:Nat)(cs:Array Value)(w:World)(hL:Blk w L 48 cs)(hx:5<cs.size):
 Calls Tryz.prog 197 #[.pointer (some ⟨L,0,none⟩)] w λe w'=>e= .returned (.tuple #[])/\w.setCell ⟨L,5,none⟩ (.slice none 0 0)=w':=by
 obtain⟨u,hu⟩:∃u,w.cell? ⟨L,5,none⟩=some u:=⟨cs[5],by rw[hL.cell,Eq hx]⟩;have f0:=hL.frozen 5;clear hL hx;go_enter Tryz.func197,Tryz.ntmps197;go_wp2;go_end0;exact⟨rfl,rfl⟩
end
end Go.Proofs.YtjpbckbpeblibaaGreatDoor
