/- part of a proof -/
import Derived.Test.YtjpbckbpeblibaaGreatDoorCC17
namespace Go.Proofs.YtjpbckbpeblibaaGreatDoor
set_option linter.unusedVariables false
set_option linter.unusedSimpArgs false
set_option maxRecDepth 100000
set_option maxHeartbeats 64000000
section
open Go.RowKit
variable{B u:Nat}{G:Nat->Prop}{a:List UInt8}{d:Ad}{l:ByteArray}{w w':World}{x:Sc}
theorem Fj:type_of% @IntWalk.i64_in:=@IntWalk.i64_in
theorem Bq(h1:1<=u)(h:U64 u):Lib.nDigits u<=20:=by
 have:=Lib.numDigits_eq u h1 h;split at this<;>omega
theorem xO(u:Nat)(hu:U64 u)(w:World)(hg:Gl w):Calls Tryz.prog 65 #[.int .u64 u,.int .i64 10] w λe w'=>e= .returned (.string (si u))/\Below w.heap.size w w':=by
 have htab:=GlB.tab hg;clear hg;by_cases hs:u<100
 ·have hcv:IntKind.i64.wrap (u:Int)=u:=Fj _ (by omega);have hsz:(u:Int)<100:=by omega
  have HC:=H_ (show∀W,Calls Tryz.prog 108 #[.int .i64 u] W λe w'=>e= .returned (.string (si u))/\w'=W from λW=>Any.internal_strconv_small {Tryz.laysM173 with} u hs W);clear htab hu;go_enter Tryz.func65,Tryz.ntmps65;go_wp2_with (go_at_call 108;refine(HC.out _).mono ?_;rintro e w' ⟨rfl,rfl⟩);go_ret;exact⟨rfl,DN _ _⟩
 ·have hu1:1<=u:=by omega
  have hnd20:=Bq hu1 hu;have hsz:¬((u:Int)<100):=by omega
  have hal:Tryz.prog.arrayLen 183=24:=by kernel_rfl
  have hsl1:∀W,(Instr.sliceAt 183 (.pointer (some ⟨w.heap.size,0,none⟩)) none (some (.int .i64 (Lib.nDigits u:Int))) none).run Tryz.prog W= .ok (.slice (some ⟨w.heap.size,0,none⟩) (Lib.nDigits u) 24) W:=λW=>by
   rw[run_sliceAt_array_h W 183 ⟨w.heap.size,0,none⟩ (by kernel_rfl) .i64 (Lib.nDigits u:Int) (by omega) (by rw[hal];omega)];go_simp
  have hH0:=Lib.holds_zero0 w 183 (Lib.nDigits u) (by omega);have HD:=H_ (show∀W,Lib.TabIs Tryz.prog W "internal/strconv.uint64pow10" .u64 Lib.pow10Tab->Calls Tryz.prog 109 #[.int .u64 u] W λe w'=>e= .returned (.int .i64 (Lib.nDigits u))/\w'=W from λW hW=>Any.internal_strconv_numDigits {Tryz.laysM173 with} u hu1 hu W hW);have hfmt:=(show Calls Tryz.prog 110 #[.slice (some ⟨w.heap.size,0,none⟩) (Array.replicate (Lib.nDigits u) (0:UInt8)).size 24,.int .u64 u] (w.alloc (.cells Lib.zeros24 183)) _ from Any.internal_strconv_formatBase10 {Tryz.laysM173 with} w.heap.size 0 24 u (Array.replicate (Lib.nDigits u) 0) (w.alloc (.cells Lib.zeros24 183)) hH0 (by rw[Array.size_replicate];exact Lib.lt_pow_nDigits u) hu (by rw[Array.size_replicate];omega));rw[Array.size_replicate]at hfmt;have HH0:=H_ hH0;have HF:=H_ hfmt;have HT:=H_ (Lib.tabIs_alloc htab (.cells Lib.zeros24 183));clear hH0 hal hfmt htab;go_enter Tryz.func65,Tryz.ntmps65;go_wp2_with (go_at_call 109;refine(HD.out _ HT.out).mono ?_;rintro e w' ⟨rfl,rfl⟩);refine HF.out.mono ?_;rintro e w' ⟨rfl,k,v',dk,rfl,hF⟩
  have hcv:(convert 51 9 (.slice (some ⟨w.heap.size,0,none⟩) (Lib.nDigits u) 24)).run Tryz.prog ((Go.Sort.putRow (λ(b:UInt8)=>Value.int .u8 (b.toNat:Int)) (w.alloc (.cells Lib.zeros24 183)) w.heap.size 0 dk).drewN k)= .ok (.string (si u)) ((Go.Sort.putRow (λ(b:UInt8)=>Value.int .u8 (b.toNat:Int)) (w.alloc (.cells Lib.zeros24 183)) w.heap.size 0 dk).drewN k):=by
   have h:=run_convert_bytes_back (P:=Tryz.prog) ((Go.Sort.putRow (λ(b:UInt8)=>Value.int .u8 (b.toNat:Int)) (w.alloc (.cells Lib.zeros24 183)) w.heap.size 0 dk).drewN k) 51 9 5 ⟨w.heap.size,0,none⟩ 24 (Lib.decDigits u) Tryz.underlying51 Tryz.underlying5 Tryz.underlying9 (λj hj=>by
    rw[Lib.row_is_numeral hF j hj,Lib.add_plain,World.cell?_drewN];exact Go.Sort.cell?_putRow (λ(b:UInt8)=>Value.int .u8 (b.toNat:Int)) _ w.heap.size 0 _ dk HH0.out (by rw[hF.size,Array.size_replicate]) j (by rw[hF.size];rw[Lib.decDigits_length]at hj;exact hj))
   rw[Lib.decDigits_length]at h;exact h
  go_wp2_with fail;go_ret;obtain⟨os,eo⟩:=Lib.fin_at w (.cells Lib.zeros24 183) dk k 0;exact⟨rfl,by rw[eo];exact Lib.below_grow _ w (DK _) k os⟩
theorem qx(u:Nat)(hu:U64 u)(w:World)(hg:Gl w):Calls Tryz.prog 33 #[.int .u64 u,.int .i64 10] w λe w'=>e= .returned (.string (si u))/\Below w.heap.size w w':=by
 have H:=H_ (xO u hu w hg);clear hg;go_enter Tryz.func33,Tryz.ntmps33;go_wp2_with fail;refine H.out.mono ?_;rintro e w' ⟨rfl,b1⟩;go_wp2_with fail;go_ret;exact⟨rfl,b1⟩
theorem pX(s:ByteArray)(u:Nat)(w:World)(hs:s.size<=1000000)(h:Lib.parseUintB 64 s.data.toList= .ok u):
 Calls Tryz.prog 84 #[.string s,.int .i64 10,.int .i64 64] w λe w'=>e= .returned (.tuple #[.int .u64 u,.nilIface])/\Below w.heap.size w w':=
 (Tryz.strconv_ParseUint_10_at64_ok s (by omega) u h w).mono λe w' ⟨h1,h2⟩=>⟨h1,by
   rcases h2 with rfl|rfl
   ·exact DN _ _
   ·exact Lib.bytesWorld_below w 5 s⟩
theorem la(s:ByteArray)(w:World)(hg:Gl w)(hs:s.size<=1000000)(h:∀v,Lib.parseUintB 64 s.data.toList≠ .ok v):
 Calls Tryz.prog 84 #[.string s,.int .i64 10,.int .i64 64] w λe w'=>∃(z:Int) (N:Nat),e= .returned (.tuple #[.int .u64 z,.iface 241 (.pointer (some ⟨N,0,none⟩))])/\Below w.heap.size w w':=by
 rcases hp:Lib.parseUintB 64 s.data.toList with v|_|_
 ·exact absurd hp (h v)
 ·obtain⟨tp,p,e1⟩:=GlB.syn hg;exact(Tryz.strconv_ParseUint_10_at64_syntax_var s (by omega) (hp.trans rfl) tp p w e1).mono λe w' ⟨N,h1,_,_,h2⟩=>⟨_,N,h1,h2⟩
 ·obtain⟨tp,p,e1⟩:=GlB.rng hg;exact(Tryz.strconv_ParseUint_10_at64_range_var s (by omega) hp tp p w e1).mono λe w' ⟨N,h1,_,_,h2⟩=>⟨_,N,h1,h2⟩
theorem rU{l:List UInt8}(h:32∉l):Lib.index l [32]= -1:=by
 rw[Lib.index_one];induction l with
 |nil=>rfl
 |cons c l ih=>
  rw[DY,not_or]at h;simp only[Lib.indexByte,ih h.2];rw[DS (by simpa using Ne.symm h.1)];rfl
theorem BX(l:List UInt8):(Lib.cut l [32]=(l,[],false)/\32∉l)\/∃a b,l=a++32::b/\32∉a/\Lib.cut l [32]=(a,b,true):=by
 by_cases h:32∈l
 ·obtain⟨a,b,rfl,ha⟩:=List.eq_append_cons_of_mem h;refine .inr ⟨a,b,rfl,ha,?_⟩;unfold Lib.cut;rw[jO 32 a b (λc hc e=>ha (e▸hc)),Ed (by simp)];simp
 ·refine .inl ⟨?_,h⟩;unfold Lib.cut;rw[rU h];rfl
theorem nE{b c d:List UInt8}(ha:32∉a)(hc:32∉c)(h:a++32::b=c++32::d):a=c/\b=d:=by
 have h1:=jO 32 a b (λx hx e=>ha (e▸hx));have h2:=jO 32 c d (λx hx e=>hc (e▸hx));rw[h,h2]at h1;have hl:=Int.ofNat.inj h1;obtain⟨h3,h4⟩:=List.append_inj h hl.symm;exact⟨h3,(List.cons.inj h4).2⟩
theorem mU:∀k:Nat,32∉(gV k).data.toList
 |0=>by decide
 |1=>by decide
 |_+2=>(by decide:32∉([121,111,117,110,103]:List UInt8))
theorem yc{k n:Nat}{b:List UInt8}(hl:l.data.toList=a++32::b)(ha:32∉a)(h:IsConf k l n):a=(gV k).data.toList/\b=Lib.decDigits n:=
 nE ha (mU k) (hl.symm.trans h.2.1)
theorem A8{k n:Nat}(h:IsConf k l n):32∈l.data.toList:=by rw[h.2.1];simp
theorem ix(m sd y:Int)(w:World):Calls Tryz.prog 61 #[.agg #[.int .i64 m,.int .u64 sd,.int .i64 y]] w λe w'=>e= .returned (.bool (decide (1<=m/\m<=8/\0<=y/\y<=1099511627776)))/\Below w.heap.size w w':=by
 have hq:=Blk.new w 25 #[.int .i64 m,.int .u64 sd,.int .i64 y];have q0:=hq.cell 0;have q2:=hq.cell 2;have hb:=H_ ((DN w.heap.size w).alloc (DK _) (.cells #[.int .i64 m,.int .u64 sd,.int .i64 y] 25));clear hq;by_cases h1:1<=m
 ·by_cases h2:m<=8
  ·by_cases h3:0<=y
   ·by_cases h4:y<=1099511627776
    ·have hd:decide (1<=m/\m<=8/\0<=y/\y<=1099511627776)=true:=FU ⟨h1,h2,h3,h4⟩;rw[hd];clear hd;go_enter Tryz.func61,Tryz.ntmps61;go_wp2_with fail;go_ret;exact⟨rfl,hb.out⟩
    ·have hd:decide (1<=m/\m<=8/\0<=y/\y<=1099511627776)=false:=Fy λh=>h4 h.2.2.2;rw[hd];clear hd;go_enter Tryz.func61,Tryz.ntmps61;go_wp2_with fail;go_ret;exact⟨rfl,hb.out⟩
   ·have hd:decide (1<=m/\m<=8/\0<=y/\y<=1099511627776)=false:=Fy λh=>h3 h.2.2.1;rw[hd];clear hd;go_enter Tryz.func61,Tryz.ntmps61;go_wp2_with fail;go_ret;exact⟨rfl,hb.out⟩
  ·have hd:decide (1<=m/\m<=8/\0<=y/\y<=1099511627776)=false:=Fy λh=>h2 h.2.1;rw[hd];clear hd;go_enter Tryz.func61,Tryz.ntmps61;go_wp2_with fail;go_ret;exact⟨rfl,hb.out⟩
 ·have hd:decide (1<=m/\m<=8/\0<=y/\y<=1099511627776)=false:=Fy λh=>h1 h.1;rw[hd];clear hd;go_enter Tryz.func61,Tryz.ntmps61;go_wp2_with fail;go_ret;exact⟨rfl,hb.out⟩
def Dl(k:Nat)(l:ByteArray)(B b:Nat)(x:Sc)(w:World)(e:Ending)(w':World):Prop:=Lk B b w w'/\
 ((gA k l=none/\e= .returned (.bool false)/\∃x',RdP w' B b x' (.conf k))\/∃v,gA k l=some v/\e= .returned (.bool true)/\RdP w' B b (x.set k v) (.conf k))
--walk of configuration
theorem Ak(p:ByteArray):(⟨p.data.toList.toArray⟩:ByteArray)=p:=by rw[Array.toArray_toList]
theorem Az(l p q:ByteArray)(ok:Bool)(w:World)(hg:Gl w)(hl:l.size<=100000)(h:Lib.cut l.data.toList [32]=(p.data.toList,q.data.toList,ok)):
 Calls Tryz.prog 83 #[.string l,.string ⟨#[32]⟩] w λe w'=>e= .returned (.tuple #[.string p,.string q,.bool ok])/\Below w.heap.size w w':=by
 obtain⟨m,hm⟩:=hg.mx;refine(Tryz.strings_Cut l ⟨#[32]⟩ m w (by omega) hm).mono ?_;rintro e w' ⟨rfl,n,rfl⟩;rw[show((⟨#[32]⟩:ByteArray).data.toList)=[32]from rfl,h];exact⟨by simp only[Ak],aT (DN _ _) n⟩
theorem jX{k:Nat}{q:ByteArray}(hu:U64 u)(hl:l.data.toList=(gV k).data.toList++32::q.data.toList)(hq:si u=q):(jm k u->gA k l=some u)/\(¬jm k u->gA k l=none):=by
 have hq':q.data.toList=Lib.decDigits u:=by rw[<-hq];rfl
 refine⟨λh=>mT ⟨hu,by rw[hl,hq'],h⟩,λh=>dU λn hn=>h ?_⟩;have h1:=(nE (mU k) (mU k) (hl.symm.trans hn.2.1)).2;rw[hq']at h1;have h2:u=n:=by rw[<-jp u,<-jp n,h1]
 rw[h2];exact hn.2.2
theorem Lk.far{b:Nat}{p:Addr}(h:Lk B b w w')(hp:w.heap.size<=p.block)(u:Value):Lk B b w (w'.setCell p u):=
 ⟨h.os,h.tape,h.output,by simp[World.setCell];exact h.size,λk hk hb ht=>(DZ _ _ _ _ (by omega)).trans (h.block k hk hb ht)⟩
theorem y9(k:Nat)(hk:k<3)(l:ByteArray)(w:World)(B b:Nat)(x:Sc)(hg:Gl w)(hr:RdP w B b x (.conf k))(hbB:b<B)(hBw:B<=w.heap.size)(hl:l.size<=100000):
 Calls Tryz.prog 48 #[.pointer (some ⟨b,0,none⟩),.string l] w (Dl k l B b x w):=by
 have HR:=H_ hr;have HG:=H_ hg;rcases BX l.data.toList with⟨hc,hno⟩|⟨a,t,hlt,ha,hc⟩
 ·have HC:=H_ (Az l l ⟨#[]⟩ false w hg hl hc);have HN:=H_ (show gA k l=none from dU λn h=>hno (A8 h));have HP:=H_ (λW (hW:Gl W)=>la ⟨#[]⟩ W hW (by decide) (λv h=>by cases h));clear hc hno hr hg;go_enter Tryz.func48,Tryz.ntmps48;go_wp2_with fail;refine HC.out.mono ?_;rintro e w1 ⟨rfl,b1⟩;go_wp2_with fail;refine(HP.out w1 (HG.out.below b1)).mono ?_;rintro e w2 ⟨z,N,rfl,b2⟩;go_wp2_with fail;go_ret;have hb:=b1.trans (b2.mono b1.size);exact⟨Lk.of hb (DK _),.inl ⟨HN.out,rfl,x,HR.out.below hb (DK _)⟩⟩
 obtain⟨p,hp⟩:∃p:ByteArray,p.data.toList=a:=⟨⟨a.toArray⟩,rfl⟩;obtain⟨q,hq⟩:∃q:ByteArray,q.data.toList=t:=⟨⟨t.toArray⟩,rfl⟩;subst hp hq
 have hqs:q.size<=100000:=by
  have h1:l.size=l.data.toList.length:=rfl;have h2:q.size=q.data.toList.length:=rfl;rw[hlt,DJ,DL]at h1;omega
 have HC:=H_ (Az l p q true w hg hl hc);have HU:=H_ (λn (h:IsConf k l n)=>yc hlt ha h);have HL:=H_ hlt;clear hc ha hlt hg;by_cases hu:∃u,Lib.parseUintB 64 q.data.toList= .ok u
 rotate_left
 ·have HN:=H_ (dU λn h=>hu ⟨n,by rw[(HU.out n h).2];exact lF n h.1⟩);have HP:=H_ (λW (hW:Gl W)=>la q W hW (by omega) (λv h=>hu ⟨v,h⟩));clear hr hu;go_enter Tryz.func48,Tryz.ntmps48;go_wp2_with fail;refine HC.out.mono ?_;rintro e w1 ⟨rfl,b1⟩;go_wp2_with fail;refine(HP.out w1 (HG.out.below b1)).mono ?_;rintro e w2 ⟨z,N,rfl,b2⟩;go_wp2_with fail;go_ret;have hb:=b1.trans (b2.mono b1.size);exact⟨Lk.of hb (DK _),.inl ⟨HN.out,rfl,x,HR.out.below hb (DK _)⟩⟩
 obtain⟨u,hu⟩:=hu;have hu64:U64 u:=Lib.parseMag_lt (by rw[<-Lib.parseUintB_64];exact hu);have HP:=H_ (λW=>pX q u W (by omega) hu);have HF:=H_ (λW (hW:Gl W)=>qx u hu64 W hW);have HQ:=H_ hu;have HV:=H_ hu64;clear hu;by_cases hf:si u=q
 rotate_left
 ·have HN:=H_ (show gA k l=none from dU λn h=>hf (by
   have h1:=(HU.out n h).2;have h2:=HQ.out;rw[h1,lF n h.1]at h2;cases h2;exact Eh h1.symm))
  have hne:=DM.2 λe=>hf (eK e);clear hr hf;go_enter Tryz.func48,Tryz.ntmps48;go_wp2_with fail;refine HC.out.mono ?_;rintro e w1 ⟨rfl,b1⟩;go_wp2_with fail;refine(HP.out w1).mono ?_;rintro e w2 ⟨rfl,b2⟩;go_wp2_with fail;have hb2:=b1.trans (b2.mono b1.size);refine(HF.out w2 (HG.out.below hb2)).mono ?_;rintro e w3 ⟨rfl,b3⟩;go_wp2_with fail;go_ret;have hb:=hb2.trans (b3.mono hb2.size);exact⟨Lk.of hb (DK _),.inl ⟨HN.out,rfl,x,HR.out.below hb (DK _)⟩⟩
 have heq:((si u).toList==q.toList)=true:=FG.2 (by rw[hf]);have HT:=H_ hf;clear hf HQ;obtain⟨hbk,hcs,has,_⟩:=hr;have HB:=H_ hbk;have HX:=H_ (And.intro hcs has);clear hbk hcs has;obtain rfl|rfl|rfl:k=0\/k=1\/k=2:=by omega
 ·by_cases hw:p=⟨#[109,97,99,104,105,110,101,115]⟩
  rotate_left
  ·have HN:=H_ (dU λn h=>hw (Eh (HU.out n h).1));have hne:(p.toList==[109,97,99,104,105,110,101,115])=false:=DM.2 λe=>hw (eK (e.trans (Ey (⟨#[109,97,99,104,105,110,101,115]⟩:ByteArray)).symm));clear hw;go_enter Tryz.func48,Tryz.ntmps48;go_wp2_with fail;refine HC.out.mono ?_;rintro e w1 ⟨rfl,b1⟩;go_wp2_with fail;refine(HP.out w1).mono ?_;rintro e w2 ⟨rfl,b2⟩;go_wp2_with fail;have hb2:=b1.trans (b2.mono b1.size);refine(HF.out w2 (HG.out.below hb2)).mono ?_;rintro e w3 ⟨rfl,b3⟩;have hb3:=hb2.trans (b3.mono hb2.size);clear b1 b2 b3 hb2;have hr3:w3.cell? ⟨b,5,none⟩=some (.int .i64 0):=(ab hb3 (HB.out.lt) 5).trans (HB.out.cell 5);have qn:=Blk.new w3 9 #[.string ⟨#[109,97,99,104,105,110,101,115]⟩,.string ⟨#[115,101,101,100]⟩,.string ⟨#[121,111,117,110,103]⟩];have qk:=qn.cell 0;have hb4:=H_ (hb3.alloc hb3.size (.cells #[.string ⟨#[109,97,99,104,105,110,101,115]⟩,.string ⟨#[115,101,101,100]⟩,.string ⟨#[121,111,117,110,103]⟩] 9));have hr4:(w3.alloc (.cells #[.string ⟨#[109,97,99,104,105,110,101,115]⟩,.string ⟨#[115,101,101,100]⟩,.string ⟨#[121,111,117,110,103]⟩] 9)).cell? ⟨b,5,none⟩=some (.int .i64 0):=(ab hb4.out HB.out.lt 5).trans (HB.out.cell 5);clear qn hb3;go_wp2_with fail;go_ret;exact⟨Lk.of hb4.out (DK _),.inl ⟨HN.out,rfl,x,HR.out.below hb4.out (DK _)⟩⟩
  subst hw;have heqw:((⟨#[109,97,99,104,105,110,101,115]⟩:ByteArray).toList==[109,97,99,104,105,110,101,115])=true:=by rw[Ey];rfl
  go_enter Tryz.func48,Tryz.ntmps48;go_wp2_with fail;refine HC.out.mono ?_;rintro e w1 ⟨rfl,b1⟩;go_wp2_with fail;refine(HP.out w1).mono ?_;rintro e w2 ⟨rfl,b2⟩;go_wp2_with fail;have hb2:=b1.trans (b2.mono b1.size);refine(HF.out w2 (HG.out.below hb2)).mono ?_;rintro e w3 ⟨rfl,b3⟩;have hb3:=hb2.trans (b3.mono hb2.size);clear b1 b2 b3 hb2;have hr3:w3.cell? ⟨b,5,none⟩=some (.int .i64 0):=(ab hb3 (HB.out.lt) 5).trans (HB.out.cell 5);have qn:=Blk.new w3 9 #[.string ⟨#[109,97,99,104,105,110,101,115]⟩,.string ⟨#[115,101,101,100]⟩,.string ⟨#[121,111,117,110,103]⟩];have qk:=qn.cell 0;have hb4:=H_ (hb3.alloc hb3.size (.cells #[.string ⟨#[109,97,99,104,105,110,101,115]⟩,.string ⟨#[115,101,101,100]⟩,.string ⟨#[121,111,117,110,103]⟩] 9));have hr4:(w3.alloc (.cells #[.string ⟨#[109,97,99,104,105,110,101,115]⟩,.string ⟨#[115,101,101,100]⟩,.string ⟨#[121,111,117,110,103]⟩] 9)).cell? ⟨b,5,none⟩=some (.int .i64 0):=(ab hb4.out HB.out.lt 5).trans (HB.out.cell 5);clear qn hb3;have hq4:=hb4.out.size;obtain⟨w4,hw4⟩:=nm_ (w3.alloc (.cells #[.string ⟨#[109,97,99,104,105,110,101,115]⟩,.string ⟨#[115,101,101,100]⟩,.string ⟨#[121,111,117,110,103]⟩] 9));rw[hw4]at hb4 hr4 hq4 qk;go_upto_region 6 with fail;obtain⟨c,hcz⟩:=nm_ (w4.heap.size);obtain⟨w5,hw5⟩:=nm_ (w4.alloc (.cells #[.int .i64 1,.int .u64 0,.int .i64 0] 25));have hcs:w3.heap.size+1=c:=by rw[<-hcz,<-hw4];simp
  have HC5:=hng hw5 hcz;have HB5:=H_ (show Below w.heap.size w w5 from hw5▸hb4.out.alloc hb4.out.size _);rw[hw5]
  (try rw[hcz])
  (try rw[hcs])
  have hbc:b<c:=by have:=HB.out.lt;omega
  have HQ5:=H_ (HB.out.below HB5.out HB.out.lt);clear hw4 hw5 hb4 hr4 qk hr3;have q0:=HQ5.out.cell 0;have q1:=HQ5.out.cell 1;have q2:=HQ5.out.cell 2;have q5:=HQ5.out.cell 5;obtain⟨f0,f1,f2⟩:=HQ5.out.f3;have d0:=HC5.out.cell 0;have d1:=HC5.out.cell 1;have d2:=HC5.out.cell 2;have e0:=HC5.out.frozen 0;have e2:=HC5.out.frozen 2;go_wp2_with fail;by_cases hv:1<=u/\u<=8
  ·refine(ix _ _ _ _).mono ?_;rintro e w6 ⟨he,b6⟩;rw[FU (by omega)]at he;subst he;have HL6:=H_ ((((Lk.of HB5.out (DK _)).set 0 (.int .i64 (min (u:Int) 1099511627776))).far (p:=⟨c,0,none⟩) (by show w.heap.size<=c;omega) (.int .i64 (min (u:Int) 1099511627776))).trans (Lk.of (B:=B) (b:=b) b6 (DK _)));have hq6:=((HQ5.out.set 0 (.int .i64 (min (u:Int) 1099511627776))).other ⟨c,0,none⟩ (.int .i64 (min (u:Int) 1099511627776)) (by show b≠c;omega)).below b6 (by have:=HQ5.out.lt;simp[World.setCell];omega);simp only[EL,Fm,Fl]at hq6;have HR6:=H_ (show RdP w6 B b {x with m:=(min (u:Int) 1099511627776)} (.conf 0)from⟨hq6,HX.out.1,HX.out.2,by omega⟩);clear b6 hq6 q0 q1 q2 q5 f0 f1 f2 d0 d1 d2 e0 e2;go_wp2_with fail;go_ret;have hok:jm 0 u:=⟨λ_=>hv,λh=>absurd h (by decide)⟩;have hmin:(min (u:Int) 1099511627776)=(u:Int):=by omega
   have hr6:=HR6.out;rw[hmin]at hr6;exact⟨HL6.out,.inr ⟨u,(jX (k:=0) HV.out HL.out HT.out).1 hok,rfl,hr6⟩⟩
  ·refine(ix _ _ _ _).mono ?_;rintro e w6 ⟨he,b6⟩;rw[Fy (by omega)]at he;subst he;have HL6:=H_ ((((Lk.of HB5.out (DK _)).set 0 (.int .i64 (min (u:Int) 1099511627776))).far (p:=⟨c,0,none⟩) (by show w.heap.size<=c;omega) (.int .i64 (min (u:Int) 1099511627776))).trans (Lk.of (B:=B) (b:=b) b6 (DK _)));have hq6:=((HQ5.out.set 0 (.int .i64 (min (u:Int) 1099511627776))).other ⟨c,0,none⟩ (.int .i64 (min (u:Int) 1099511627776)) (by show b≠c;omega)).below b6 (by have:=HQ5.out.lt;simp[World.setCell];omega);simp only[EL,Fm,Fl]at hq6;have HR6:=H_ (show RdP w6 B b {x with m:=(min (u:Int) 1099511627776)} (.conf 0)from⟨hq6,HX.out.1,HX.out.2,by omega⟩);clear b6 hq6 q0 q1 q2 q5 f0 f1 f2 d0 d1 d2 e0 e2;go_wp2_with fail;go_ret;exact⟨HL6.out,.inl ⟨(jX (k:=0) HV.out HL.out HT.out).2 λh=>hv (h.1 rfl),rfl,_,HR6.out⟩⟩
 ·by_cases hw:p=⟨#[115,101,101,100]⟩
  rotate_left
  ·have HN:=H_ (dU λn h=>hw (Eh (HU.out n h).1));have hne:(p.toList==[115,101,101,100])=false:=DM.2 λe=>hw (eK (e.trans (Ey (⟨#[115,101,101,100]⟩:ByteArray)).symm));clear hw;go_enter Tryz.func48,Tryz.ntmps48;go_wp2_with fail;refine HC.out.mono ?_;rintro e w1 ⟨rfl,b1⟩;go_wp2_with fail;refine(HP.out w1).mono ?_;rintro e w2 ⟨rfl,b2⟩;go_wp2_with fail;have hb2:=b1.trans (b2.mono b1.size);refine(HF.out w2 (HG.out.below hb2)).mono ?_;rintro e w3 ⟨rfl,b3⟩;have hb3:=hb2.trans (b3.mono hb2.size);clear b1 b2 b3 hb2;have hr3:w3.cell? ⟨b,5,none⟩=some (.int .i64 1):=(ab hb3 (HB.out.lt) 5).trans (HB.out.cell 5);have qn:=Blk.new w3 9 #[.string ⟨#[109,97,99,104,105,110,101,115]⟩,.string ⟨#[115,101,101,100]⟩,.string ⟨#[121,111,117,110,103]⟩];have qk:=qn.cell 1;have hb4:=H_ (hb3.alloc hb3.size (.cells #[.string ⟨#[109,97,99,104,105,110,101,115]⟩,.string ⟨#[115,101,101,100]⟩,.string ⟨#[121,111,117,110,103]⟩] 9));have hr4:(w3.alloc (.cells #[.string ⟨#[109,97,99,104,105,110,101,115]⟩,.string ⟨#[115,101,101,100]⟩,.string ⟨#[121,111,117,110,103]⟩] 9)).cell? ⟨b,5,none⟩=some (.int .i64 1):=(ab hb4.out HB.out.lt 5).trans (HB.out.cell 5);clear qn hb3;go_wp2_with fail;go_ret;exact⟨Lk.of hb4.out (DK _),.inl ⟨HN.out,rfl,x,HR.out.below hb4.out (DK _)⟩⟩
  subst hw;have heqw:((⟨#[115,101,101,100]⟩:ByteArray).toList==[115,101,101,100])=true:=by rw[Ey];rfl
  go_enter Tryz.func48,Tryz.ntmps48;go_wp2_with fail;refine HC.out.mono ?_;rintro e w1 ⟨rfl,b1⟩;go_wp2_with fail;refine(HP.out w1).mono ?_;rintro e w2 ⟨rfl,b2⟩;go_wp2_with fail;have hb2:=b1.trans (b2.mono b1.size);refine(HF.out w2 (HG.out.below hb2)).mono ?_;rintro e w3 ⟨rfl,b3⟩;have hb3:=hb2.trans (b3.mono hb2.size);clear b1 b2 b3 hb2;have hr3:w3.cell? ⟨b,5,none⟩=some (.int .i64 1):=(ab hb3 (HB.out.lt) 5).trans (HB.out.cell 5);have qn:=Blk.new w3 9 #[.string ⟨#[109,97,99,104,105,110,101,115]⟩,.string ⟨#[115,101,101,100]⟩,.string ⟨#[121,111,117,110,103]⟩];have qk:=qn.cell 1;have hb4:=H_ (hb3.alloc hb3.size (.cells #[.string ⟨#[109,97,99,104,105,110,101,115]⟩,.string ⟨#[115,101,101,100]⟩,.string ⟨#[121,111,117,110,103]⟩] 9));have hr4:(w3.alloc (.cells #[.string ⟨#[109,97,99,104,105,110,101,115]⟩,.string ⟨#[115,101,101,100]⟩,.string ⟨#[121,111,117,110,103]⟩] 9)).cell? ⟨b,5,none⟩=some (.int .i64 1):=(ab hb4.out HB.out.lt 5).trans (HB.out.cell 5);clear qn hb3;have hq4:=hb4.out.size;obtain⟨w4,hw4⟩:=nm_ (w3.alloc (.cells #[.string ⟨#[109,97,99,104,105,110,101,115]⟩,.string ⟨#[115,101,101,100]⟩,.string ⟨#[121,111,117,110,103]⟩] 9));rw[hw4]at hb4 hr4 hq4 qk;go_upto_region 6 with fail;obtain⟨c,hcz⟩:=nm_ (w4.heap.size);obtain⟨w5,hw5⟩:=nm_ (w4.alloc (.cells #[.int .i64 1,.int .u64 0,.int .i64 0] 25));have hcs:w3.heap.size+1=c:=by rw[<-hcz,<-hw4];simp
  have HC5:=hng hw5 hcz;have HB5:=H_ (show Below w.heap.size w w5 from hw5▸hb4.out.alloc hb4.out.size _);rw[hw5]
  (try rw[hcz])
  (try rw[hcs])
  have hbc:b<c:=by have:=HB.out.lt;omega
  have HQ5:=H_ (HB.out.below HB5.out HB.out.lt);clear hw4 hw5 hb4 hr4 qk hr3;have q0:=HQ5.out.cell 0;have q1:=HQ5.out.cell 1;have q2:=HQ5.out.cell 2;have q5:=HQ5.out.cell 5;obtain⟨f0,f1,f2⟩:=HQ5.out.f3;have d0:=HC5.out.cell 0;have d1:=HC5.out.cell 1;have d2:=HC5.out.cell 2;have e0:=HC5.out.frozen 0;have e2:=HC5.out.frozen 2;go_wp2_with fail;refine(ix _ _ _ _).mono ?_;rintro e w6 ⟨rfl,b6⟩;have HL6:=H_ (((Lk.of HB5.out (DK _)).set 1 (.int .u64 (u:Int))).trans (Lk.of (B:=B) (b:=b) b6 (DK _)));have hq6:=(HQ5.out.set 1 (.int .u64 (u:Int))).below b6 (by have:=HQ5.out.lt;simp[World.setCell];omega);simp only[EL,Fm,Fl]at hq6;have HR6:=H_ (show RdP w6 B b {x with sd:=u} (.conf 1)from⟨hq6,HX.out.1,HX.out.2,by omega⟩);clear b6 hq6 q0 q1 q2 q5 f0 f1 f2 d0 d1 d2 e0 e2;go_wp2_with fail;go_ret;have hok:jm 1 u:=⟨λh=>absurd h (by decide),λh=>absurd h (by decide)⟩;exact⟨HL6.out,.inr ⟨u,(jX (k:=1) HV.out HL.out HT.out).1 hok,rfl,HR6.out⟩⟩
 ·by_cases hw:p=⟨#[121,111,117,110,103]⟩
  rotate_left
  ·have HN:=H_ (dU λn h=>hw (Eh (HU.out n h).1));have hne:(p.toList==[121,111,117,110,103])=false:=DM.2 λe=>hw (eK (e.trans (Ey (⟨#[121,111,117,110,103]⟩:ByteArray)).symm));clear hw;go_enter Tryz.func48,Tryz.ntmps48;go_wp2_with fail;refine HC.out.mono ?_;rintro e w1 ⟨rfl,b1⟩;go_wp2_with fail;refine(HP.out w1).mono ?_;rintro e w2 ⟨rfl,b2⟩;go_wp2_with fail;have hb2:=b1.trans (b2.mono b1.size);refine(HF.out w2 (HG.out.below hb2)).mono ?_;rintro e w3 ⟨rfl,b3⟩;have hb3:=hb2.trans (b3.mono hb2.size);clear b1 b2 b3 hb2;have hr3:w3.cell? ⟨b,5,none⟩=some (.int .i64 2):=(ab hb3 (HB.out.lt) 5).trans (HB.out.cell 5);have qn:=Blk.new w3 9 #[.string ⟨#[109,97,99,104,105,110,101,115]⟩,.string ⟨#[115,101,101,100]⟩,.string ⟨#[121,111,117,110,103]⟩];have qk:=qn.cell 2;have hb4:=H_ (hb3.alloc hb3.size (.cells #[.string ⟨#[109,97,99,104,105,110,101,115]⟩,.string ⟨#[115,101,101,100]⟩,.string ⟨#[121,111,117,110,103]⟩] 9));have hr4:(w3.alloc (.cells #[.string ⟨#[109,97,99,104,105,110,101,115]⟩,.string ⟨#[115,101,101,100]⟩,.string ⟨#[121,111,117,110,103]⟩] 9)).cell? ⟨b,5,none⟩=some (.int .i64 2):=(ab hb4.out HB.out.lt 5).trans (HB.out.cell 5);clear qn hb3;go_wp2_with fail;go_ret;exact⟨Lk.of hb4.out (DK _),.inl ⟨HN.out,rfl,x,HR.out.below hb4.out (DK _)⟩⟩
  subst hw;have heqw:((⟨#[121,111,117,110,103]⟩:ByteArray).toList==[121,111,117,110,103])=true:=by rw[Ey];rfl
  go_enter Tryz.func48,Tryz.ntmps48;go_wp2_with fail;refine HC.out.mono ?_;rintro e w1 ⟨rfl,b1⟩;go_wp2_with fail;refine(HP.out w1).mono ?_;rintro e w2 ⟨rfl,b2⟩;go_wp2_with fail;have hb2:=b1.trans (b2.mono b1.size);refine(HF.out w2 (HG.out.below hb2)).mono ?_;rintro e w3 ⟨rfl,b3⟩;have hb3:=hb2.trans (b3.mono hb2.size);clear b1 b2 b3 hb2;have hr3:w3.cell? ⟨b,5,none⟩=some (.int .i64 2):=(ab hb3 (HB.out.lt) 5).trans (HB.out.cell 5);have qn:=Blk.new w3 9 #[.string ⟨#[109,97,99,104,105,110,101,115]⟩,.string ⟨#[115,101,101,100]⟩,.string ⟨#[121,111,117,110,103]⟩];have qk:=qn.cell 2;have hb4:=H_ (hb3.alloc hb3.size (.cells #[.string ⟨#[109,97,99,104,105,110,101,115]⟩,.string ⟨#[115,101,101,100]⟩,.string ⟨#[121,111,117,110,103]⟩] 9));have hr4:(w3.alloc (.cells #[.string ⟨#[109,97,99,104,105,110,101,115]⟩,.string ⟨#[115,101,101,100]⟩,.string ⟨#[121,111,117,110,103]⟩] 9)).cell? ⟨b,5,none⟩=some (.int .i64 2):=(ab hb4.out HB.out.lt 5).trans (HB.out.cell 5);clear qn hb3;have hq4:=hb4.out.size;obtain⟨w4,hw4⟩:=nm_ (w3.alloc (.cells #[.string ⟨#[109,97,99,104,105,110,101,115]⟩,.string ⟨#[115,101,101,100]⟩,.string ⟨#[121,111,117,110,103]⟩] 9));rw[hw4]at hb4 hr4 hq4 qk;go_upto_region 6 with fail;obtain⟨c,hcz⟩:=nm_ (w4.heap.size);obtain⟨w5,hw5⟩:=nm_ (w4.alloc (.cells #[.int .i64 1,.int .u64 0,.int .i64 0] 25));have hcs:w3.heap.size+1=c:=by rw[<-hcz,<-hw4];simp
  have HC5:=hng hw5 hcz;have HB5:=H_ (show Below w.heap.size w w5 from hw5▸hb4.out.alloc hb4.out.size _);rw[hw5]
  (try rw[hcz])
  (try rw[hcs])
  have hbc:b<c:=by have:=HB.out.lt;omega
  have HQ5:=H_ (HB.out.below HB5.out HB.out.lt);clear hw4 hw5 hb4 hr4 qk hr3;have q0:=HQ5.out.cell 0;have q1:=HQ5.out.cell 1;have q2:=HQ5.out.cell 2;have q5:=HQ5.out.cell 5;obtain⟨f0,f1,f2⟩:=HQ5.out.f3;have d0:=HC5.out.cell 0;have d1:=HC5.out.cell 1;have d2:=HC5.out.cell 2;have e0:=HC5.out.frozen 0;have e2:=HC5.out.frozen 2;go_wp2_with fail;by_cases hv:u<=1099511627776
  ·refine(ix _ _ _ _).mono ?_;rintro e w6 ⟨he,b6⟩;rw[FU (by omega)]at he;subst he;have HL6:=H_ ((((Lk.of HB5.out (DK _)).set 2 (.int .i64 (min (u:Int) 1099511627777))).far (p:=⟨c,2,none⟩) (by show w.heap.size<=c;omega) (.int .i64 (min (u:Int) 1099511627777))).trans (Lk.of (B:=B) (b:=b) b6 (DK _)));have hq6:=((HQ5.out.set 2 (.int .i64 (min (u:Int) 1099511627777))).other ⟨c,2,none⟩ (.int .i64 (min (u:Int) 1099511627777)) (by show b≠c;omega)).below b6 (by have:=HQ5.out.lt;simp[World.setCell];omega);simp only[EL,Fm,Fl]at hq6;have HR6:=H_ (show RdP w6 B b {x with y:=(min (u:Int) 1099511627777)} (.conf 2)from⟨hq6,HX.out.1,HX.out.2,by omega⟩);clear b6 hq6 q0 q1 q2 q5 f0 f1 f2 d0 d1 d2 e0 e2;go_wp2_with fail;go_ret;have hok:jm 2 u:=⟨λh=>absurd h (by decide),λ_=>hv⟩;have hmin:(min (u:Int) 1099511627777)=(u:Int):=by omega
   have hr6:=HR6.out;rw[hmin]at hr6;exact⟨HL6.out,.inr ⟨u,(jX (k:=2) HV.out HL.out HT.out).1 hok,rfl,hr6⟩⟩
  ·refine(ix _ _ _ _).mono ?_;rintro e w6 ⟨he,b6⟩;rw[Fy (by omega)]at he;subst he;have HL6:=H_ ((((Lk.of HB5.out (DK _)).set 2 (.int .i64 (min (u:Int) 1099511627777))).far (p:=⟨c,2,none⟩) (by show w.heap.size<=c;omega) (.int .i64 (min (u:Int) 1099511627777))).trans (Lk.of (B:=B) (b:=b) b6 (DK _)));have hq6:=((HQ5.out.set 2 (.int .i64 (min (u:Int) 1099511627777))).other ⟨c,2,none⟩ (.int .i64 (min (u:Int) 1099511627777)) (by show b≠c;omega)).below b6 (by have:=HQ5.out.lt;simp[World.setCell];omega);simp only[EL,Fm,Fl]at hq6;have HR6:=H_ (show RdP w6 B b {x with y:=(min (u:Int) 1099511627777)} (.conf 2)from⟨hq6,HX.out.1,HX.out.2,by omega⟩);clear b6 hq6 q0 q1 q2 q5 f0 f1 f2 d0 d1 d2 e0 e2;go_wp2_with fail;go_ret;exact⟨HL6.out,.inl ⟨(jX (k:=2) HV.out HL.out HT.out).2 λh=>hv (h.2 rfl),rfl,_,HR6.out⟩⟩
theorem qu{s:ByteArray}{k:Int}(h:isB s k=true):∀c∈s.data.toList,c≠10:=by
 have hall:s.data.toList.all eY=true:=by
  unfold isB gZ gN aO at h
  split at h<;>(cases hs:s.data.toList with
   |nil=>rfl
   |cons c l=>
    rw[hs]at h;simp only[Ee]at h;exact h.2)
 intro c hc he;subst he;have:=Ec.1 hall _ hc;revert this;decide
theorem iE(n:Int):∀c∈Lib.itoa n,c≠10:=by
 intro c hc he;subst he;unfold Lib.itoa at hc;split at hc
 ·rcases DY.1 hc with hc|hc
  ·cases hc
  ·have:=dv _ _ hc;simp at this
 ·have:=dv _ _ hc;simp at this
theorem yK{p:PD}(h:jH d p=true):∀x∈bJ (dp d p),∀c∈x,c≠10:=by
 intro x hx;obtain⟨y,hy,rfl⟩:=EB.1 hx;cases p with
 |numA=>simp only[dp,DY,DX,Ew]at hy;subst hy;exact iE _
 |numB=>simp only[dp,DY,DX,Ew]at hy;subst hy;exact iE _
 |nam k=>simp only[dp,DY,DX,Ew]at hy;subst hy;exact qu h
 |met k=>simp only[dp,DY,DX,Ew]at hy;subst hy;exact qu h
 |surv=>obtain⟨z,_,rfl⟩:=EB.1 hy;exact iE _
 |rest=>obtain⟨z,_,rfl⟩:=EB.1 hy;exact iE _
theorem s8{i:Nat}{fd:FD}(h:au[i]?=some fd):(∀c∈fd.word.data.toList,c≠10)/\∃c l,fd.word.data.toList=c::l/\c≠35:=by
 have hm:=DW h;unfold au at hm;simp only[DY,DX,Ew]at hm;rcases hm with rfl|rfl|rfl|rfl|rfl|rfl|rfl|rfl|rfl|rfl|rfl|rfl|rfl|rfl|rfl|rfl<;>exact⟨by decide,_,_,rfl,by decide⟩
theorem qA(h:ay d=true):(∀c∈dO d,c≠10)/\∃c l,dO d=c::l/\c≠35:=by
 obtain⟨f,hf,hok⟩:=lQ h;have h1:=lR d f hf hok
 have h3:dO d=f.word.data.toList++cD (bJ (f.pds.flatMap (dp d))):=by
  rw[<-h1,show bJ (eg d f)=f.word.data.toList::bJ (f.pds.flatMap (dp d))from rfl,Lib.join_cons,eW]
 obtain⟨f1,c,l,f2,f3⟩:=s8 (fO hf);refine⟨λc hc=>?_,c,l++cD (bJ (f.pds.flatMap (dp d))),by rw[h3,f2];rfl,f3⟩;rw[h3]at hc;rcases EC.1 hc with hc|hc
 ·exact f1 c hc
 ·obtain⟨x,hx,hc⟩:=List.mem_flatMap.1 hc;rcases DY.1 hc with rfl|hc
  ·decide
  ·obtain⟨y,hy,rfl⟩:=EB.1 hx;obtain⟨p,hp,hy⟩:=List.mem_flatMap.1 hy;unfold kq at hok;rw[Ee]at hok;exact yK (Ec.1 hok.1 p hp) _ (EB.2 ⟨y,hy,rfl⟩) c hc
def nV(k n:Nat):ByteArray:=ba ((gV k).data.toList++32::Lib.decDigits n)
def bF(d:Ad):ByteArray:=ba (dO d)
structure VSc(x:Sc):Prop where
 m1:1<=x.m
 m8:x.m<=8
 s0:0<=x.sd
 s1:x.sd<=18446744073709551615
 y0:0<=x.y
 y1:x.y<=1099511627776
 cs:vPr x.cs=true
 ac:∀d∈x.ac,ay d=true
 wf:∀d∈x.ac,WfA d
def dF(x:Sc):List ByteArray:=[nV 0 x.m.toNat,nV 1 x.sd.toNat,nV 2 x.y.toNat,mj]
def uN(x:Sc):List UInt8:=glu (dF x)++(ah (prP x.cs)++glu [eX])
def BS(x:Sc):List UInt8:=uN x++glu (x.ac.map bF)
theorem fN(a b:List ByteArray):glu (a++b)=glu a++glu b:=EX
theorem mI(l:ByteArray)(ls:List ByteArray):glu (l::ls)=l.data.toList++bN 10 (bJ ls++[[]]):=by
 induction ls generalizing l with
 |nil=>simp[glu,bN,bJ]
 |cons m ls ih=>
  rw[show glu (l::m::ls)=(l.data.toList++[10])++glu (m::ls)from rfl,ih m];simp[bN,bJ]
theorem uF{Ls:List ByteArray}(h:∀x∈Ls,∀c∈x.data.toList,c≠10):ak (ba (glu Ls))=Ls:=by
 cases Ls with
 |nil=>
  have hc:gM 10 (ba (glu []))=[⟨#[]⟩]:=by
   refine fl ?_;rw[jl];have:Lib.countB (ba (glu [])) ⟨#[10]⟩=0:=fQ 10 [] [] (by simp);rw[this];rfl
  unfold ak;rw[hc];rfl
 |cons l ls=>
  have hall:∀x∈l.data.toList::(bJ ls++[[]]),∀c∈x,c≠10:=λx hx=>by
   rcases DY.1 hx with rfl|hx
   ·exact h l (by simp)
   ·rcases EC.1 hx with hx|hx
    ·obtain⟨y,hy,rfl⟩:=EB.1 hx;exact h y (by simp[hy])
    ·rw[List.mem_singleton.1 hx];exact λc hc=>absurd hc DX
  have hc:gM 10 (ba (glu (l::ls)))=(l::ls)++[⟨#[]⟩]:=by
   refine fl ?_;rw[jl]
   have h4:Lib.countB (ba (glu (l::ls))) ⟨#[10]⟩=(bJ ls++[[]]).length:=by
    rw[<-fQ 10 _ _ hall,<-mI];rfl
   rw[h4];show Lib.splitK [10] 0 _ (glu (l::ls))=_;rw[mI,ia 10 _ _ hall];simp[bJ]
  unfold ak mW;rw[hc,Ed (by rw[List.getLast?_concat]),List.dropLast_concat]
theorem uf{n:Nat}{p:Ph}(h:eZ l=true)(hp:p= .acts\/∃k,p= .conf k):bA n l p x= .go p x:=by
 rcases hp with rfl|⟨k,rfl⟩<;>(unfold bA;simp[h])
theorem jc:∀(sk ls:List ByteArray) (n:Nat) (p:Ph) (x:Sc),(∀l∈sk,eZ l=true)->(p= .acts\/∃k,p= .conf k)->eO (sk++ls) n p x=eO ls (n+sk.length) p x
 |[],_,_,_,_,_,_=>rfl
 |l::sk,ls,n,p,x,h,hp=>by
  rw[EK,ej (uf (h l (by simp)) hp),jc sk ls (n+1) p x (λy hy=>h y (by simp[hy])) hp,DL,FT,Nat.add_comm 1]
theorem wj(h:ay d=true):eZ (bF d)=false:=by
 obtain⟨_,c,l,h1,h2⟩:=qA h;unfold eZ;show(match dO d with|[]=>true|c::_=>c==35)=false;rw[h1];simpa using h2
theorem kO:∀(ds:List Ad) (ls:List ByteArray) (n:Nat) (x:Sc),(∀d∈ds,ay d=true/\WfA d)->eO (ds.map bF++ls) n .acts x=eO ls (n+ds.length) .acts {x with ac:=x.ac++ds}
 |[],ls,n,x,_=>by simp
 |d::ds,ls,n,x,h=>by
  obtain⟨h1,h2⟩:=h d (by simp)
  have hst:bA (n+1) (bF d) .acts x= .go .acts {x with ac:=x.ac++[d]}:=by
   unfold bA;simp only;rw[DS (by rw[wj h1];decide),show cF (bc (bF d))=some d from uw d h2 h1]
  rw[EE,EK,ej hst,kO ds ls (n+1) _ λy hy=>h y (by simp[hy])];simp only[DL,Eb,List.singleton_append,FT,Nat.add_comm 1]
theorem kH{n k v:Nat}(hk:k<3)(hv:U64 v)(ho:jm k v):bA n (nV k v) (.conf k) x= .go (.conf (k+1)) (x.set k v):=by
 have hs:eZ (nV k v)=false:=by
  match k,hk with
  |0,_=>rfl
  |1,_=>rfl
  |2,_=>rfl
 unfold bA;simp only;rw[DS (by rw[hs];decide),DS (by omega),mT (n:=v) ⟨hv,rfl,ho⟩]
theorem ru(h:VSc x):∃P:List ByteArray,ah (prP x.cs)=glu P/\∀l∈P,(∀c∈l.data.toList,c≠10)/\l≠eX:=by
 obtain⟨P,h1,h2⟩:=(Ch h.cs).2.2;refine⟨P,h1,λl hl=>⟨(h2 l hl).1,λe=>(h2 l hl).2 ?_⟩⟩;rw[e];rfl
theorem pW(h:VSc x)(hl:(ah (prP x.cs)).length<=16384)(hz:lsz csz x.cs<=4000):en (ah (prP x.cs))= .ok x.cs:=by
 obtain⟨T,h1,_,h2⟩:=ry h.cs hl;unfold en;rw[h1];simp only;rw[h2];simp only;rw[DS (by omega)]
theorem uJ(h:VSc x)(hl:(ah (prP x.cs)).length<=16384)(hz:lsz csz x.cs<=4000){P:List ByteArray}(hP:ah (prP x.cs)=glu P)(hP2:∀l∈P,l≠eX)(ls:List ByteArray)(n:Nat):
 eO (dF x++(P++(eX::ls))) n (.conf 0) zSc=eO ls (n+(4+P.length+1)) .acts {x with ac:=[]}:=by
 have hm:=h.m1;have hm8:=h.m8;have hs0:=h.s0;have hs1:=h.s1;have hy0:=h.y0;have hy1:=h.y1;have e0:(x.m.toNat:Int)=x.m:=by omega
 have e1:(x.sd.toNat:Int)=x.sd:=by omega
 have e2:(x.y.toNat:Int)=x.y:=by omega
 unfold dF;simp only[EK,EG]
 rw[ej (kH (by omega) (by unfold U64;omega) ⟨λ_=>by omega,λh=>absurd h (by omega)⟩),ej (kH (by omega) (by unfold U64;omega) ⟨λh=>absurd h (by omega),λh=>absurd h (by omega)⟩),
  ej (kH (by omega) (by unfold U64;omega) ⟨λh=>absurd h (by omega),λ_=>by omega⟩)]
 have hpr:∀(m:Nat) (y:Sc),bA m mj (.conf 3) y= .go (.src [] (m+1)) y:=λm y=>by
  unfold bA;simp only;rw[DS (by decide),Ed trivial,Ed trivial]
 rw[ej (hpr _ _),nI P (eX::ls) _ _ _ _ hP2,EG,<-show glu P=P.flatMap (λl=>l.data.toList++[10])from rfl,<-hP]
 have hen:∀(m:Nat) (f:Nat) (y:Sc),bA m eX (.src (ah (prP x.cs)) f) y= .go .acts {y with cs:=x.cs}:=λm f y=>by
  unfold bA;simp only;rw[Ed trivial];unfold om;rw[pW h hl hz]
 rw[ej (hen _ _ _)]
 have hx:({((zSc.set 0 x.m.toNat).set 1 x.sd.toNat).set 2 x.y.toNat with cs:=x.cs}:Sc)={x with ac:=[]}:=by
  simp only[zSc,Sc.set,e0,e1,e2]
 rw[hx]
 congr 1
 omega
theorem kI(k v:Nat):∀c∈(nV k v).data.toList,c≠10:=λc hc=>by
 rcases EC.1 (show c∈(gV k).data.toList++32::Lib.decDigits v from hc)with hc|hc
 ·have:∀c∈(gV k).data.toList,c≠10:=by
   match k with
   |0=>decide
   |1=>decide
   |_+2=>exact(by decide:∀c∈(gV 2).data.toList,c≠10)
  exact this c hc
 ·rcases DY.1 hc with rfl|hc
  ·decide
  ·intro e;have:=dv v c hc;rw[e]at this;simp at this
theorem uK(x:Sc):∀l∈dF x,∀c∈l.data.toList,c≠10:=λl hl=>by
 unfold dF at hl;simp only[DY,DX,Ew]at hl;rcases hl with rfl|rfl|rfl|rfl
 ·exact kI _ _
 ·exact kI _ _
 ·exact kI _ _
 ·decide
theorem o8{ds:List Ad}(h:∀d∈ds,ay d=true):∀l∈ds.map bF,∀c∈l.data.toList,c≠10:=λl hl=>by
 obtain⟨d,hd,rfl⟩:=EB.1 hl;exact(qA (h d hd)).1
theorem qZ(h:VSc x):∃P:List ByteArray,ah (prP x.cs)=glu P/\(∀l∈P,l≠eX)/\uN x=glu (dF x++(P++[eX]))/\∀l∈dF x++(P++[eX]),∀c∈l.data.toList,c≠10:=by
 obtain⟨P,h1,h2⟩:=ru h;refine⟨P,h1,λl hl=>(h2 l hl).2,by unfold uN;rw[fN,fN,h1],λl hl=>?_⟩;rcases EC.1 hl with hl|hl
 ·exact uK x l hl
 ·rcases EC.1 hl with hl|hl
  ·exact(h2 l hl).1
  ·rw[List.mem_singleton.1 hl];decide
theorem ct{s:ByteArray}{lo hi:Int}(h:aO s lo hi=true):s.data.toList.length<=31:=by
 have hz:s.size=s.data.toList.length:=rfl;unfold aO at h;split at h
 ·exact absurd h (by simp)
 ·simp only[Ee,Ep]at h;omega
theorem fJ(r:Nat)(e:Ex):(tIn r e).length<=(tE e).length+2:=by
 rw[lW];split<;>simp
theorem ki(l:List Ex)(h:∀a∈l,(tE a).length+10<=60*esz a):(cp l).length<=60*lsz esz l:=by
 have h2:∀l:List Ex,(∀a∈l,(tE a).length+10<=60*esz a)->(l.flatMap λb=>44::32::tE b).length<=60*lsz esz l:=by
  intro l;induction l with
  |nil=>intro _;simp
  |cons a l ih=>
   intro h;have h1:=ih λx hx=>h x (Et _ hx);have h0:=h a List.mem_cons_self;rw[aS,Ez,DJ,DL,DL];omega
 cases l with
 |nil=>simp[cp]
 |cons a l=>
  have h1:=h2 l λx hx=>h x (Et _ hx);have h0:=h a List.mem_cons_self;rw[aS,cp,DJ];omega
theorem AQ:∀(n:Nat) (e:Ex),esz e<=n->vE e=true->(tE e).length+10<=60*esz e:=by
 intro n;induction n with
 |zero=>intro e hn;have:=bE e;omega
 |succ n ih=>
  intro e hn hv;rcases dc hv with⟨z,rfl,h0,h1⟩|rfl|rfl|⟨s,rfl,hs⟩|⟨s,a,rfl,hs,hva⟩|⟨s,l,rfl,hs,hl⟩|⟨s,l,a,rfl,hs,hl,hva⟩|⟨k,a,hk,rfl,hva⟩|⟨o,a,b,ho,rfl,hva,hvb⟩
  ·rw[vQ,oR];have:=dN (n:=z) (by unfold I64;omega);omega
  ·rw[vN,it];simp
  ·rw[sS,it];simp
  ·rw[sT,it];have:=ct hs;omega
  ·have h:=dH 4 0 0 s false [a];rw[show aR s a= .mk 4 0 0 s false [a]from rfl]at hn;rw[h,aS,cP]at hn;rw[pI,show aR s a= .mk 4 0 0 s false [a]from rfl,h,aS,cP,DJ,DL];have h1:=ct hs;have h2:=fJ 8 a;have h3:=ih a (by omega) hva;omega
  ·have h:=dH 5 0 0 s false l;rw[h]at hn;rw[vO,h];have h1:=ct hs
   have h2:=ki l λa ha=>by
    obtain⟨k,hk⟩:=EP ha;exact ih a (by have:=cd esz hk;omega) (cI hl a ha)
   simp only[lm,DJ,DL,DO];omega
  ·have h:=dH 5 0 0 s true (l++[a]);rw[jJ]at h;rw[h]at hn;rw[pH,h];have h1:=ct hs
   have h2:=ki l λa ha=>by
    obtain⟨k,hk⟩:=EP ha;exact ih a (by have:=cd esz hk;omega) (cI hl a ha)
   have h3:=ih a (by omega) hva;have h4:=fJ 7 a;simp only[lm,sAt,DJ,DL,DO];omega
  ·rw[sg]at hn⊢;have h3:=ih a (by omega) hva;have h4:=fJ 7 a;have h5:=fJ 3 a;rcases hk with rfl|rfl|rfl|rfl
   ·rw[sR];simp only[DJ,DL,DO];omega
   ·rw[vR];simp only[DJ,DL,DO];omega
   ·rw[vP];simp only[DJ,DL,DO];omega
   ·rw[vM];simp only[DJ,DL,DO];omega
  ·have h:=dH 10 (o:Int) 0 ⟨#[]⟩ false [a,b];rw[aS,aS,cP]at h;rw[show cx o a b= .mk 10 (o:Int) 0 ⟨#[]⟩ false [a,b]from rfl,h]at hn;rw[vT,show cx o a b= .mk 10 (o:Int) 0 ⟨#[]⟩ false [a,b]from rfl,h];have h1:=ih a (by omega) hva;have h2:=ih b (by omega) hvb;have h3:=fJ (if ap (o:Int)=4 then 5 else ap o) a;have h4:=fJ (ap (o:Int)+1) b
   have h5:(bH o).data.toList.length<=3:=by
    have ho':o=0\/o=1\/o=2\/o=3\/o=4\/o=5\/o=6\/o=7\/o=8\/o=9\/o=10\/o=11\/o=12:=by omega
    rcases ho' with rfl|rfl|rfl|rfl|rfl|rfl|rfl|rfl|rfl|rfl|rfl|rfl|rfl<;>simp[bH,t8]
   simp only[DJ,DL,DO];omega
theorem tEl{e:Ex}(h:vE e=true):(tE e).length+10<=60*esz e:=AQ _ e (DK _) h
theorem sN(d:Nat)(l:List St)(h:∀a∈l,(tS a d).length<=9000*ssz a):(tSs l d).length<=9000*lsz ssz l:=by
 induction l with
 |nil=>simp[jt]
 |cons a l ih=>
  have h1:=ih λx hx=>h x (Et _ hx);have h0:=h a List.mem_cons_self;rw[i6,aS,DJ];omega
theorem AO:∀(n:Nat) (s:St) (d:Nat),ssz s<=n->d+ssz s<=1000->vS s=true->(tS s d).length<=9000*ssz s:=by
 intro n;induction n with
 |zero=>intro s d hn;have:=lE s;omega
 |succ n ih=>
  intro s d hn hd hv
  have hb:∀b:List St,vSs b=true->1+lsz ssz b<=ssz s->(tSs b (d+1)).length<=9000*lsz ssz b:=λb hvb hle=>
   sN (d+1) b λa ha=>by
    obtain⟨k,hk⟩:=EP ha;have:=cd ssz hk;exact ih a (d+1) (by omega) (by omega) (ec hvb a ha)
  rcases gn hv with⟨nm,x,rfl,hs,hx⟩|⟨nm,x,rfl,hs,hx⟩|⟨nm,x,y,rfl,hs,hx,hy⟩|⟨x,b,f,rfl,hx,hvb,hvf⟩|⟨x,b,rfl,hx,hvb⟩|⟨nm,x,l,rfl,hs,hx,hl⟩|⟨x,rfl,hx⟩|⟨x,y,rfl,hx,hy⟩|⟨nm,x,y,rfl,hs,hx,hy⟩|rfl
  ·have h:=di 0 nm [x] [] [];simp only[aS,cP]at h;rw[show stE 0 nm [x]= .mk 0 nm [x] [] []from rfl,h]at hd⊢;rw[<-show stE 0 nm [x]= .mk 0 nm [x] [] []from rfl,vI,bD];have h1:=ct hs;have h2:=tEl hx;simp only[cY,sEq,DJ,DL,DO];omega
  ·have h:=di 1 nm [x] [] [];simp only[aS,cP]at h;rw[show stE 1 nm [x]= .mk 1 nm [x] [] []from rfl,h]at hd⊢;rw[<-show stE 1 nm [x]= .mk 1 nm [x] [] []from rfl,nB,bD];have h1:=ct hs;have h2:=tEl hx;simp only[cY,sEq,DJ,DL,DO];omega
  ·have h:=di 2 nm [x,y] [] [];simp only[aS,cP]at h;rw[show stE 2 nm [x,y]= .mk 2 nm [x,y] [] []from rfl,h]at hd⊢;rw[<-show stE 2 nm [x,y]= .mk 2 nm [x,y] [] []from rfl,pE,bD];have h1:=ct hs;have h2:=tEl hx;have h3:=tEl hy;have h4:=fJ 9 x;simp only[cY,sEq,DJ,DL,DO];omega
  ·have h:=di 3 ⟨#[]⟩ [x] b f;simp only[aS,cP]at h;have h1:=hb b hvb (by omega);have h2:=hb f hvf (by omega);rw[h]at hd⊢;have h3:=tEl hx;rw[Ap,DJ,DJ,DJ,bD,bD];split
   ·simp only[sIf,sBr,DJ,DL,DO];omega
   ·have he:(tLn d iT++tSs f (d+1)).length=(2*d+iT.length+1)+(tSs f (d+1)).length:=by rw[DJ,bD]
    rw[he];simp only[sIf,sBr,iT,DJ,DL,DO];omega
  ·have h:=di 4 ⟨#[]⟩ [x] b [];simp only[aS,cP]at h;have h1:=hb b hvb (by omega);rw[h]at hd⊢;have h3:=tEl hx;rw[pC,DJ,DJ,bD,bD];simp only[mc,sBr,DJ,DL,DO];omega
  ·have h:=di 5 nm (x::l) [] [];simp only[aS,cP]at h;rw[show stE 5 nm (x::l)= .mk 5 nm (x::l) [] []from rfl,h]at hd⊢;rw[<-show stE 5 nm (x::l)= .mk 5 nm (x::l) [] []from rfl,sO,bD];have h1:=ct hs;have h2:=tEl hx;have h3:=fJ 8 x;have h4:=ki l λa ha=>tEl (cI hl a ha);simp only[bQ,DJ,DL,DO];omega
  ·have h:=di 6 ⟨#[]⟩ [x] [] [];simp only[aS,cP]at h;rw[show stE 6 ⟨#[]⟩ [x]= .mk 6 ⟨#[]⟩ [x] [] []from rfl,h]at hd⊢;rw[<-show stE 6 ⟨#[]⟩ [x]= .mk 6 ⟨#[]⟩ [x] [] []from rfl,pF,bD];have h2:=tEl hx;simp only[aZ,DJ,DL,DO];omega
  ·have h:=di 7 ⟨#[]⟩ [x,y] [] [];simp only[aS,cP]at h;rw[show stE 7 ⟨#[]⟩ [x,y]= .mk 7 ⟨#[]⟩ [x,y] [] []from rfl,h]at hd⊢;rw[<-show stE 7 ⟨#[]⟩ [x,y]= .mk 7 ⟨#[]⟩ [x,y] [] []from rfl,sP,bD];have h2:=tEl hx;have h3:=tEl hy;simp only[bR,sTo,DJ,DL,DO];omega
  ·have h:=di 8 nm [x,y] [] [];simp only[aS,cP]at h;rw[show stE 8 nm [x,y]= .mk 8 nm [x,y] [] []from rfl,h]at hd⊢;rw[<-show stE 8 nm [x,y]= .mk 8 nm [x,y] [] []from rfl,pD,bD];have h1:=ct hs;have h2:=tEl hx;have h3:=tEl hy;simp only[aY,sBy,DJ,DL,DO];omega
  ·have h:=di 9 ⟨#[]⟩ [] [] [];simp only[cP]at h;rw[show stE 9 ⟨#[]⟩ []= .mk 9 ⟨#[]⟩ [] [] []from rfl,h]at hd⊢;rw[<-show stE 9 ⟨#[]⟩ []= .mk 9 ⟨#[]⟩ [] [] []from rfl,nA,bD];simp only[ax,DJ,DL,DO];omega
theorem r8(l:List ByteArray)(h:vNm l=true):(cO l).length<=40*l.length:=by
 have h0:∀a∈l,a.data.toList.length<=31:=λa ha=>ct (Ec.mp h a ha)
 have h2:∀l:List ByteArray,(∀a∈l,a.data.toList.length<=31)->(l.flatMap λb=>44::32::b.data.toList).length<=40*l.length:=by
  intro l;induction l with
  |nil=>intro _;simp
  |cons a l ih=>
   intro h;have h1:=ih λx hx=>h x (Et _ hx);have h0:=h a List.mem_cons_self;rw[Ez,DJ,DL,DL,DL];omega
 cases l with
 |nil=>simp[cO]
 |cons a l=>
  have h1:=h2 l λx hx=>h0 x (Et _ hx);have h3:=h0 a List.mem_cons_self;rw[cO,DJ,DL];omega
theorem yT{m:Me}(hv:vMe m=true)(hm:msz m<=900):(tMe m).length<=9000*msz m:=by
 obtain⟨h1,hv⟩:=Eg.1 hv;obtain⟨h2,h3⟩:=Eg.1 hv;have e1:=ct h1;have e2:=r8 _ h2;unfold msz at hm⊢
 have e3:=sN 2 m.body λa ha=>by
  obtain⟨k,hk⟩:=EP ha;have:=cd ssz hk;exact AO _ a 2 (DK _) (by omega) (ec h3 a ha)
 unfold tMe;rw[DJ,DJ,bD,bD];simp only[sOn,DJ,DL,DO];omega
theorem jQ{α:Type}(f:α->List UInt8)(sz:α->Nat):∀l:List α,(∀a∈l,(f a).length<=9000*sz a)->(l.flatMap f).length<=9000*lsz sz l
 |[],_=>by simp
 |a::l,h=>by
  have h1:=jQ f sz l λx hx=>h x (Et _ hx);have h0:=h a List.mem_cons_self;rw[Ez,DJ,aS];omega
theorem yU{c:Cl}(hv:vCl c=true)(hm:csz c<=900):(tCl c).length<=9000*csz c:=by
 obtain⟨h1,hv⟩:=Eg.1 hv;obtain⟨h2,hv⟩:=Eg.1 hv;obtain⟨_,h3⟩:=Eg.1 hv;have e1:=ct h1;unfold csz at hm⊢
 have e2:=jQ tFd bI c.fields λa ha=>by
  have:=ct (Ec.mp h2 a ha);unfold tFd bI;rw[bD];simp only[wu,DJ,DL,DO];omega
 rw[th]at e2
 have e3:=jQ tMe msz c.methods λa ha=>by
  obtain⟨k,hk⟩:=EP ha;have:=cd msz hk;exact yT (Ec.mp h3 a ha) (by omega)
 unfold tCl;rw[DJ,DJ,DJ,bD,bD];have hw:(if c.actor=true then mf else jB).length<=7:=by split<;>simp[mf,jB]
 simp only[sBr,DJ,DL,DO];omega
theorem sQ{l:List Cl}(hv:vPr l=true)(hm:lsz csz l<=900):(tPr l).length<=9000*lsz csz l:=
 jQ tCl csz l λa ha=>by
  obtain⟨k,hk⟩:=EP ha;have:=cd csz hk;exact yU (Ec.mp hv a ha) (by omega)
theorem At.e7{b off k:Nat}{v0 v1 v2 v3 v4 v5 v6:Value}(h:At w b (off+7*k) [v0,v1,v2,v3,v4,v5,v6]):w.cell? ⟨b,off+k*7,none⟩=some v0/\w.cell? ⟨b,off+k*7+1,none⟩=some v1/\w.cell? ⟨b,off+k*7+2,none⟩=some v2/\
 w.cell? ⟨b,off+k*7+3,none⟩=some v3/\w.cell? ⟨b,off+k*7+4,none⟩=some v4/\w.cell? ⟨b,off+k*7+5,none⟩=some v5/\w.cell? ⟨b,off+k*7+6,none⟩=some v6:=by
 rw[El]at h;exact⟨h 0 _ rfl,h 1 _ rfl,h 2 _ rfl,h 3 _ rfl,h 4 _ rfl,h 5 _ rfl,h 6 _ rfl⟩
theorem tz{zs:List Int}{A:Option Addr}{n:Nat}(h:Sl lv w G zs A n)(hG:∀b,G b->b<w.heap.size):Ints w w.heap.size A n zs:=by
 refine⟨by simpa using h.1,λh0=>?_⟩;obtain⟨b,off,h1,h2,h3⟩:=h.2.2 h0;refine⟨b,off,h1,hG b h2,λj v hv=>?_⟩;rw[Eu]at hv;obtain⟨z,hz,rfl⟩:=Ev.1 hv;obtain⟨cs,h4,h5⟩:=h3 j z hz;have h6:cs=[.int .i64 z]:=h4;subst h6;have:=h5 0 _ rfl;rwa[show lv.sz=1 from rfl,FR]at this
theorem jN{cs:List Value}(h:kAd.rd w G d cs)(hG:∀b,G b->b<w.heap.size):∃v:Av,cs=v.cells.toList/\Reads w w.heap.size v d/\v.n<=1152921504606846976/\v.n2<=1152921504606846976/\v.n=d.args.length/\v.n2=d.surv.length:=by
 obtain⟨A,n,c,A2,n2,c2,rfl,hs1,hs2⟩:=h;exact⟨⟨d.k,d.a,d.b,d.nm,d.mt,A,n,c,A2,n2,c2⟩,rfl,⟨rfl,rfl,rfl,rfl,rfl,tz hs1 hG,tz hs2 hG⟩,hs1.2.1,hs2.2.1,hs1.1.symm,hs2.1.symm⟩
def kJ(x:Sc):Bool:=decide (1<=x.m/\x.m<=8/\0<=x.y/\x.y<=1099511627776)
def fT(x:Sc):Bool:=x.ac.all ay&&(kJ x&&vPr x.cs)
theorem VSc.of(h:fT x=true)(h0:0<=x.sd)(h1:x.sd<=18446744073709551615):VSc x:=by
 obtain⟨ha,h⟩:=Eg.1 h;obtain⟨hc,hp⟩:=Eg.1 h;obtain⟨c1,c2,c3,c4⟩:=Er hc;have hv:=λd hd=>Ec.1 ha d hd;exact⟨c1,c2,h0,h1,c3,c4,hp,hv,λd hd=>(gk (hv d hd)).1⟩
theorem yN(x:Sc)(A:Option Addr)(n c:Nat)(A2:Option Addr)(n2 c2:Nat)(w:World)(G:Nat->Prop)(hs:Sl fh w G x.cs A n)(hs2:Sl kAd w G x.ac A2 n2)(hG:∀b,G b->b<w.heap.size)(hg:Gl w)(hf:GlF w):
 Calls Tryz.prog 30 #[.agg #[.int .i64 x.m,.int .u64 x.sd,.int .i64 x.y,.slice A n c,.slice A2 n2 c2]] w λr w'=>r= .returned (.bool (fT x))/\Below w.heap.size w w':=by
 have hbig:=hg.big;obtain⟨g,hz⟩:=nm_ (w.heap.size);obtain⟨W0,hW0⟩:=nm_ (w.alloc (.cells #[.int .i64 x.m,.int .u64 x.sd,.int .i64 x.y,.slice A n c,.slice A2 n2 c2] 31));have HQ:=hng hW0 hz;have HB0:=hba hW0;have hs0:W0.heap.size=g+1:=by rw[<-hW0,DV,hz]
 have HBZ:Hid (Below g w W0):=H_ (hz▸HB0.out);have HGl:=H_ (hg.below HB0.out);have HF:=H_ (hf.below HB0.out hbig);have HS:=H_ (hs.aA (G':=G) (w':=W0) (λb hb=>⟨hb,HB0.out.block b (hG b hb)⟩));have HS2:=H_ (hs2.aA (G':=G) (w':=W0) (λb hb=>⟨hb,HB0.out.block b (hG b hb)⟩));have HG:=H_ (show∀b,G b->b<W0.heap.size from λb hb=>by have:=hG b hb;omega);have hnb:n2<=1152921504606846976:=hs2.2.1;have hln:x.ac.length=n2:=hs2.1;have HW:=H_ hW0;have hvs:fT x=(x.ac.all ay&&(kJ x&&vPr x.cs)):=rfl;have HVS:=H_ hvs;obtain⟨m,hm⟩:=nm_ (x.m);obtain⟨sd,hsd⟩:∃m,x.sd=m:=⟨_,rfl⟩;obtain⟨y,hy⟩:∃m,x.y=m:=⟨_,rfl⟩;have hcf:kJ x=decide (1<=m/\m<=8/\0<=y/\y<=1099511627776):=by unfold kJ;rw[hm,hy]
 rw[hm,hsd,hy]at HQ HW⊢;have HC1:Hid (∀W,Calls Tryz.prog 61 #[.agg #[.int .i64 m,.int .u64 sd,.int .i64 y]] W λe w'=>e= .returned (.bool (kJ x))/\Below W.heap.size W w'):=H_ λW=>by rw[hcf];exact ix m sd y W
 have HC2:Hid (∀W,Below W0.heap.size W0 W->Calls Tryz.prog 62 #[.agg #[.slice A n c]] W λr w'=>r= .returned (.bool (vPr x.cs))/\Below W.heap.size W w'):=H_ λW hW=>
  sK x.cs A n c W G (HS.out.aA λb hb=>⟨hb,hW.block b (HG.out b hb)⟩) (λb hb=>by have:=HG.out b hb;have:=hW.size;omega) (HGl.out.below hW) (HF.out.below hW (by omega))
 generalize kJ x=vc at*
 generalize vPr x.cs=vp at*
 generalize fT x=vb at*
 obtain⟨q0,q1,q2,q3,q4⟩:=HQ.out.c5;clear hs hs2 hG hW0 HB0 hg hf hcf hvs hm hsd hy;go_enter Tryz.func30,Tryz.ntmps30;rw[hz];go_upto_region 1 with fail;rw[HW.out];go_wp2_with fail;go_loopw [10] (λi wr=>∃k:Nat,k<=n2/\i= .int .i64 k/\Hid (Below W0.heap.size W0 wr)/\Hid ((x.ac.take k).all ay=true)) (λi _=>n2-(intOf i).toNat)
 case atStart=>exact⟨0,Ea _,rfl,H_ (DN _ _),H_ rfl⟩
 case round=>
  obtain⟨k,hk,rfl,HB,HV⟩:=hrel;have hsr:=HB.out.size;obtain⟨q0,q1,q2,q3,q4⟩:=(HQ.out.below HB.out (by omega)).c5;by_cases hkm:k<n2
  ·have hkz:(k:Int)<(n2:Int):=by omega
   have hS2:=HS2.out.aA (G':=G) (w':=wr) (λb hb'=>⟨hb',HB.out.block b (HG.out b hb')⟩);obtain⟨b,off,d,cs,rfl,hgb,hx,hrd,hat⟩:=hS2.at_ hkm;obtain⟨v,rfl,hrv,hvn,hvn2,-,-⟩:=jN hrd (λq hq=>by have:=HG.out q hq;omega);have HX:=H_ hx;obtain⟨d0,d1,d2,d3,d4,d5,d6⟩:=At.e7 hat
   obtain⟨p,hp⟩:=nm_ (wr.heap.size);obtain⟨w3,hw3⟩:=nm_ (wr.alloc (.cells v.cells 48));have HA:=hng hw3 hp;have hs3:w3.heap.size=p+1:=by rw[<-hw3,DV,hp]
   have HB3:=H_ (HB.out.trans ((bal hw3).mono (by omega)));have HC:=H_ (mM v d w3 ((hrv.below (bal hw3)).more (by omega)) (HGl.out.below HB3.out) hvn hvn2);obtain⟨x0,x1,x2,x3,x4,x5,x6⟩:=HA.out.v7;have HW3:=H_ hw3;clear hx hat hS2 hrd hrv hgb hw3 HB;unfold Av.cells at*
   go_upto_region 4 with fail;rw[HW3.out];go_wp2_with fail;refine HC.out.mono ?_;rintro r w4 ⟨fk,fw,fA,fn,fc,rfl,b4,_⟩;have HB4:=htr HB3 b4;have hs4:=HB4.out.size;have hok:=eC d;obtain⟨bd,hbd⟩:=nm_ (okD d);have HVD:=H_ (show ay d=bd by rw[<-hbd,eC]);rw[hbd];obtain⟨w5,hw5⟩:=nm_ (w4.alloc (.cells #[.int .i64 fk,.string fw,.slice fA fn fc] 92));have HB5:=H_ (HB4.out.trans ((bal hw5).mono (by omega)));have HW5:=H_ hw5;clear b4 HC HB4 hok hbd hw5;go_upto_region 5 with fail;rw[HW5.out];cases bd with
   |false=>
    have HE:=H_ (HBZ.out.trans (HB5.out.mono (by omega)));go_wp2_with fail;go_ret;exact⟨aa (by rw[HVS.out,bh HX.out HVD.out,Bool.false_and]),HE.out⟩
   |true=>
    go_wp2_with fail;go_roundw
    case rel=>exact⟨k+1,by omega,by go_num,HB5,H_ (by rw[br HX.out,HV.out,HVD.out];rfl)⟩
    case measure=>simp[intOf];omega
  ·obtain rfl:k=n2:=by omega
   rw[DP (by omega)]at HV;have HA:Hid (vb=(vc&&vp)):=H_ (by rw[HVS.out,HV.out,Ft]);clear HV HVS
   go_wp2_with (first
    |(go_at_call 61;refine(HC1.out _).mono ?_;rintro r w3 ⟨rfl,b3⟩;have HB:=htr HB b3;clear b3;have hsz:=HB.out.size;obtain⟨q0,q1,q2,q3,q4⟩:=(HQ.out.below HB.out (by omega)).c5)
    |(go_at_call 62;refine(HC2.out _ HB.out).mono ?_;rintro r w3 ⟨rfl,b3⟩;have HB:=htr HB b3;clear b3;have hsz:=HB.out.size;obtain⟨q0,q1,q2,q3,q4⟩:=(HQ.out.below HB.out (by omega)).c5))
   all_goals
    go_ret;refine⟨aa ?_,HBZ.out.trans (HB.out.mono (by omega))⟩;rw[HA.out];simp[*]
def ij:List UInt8:=[109,97,99,104,105,110,101,115,32]
def iS:List UInt8:=[115,101,101,100,32]
def fV:List UInt8:=[121,111,117,110,103,32]
def kY:List UInt8:=[10,112,114,111,103,114,97,109,10]
def ou:List UInt8:=[101,110,100,10]
def dz(x:Sc):List UInt8:=ij++Lib.itoa x.m++[10]++(iS++Lib.decDigits x.sd.toNat++[10])++(fV++Lib.itoa x.y++kY)++(tPr x.cs++ou)
def tAc(l:List Ad):List UInt8:=l.flatMap λd=>dO d++[10]
theorem qp(n:Nat):Lib.itoa (n:Int)=Lib.decDigits n:=by unfold Lib.itoa;rw[DS (by omega)];rfl
theorem vL(h:VSc x):BS x=dz x++tAc x.ac:=by
 obtain⟨M,hM⟩:=Ei (show 0<=x.m by have:=h.m1;omega);obtain⟨Y,hY⟩:=Ei h.y0
 have h1:∀l:List Ad,glu (l.map bF)=tAc l:=by
  intro l;induction l with
  |nil=>rfl
  |cons a l ih=>
   rw[EE];show glu ([bF a]++l.map bF)=_;rw[fN,ih];show(ba (dO a)).data.toList++[10]++[]++tAc l=(dO a++[10])++tAc l;rw[Eo];rfl
 unfold BS uN dz;rw[h1,mZ,hM,hY,qp,qp];unfold dF;rw[hM,hY];simp only[EZ];show(((ba ((gV 0).data.toList++32::Lib.decDigits M)).data.toList++[10])++(((ba ((gV 1).data.toList++32::Lib.decDigits x.sd.toNat)).data.toList++[10])++(((ba ((gV 2).data.toList++32::Lib.decDigits Y)).data.toList++[10])++((mj.data.toList++[10])++[]))))++(tPr x.cs++((eX.data.toList++[10])++[]))++tAc x.ac=_;simp[ij,iS,fV,kY,ou,gV,mj,eX,ba]
theorem lY:∀ws:List (List UInt8),(∀x∈ws,x.length<=31)->(cD ws).length<=32*ws.length
 |[],_=>by simp[cD]
 |a::l,h=>by
  have h1:=lY l λx hx=>h x (Et _ hx);have h0:=h a List.mem_cons_self;unfold cD at h1⊢;rw[Ez,DJ,DL,DL];omega
theorem xR(hw:WfA d)(h1:d.nm.size<=31)(h2:d.mt.size<=31):(sf d).length<=3/\∀x∈sf d,x.length<=31:=by
 have ha:=dN hw.a;have hb:=dN hw.b;have h1':d.nm.data.toList.length<=31:=h1;have h2':d.mt.data.toList.length<=31:=h2;unfold sf;split
 all_goals
  refine⟨by simp,λx hx=>?_⟩;simp only[DY,DX,Ew]at hx;rcases hx with rfl|rfl|rfl<;>omega
theorem mP(hv:ay d=true):(dO d).length<=2000:=by
 obtain⟨hw,h1,h2,h3,h4⟩:=gk hv;obtain⟨f1,f2⟩:=xR hw h1 h2
 have hwd:(lP d.k.toNat).length<=10:=by
  unfold lP;rw[Es];cases hq:ob[d.k.toNat]? with
  |none=>simp
  |some s=>exact tR hq
 have ht:∀x∈kU d,x.length<=31:=λx hx=>by
  unfold kU uY at hx;rcases EC.1 hx with hx|hx
  ·rcases EC.1 hx with hx|hx
   ·exact f2 x hx
   ·obtain⟨z,hz,rfl⟩:=EB.1 hx;have:=dN (hw.args z hz);omega
  ·obtain⟨z,hz,rfl⟩:=EB.1 hx;have:=dN (hw.surv z hz);omega
 have hl:=lY _ ht;have hn:(kU d).length=(sf d).length+d.args.length+d.surv.length:=by unfold kU uY;simp;omega
 unfold dO;rw[Ed hv,DJ];omega
theorem lB:∀l:List Ad,(∀d∈l,ay d=true)->(tAc l).length<=2001*l.length
 |[],_=>by simp[tAc]
 |a::l,h=>by
  have h1:=lB l λx hx=>h x (Et _ hx);have h0:=mP (h a List.mem_cons_self);unfold tAc at h1⊢;rw[Ez];simp only[DJ,DL,DO];omega
theorem pJ{l:List Ad}{k:Nat}(h:l[k]?=some d):tAc (l.take (k+1))=tAc (l.take k)++(dO d++[10]):=by
 rw[EQ,h];simp[tAc]
theorem qF(h:u<=18446744073709551615):(Lib.decDigits u).length<=21:=by
 have h1:∀(k u:Nat),u<10^(k+1)->(Lib.decDigits u).length<=k+1:=by
  intro k;induction k with
  |zero=>intro u hu;rw[cH (by omega)];simp
  |succ k ih=>
   intro u hu;by_cases h10:u<10
   ·rw[cH h10];simp
   ·rw[fC (by omega),DJ,Fx];have:=ih (u/10) (by rw[Nat.div_lt_iff_lt_mul (by omega)];rw[Nat.pow_succ]at hu;exact hu);omega
 exact h1 20 u (by omega)
theorem nC(h:VSc x)(hz:lsz csz x.cs<=900):(dz x).length<=9000000:=by
 have h1:=sQ h.cs hz;have h2:=dN (n:=x.m) (by have:=h.m1;have:=h.m8;unfold I64;omega);have h3:=dN (n:=x.y) (by have:=h.y0;have:=h.y1;unfold I64;omega);have h4:=qF (u:=x.sd.toNat) (by have:=h.s0;have:=h.s1;omega);unfold dz;simp only[ij,iS,fV,kY,ou,DJ,DL,DO];omega
structure BW(w:World)(B p:Nat)(s:List UInt8):Prop where
 ex:∃sa sv,Blk w p 58 #[sa,sv]/\(sa= .pointer none\/sa= .pointer (some ⟨p,0,none⟩))/\w.ownsRow B 5 1 sv s.length (Lib.byteCells s)
 lt:p<B
 le:B<=w.heap.size
theorem Bz:sD 58 2 0:=⟨by kernel_rfl,by decide⟩
theorem BW.below{p:Nat}{s:List UInt8}(h:BW w B p s)(hb:Below w.heap.size w w'):BW w' B p s:=by
 obtain⟨sa,sv,h1,h2,h3⟩:=h.ex;exact⟨⟨sa,sv,h1.below hb h1.lt,h2,ek h3 λk _ hk _=>hb.block k hk⟩,h.lt,Ek h.le hb.size⟩
theorem BW.write{p:Nat}{s:List UInt8}(h:BW w B p s)(x:ByteArray)(hlen:s.length+x.size<=1000000000):
 Calls Tryz.prog 31 #[.pointer (some ⟨p,0,none⟩),.string x] w λe w'=>e= .returned (.tuple #[.int .i64 x.size,.nilIface])/\Lk B p w w'/\BW w' B p (s++x.data.toList):=by
 obtain⟨sa,sv,h1,h2,h3⟩:=h.ex;have e0:(#[sa,sv]:Array Value)[0]?=some sa:=rfl;have e1:(#[sa,sv]:Array Value)[0+1]?=some sv:=rfl;have hl:sD 58 (#[sa,sv]:Array Value).size 0:=Bz;refine(Co (o:=0) (Lib.byteCells s) x w hl h1 e0 e1 h2 h3 h.lt h.le hlen).mono ?_;rintro e w' ⟨rfl,l1,sv',q1,o1⟩;refine⟨rfl,l1,⟨⟨_,sv',q1,.inr rfl,?_⟩,h.lt,Ek h.le l1.size⟩⟩;have e1:(s++x.data.toList).length=s.length+x.size:=DJ;have e2:Lib.byteCells (s++x.data.toList)=Lib.byteCells s++Lib.strCells x:=by simp[Lib.byteCells,Lib.strCells]
 rw[e1,e2];exact o1
theorem BW.wr{p:Nat}{s:List UInt8}(h:BW w B p s)(X:List UInt8)(hlen:s.length+X.length<=1000000000):
 Hid (Calls Tryz.prog 31 #[.pointer (some ⟨p,0,none⟩),.string (ba X)] w λe w'=>e= .returned (.tuple #[.int .i64 X.length,.nilIface])/\Lk B p w w'/\BW w' B p (s++X)):=by
 have hz:(ba X).size=X.length:=by simp[ba,ByteArray.size]
 have h1:=h.write (ba X) (by omega);rw[hz]at h1;exact H_ h1
theorem BW.str{p:Nat}{s:List UInt8}(h:BW w B p s)(hne:s≠[])(hlen:s.length<=1000000000):
 Calls Tryz.prog 35 #[.pointer (some ⟨p,0,none⟩)] w λe w'=>e= .returned (.string (ba s))/\Lk B p w w':=by
 obtain⟨sa,sv,h1,h2,h3⟩:=h.ex;have e1:(#[sa,sv]:Array Value)[0+1]?=some sv:=rfl;exact vX (o:=0) s w h1 e1 h3 (λe=>absurd e hne) h.lt hlen
end
end Go.Proofs.YtjpbckbpeblibaaGreatDoor
