/- part of a proof -/
import Derived.Test.YtjpbckbpeblibaaGreatDoorJJ17
namespace Go.Proofs.YtjpbckbpeblibaaGreatDoor
set_option linter.unusedVariables false
set_option linter.unusedSimpArgs false
set_option maxRecDepth 100000
set_option maxHeartbeats 64000000
section
open Go.RowKit
variable{B u:Nat}{G:Nat->Prop}{a:List UInt8}{d:Ad}{l:ByteArray}{w w':World}{x:Sc}
theorem EL:type_of% @IntWalk.i64_in:=@IntWalk.i64_in
theorem AC(h1:1<=u)(h:U64 u):Lib.nDigits u<=20:=by
 have:=Lib.numDigits_eq u h1 h;split at this<;>omega
theorem xc(u:Nat)(hu:U64 u)(w:World)(hg:Gl w):Calls Tryz.prog 65 #[.int .u64 u,.int .i64 10] w λe w'=>e= .returned (.string (rJ u))/\Below w.heap.size w w':=by
 have htab:=GlB.tab hg;clear hg;by_cases hs:u<100
 ·have hcv:IntKind.i64.wrap (u:Int)=u:=EL _ (by omega);have hsz:(u:Int)<100:=by omega
  have HC:=H_ (show∀W,Calls Tryz.prog 108 #[.int .i64 u] W λe w'=>e= .returned (.string (rJ u))/\w'=W from λW=>Any.internal_strconv_small {Tryz.laysM173 with} u hs W);clear htab hu;go_enter Tryz.func65,Tryz.ntmps65;go_wp2_with (go_at_call 108;refine(HC.out _).mono ?_;rintro e w' ⟨rfl,rfl⟩);go_ret;exact⟨rfl,Db _ _⟩
 ·have hu1:1<=u:=by omega
  have hnd20:=AC hu1 hu;have hsz:¬((u:Int)<100):=by omega
  have hal:Tryz.prog.arrayLen 183=24:=by kernel_rfl
  have hsl1:∀W,(Instr.sliceAt 183 (.pointer (some ⟨w.heap.size,0,none⟩)) none (some (.int .i64 (Lib.nDigits u:Int))) none).run Tryz.prog W= .ok (.slice (some ⟨w.heap.size,0,none⟩) (Lib.nDigits u) 24) W:=λW=>by
   rw[run_sliceAt_array_h W 183 ⟨w.heap.size,0,none⟩ (by kernel_rfl) .i64 (Lib.nDigits u:Int) (by omega) (by rw[hal];omega)];go_simp
  have hH0:=Lib.holds_zero0 w 183 (Lib.nDigits u) (by omega);have HD:=H_ (show∀W,Lib.TabIs Tryz.prog W "internal/strconv.uint64pow10" .u64 Lib.pow10Tab->Calls Tryz.prog 109 #[.int .u64 u] W λe w'=>e= .returned (.int .i64 (Lib.nDigits u))/\w'=W from λW hW=>Any.internal_strconv_numDigits {Tryz.laysM173 with} u hu1 hu W hW);have hfmt:=(show Calls Tryz.prog 110 #[.slice (some ⟨w.heap.size,0,none⟩) (Array.replicate (Lib.nDigits u) (0:UInt8)).size 24,.int .u64 u] (w.alloc (.cells Lib.zeros24 183)) _ from Any.internal_strconv_formatBase10 {Tryz.laysM173 with} w.heap.size 0 24 u (Array.replicate (Lib.nDigits u) 0) (w.alloc (.cells Lib.zeros24 183)) hH0 (by rw[Array.size_replicate];exact Lib.lt_pow_nDigits u) hu (by rw[Array.size_replicate];omega));rw[Array.size_replicate]at hfmt;have HH0:=H_ hH0;have HF:=H_ hfmt;have HT:=H_ (Lib.tabIs_alloc htab (.cells Lib.zeros24 183));clear hH0 hal hfmt htab;go_enter Tryz.func65,Tryz.ntmps65;go_wp2_with (go_at_call 109;refine(HD.out _ HT.out).mono ?_;rintro e w' ⟨rfl,rfl⟩);refine HF.out.mono ?_;rintro e w' ⟨rfl,k,v',dk,rfl,hF⟩
  have hcv:(convert 51 9 (.slice (some ⟨w.heap.size,0,none⟩) (Lib.nDigits u) 24)).run Tryz.prog ((Go.Sort.putRow (λ(b:UInt8)=>Value.int .u8 (b.toNat:Int)) (w.alloc (.cells Lib.zeros24 183)) w.heap.size 0 dk).drewN k)= .ok (.string (rJ u)) ((Go.Sort.putRow (λ(b:UInt8)=>Value.int .u8 (b.toNat:Int)) (w.alloc (.cells Lib.zeros24 183)) w.heap.size 0 dk).drewN k):=by
   have h:=run_convert_bytes_back (P:=Tryz.prog) ((Go.Sort.putRow (λ(b:UInt8)=>Value.int .u8 (b.toNat:Int)) (w.alloc (.cells Lib.zeros24 183)) w.heap.size 0 dk).drewN k) 51 9 5 ⟨w.heap.size,0,none⟩ 24 (Lib.decDigits u) Tryz.underlying51 Tryz.underlying5 Tryz.underlying9 (λj hj=>by
    rw[Lib.row_is_numeral hF j hj,Lib.add_plain,World.cell?_drewN];exact Go.Sort.cell?_putRow (λ(b:UInt8)=>Value.int .u8 (b.toNat:Int)) _ w.heap.size 0 _ dk HH0.out (by rw[hF.size,Array.size_replicate]) j (by rw[hF.size];rw[Lib.decDigits_length]at hj;exact hj))
   rw[Lib.decDigits_length]at h;exact h
  go_wp2_with fail;go_ret;obtain⟨os,eo⟩:=Lib.fin_at w (.cells Lib.zeros24 183) dk k 0;exact⟨rfl,by rw[eo];exact Lib.below_grow _ w (D8 _) k os⟩
theorem q9(u:Nat)(hu:U64 u)(w:World)(hg:Gl w):Calls Tryz.prog 33 #[.int .u64 u,.int .i64 10] w λe w'=>e= .returned (.string (rJ u))/\Below w.heap.size w w':=by
 have H:=H_ (xc u hu w hg);clear hg;go_enter Tryz.func33,Tryz.ntmps33;go_wp2_with fail;refine H.out.mono ?_;rintro e w' ⟨rfl,b1⟩;go_wp2_with fail;go_ret;exact⟨rfl,b1⟩
theorem pC(s:ByteArray)(u:Nat)(w:World)(hs:s.size<=1000000)(h:Lib.parseUintB 64 s.data.toList= .ok u):
 Calls Tryz.prog 84 #[.string s,.int .i64 10,.int .i64 64] w λe w'=>e= .returned (.tuple #[.int .u64 u,.nilIface])/\Below w.heap.size w w':=
 (Tryz.strconv_ParseUint_10_at64_ok s (by omega) u h w).mono λe w' ⟨h1,h2⟩=>⟨h1,by
   rcases h2 with rfl|rfl
   ·exact Db _ _
   ·exact Lib.bytesWorld_below w 5 s⟩
theorem kO(s:ByteArray)(w:World)(hg:Gl w)(hs:s.size<=1000000)(h:∀v,Lib.parseUintB 64 s.data.toList≠ .ok v):
 Calls Tryz.prog 84 #[.string s,.int .i64 10,.int .i64 64] w λe w'=>∃(z:Int) (N:Nat),e= .returned (.tuple #[.int .u64 z,.iface 241 (.pointer (some ⟨N,0,none⟩))])/\Below w.heap.size w w':=by
 rcases hp:Lib.parseUintB 64 s.data.toList with v|_|_
 ·exact absurd hp (h v)
 ·obtain⟨tp,p,e1⟩:=GlB.syn hg;exact(Tryz.strconv_ParseUint_10_at64_syntax_var s (by omega) (hp.trans rfl) tp p w e1).mono λe w' ⟨N,h1,_,_,h2⟩=>⟨_,N,h1,h2⟩
 ·obtain⟨tp,p,e1⟩:=GlB.rng hg;exact(Tryz.strconv_ParseUint_10_at64_range_var s (by omega) hp tp p w e1).mono λe w' ⟨N,h1,_,_,h2⟩=>⟨_,N,h1,h2⟩
theorem rx{l:List UInt8}(h:32∉l):Lib.index l [32]= -1:=by
 rw[Lib.index_one];induction l with
 |nil=>rfl
 |cons c l ih=>
  rw[Dm,not_or]at h;simp only[Lib.indexByte,ih h.2];rw[Dg (by simpa using Ne.symm h.1)];rfl
theorem Bf(l:List UInt8):(Lib.cut l [32]=(l,[],false)/\32∉l)\/∃a b,l=a++32::b/\32∉a/\Lib.cut l [32]=(a,b,true):=by
 by_cases h:32∈l
 ·obtain⟨a,b,rfl,ha⟩:=List.eq_append_cons_of_mem h;refine .inr ⟨a,b,rfl,ha,?_⟩;unfold Lib.cut;rw[jJ 32 a b (λc hc e=>ha (e▸hc)),Dq (by simp)];simp
 ·refine .inl ⟨?_,h⟩;unfold Lib.cut;rw[rx h];rfl
theorem nj{b c d:List UInt8}(ha:32∉a)(hc:32∉c)(h:a++32::b=c++32::d):a=c/\b=d:=by
 have h1:=jJ 32 a b (λx hx e=>ha (e▸hx));have h2:=jJ 32 c d (λx hx e=>hc (e▸hx));rw[h,h2]at h1;have hl:=Int.ofNat.inj h1;obtain⟨h3,h4⟩:=List.append_inj h hl.symm;exact⟨h3,(List.cons.inj h4).2⟩
theorem mG:∀k:Nat,32∉(gN k).data.toList
 |0=>by decide
 |1=>by decide
 |_+2=>(by decide:32∉([121,111,117,110,103]:List UInt8))
theorem xA{k n:Nat}{b:List UInt8}(hl:l.data.toList=a++32::b)(ha:32∉a)(h:IsConf k l n):a=(gN k).data.toList/\b=Lib.decDigits n:=
 nj ha (mG k) (hl.symm.trans h.2.1)
theorem zt{k n:Nat}(h:IsConf k l n):32∈l.data.toList:=by rw[h.2.1];simp
theorem io(m sd y:Int)(w:World):Calls Tryz.prog 61 #[.agg #[.int .i64 m,.int .u64 sd,.int .i64 y]] w λe w'=>e= .returned (.bool (decide (1<=m/\m<=8/\0<=y/\y<=1099511627776)))/\Below w.heap.size w w':=by
 have hq:=Blk.new w 25 #[.int .i64 m,.int .u64 sd,.int .i64 y];have q0:=hq.cell 0;have q2:=hq.cell 2;have hb:=H_ ((Db w.heap.size w).alloc (D8 _) (.cells #[.int .i64 m,.int .u64 sd,.int .i64 y] 25));clear hq;by_cases h1:1<=m
 ·by_cases h2:m<=8
  ·by_cases h3:0<=y
   ·by_cases h4:y<=1099511627776
    ·have hd:decide (1<=m/\m<=8/\0<=y/\y<=1099511627776)=true:=Fa ⟨h1,h2,h3,h4⟩;rw[hd];clear hd;go_enter Tryz.func61,Tryz.ntmps61;go_wp2_with fail;go_ret;exact⟨rfl,hb.out⟩
    ·have hd:decide (1<=m/\m<=8/\0<=y/\y<=1099511627776)=false:=EH λh=>h4 h.2.2.2;rw[hd];clear hd;go_enter Tryz.func61,Tryz.ntmps61;go_wp2_with fail;go_ret;exact⟨rfl,hb.out⟩
   ·have hd:decide (1<=m/\m<=8/\0<=y/\y<=1099511627776)=false:=EH λh=>h3 h.2.2.1;rw[hd];clear hd;go_enter Tryz.func61,Tryz.ntmps61;go_wp2_with fail;go_ret;exact⟨rfl,hb.out⟩
  ·have hd:decide (1<=m/\m<=8/\0<=y/\y<=1099511627776)=false:=EH λh=>h2 h.2.1;rw[hd];clear hd;go_enter Tryz.func61,Tryz.ntmps61;go_wp2_with fail;go_ret;exact⟨rfl,hb.out⟩
 ·have hd:decide (1<=m/\m<=8/\0<=y/\y<=1099511627776)=false:=EH λh=>h1 h.1;rw[hd];clear hd;go_enter Tryz.func61,Tryz.ntmps61;go_wp2_with fail;go_ret;exact⟨rfl,hb.out⟩
def Cz(k:Nat)(l:ByteArray)(B b:Nat)(x:Sc)(w:World)(e:Ending)(w':World):Prop:=Lk B b w w'/\
 ((gn k l=none/\e= .returned (.bool false)/\∃x',RdP w' B b x' (.conf k))\/∃v,gn k l=some v/\e= .returned (.bool true)/\RdP w' B b (x.set k v) (.conf k))
--walk of configuration
theorem zF(p:ByteArray):(⟨p.data.toList.toArray⟩:ByteArray)=p:=by rw[Array.toArray_toList]
theorem zQ(l p q:ByteArray)(ok:Bool)(w:World)(hg:Gl w)(hl:l.size<=100000)(h:Lib.cut l.data.toList [32]=(p.data.toList,q.data.toList,ok)):
 Calls Tryz.prog 83 #[.string l,.string ⟨#[32]⟩] w λe w'=>e= .returned (.tuple #[.string p,.string q,.bool ok])/\Below w.heap.size w w':=by
 obtain⟨m,hm⟩:=hg.mx;refine(Tryz.strings_Cut l ⟨#[32]⟩ m w (by omega) hm).mono ?_;rintro e w' ⟨rfl,n,rfl⟩;rw[show((⟨#[32]⟩:ByteArray).data.toList)=[32]from rfl,h];exact⟨by simp only[zF],co (Db _ _) n⟩
theorem jS{k:Nat}{q:ByteArray}(hu:U64 u)(hl:l.data.toList=(gN k).data.toList++32::q.data.toList)(hq:rJ u=q):(jh k u->gn k l=some u)/\(¬jh k u->gn k l=none):=by
 have hq':q.data.toList=Lib.decDigits u:=by rw[<-hq];rfl
 refine⟨λh=>mF ⟨hu,by rw[hl,hq'],h⟩,λh=>dQ λn hn=>h ?_⟩;have h1:=(nj (mG k) (mG k) (hl.symm.trans hn.2.1)).2;rw[hq']at h1;have h2:u=n:=by rw[<-jl u,<-jl n,h1]
 rw[h2];exact hn.2.2
theorem Lk.far{b:Nat}{p:Addr}(h:Lk B b w w')(hp:w.heap.size<=p.block)(u:Value):Lk B b w (w'.setCell p u):=
 ⟨h.os,h.tape,h.output,by simp[World.setCell];exact h.size,λk hk hb ht=>(Dn _ _ _ _ (by omega)).trans (h.block k hk hb ht)⟩
theorem xx(k:Nat)(hk:k<3)(l:ByteArray)(w:World)(B b:Nat)(x:Sc)(hg:Gl w)(hr:RdP w B b x (.conf k))(hbB:b<B)(hBw:B<=w.heap.size)(hl:l.size<=100000):
 Calls Tryz.prog 48 #[.pointer (some ⟨b,0,none⟩),.string l] w (Cz k l B b x w):=by
 have HR:=H_ hr;have HG:=H_ hg;rcases Bf l.data.toList with⟨hc,hno⟩|⟨a,t,hlt,ha,hc⟩
 ·have HC:=H_ (zQ l l ⟨#[]⟩ false w hg hl hc);have HN:=H_ (show gn k l=none from dQ λn h=>hno (zt h));have HP:=H_ (λW (hW:Gl W)=>kO ⟨#[]⟩ W hW (by decide) (λv h=>by cases h));clear hc hno hr hg;go_enter Tryz.func48,Tryz.ntmps48;go_wp2_with fail;refine HC.out.mono ?_;rintro e w1 ⟨rfl,b1⟩;go_wp2_with fail;refine(HP.out w1 (HG.out.below b1)).mono ?_;rintro e w2 ⟨z,N,rfl,b2⟩;go_wp2_with fail;go_ret;have hb:=b1.trans (b2.mono b1.size);exact⟨Lk.of hb (D8 _),.inl ⟨HN.out,rfl,x,HR.out.below hb (D8 _)⟩⟩
 obtain⟨p,hp⟩:∃p:ByteArray,p.data.toList=a:=⟨⟨a.toArray⟩,rfl⟩;obtain⟨q,hq⟩:∃q:ByteArray,q.data.toList=t:=⟨⟨t.toArray⟩,rfl⟩;subst hp hq
 have hqs:q.size<=100000:=by
  have h1:l.size=l.data.toList.length:=rfl;have h2:q.size=q.data.toList.length:=rfl;rw[hlt,D7,Da]at h1;omega
 have HC:=H_ (zQ l p q true w hg hl hc);have HU:=H_ (λn (h:IsConf k l n)=>xA hlt ha h);have HL:=H_ hlt;clear hc ha hlt hg;by_cases hu:∃u,Lib.parseUintB 64 q.data.toList= .ok u
 rotate_left
 ·have HN:=H_ (dQ λn h=>hu ⟨n,by rw[(HU.out n h).2];exact lp n h.1⟩);have HP:=H_ (λW (hW:Gl W)=>kO q W hW (by omega) (λv h=>hu ⟨v,h⟩));clear hr hu;go_enter Tryz.func48,Tryz.ntmps48;go_wp2_with fail;refine HC.out.mono ?_;rintro e w1 ⟨rfl,b1⟩;go_wp2_with fail;refine(HP.out w1 (HG.out.below b1)).mono ?_;rintro e w2 ⟨z,N,rfl,b2⟩;go_wp2_with fail;go_ret;have hb:=b1.trans (b2.mono b1.size);exact⟨Lk.of hb (D8 _),.inl ⟨HN.out,rfl,x,HR.out.below hb (D8 _)⟩⟩
 obtain⟨u,hu⟩:=hu;have hu64:U64 u:=Lib.parseMag_lt (by rw[<-Lib.parseUintB_64];exact hu);have HP:=H_ (λW=>pC q u W (by omega) hu);have HF:=H_ (λW (hW:Gl W)=>q9 u hu64 W hW);have HQ:=H_ hu;have HV:=H_ hu64;clear hu;by_cases hf:rJ u=q
 rotate_left
 ·have HN:=H_ (show gn k l=none from dQ λn h=>hf (by
   have h1:=(HU.out n h).2;have h2:=HQ.out;rw[h1,lp n h.1]at h2;cases h2;exact Du h1.symm))
  have hne:=D9.2 λe=>hf (fu e);clear hr hf;go_enter Tryz.func48,Tryz.ntmps48;go_wp2_with fail;refine HC.out.mono ?_;rintro e w1 ⟨rfl,b1⟩;go_wp2_with fail;refine(HP.out w1).mono ?_;rintro e w2 ⟨rfl,b2⟩;go_wp2_with fail;have hb2:=b1.trans (b2.mono b1.size);refine(HF.out w2 (HG.out.below hb2)).mono ?_;rintro e w3 ⟨rfl,b3⟩;go_wp2_with fail;go_ret;have hb:=hb2.trans (b3.mono hb2.size);exact⟨Lk.of hb (D8 _),.inl ⟨HN.out,rfl,x,HR.out.below hb (D8 _)⟩⟩
 have heq:((rJ u).toList==q.toList)=true:=EU.2 (by rw[hf]);have HT:=H_ hf;clear hf HQ;obtain⟨hbk,hcs,has,_⟩:=hr;have HB:=H_ hbk;have HX:=H_ (And.intro hcs has);clear hbk hcs has;obtain rfl|rfl|rfl:k=0\/k=1\/k=2:=by omega
 ·by_cases hw:p=⟨#[109,97,99,104,105,110,101,115]⟩
  rotate_left
  ·have HN:=H_ (dQ λn h=>hw (Du (HU.out n h).1));have hne:(p.toList==[109,97,99,104,105,110,101,115])=false:=D9.2 λe=>hw (fu (e.trans (DJ (⟨#[109,97,99,104,105,110,101,115]⟩:ByteArray)).symm));clear hw;go_enter Tryz.func48,Tryz.ntmps48;go_wp2_with fail;refine HC.out.mono ?_;rintro e w1 ⟨rfl,b1⟩;go_wp2_with fail;refine(HP.out w1).mono ?_;rintro e w2 ⟨rfl,b2⟩;go_wp2_with fail;have hb2:=b1.trans (b2.mono b1.size);refine(HF.out w2 (HG.out.below hb2)).mono ?_;rintro e w3 ⟨rfl,b3⟩;have hb3:=hb2.trans (b3.mono hb2.size);clear b1 b2 b3 hb2;have hr3:w3.cell? ⟨b,5,none⟩=some (.int .i64 0):=(aj hb3 (HB.out.lt) 5).trans (HB.out.cell 5);have qn:=Blk.new w3 9 #[.string ⟨#[109,97,99,104,105,110,101,115]⟩,.string ⟨#[115,101,101,100]⟩,.string ⟨#[121,111,117,110,103]⟩];have qk:=qn.cell 0;have hb4:=H_ (hb3.alloc hb3.size (.cells #[.string ⟨#[109,97,99,104,105,110,101,115]⟩,.string ⟨#[115,101,101,100]⟩,.string ⟨#[121,111,117,110,103]⟩] 9));have hr4:(w3.alloc (.cells #[.string ⟨#[109,97,99,104,105,110,101,115]⟩,.string ⟨#[115,101,101,100]⟩,.string ⟨#[121,111,117,110,103]⟩] 9)).cell? ⟨b,5,none⟩=some (.int .i64 0):=(aj hb4.out HB.out.lt 5).trans (HB.out.cell 5);clear qn hb3;go_wp2_with fail;go_ret;exact⟨Lk.of hb4.out (D8 _),.inl ⟨HN.out,rfl,x,HR.out.below hb4.out (D8 _)⟩⟩
  subst hw;have heqw:((⟨#[109,97,99,104,105,110,101,115]⟩:ByteArray).toList==[109,97,99,104,105,110,101,115])=true:=by rw[DJ];rfl
  go_enter Tryz.func48,Tryz.ntmps48;go_wp2_with fail;refine HC.out.mono ?_;rintro e w1 ⟨rfl,b1⟩;go_wp2_with fail;refine(HP.out w1).mono ?_;rintro e w2 ⟨rfl,b2⟩;go_wp2_with fail;have hb2:=b1.trans (b2.mono b1.size);refine(HF.out w2 (HG.out.below hb2)).mono ?_;rintro e w3 ⟨rfl,b3⟩;have hb3:=hb2.trans (b3.mono hb2.size);clear b1 b2 b3 hb2;have hr3:w3.cell? ⟨b,5,none⟩=some (.int .i64 0):=(aj hb3 (HB.out.lt) 5).trans (HB.out.cell 5);have qn:=Blk.new w3 9 #[.string ⟨#[109,97,99,104,105,110,101,115]⟩,.string ⟨#[115,101,101,100]⟩,.string ⟨#[121,111,117,110,103]⟩];have qk:=qn.cell 0;have hb4:=H_ (hb3.alloc hb3.size (.cells #[.string ⟨#[109,97,99,104,105,110,101,115]⟩,.string ⟨#[115,101,101,100]⟩,.string ⟨#[121,111,117,110,103]⟩] 9));have hr4:(w3.alloc (.cells #[.string ⟨#[109,97,99,104,105,110,101,115]⟩,.string ⟨#[115,101,101,100]⟩,.string ⟨#[121,111,117,110,103]⟩] 9)).cell? ⟨b,5,none⟩=some (.int .i64 0):=(aj hb4.out HB.out.lt 5).trans (HB.out.cell 5);clear qn hb3;have hq4:=hb4.out.size;obtain⟨w4,hw4⟩:=nm_ (w3.alloc (.cells #[.string ⟨#[109,97,99,104,105,110,101,115]⟩,.string ⟨#[115,101,101,100]⟩,.string ⟨#[121,111,117,110,103]⟩] 9));rw[hw4]at hb4 hr4 hq4 qk;go_upto_region 6 with fail;obtain⟨c,hcz⟩:=nm_ (w4.heap.size);obtain⟨w5,hw5⟩:=nm_ (w4.alloc (.cells #[.int .i64 1,.int .u64 0,.int .i64 0] 25));have hcs:w3.heap.size+1=c:=by rw[<-hcz,<-hw4];simp
  have HC5:=hng hw5 hcz;have HB5:=H_ (show Below w.heap.size w w5 from hw5▸hb4.out.alloc hb4.out.size _);rw[hw5]
  (try rw[hcz])
  (try rw[hcs])
  have hbc:b<c:=by have:=HB.out.lt;omega
  have HQ5:=H_ (HB.out.below HB5.out HB.out.lt);clear hw4 hw5 hb4 hr4 qk hr3;have q0:=HQ5.out.cell 0;have q1:=HQ5.out.cell 1;have q2:=HQ5.out.cell 2;have q5:=HQ5.out.cell 5;obtain⟨f0,f1,f2⟩:=HQ5.out.f3;have d0:=HC5.out.cell 0;have d1:=HC5.out.cell 1;have d2:=HC5.out.cell 2;have e0:=HC5.out.frozen 0;have e2:=HC5.out.frozen 2;go_wp2_with fail;by_cases hv:1<=u/\u<=8
  ·refine(io _ _ _ _).mono ?_;rintro e w6 ⟨he,b6⟩;rw[Fa (by omega)]at he;subst he;have HL6:=H_ ((((Lk.of HB5.out (D8 _)).set 0 (.int .i64 (min (u:Int) 1099511627776))).far (p:=⟨c,0,none⟩) (by show w.heap.size<=c;omega) (.int .i64 (min (u:Int) 1099511627776))).trans (Lk.of (B:=B) (b:=b) b6 (D8 _)));have hq6:=((HQ5.out.set 0 (.int .i64 (min (u:Int) 1099511627776))).other ⟨c,0,none⟩ (.int .i64 (min (u:Int) 1099511627776)) (by show b≠c;omega)).below b6 (by have:=HQ5.out.lt;simp[World.setCell];omega);simp only[DX,Ey,Ew]at hq6;have HR6:=H_ (show RdP w6 B b {x with m:=(min (u:Int) 1099511627776)} (.conf 0)from⟨hq6,HX.out.1,HX.out.2,by omega⟩);clear b6 hq6 q0 q1 q2 q5 f0 f1 f2 d0 d1 d2 e0 e2;go_wp2_with fail;go_ret;have hok:jh 0 u:=⟨λ_=>hv,λh=>absurd h (by decide)⟩;have hmin:(min (u:Int) 1099511627776)=(u:Int):=by omega
   have hr6:=HR6.out;rw[hmin]at hr6;exact⟨HL6.out,.inr ⟨u,(jS (k:=0) HV.out HL.out HT.out).1 hok,rfl,hr6⟩⟩
  ·refine(io _ _ _ _).mono ?_;rintro e w6 ⟨he,b6⟩;rw[EH (by omega)]at he;subst he;have HL6:=H_ ((((Lk.of HB5.out (D8 _)).set 0 (.int .i64 (min (u:Int) 1099511627776))).far (p:=⟨c,0,none⟩) (by show w.heap.size<=c;omega) (.int .i64 (min (u:Int) 1099511627776))).trans (Lk.of (B:=B) (b:=b) b6 (D8 _)));have hq6:=((HQ5.out.set 0 (.int .i64 (min (u:Int) 1099511627776))).other ⟨c,0,none⟩ (.int .i64 (min (u:Int) 1099511627776)) (by show b≠c;omega)).below b6 (by have:=HQ5.out.lt;simp[World.setCell];omega);simp only[DX,Ey,Ew]at hq6;have HR6:=H_ (show RdP w6 B b {x with m:=(min (u:Int) 1099511627776)} (.conf 0)from⟨hq6,HX.out.1,HX.out.2,by omega⟩);clear b6 hq6 q0 q1 q2 q5 f0 f1 f2 d0 d1 d2 e0 e2;go_wp2_with fail;go_ret;exact⟨HL6.out,.inl ⟨(jS (k:=0) HV.out HL.out HT.out).2 λh=>hv (h.1 rfl),rfl,_,HR6.out⟩⟩
 ·by_cases hw:p=⟨#[115,101,101,100]⟩
  rotate_left
  ·have HN:=H_ (dQ λn h=>hw (Du (HU.out n h).1));have hne:(p.toList==[115,101,101,100])=false:=D9.2 λe=>hw (fu (e.trans (DJ (⟨#[115,101,101,100]⟩:ByteArray)).symm));clear hw;go_enter Tryz.func48,Tryz.ntmps48;go_wp2_with fail;refine HC.out.mono ?_;rintro e w1 ⟨rfl,b1⟩;go_wp2_with fail;refine(HP.out w1).mono ?_;rintro e w2 ⟨rfl,b2⟩;go_wp2_with fail;have hb2:=b1.trans (b2.mono b1.size);refine(HF.out w2 (HG.out.below hb2)).mono ?_;rintro e w3 ⟨rfl,b3⟩;have hb3:=hb2.trans (b3.mono hb2.size);clear b1 b2 b3 hb2;have hr3:w3.cell? ⟨b,5,none⟩=some (.int .i64 1):=(aj hb3 (HB.out.lt) 5).trans (HB.out.cell 5);have qn:=Blk.new w3 9 #[.string ⟨#[109,97,99,104,105,110,101,115]⟩,.string ⟨#[115,101,101,100]⟩,.string ⟨#[121,111,117,110,103]⟩];have qk:=qn.cell 1;have hb4:=H_ (hb3.alloc hb3.size (.cells #[.string ⟨#[109,97,99,104,105,110,101,115]⟩,.string ⟨#[115,101,101,100]⟩,.string ⟨#[121,111,117,110,103]⟩] 9));have hr4:(w3.alloc (.cells #[.string ⟨#[109,97,99,104,105,110,101,115]⟩,.string ⟨#[115,101,101,100]⟩,.string ⟨#[121,111,117,110,103]⟩] 9)).cell? ⟨b,5,none⟩=some (.int .i64 1):=(aj hb4.out HB.out.lt 5).trans (HB.out.cell 5);clear qn hb3;go_wp2_with fail;go_ret;exact⟨Lk.of hb4.out (D8 _),.inl ⟨HN.out,rfl,x,HR.out.below hb4.out (D8 _)⟩⟩
  subst hw;have heqw:((⟨#[115,101,101,100]⟩:ByteArray).toList==[115,101,101,100])=true:=by rw[DJ];rfl
  go_enter Tryz.func48,Tryz.ntmps48;go_wp2_with fail;refine HC.out.mono ?_;rintro e w1 ⟨rfl,b1⟩;go_wp2_with fail;refine(HP.out w1).mono ?_;rintro e w2 ⟨rfl,b2⟩;go_wp2_with fail;have hb2:=b1.trans (b2.mono b1.size);refine(HF.out w2 (HG.out.below hb2)).mono ?_;rintro e w3 ⟨rfl,b3⟩;have hb3:=hb2.trans (b3.mono hb2.size);clear b1 b2 b3 hb2;have hr3:w3.cell? ⟨b,5,none⟩=some (.int .i64 1):=(aj hb3 (HB.out.lt) 5).trans (HB.out.cell 5);have qn:=Blk.new w3 9 #[.string ⟨#[109,97,99,104,105,110,101,115]⟩,.string ⟨#[115,101,101,100]⟩,.string ⟨#[121,111,117,110,103]⟩];have qk:=qn.cell 1;have hb4:=H_ (hb3.alloc hb3.size (.cells #[.string ⟨#[109,97,99,104,105,110,101,115]⟩,.string ⟨#[115,101,101,100]⟩,.string ⟨#[121,111,117,110,103]⟩] 9));have hr4:(w3.alloc (.cells #[.string ⟨#[109,97,99,104,105,110,101,115]⟩,.string ⟨#[115,101,101,100]⟩,.string ⟨#[121,111,117,110,103]⟩] 9)).cell? ⟨b,5,none⟩=some (.int .i64 1):=(aj hb4.out HB.out.lt 5).trans (HB.out.cell 5);clear qn hb3;have hq4:=hb4.out.size;obtain⟨w4,hw4⟩:=nm_ (w3.alloc (.cells #[.string ⟨#[109,97,99,104,105,110,101,115]⟩,.string ⟨#[115,101,101,100]⟩,.string ⟨#[121,111,117,110,103]⟩] 9));rw[hw4]at hb4 hr4 hq4 qk;go_upto_region 6 with fail;obtain⟨c,hcz⟩:=nm_ (w4.heap.size);obtain⟨w5,hw5⟩:=nm_ (w4.alloc (.cells #[.int .i64 1,.int .u64 0,.int .i64 0] 25));have hcs:w3.heap.size+1=c:=by rw[<-hcz,<-hw4];simp
  have HC5:=hng hw5 hcz;have HB5:=H_ (show Below w.heap.size w w5 from hw5▸hb4.out.alloc hb4.out.size _);rw[hw5]
  (try rw[hcz])
  (try rw[hcs])
  have hbc:b<c:=by have:=HB.out.lt;omega
  have HQ5:=H_ (HB.out.below HB5.out HB.out.lt);clear hw4 hw5 hb4 hr4 qk hr3;have q0:=HQ5.out.cell 0;have q1:=HQ5.out.cell 1;have q2:=HQ5.out.cell 2;have q5:=HQ5.out.cell 5;obtain⟨f0,f1,f2⟩:=HQ5.out.f3;have d0:=HC5.out.cell 0;have d1:=HC5.out.cell 1;have d2:=HC5.out.cell 2;have e0:=HC5.out.frozen 0;have e2:=HC5.out.frozen 2;go_wp2_with fail;refine(io _ _ _ _).mono ?_;rintro e w6 ⟨rfl,b6⟩;have HL6:=H_ (((Lk.of HB5.out (D8 _)).set 1 (.int .u64 (u:Int))).trans (Lk.of (B:=B) (b:=b) b6 (D8 _)));have hq6:=(HQ5.out.set 1 (.int .u64 (u:Int))).below b6 (by have:=HQ5.out.lt;simp[World.setCell];omega);simp only[DX,Ey,Ew]at hq6;have HR6:=H_ (show RdP w6 B b {x with sd:=u} (.conf 1)from⟨hq6,HX.out.1,HX.out.2,by omega⟩);clear b6 hq6 q0 q1 q2 q5 f0 f1 f2 d0 d1 d2 e0 e2;go_wp2_with fail;go_ret;have hok:jh 1 u:=⟨λh=>absurd h (by decide),λh=>absurd h (by decide)⟩;exact⟨HL6.out,.inr ⟨u,(jS (k:=1) HV.out HL.out HT.out).1 hok,rfl,HR6.out⟩⟩
 ·by_cases hw:p=⟨#[121,111,117,110,103]⟩
  rotate_left
  ·have HN:=H_ (dQ λn h=>hw (Du (HU.out n h).1));have hne:(p.toList==[121,111,117,110,103])=false:=D9.2 λe=>hw (fu (e.trans (DJ (⟨#[121,111,117,110,103]⟩:ByteArray)).symm));clear hw;go_enter Tryz.func48,Tryz.ntmps48;go_wp2_with fail;refine HC.out.mono ?_;rintro e w1 ⟨rfl,b1⟩;go_wp2_with fail;refine(HP.out w1).mono ?_;rintro e w2 ⟨rfl,b2⟩;go_wp2_with fail;have hb2:=b1.trans (b2.mono b1.size);refine(HF.out w2 (HG.out.below hb2)).mono ?_;rintro e w3 ⟨rfl,b3⟩;have hb3:=hb2.trans (b3.mono hb2.size);clear b1 b2 b3 hb2;have hr3:w3.cell? ⟨b,5,none⟩=some (.int .i64 2):=(aj hb3 (HB.out.lt) 5).trans (HB.out.cell 5);have qn:=Blk.new w3 9 #[.string ⟨#[109,97,99,104,105,110,101,115]⟩,.string ⟨#[115,101,101,100]⟩,.string ⟨#[121,111,117,110,103]⟩];have qk:=qn.cell 2;have hb4:=H_ (hb3.alloc hb3.size (.cells #[.string ⟨#[109,97,99,104,105,110,101,115]⟩,.string ⟨#[115,101,101,100]⟩,.string ⟨#[121,111,117,110,103]⟩] 9));have hr4:(w3.alloc (.cells #[.string ⟨#[109,97,99,104,105,110,101,115]⟩,.string ⟨#[115,101,101,100]⟩,.string ⟨#[121,111,117,110,103]⟩] 9)).cell? ⟨b,5,none⟩=some (.int .i64 2):=(aj hb4.out HB.out.lt 5).trans (HB.out.cell 5);clear qn hb3;go_wp2_with fail;go_ret;exact⟨Lk.of hb4.out (D8 _),.inl ⟨HN.out,rfl,x,HR.out.below hb4.out (D8 _)⟩⟩
  subst hw;have heqw:((⟨#[121,111,117,110,103]⟩:ByteArray).toList==[121,111,117,110,103])=true:=by rw[DJ];rfl
  go_enter Tryz.func48,Tryz.ntmps48;go_wp2_with fail;refine HC.out.mono ?_;rintro e w1 ⟨rfl,b1⟩;go_wp2_with fail;refine(HP.out w1).mono ?_;rintro e w2 ⟨rfl,b2⟩;go_wp2_with fail;have hb2:=b1.trans (b2.mono b1.size);refine(HF.out w2 (HG.out.below hb2)).mono ?_;rintro e w3 ⟨rfl,b3⟩;have hb3:=hb2.trans (b3.mono hb2.size);clear b1 b2 b3 hb2;have hr3:w3.cell? ⟨b,5,none⟩=some (.int .i64 2):=(aj hb3 (HB.out.lt) 5).trans (HB.out.cell 5);have qn:=Blk.new w3 9 #[.string ⟨#[109,97,99,104,105,110,101,115]⟩,.string ⟨#[115,101,101,100]⟩,.string ⟨#[121,111,117,110,103]⟩];have qk:=qn.cell 2;have hb4:=H_ (hb3.alloc hb3.size (.cells #[.string ⟨#[109,97,99,104,105,110,101,115]⟩,.string ⟨#[115,101,101,100]⟩,.string ⟨#[121,111,117,110,103]⟩] 9));have hr4:(w3.alloc (.cells #[.string ⟨#[109,97,99,104,105,110,101,115]⟩,.string ⟨#[115,101,101,100]⟩,.string ⟨#[121,111,117,110,103]⟩] 9)).cell? ⟨b,5,none⟩=some (.int .i64 2):=(aj hb4.out HB.out.lt 5).trans (HB.out.cell 5);clear qn hb3;have hq4:=hb4.out.size;obtain⟨w4,hw4⟩:=nm_ (w3.alloc (.cells #[.string ⟨#[109,97,99,104,105,110,101,115]⟩,.string ⟨#[115,101,101,100]⟩,.string ⟨#[121,111,117,110,103]⟩] 9));rw[hw4]at hb4 hr4 hq4 qk;go_upto_region 6 with fail;obtain⟨c,hcz⟩:=nm_ (w4.heap.size);obtain⟨w5,hw5⟩:=nm_ (w4.alloc (.cells #[.int .i64 1,.int .u64 0,.int .i64 0] 25));have hcs:w3.heap.size+1=c:=by rw[<-hcz,<-hw4];simp
  have HC5:=hng hw5 hcz;have HB5:=H_ (show Below w.heap.size w w5 from hw5▸hb4.out.alloc hb4.out.size _);rw[hw5]
  (try rw[hcz])
  (try rw[hcs])
  have hbc:b<c:=by have:=HB.out.lt;omega
  have HQ5:=H_ (HB.out.below HB5.out HB.out.lt);clear hw4 hw5 hb4 hr4 qk hr3;have q0:=HQ5.out.cell 0;have q1:=HQ5.out.cell 1;have q2:=HQ5.out.cell 2;have q5:=HQ5.out.cell 5;obtain⟨f0,f1,f2⟩:=HQ5.out.f3;have d0:=HC5.out.cell 0;have d1:=HC5.out.cell 1;have d2:=HC5.out.cell 2;have e0:=HC5.out.frozen 0;have e2:=HC5.out.frozen 2;go_wp2_with fail;by_cases hv:u<=1099511627776
  ·refine(io _ _ _ _).mono ?_;rintro e w6 ⟨he,b6⟩;rw[Fa (by omega)]at he;subst he;have HL6:=H_ ((((Lk.of HB5.out (D8 _)).set 2 (.int .i64 (min (u:Int) 1099511627777))).far (p:=⟨c,2,none⟩) (by show w.heap.size<=c;omega) (.int .i64 (min (u:Int) 1099511627777))).trans (Lk.of (B:=B) (b:=b) b6 (D8 _)));have hq6:=((HQ5.out.set 2 (.int .i64 (min (u:Int) 1099511627777))).other ⟨c,2,none⟩ (.int .i64 (min (u:Int) 1099511627777)) (by show b≠c;omega)).below b6 (by have:=HQ5.out.lt;simp[World.setCell];omega);simp only[DX,Ey,Ew]at hq6;have HR6:=H_ (show RdP w6 B b {x with y:=(min (u:Int) 1099511627777)} (.conf 2)from⟨hq6,HX.out.1,HX.out.2,by omega⟩);clear b6 hq6 q0 q1 q2 q5 f0 f1 f2 d0 d1 d2 e0 e2;go_wp2_with fail;go_ret;have hok:jh 2 u:=⟨λh=>absurd h (by decide),λ_=>hv⟩;have hmin:(min (u:Int) 1099511627777)=(u:Int):=by omega
   have hr6:=HR6.out;rw[hmin]at hr6;exact⟨HL6.out,.inr ⟨u,(jS (k:=2) HV.out HL.out HT.out).1 hok,rfl,hr6⟩⟩
  ·refine(io _ _ _ _).mono ?_;rintro e w6 ⟨he,b6⟩;rw[EH (by omega)]at he;subst he;have HL6:=H_ ((((Lk.of HB5.out (D8 _)).set 2 (.int .i64 (min (u:Int) 1099511627777))).far (p:=⟨c,2,none⟩) (by show w.heap.size<=c;omega) (.int .i64 (min (u:Int) 1099511627777))).trans (Lk.of (B:=B) (b:=b) b6 (D8 _)));have hq6:=((HQ5.out.set 2 (.int .i64 (min (u:Int) 1099511627777))).other ⟨c,2,none⟩ (.int .i64 (min (u:Int) 1099511627777)) (by show b≠c;omega)).below b6 (by have:=HQ5.out.lt;simp[World.setCell];omega);simp only[DX,Ey,Ew]at hq6;have HR6:=H_ (show RdP w6 B b {x with y:=(min (u:Int) 1099511627777)} (.conf 2)from⟨hq6,HX.out.1,HX.out.2,by omega⟩);clear b6 hq6 q0 q1 q2 q5 f0 f1 f2 d0 d1 d2 e0 e2;go_wp2_with fail;go_ret;exact⟨HL6.out,.inl ⟨(jS (k:=2) HV.out HL.out HT.out).2 λh=>hv (h.2 rfl),rfl,_,HR6.out⟩⟩
theorem pY{s:ByteArray}{k:Int}(h:isB s k=true):∀c∈s.data.toList,c≠10:=by
 have hall:s.data.toList.all eS=true:=by
  unfold isB gS gD az at h
  split at h<;>(cases hs:s.data.toList with
   |nil=>rfl
   |cons c l=>
    rw[hs]at h;simp only[Ds]at h;exact h.2)
 intro c hc he;subst he;have:=Dr.1 hall _ hc;revert this;decide
theorem ix(n:Int):∀c∈Lib.itoa n,c≠10:=by
 intro c hc he;subst he;unfold Lib.itoa at hc;split at hc
 ·rcases Dm.1 hc with hc|hc
  ·cases hc
  ·have:=dt _ _ hc;simp at this
 ·have:=dt _ _ hc;simp at this
theorem y9{p:PD}(h:jD d p=true):∀x∈bF (dj d p),∀c∈x,c≠10:=by
 intro x hx;obtain⟨y,hy,rfl⟩:=DN.1 hx;cases p with
 |numA=>simp only[dj,Dm,Dl,DP]at hy;subst hy;exact ix _
 |numB=>simp only[dj,Dm,Dl,DP]at hy;subst hy;exact ix _
 |nam k=>simp only[dj,Dm,Dl,DP]at hy;subst hy;exact pY h
 |met k=>simp only[dj,Dm,Dl,DP]at hy;subst hy;exact pY h
 |surv=>obtain⟨z,_,rfl⟩:=DN.1 hy;exact ix _
 |rest=>obtain⟨z,_,rfl⟩:=DN.1 hy;exact ix _
theorem rD{i:Nat}{fd:FD}(h:au[i]?=some fd):(∀c∈fd.word.data.toList,c≠10)/\∃c l,fd.word.data.toList=c::l/\c≠35:=by
 have hm:=Dj h;unfold au at hm;simp only[Dm,Dl,DP]at hm;rcases hm with rfl|rfl|rfl|rfl|rfl|rfl|rfl|rfl|rfl|rfl|rfl|rfl|rfl|rfl|rfl|rfl<;>exact⟨by decide,_,_,rfl,by decide⟩
theorem qb(h:aN d=true):(∀c∈ej d,c≠10)/\∃c l,ej d=c::l/\c≠35:=by
 obtain⟨f,hf,hok⟩:=lE h;have h1:=lF d f hf hok
 have h3:ej d=f.word.data.toList++cC (bF (f.pds.flatMap (dj d))):=by
  rw[<-h1,show bF (ea d f)=f.word.data.toList::bF (f.pds.flatMap (dj d))from rfl,Lib.join_cons,eR]
 obtain⟨f1,c,l,f2,f3⟩:=rD (fH hf);refine⟨λc hc=>?_,c,l++cC (bF (f.pds.flatMap (dj d))),by rw[h3,f2];rfl,f3⟩;rw[h3]at hc;rcases DR.1 hc with hc|hc
 ·exact f1 c hc
 ·obtain⟨x,hx,hc⟩:=List.mem_flatMap.1 hc;rcases Dm.1 hc with rfl|hc
  ·decide
  ·obtain⟨y,hy,rfl⟩:=DN.1 hx;obtain⟨p,hp,hy⟩:=List.mem_flatMap.1 hy;unfold kh at hok;rw[Ds]at hok;exact y9 (Dr.1 hok.1 p hp) _ (DN.2 ⟨y,hy,rfl⟩) c hc
def nG(k n:Nat):ByteArray:=ba ((gN k).data.toList++32::Lib.decDigits n)
def di(d:Ad):ByteArray:=ba (ej d)
structure VSc(x:Sc):Prop where
 m1:1<=x.m
 m8:x.m<=8
 s0:0<=x.sd
 s1:x.sd<=18446744073709551615
 y0:0<=x.y
 y1:x.y<=1099511627776
 cs:vPr x.cs=true
 ac:∀d∈x.ac,aN d=true
 wf:∀d∈x.ac,WfA d
def fl(x:Sc):List ByteArray:=[nG 0 x.m.toNat,nG 1 x.sd.toNat,nG 2 x.y.toNat,lY]
def ul(x:Sc):List UInt8:=glu (fl x)++(ag (prP x.cs)++glu [gB])
def AZ(x:Sc):List UInt8:=ul x++glu (x.ac.map di)
theorem iy(a b:List ByteArray):glu (a++b)=glu a++glu b:=Eh
theorem mu(l:ByteArray)(ls:List ByteArray):glu (l::ls)=l.data.toList++bJ 10 (bF ls++[[]]):=by
 induction ls generalizing l with
 |nil=>simp[glu,bJ,bF]
 |cons m ls ih=>
  rw[show glu (l::m::ls)=(l.data.toList++[10])++glu (m::ls)from rfl,ih m];simp[bJ,bF]
theorem ud{Ls:List ByteArray}(h:∀x∈Ls,∀c∈x.data.toList,c≠10):ak (ba (glu Ls))=Ls:=by
 cases Ls with
 |nil=>
  have hc:gC 10 (ba (glu []))=[⟨#[]⟩]:=by
   refine fb ?_;rw[jg];have:Lib.countB (ba (glu [])) ⟨#[10]⟩=0:=fJ 10 [] [] (by simp);rw[this];rfl
  unfold ak;rw[hc];rfl
 |cons l ls=>
  have hall:∀x∈l.data.toList::(bF ls++[[]]),∀c∈x,c≠10:=λx hx=>by
   rcases Dm.1 hx with rfl|hx
   ·exact h l (by simp)
   ·rcases DR.1 hx with hx|hx
    ·obtain⟨y,hy,rfl⟩:=DN.1 hx;exact h y (by simp[hy])
    ·rw[List.mem_singleton.1 hx];exact λc hc=>absurd hc Dl
  have hc:gC 10 (ba (glu (l::ls)))=(l::ls)++[⟨#[]⟩]:=by
   refine fb ?_;rw[jg]
   have h4:Lib.countB (ba (glu (l::ls))) ⟨#[10]⟩=(bF ls++[[]]).length:=by
    rw[<-fJ 10 _ _ hall,<-mu];rfl
   rw[h4];show Lib.splitK [10] 0 _ (glu (l::ls))=_;rw[mu,gX 10 _ _ hall];simp[bF]
  unfold ak mI;rw[hc,Dq (by rw[List.getLast?_concat]),List.dropLast_concat]
theorem vz(h:aN d=true):eI (di d)=false:=by
 obtain⟨_,c,l,h1,h2⟩:=qb h;unfold eI;show(match ej d with|[]=>true|c::_=>c==35)=false;rw[h1];simpa using h2
theorem nM:∀(ds:List Ad) (ls:List ByteArray) (n:Nat) (x:Sc),(∀d∈ds,aN d=true/\WfA d)->fh (ds.map di++ls) n .acts x=fh ls (n+ds.length) .acts {x with ac:=x.ac++ds}
 |[],ls,n,x,_=>by simp
 |d::ds,ls,n,x,h=>by
  obtain⟨h1,h2⟩:=h d (by simp)
  have hst:bB (n+1) (di d) .acts x= .go .acts {x with ac:=x.ac++[d]}:=by
   unfold bB;simp only;rw[Dg (by rw[vz h1];decide),show ck (aQ (di d))=some d from tV d h2 h1]
  rw[DS,Ec,eJ hst,nM ds ls (n+1) _ λy hy=>h y (by simp[hy])];simp only[Da,Dp,List.singleton_append,Nat.add_assoc,Nat.add_comm 1]
theorem kA{n k v:Nat}(hk:k<3)(hv:U64 v)(ho:jh k v):bB n (nG k v) (.conf k) x= .go (.conf (k+1)) (x.set k v):=by
 have hs:eI (nG k v)=false:=by
  match k,hk with
  |0,_=>rfl
  |1,_=>rfl
  |2,_=>rfl
 unfold bB;simp only;rw[Dg (by rw[hs];decide),Dg (by omega),mF (n:=v) ⟨hv,rfl,ho⟩]
theorem qU(h:VSc x):∃P:List ByteArray,ag (prP x.cs)=glu P/\∀l∈P,(∀c∈l.data.toList,c≠10)/\l≠gB:=by
 obtain⟨P,h1,h2⟩:=(Bq h.cs).2.2;refine⟨P,h1,λl hl=>⟨(h2 l hl).1,λe=>(h2 l hl).2 ?_⟩⟩;rw[e];rfl
theorem pB(h:VSc x)(hl:(ag (prP x.cs)).length<=16384)(hz:lsz csz x.cs<=4000):eg (ag (prP x.cs))= .ok x.cs:=by
 obtain⟨T,h1,_,h2⟩:=qW h.cs hl;unfold eg;rw[h1];simp only;rw[h2];simp only;rw[Dg (by omega)]
theorem uh(h:VSc x)(hl:(ag (prP x.cs)).length<=16384)(hz:lsz csz x.cs<=4000){P:List ByteArray}(hP:ag (prP x.cs)=glu P)(hP2:∀l∈P,l≠gB)(ls:List ByteArray)(n:Nat):
 fh (fl x++(P++(gB::ls))) n (.conf 0) zSc=fh ls (n+(4+P.length+1)) .acts {x with ac:=[]}:=by
 have hm:=h.m1;have hm8:=h.m8;have hs0:=h.s0;have hs1:=h.s1;have hy0:=h.y0;have hy1:=h.y1;have e0:(x.m.toNat:Int)=x.m:=by omega
 have e1:(x.sd.toNat:Int)=x.sd:=by omega
 have e2:(x.y.toNat:Int)=x.y:=by omega
 unfold fl;simp only[Ec,DY]
 rw[eJ (kA (by omega) (by unfold U64;omega) ⟨λ_=>by omega,λh=>absurd h (by omega)⟩),eJ (kA (by omega) (by unfold U64;omega) ⟨λh=>absurd h (by omega),λh=>absurd h (by omega)⟩),
  eJ (kA (by omega) (by unfold U64;omega) ⟨λh=>absurd h (by omega),λ_=>by omega⟩)]
 have hpr:∀(m:Nat) (y:Sc),bB m lY (.conf 3) y= .go (.src [] (m+1)) y:=λm y=>by
  unfold bB;simp only;rw[Dg (by decide),Dq trivial,Dq trivial]
 rw[eJ (hpr _ _),nr P (gB::ls) _ _ _ _ hP2,DY,<-show glu P=P.flatMap (λl=>l.data.toList++[10])from rfl,<-hP]
 have hen:∀(m:Nat) (f:Nat) (y:Sc),bB m gB (.src (ag (prP x.cs)) f) y= .go .acts {y with cs:=x.cs}:=λm f y=>by
  unfold bB;simp only;rw[Dq trivial];unfold nX;rw[pB h hl hz]
 rw[eJ (hen _ _ _)]
 have hx:({((zSc.set 0 x.m.toNat).set 1 x.sd.toNat).set 2 x.y.toNat with cs:=x.cs}:Sc)={x with ac:=[]}:=by
  simp only[zSc,Sc.set,e0,e1,e2]
 rw[hx]
 congr 1
 omega
theorem kB(k v:Nat):∀c∈(nG k v).data.toList,c≠10:=λc hc=>by
 rcases DR.1 (show c∈(gN k).data.toList++32::Lib.decDigits v from hc)with hc|hc
 ·have:∀c∈(gN k).data.toList,c≠10:=by
   match k with
   |0=>decide
   |1=>decide
   |_+2=>exact(by decide:∀c∈(gN 2).data.toList,c≠10)
  exact this c hc
 ·rcases Dm.1 hc with rfl|hc
  ·decide
  ·intro e;have:=dt v c hc;rw[e]at this;simp at this
theorem ui(x:Sc):∀l∈fl x,∀c∈l.data.toList,c≠10:=λl hl=>by
 unfold fl at hl;simp only[Dm,Dl,DP]at hl;rcases hl with rfl|rfl|rfl|rfl
 ·exact kB _ _
 ·exact kB _ _
 ·exact kB _ _
 ·decide
theorem uy{ds:List Ad}(h:∀d∈ds,aN d=true):∀l∈ds.map di,∀c∈l.data.toList,c≠10:=λl hl=>by
 obtain⟨d,hd,rfl⟩:=DN.1 hl;exact(qb (h d hd)).1
theorem qF(h:VSc x):∃P:List ByteArray,ag (prP x.cs)=glu P/\(∀l∈P,l≠gB)/\ul x=glu (fl x++(P++[gB]))/\∀l∈fl x++(P++[gB]),∀c∈l.data.toList,c≠10:=by
 obtain⟨P,h1,h2⟩:=qU h;refine⟨P,h1,λl hl=>(h2 l hl).2,by unfold ul;rw[iy,iy,h1],λl hl=>?_⟩;rcases DR.1 hl with hl|hl
 ·exact ui x l hl
 ·rcases DR.1 hl with hl|hl
  ·exact(h2 l hl).1
  ·rw[List.mem_singleton.1 hl];decide
theorem cp{s:ByteArray}{lo hi:Int}(h:az s lo hi=true):s.data.toList.length<=31:=by
 have hz:s.size=s.data.toList.length:=rfl;unfold az at h;split at h
 ·exact absurd h (by simp)
 ·simp only[Ds,DE]at h;omega
theorem fC(r:Nat)(e:Ex):(tIn r e).length<=(tE e).length+2:=by
 rw[lK];split<;>simp
theorem kc(l:List Ex)(h:∀a∈l,(tE a).length+10<=60*esz a):(cm l).length<=60*lsz esz l:=by
 have h2:∀l:List Ex,(∀a∈l,(tE a).length+10<=60*esz a)->(l.flatMap λb=>44::32::tE b).length<=60*lsz esz l:=by
  intro l;induction l with
  |nil=>intro _;simp
  |cons a l ih=>
   intro h;have h1:=ih λx hx=>h x (DF _ hx);have h0:=h a List.mem_cons_self;rw[aS,DL,D7,Da,Da];omega
 cases l with
 |nil=>simp[cm]
 |cons a l=>
  have h1:=h2 l λx hx=>h x (DF _ hx);have h0:=h a List.mem_cons_self;rw[aS,cm,D7];omega
theorem Ag:∀(n:Nat) (e:Ex),esz e<=n->vE e=true->(tE e).length+10<=60*esz e:=by
 intro n;induction n with
 |zero=>intro e hn;have:=bS e;omega
 |succ n ih=>
  intro e hn hv;rcases da hv with⟨z,rfl,h0,h1⟩|rfl|rfl|⟨s,rfl,hs⟩|⟨s,a,rfl,hs,hva⟩|⟨s,l,rfl,hs,hl⟩|⟨s,l,a,rfl,hs,hl,hva⟩|⟨k,a,hk,rfl,hva⟩|⟨o,a,b,ho,rfl,hva,hvb⟩
  ·rw[vh,oA];have:=dI (n:=z) (by unfold I64;omega);omega
  ·rw[va,ii];simp
  ·rw[sk,ii];simp
  ·rw[sm,ii];have:=cp hs;omega
  ·have h:=dP 4 0 0 s false [a];rw[show aP s a= .mk 4 0 0 s false [a]from rfl]at hn;rw[h,aS,cN]at hn;rw[pi,show aP s a= .mk 4 0 0 s false [a]from rfl,h,aS,cN,D7,Da];have h1:=cp hs;have h2:=fC 8 a;have h3:=ih a (by omega) hva;omega
  ·have h:=dP 5 0 0 s false l;rw[h]at hn;rw[ve,h];have h1:=cp hs
   have h2:=kc l λa ha=>by
    obtain⟨k,hk⟩:=Eb ha;exact ih a (by have:=cO esz hk;omega) (cG hl a ha)
   simp only[kX,D7,Da,Dc];omega
  ·have h:=dP 5 0 0 s true (l++[a]);rw[jF]at h;rw[h]at hn;rw[ph,h];have h1:=cp hs
   have h2:=kc l λa ha=>by
    obtain⟨k,hk⟩:=Eb ha;exact ih a (by have:=cO esz hk;omega) (cG hl a ha)
   have h3:=ih a (by omega) hva;have h4:=fC 7 a;simp only[kX,sAt,D7,Da,Dc];omega
  ·rw[rH]at hn⊢;have h3:=ih a (by omega) hva;have h4:=fC 7 a;have h5:=fC 3 a;rcases hk with rfl|rfl|rfl|rfl
   ·rw[sj];simp only[D7,Da,Dc];omega
   ·rw[vi];simp only[D7,Da,Dc];omega
   ·rw[vg];simp only[D7,Da,Dc];omega
   ·rw[uZ];simp only[D7,Da,Dc];omega
  ·have h:=dP 10 (o:Int) 0 ⟨#[]⟩ false [a,b];rw[aS,aS,cN]at h;rw[show cv o a b= .mk 10 (o:Int) 0 ⟨#[]⟩ false [a,b]from rfl,h]at hn;rw[vj,show cv o a b= .mk 10 (o:Int) 0 ⟨#[]⟩ false [a,b]from rfl,h];have h1:=ih a (by omega) hva;have h2:=ih b (by omega) hvb;have h3:=fC (if ap (o:Int)=4 then 5 else ap o) a;have h4:=fC (ap (o:Int)+1) b
   have h5:(bD o).data.toList.length<=3:=by
    have ho':o=0\/o=1\/o=2\/o=3\/o=4\/o=5\/o=6\/o=7\/o=8\/o=9\/o=10\/o=11\/o=12:=by omega
    rcases ho' with rfl|rfl|rfl|rfl|rfl|rfl|rfl|rfl|rfl|rfl|rfl|rfl|rfl<;>simp[bD,sD]
   simp only[D7,Da,Dc];omega
theorem tEl{e:Ex}(h:vE e=true):(tE e).length+10<=60*esz e:=Ag _ e (D8 _) h
theorem sf(d:Nat)(l:List St)(h:∀a∈l,(tS a d).length<=9000*ssz a):(tSs l d).length<=9000*lsz ssz l:=by
 induction l with
 |nil=>simp[jp]
 |cons a l ih=>
  have h1:=ih λx hx=>h x (DF _ hx);have h0:=h a List.mem_cons_self;rw[gU,aS,D7];omega
theorem Ae:∀(n:Nat) (s:St) (d:Nat),ssz s<=n->d+ssz s<=1000->vS s=true->(tS s d).length<=9000*ssz s:=by
 intro n;induction n with
 |zero=>intro s d hn;have:=nW s;omega
 |succ n ih=>
  intro s d hn hd hv
  have hb:∀b:List St,vSs b=true->1+lsz ssz b<=ssz s->(tSs b (d+1)).length<=9000*lsz ssz b:=λb hvb hle=>
   sf (d+1) b λa ha=>by
    obtain⟨k,hk⟩:=Eb ha;have:=cO ssz hk;exact ih a (d+1) (by omega) (by omega) (dY hvb a ha)
  rcases fU hv with⟨nm,x,rfl,hs,hx⟩|⟨nm,x,rfl,hs,hx⟩|⟨nm,x,y,rfl,hs,hx,hy⟩|⟨x,b,f,rfl,hx,hvb,hvf⟩|⟨x,b,rfl,hx,hvb⟩|⟨nm,x,l,rfl,hs,hx,hl⟩|⟨x,rfl,hx⟩|⟨x,y,rfl,hx,hy⟩|⟨nm,x,y,rfl,hs,hx,hy⟩|rfl
  ·have h:=dn 0 nm [x] [] [];simp only[aS,cN]at h;rw[show stE 0 nm [x]= .mk 0 nm [x] [] []from rfl,h]at hd⊢;rw[<-show stE 0 nm [x]= .mk 0 nm [x] [] []from rfl,uV,bC];have h1:=cp hs;have h2:=tEl hx;simp only[cW,sEq,D7,Da,Dc];omega
  ·have h:=dn 1 nm [x] [] [];simp only[aS,cN]at h;rw[show stE 1 nm [x]= .mk 1 nm [x] [] []from rfl,h]at hd⊢;rw[<-show stE 1 nm [x]= .mk 1 nm [x] [] []from rfl,nh,bC];have h1:=cp hs;have h2:=tEl hx;simp only[cW,sEq,D7,Da,Dc];omega
  ·have h:=dn 2 nm [x,y] [] [];simp only[aS,cN]at h;rw[show stE 2 nm [x,y]= .mk 2 nm [x,y] [] []from rfl,h]at hd⊢;rw[<-show stE 2 nm [x,y]= .mk 2 nm [x,y] [] []from rfl,pb,bC];have h1:=cp hs;have h2:=tEl hx;have h3:=tEl hy;have h4:=fC 9 x;simp only[cW,sEq,D7,Da,Dc];omega
  ·have h:=dn 3 ⟨#[]⟩ [x] b f;simp only[aS,cN]at h;have h1:=hb b hvb (by omega);have h2:=hb f hvf (by omega);rw[h]at hd⊢;have h3:=tEl hx;rw[zJ,D7,D7,D7,bC,bC];split
   ·simp only[sIf,sBr,D7,Da,Dc];omega
   ·have he:(tLn d iO++tSs f (d+1)).length=(2*d+iO.length+1)+(tSs f (d+1)).length:=by rw[D7,bC]
    rw[he];simp only[sIf,sBr,iO,D7,Da,Dc];omega
  ·have h:=dn 4 ⟨#[]⟩ [x] b [];simp only[aS,cN]at h;have h1:=hb b hvb (by omega);rw[h]at hd⊢;have h3:=tEl hx;rw[oZ,D7,D7,bC,bC];simp only[lT,sBr,D7,Da,Dc];omega
  ·have h:=dn 5 nm (x::l) [] [];simp only[aS,cN]at h;rw[show stE 5 nm (x::l)= .mk 5 nm (x::l) [] []from rfl,h]at hd⊢;rw[<-show stE 5 nm (x::l)= .mk 5 nm (x::l) [] []from rfl,sg,bC];have h1:=cp hs;have h2:=tEl hx;have h3:=fC 8 x;have h4:=kc l λa ha=>tEl (cG hl a ha);simp only[bM,D7,Da,Dc];omega
  ·have h:=dn 6 ⟨#[]⟩ [x] [] [];simp only[aS,cN]at h;rw[show stE 6 ⟨#[]⟩ [x]= .mk 6 ⟨#[]⟩ [x] [] []from rfl,h]at hd⊢;rw[<-show stE 6 ⟨#[]⟩ [x]= .mk 6 ⟨#[]⟩ [x] [] []from rfl,pe,bC];have h2:=tEl hx;simp only[aY,D7,Da,Dc];omega
  ·have h:=dn 7 ⟨#[]⟩ [x,y] [] [];simp only[aS,cN]at h;rw[show stE 7 ⟨#[]⟩ [x,y]= .mk 7 ⟨#[]⟩ [x,y] [] []from rfl,h]at hd⊢;rw[<-show stE 7 ⟨#[]⟩ [x,y]= .mk 7 ⟨#[]⟩ [x,y] [] []from rfl,sh,bC];have h2:=tEl hx;have h3:=tEl hy;simp only[bN,sTo,D7,Da,Dc];omega
  ·have h:=dn 8 nm [x,y] [] [];simp only[aS,cN]at h;rw[show stE 8 nm [x,y]= .mk 8 nm [x,y] [] []from rfl,h]at hd⊢;rw[<-show stE 8 nm [x,y]= .mk 8 nm [x,y] [] []from rfl,pa,bC];have h1:=cp hs;have h2:=tEl hx;have h3:=tEl hy;simp only[aX,sBy,D7,Da,Dc];omega
  ·have h:=dn 9 ⟨#[]⟩ [] [] [];simp only[cN]at h;rw[show stE 9 ⟨#[]⟩ []= .mk 9 ⟨#[]⟩ [] [] []from rfl,h]at hd⊢;rw[<-show stE 9 ⟨#[]⟩ []= .mk 9 ⟨#[]⟩ [] [] []from rfl,nd,bC];simp only[aw,D7,Da,Dc];omega
theorem qG(l:List ByteArray)(h:vNm l=true):(cM l).length<=40*l.length:=by
 have h0:∀a∈l,a.data.toList.length<=31:=λa ha=>cp (Dr.mp h a ha)
 have h2:∀l:List ByteArray,(∀a∈l,a.data.toList.length<=31)->(l.flatMap λb=>44::32::b.data.toList).length<=40*l.length:=by
  intro l;induction l with
  |nil=>intro _;simp
  |cons a l ih=>
   intro h;have h1:=ih λx hx=>h x (DF _ hx);have h0:=h a List.mem_cons_self;rw[DL,D7,Da,Da,Da];omega
 cases l with
 |nil=>simp[cM]
 |cons a l=>
  have h1:=h2 l λx hx=>h0 x (DF _ hx);have h3:=h0 a List.mem_cons_self;rw[cM,D7,Da];omega
theorem yl{m:Me}(hv:vMe m=true)(hm:msz m<=900):(tMe m).length<=9000*msz m:=by
 obtain⟨h1,hv⟩:=Dv.1 hv;obtain⟨h2,h3⟩:=Dv.1 hv;have e1:=cp h1;have e2:=qG _ h2;unfold msz at hm⊢
 have e3:=sf 2 m.body λa ha=>by
  obtain⟨k,hk⟩:=Eb ha;have:=cO ssz hk;exact Ae _ a 2 (D8 _) (by omega) (dY h3 a ha)
 unfold tMe;rw[D7,D7,bC,bC];simp only[sOn,D7,Da,Dc];omega
theorem jL{α:Type}(f:α->List UInt8)(sz:α->Nat):∀l:List α,(∀a∈l,(f a).length<=9000*sz a)->(l.flatMap f).length<=9000*lsz sz l
 |[],_=>by simp
 |a::l,h=>by
  have h1:=jL f sz l λx hx=>h x (DF _ hx);have h0:=h a List.mem_cons_self;rw[DL,D7,aS];omega
theorem ym{c:Cl}(hv:vCl c=true)(hm:csz c<=900):(tCl c).length<=9000*csz c:=by
 obtain⟨h1,hv⟩:=Dv.1 hv;obtain⟨h2,hv⟩:=Dv.1 hv;obtain⟨_,h3⟩:=Dv.1 hv;have e1:=cp h1;unfold csz at hm⊢
 have e2:=jL tFd bE c.fields λa ha=>by
  have:=cp (Dr.mp h2 a ha);unfold tFd bE;rw[bC];simp only[vC,D7,Da,Dc];omega
 rw[sK]at e2
 have e3:=jL tMe msz c.methods λa ha=>by
  obtain⟨k,hk⟩:=Eb ha;have:=cO msz hk;exact yl (Dr.mp h3 a ha) (by omega)
 unfold tCl;rw[D7,D7,D7,bC,bC];have hw:(if c.actor=true then lU else jv).length<=7:=by split<;>simp[lU,jv]
 simp only[sBr,D7,Da,Dc];omega
theorem si{l:List Cl}(hv:vPr l=true)(hm:lsz csz l<=900):(tPr l).length<=9000*lsz csz l:=
 jL tCl csz l λa ha=>by
  obtain⟨k,hk⟩:=Eb ha;have:=cO csz hk;exact ym (Dr.mp hv a ha) (by omega)
theorem At.e7{b off k:Nat}{v0 v1 v2 v3 v4 v5 v6:Value}(h:At w b (off+7*k) [v0,v1,v2,v3,v4,v5,v6]):w.cell? ⟨b,off+k*7,none⟩=some v0/\w.cell? ⟨b,off+k*7+1,none⟩=some v1/\w.cell? ⟨b,off+k*7+2,none⟩=some v2/\
 w.cell? ⟨b,off+k*7+3,none⟩=some v3/\w.cell? ⟨b,off+k*7+4,none⟩=some v4/\w.cell? ⟨b,off+k*7+5,none⟩=some v5/\w.cell? ⟨b,off+k*7+6,none⟩=some v6:=by
 rw[DH]at h;exact⟨h 0 _ rfl,h 1 _ rfl,h 2 _ rfl,h 3 _ rfl,h 4 _ rfl,h 5 _ rfl,h 6 _ rfl⟩
theorem sT{zs:List Int}{A:Option Addr}{n:Nat}(h:Sl mY w G zs A n)(hG:∀b,G b->b<w.heap.size):Ints w w.heap.size A n zs:=by
 refine⟨by simpa using h.1,λh0=>?_⟩;obtain⟨b,off,h1,h2,h3⟩:=h.2.2 h0;refine⟨b,off,h1,hG b h2,λj v hv=>?_⟩;rw[DK]at hv;obtain⟨z,hz,rfl⟩:=DO.1 hv;obtain⟨cs,h4,h5⟩:=h3 j z hz;have h6:cs=[.int .i64 z]:=h4;subst h6;have:=h5 0 _ rfl;rwa[show mY.sz=1 from rfl,Nat.one_mul]at this
theorem lw{cs:List Value}(h:kAd.rd w G d cs)(hG:∀b,G b->b<w.heap.size):∃v:Av,cs=v.cells.toList/\Reads w w.heap.size v d/\v.n<=1152921504606846976/\v.n2<=1152921504606846976/\v.n=d.args.length/\v.n2=d.surv.length:=by
 obtain⟨A,n,c,A2,n2,c2,rfl,hs1,hs2⟩:=h;exact⟨⟨d.k,d.a,d.b,d.nm,d.mt,A,n,c,A2,n2,c2⟩,rfl,⟨rfl,rfl,rfl,rfl,rfl,sT hs1 hG,sT hs2 hG⟩,hs1.2.1,hs2.2.1,hs1.1.symm,hs2.1.symm⟩
def mJ(x:Sc):Bool:=decide (1<=x.m/\x.m<=8/\0<=x.y/\x.y<=1099511627776)
def gO(x:Sc):Bool:=x.ac.all aN&&(mJ x&&vPr x.cs)
theorem VSc.of(h:gO x=true)(h0:0<=x.sd)(h1:x.sd<=18446744073709551615):VSc x:=by
 obtain⟨ha,h⟩:=Dv.1 h;obtain⟨hc,hp⟩:=Dv.1 h;obtain⟨c1,c2,c3,c4⟩:=DI hc;have hv:=λd hd=>Dr.1 ha d hd;exact⟨c1,c2,h0,h1,c3,c4,hp,hv,λd hd=>(jk (hv d hd)).1⟩
theorem yd(x:Sc)(A:Option Addr)(n c:Nat)(A2:Option Addr)(n2 c2:Nat)(w:World)(G:Nat->Prop)(hs:Sl eZ w G x.cs A n)(hs2:Sl kAd w G x.ac A2 n2)(hG:∀b,G b->b<w.heap.size)(hg:Gl w)(hf:GlF w):
 Calls Tryz.prog 30 #[.agg #[.int .i64 x.m,.int .u64 x.sd,.int .i64 x.y,.slice A n c,.slice A2 n2 c2]] w λr w'=>r= .returned (.bool (gO x))/\Below w.heap.size w w':=by
 have hbig:=hg.big;obtain⟨g,hz⟩:=nm_ (w.heap.size);obtain⟨W0,hW0⟩:=nm_ (w.alloc (.cells #[.int .i64 x.m,.int .u64 x.sd,.int .i64 x.y,.slice A n c,.slice A2 n2 c2] 31));have HQ:=hng hW0 hz;have HB0:=hba hW0;have hs0:W0.heap.size=g+1:=by rw[<-hW0,Dk,hz]
 have HBZ:Hid (Below g w W0):=H_ (hz▸HB0.out);have HGl:=H_ (hg.below HB0.out);have HF:=H_ (hf.below HB0.out hbig);have HS:=H_ (hs.aA (G':=G) (w':=W0) (λb hb=>⟨hb,HB0.out.block b (hG b hb)⟩));have HS2:=H_ (hs2.aA (G':=G) (w':=W0) (λb hb=>⟨hb,HB0.out.block b (hG b hb)⟩));have HG:=H_ (show∀b,G b->b<W0.heap.size from λb hb=>by have:=hG b hb;omega);have hnb:n2<=1152921504606846976:=hs2.2.1;have hln:x.ac.length=n2:=hs2.1;have HW:=H_ hW0;have hvs:gO x=(x.ac.all aN&&(mJ x&&vPr x.cs)):=rfl;have HVS:=H_ hvs;obtain⟨m,hm⟩:=nm_ (x.m);obtain⟨sd,hsd⟩:∃m,x.sd=m:=⟨_,rfl⟩;obtain⟨y,hy⟩:∃m,x.y=m:=⟨_,rfl⟩;have hcf:mJ x=decide (1<=m/\m<=8/\0<=y/\y<=1099511627776):=by unfold mJ;rw[hm,hy]
 rw[hm,hsd,hy]at HQ HW⊢;have HC1:Hid (∀W,Calls Tryz.prog 61 #[.agg #[.int .i64 m,.int .u64 sd,.int .i64 y]] W λe w'=>e= .returned (.bool (mJ x))/\Below W.heap.size W w'):=H_ λW=>by rw[hcf];exact io m sd y W
 have HC2:Hid (∀W,Below W0.heap.size W0 W->Calls Tryz.prog 62 #[.agg #[.slice A n c]] W λr w'=>r= .returned (.bool (vPr x.cs))/\Below W.heap.size W w'):=H_ λW hW=>
  s9 x.cs A n c W G (HS.out.aA λb hb=>⟨hb,hW.block b (HG.out b hb)⟩) (λb hb=>by have:=HG.out b hb;have:=hW.size;omega) (HGl.out.below hW) (HF.out.below hW (by omega))
 generalize mJ x=vc at*
 generalize vPr x.cs=vp at*
 generalize gO x=vb at*
 obtain⟨q0,q1,q2,q3,q4⟩:=HQ.out.c5;clear hs hs2 hG hW0 HB0 hg hf hcf hvs hm hsd hy;go_enter Tryz.func30,Tryz.ntmps30;rw[hz];go_upto_region 1 with fail;rw[HW.out];go_wp2_with fail;go_loopw [10] (λi wr=>∃k:Nat,k<=n2/\i= .int .i64 k/\Hid (Below W0.heap.size W0 wr)/\Hid ((x.ac.take k).all aN=true)) (λi _=>n2-(intOf i).toNat)
 case atStart=>exact⟨0,Do _,rfl,H_ (Db _ _),H_ rfl⟩
 case round=>
  obtain⟨k,hk,rfl,HB,HV⟩:=hrel;have hsr:=HB.out.size;obtain⟨q0,q1,q2,q3,q4⟩:=(HQ.out.below HB.out (by omega)).c5;by_cases hkm:k<n2
  ·have hkz:(k:Int)<(n2:Int):=by omega
   have hS2:=HS2.out.aA (G':=G) (w':=wr) (λb hb'=>⟨hb',HB.out.block b (HG.out b hb')⟩);obtain⟨b,off,d,cs,rfl,hgb,hx,hrd,hat⟩:=hS2.at_ hkm;obtain⟨v,rfl,hrv,hvn,hvn2,-,-⟩:=lw hrd (λq hq=>by have:=HG.out q hq;omega);have HX:=H_ hx;obtain⟨d0,d1,d2,d3,d4,d5,d6⟩:=At.e7 hat
   obtain⟨p,hp⟩:=nm_ (wr.heap.size);obtain⟨w3,hw3⟩:=nm_ (wr.alloc (.cells v.cells 48));have HA:=hng hw3 hp;have hs3:w3.heap.size=p+1:=by rw[<-hw3,Dk,hp]
   have HB3:=H_ (HB.out.trans ((bal hw3).mono (by omega)));have HC:=H_ (mz v d w3 ((hrv.below (bal hw3)).more (by omega)) (HGl.out.below HB3.out) hvn hvn2);obtain⟨x0,x1,x2,x3,x4,x5,x6⟩:=HA.out.v7;have HW3:=H_ hw3;clear hx hat hS2 hrd hrv hgb hw3 HB;unfold Av.cells at*
   go_upto_region 4 with fail;rw[HW3.out];go_wp2_with fail;refine HC.out.mono ?_;rintro r w4 ⟨fk,fw,fA,fn,fc,rfl,b4,_⟩;have HB4:=htr HB3 b4;have hs4:=HB4.out.size;have hok:=ey d;obtain⟨bd,hbd⟩:=nm_ (okD d);have HVD:=H_ (show aN d=bd by rw[<-hbd,ey]);rw[hbd];obtain⟨w5,hw5⟩:=nm_ (w4.alloc (.cells #[.int .i64 fk,.string fw,.slice fA fn fc] 92));have HB5:=H_ (HB4.out.trans ((bal hw5).mono (by omega)));have HW5:=H_ hw5;clear b4 HC HB4 hok hbd hw5;go_upto_region 5 with fail;rw[HW5.out];cases bd with
   |false=>
    have HE:=H_ (HBZ.out.trans (HB5.out.mono (by omega)));go_wp2_with fail;go_ret;exact⟨aa (by rw[HVS.out,bc HX.out HVD.out,Bool.false_and]),HE.out⟩
   |true=>
    go_wp2_with fail;go_roundw
    case rel=>exact⟨k+1,by omega,by go_num,HB5,H_ (by rw[bq HX.out,HV.out,HVD.out];rfl)⟩
    case measure=>simp[intOf];omega
  ·obtain rfl:k=n2:=by omega
   rw[Dd (by omega)]at HV;have HA:Hid (vb=(vc&&vp)):=H_ (by rw[HVS.out,HV.out,ED]);clear HV HVS
   go_wp2_with (first
    |(go_at_call 61;refine(HC1.out _).mono ?_;rintro r w3 ⟨rfl,b3⟩;have HB:=htr HB b3;clear b3;have hsz:=HB.out.size;obtain⟨q0,q1,q2,q3,q4⟩:=(HQ.out.below HB.out (by omega)).c5)
    |(go_at_call 62;refine(HC2.out _ HB.out).mono ?_;rintro r w3 ⟨rfl,b3⟩;have HB:=htr HB b3;clear b3;have hsz:=HB.out.size;obtain⟨q0,q1,q2,q3,q4⟩:=(HQ.out.below HB.out (by omega)).c5))
   all_goals
    go_ret;refine⟨aa ?_,HBZ.out.trans (HB.out.mono (by omega))⟩;rw[HA.out];simp[*]
def i6:List UInt8:=[109,97,99,104,105,110,101,115,32]
def iN:List UInt8:=[115,101,101,100,32]
def fN:List UInt8:=[121,111,117,110,103,32]
def kM:List UInt8:=[10,112,114,111,103,114,97,109,10]
def nZ:List UInt8:=[101,110,100,10]
def en(x:Sc):List UInt8:=i6++Lib.itoa x.m++[10]++(iN++Lib.decDigits x.sd.toNat++[10])++(fN++Lib.itoa x.y++kM)++(tPr x.cs++nZ)
def tAc(l:List Ad):List UInt8:=l.flatMap λd=>ej d++[10]
theorem pU(n:Nat):Lib.itoa (n:Int)=Lib.decDigits n:=by unfold Lib.itoa;rw[Dg (by omega)];rfl
theorem uY(h:VSc x):AZ x=en x++tAc x.ac:=by
 obtain⟨M,hM⟩:=Dw (show 0<=x.m by have:=h.m1;omega);obtain⟨Y,hY⟩:=Dw h.y0
 have h1:∀l:List Ad,glu (l.map di)=tAc l:=by
  intro l;induction l with
  |nil=>rfl
  |cons a l ih=>
   rw[DS];show glu ([di a]++l.map di)=_;rw[iy,ih];show(ba (ej a)).data.toList++[10]++[]++tAc l=(ej a++[10])++tAc l;rw[DC];rfl
 unfold AZ ul en;rw[h1,mM,hM,hY,pU,pU];unfold fl;rw[hM,hY];simp only[Eq];show(((ba ((gN 0).data.toList++32::Lib.decDigits M)).data.toList++[10])++(((ba ((gN 1).data.toList++32::Lib.decDigits x.sd.toNat)).data.toList++[10])++(((ba ((gN 2).data.toList++32::Lib.decDigits Y)).data.toList++[10])++((lY.data.toList++[10])++[]))))++(tPr x.cs++((gB.data.toList++[10])++[]))++tAc x.ac=_;simp[i6,iN,fN,kM,nZ,gN,lY,gB,ba]
theorem lM:∀ws:List (List UInt8),(∀x∈ws,x.length<=31)->(cC ws).length<=32*ws.length
 |[],_=>by simp[cC]
 |a::l,h=>by
  have h1:=lM l λx hx=>h x (DF _ hx);have h0:=h a List.mem_cons_self;unfold cC at h1⊢;rw[DL,D7,Da,Da];omega
theorem xg(hw:WfA d)(h1:d.nm.size<=31)(h2:d.mt.size<=31):(rG d).length<=3/\∀x∈rG d,x.length<=31:=by
 have ha:=dI hw.a;have hb:=dI hw.b;have h1':d.nm.data.toList.length<=31:=h1;have h2':d.mt.data.toList.length<=31:=h2;unfold rG;split
 all_goals
  refine⟨by simp,λx hx=>?_⟩;simp only[Dm,Dl,DP]at hx;rcases hx with rfl|rfl|rfl<;>omega
theorem qc(hv:aN d=true):(ej d).length<=2000:=by
 obtain⟨hw,h1,h2,h3,h4⟩:=jk hv;obtain⟨f1,f2⟩:=xg hw h1 h2
 have hwd:(lD d.k.toNat).length<=10:=by
  unfold lD;rw[DD];cases hq:nP[d.k.toNat]? with
  |none=>simp
  |some s=>exact tm hq
 have ht:∀x∈kI d,x.length<=31:=λx hx=>by
  unfold kI ux at hx;rcases DR.1 hx with hx|hx
  ·rcases DR.1 hx with hx|hx
   ·exact f2 x hx
   ·obtain⟨z,hz,rfl⟩:=DN.1 hx;have:=dI (hw.args z hz);omega
  ·obtain⟨z,hz,rfl⟩:=DN.1 hx;have:=dI (hw.surv z hz);omega
 have hl:=lM _ ht;have hn:(kI d).length=(rG d).length+d.args.length+d.surv.length:=by unfold kI ux;simp;omega
 unfold ej;rw[Dq hv,D7];omega
theorem sn:∀l:List Ad,(∀d∈l,aN d=true)->(tAc l).length<=2001*l.length
 |[],_=>by simp[tAc]
 |a::l,h=>by
  have h1:=sn l λx hx=>h x (DF _ hx);have h0:=qc (h a List.mem_cons_self);unfold tAc at h1⊢;rw[DL];simp only[D7,Da,Dc];omega
theorem vk{l:List Ad}{k:Nat}(h:l[k]?=some d):tAc (l.take (k+1))=tAc (l.take k)++(ej d++[10]):=by
 rw[DW,h];simp[tAc]
theorem qi(h:u<=18446744073709551615):(Lib.decDigits u).length<=21:=by
 have h1:∀(k u:Nat),u<10^(k+1)->(Lib.decDigits u).length<=k+1:=by
  intro k;induction k with
  |zero=>intro u hu;rw[cF (by omega)];simp
  |succ k ih=>
   intro u hu;by_cases h10:u<10
   ·rw[cF h10];simp
   ·rw[fp (by omega),D7,EG];have:=ih (u/10) (by rw[Nat.div_lt_iff_lt_mul (by omega)];rw[Nat.pow_succ]at hu;exact hu);omega
 exact h1 20 u (by omega)
theorem tA(h:VSc x)(hz:lsz csz x.cs<=900):(en x).length<=9000000:=by
 have h1:=si h.cs hz;have h2:=dI (n:=x.m) (by have:=h.m1;have:=h.m8;unfold I64;omega);have h3:=dI (n:=x.y) (by have:=h.y0;have:=h.y1;unfold I64;omega);have h4:=qi (u:=x.sd.toNat) (by have:=h.s0;have:=h.s1;omega);unfold en;simp only[i6,iN,fN,kM,nZ,D7,Da,Dc];omega
structure BW(w:World)(B p:Nat)(s:List UInt8):Prop where
 ex:∃sa sv,Blk w p 58 #[sa,sv]/\(sa= .pointer none\/sa= .pointer (some ⟨p,0,none⟩))/\w.ownsRow B 5 1 sv s.length (Lib.byteCells s)
 lt:p<B
 le:B<=w.heap.size
theorem AJ:rV 58 2 0:=⟨by kernel_rfl,by decide⟩
theorem BW.below{p:Nat}{s:List UInt8}(h:BW w B p s)(hb:Below w.heap.size w w'):BW w' B p s:=by
 obtain⟨sa,sv,h1,h2,h3⟩:=h.ex;exact⟨⟨sa,sv,h1.below hb h1.lt,h2,ed h3 λk _ hk _=>hb.block k hk⟩,h.lt,Dz h.le hb.size⟩
theorem BW.write{p:Nat}{s:List UInt8}(h:BW w B p s)(x:ByteArray)(hlen:s.length+x.size<=1000000000):
 Calls Tryz.prog 31 #[.pointer (some ⟨p,0,none⟩),.string x] w λe w'=>e= .returned (.tuple #[.int .i64 x.size,.nilIface])/\Lk B p w w'/\BW w' B p (s++x.data.toList):=by
 obtain⟨sa,sv,h1,h2,h3⟩:=h.ex;have e0:(#[sa,sv]:Array Value)[0]?=some sa:=rfl;have e1:(#[sa,sv]:Array Value)[0+1]?=some sv:=rfl;have hl:rV 58 (#[sa,sv]:Array Value).size 0:=AJ;refine(Bw (o:=0) (Lib.byteCells s) x w hl h1 e0 e1 h2 h3 h.lt h.le hlen).mono ?_;rintro e w' ⟨rfl,l1,sv',q1,o1⟩;refine⟨rfl,l1,⟨⟨_,sv',q1,.inr rfl,?_⟩,h.lt,Dz h.le l1.size⟩⟩;have e1:(s++x.data.toList).length=s.length+x.size:=D7;have e2:Lib.byteCells (s++x.data.toList)=Lib.byteCells s++Lib.strCells x:=by simp[Lib.byteCells,Lib.strCells]
 rw[e1,e2];exact o1
theorem BW.wr{p:Nat}{s:List UInt8}(h:BW w B p s)(X:List UInt8)(hlen:s.length+X.length<=1000000000):
 Hid (Calls Tryz.prog 31 #[.pointer (some ⟨p,0,none⟩),.string (ba X)] w λe w'=>e= .returned (.tuple #[.int .i64 X.length,.nilIface])/\Lk B p w w'/\BW w' B p (s++X)):=by
 have hz:(ba X).size=X.length:=by simp[ba,ByteArray.size]
 have h1:=h.write (ba X) (by omega);rw[hz]at h1;exact H_ h1
theorem BW.str{p:Nat}{s:List UInt8}(h:BW w B p s)(hne:s≠[])(hlen:s.length<=1000000000):
 Calls Tryz.prog 35 #[.pointer (some ⟨p,0,none⟩)] w λe w'=>e= .returned (.string (ba s))/\Lk B p w w':=by
 obtain⟨sa,sv,h1,h2,h3⟩:=h.ex;have e1:(#[sa,sv]:Array Value)[0+1]?=some sv:=rfl;exact vt (o:=0) s w h1 e1 h3 (λe=>absurd e hne) h.lt hlen
end
end Go.Proofs.YtjpbckbpeblibaaGreatDoor
