/- part of a proof -/
import Derived.Test.YtjpbckbpeblibaaGreatDoorJJ19
import Derived.OwnWalkIn
import Derived.TacticsInMore
import Derived.LoopNIn
import Derived.LoopIn
import Derived.Laws.StructEq
namespace Go.Proofs.YtjpbckbpeblibaaGreatDoor
set_option linter.unusedVariables false
set_option linter.unusedSimpArgs false
set_option maxRecDepth 100000
set_option maxHeartbeats 64000000
section
open Go.RowKit
variable{B N:Nat}{a:List UInt8}{l:ByteArray}{p':Ph}{w w':World}{x x':Sc}
theorem Es:type_of% @KeepsOthers.setCell:=@KeepsOthers.setCell
theorem Ez:type_of% @World.alloc_heap_new:=@World.alloc_heap_new
theorem ES:type_of% @Nat.le_succ_of_le:=@Nat.le_succ_of_le
def LineP(n:Nat)(l:ByteArray)(p:Ph)(x:Sc)(B b:Nat)(w:World)(e:Ending)(w':World):Prop:=Lk B b w w'/\match bB n l p x with
 | .err q er=>e= .returned (.tuple #[.int .i64 (q:Int),.int .i64 er])/\er≠0
 | .go p' x'=>e= .returned (.tuple #[.int .i64 0,.int .i64 0])/\RdP w' B b x' p'
theorem LineP.err{n q:Nat}{er:Int}{p:Ph}{b:Nat}(h:bB n l p x= .err q er)(he:er≠0)(hk:Lk B b w w'):LineP n l p x B b w (.returned (.tuple #[.int .i64 (q:Int),.int .i64 er])) w':=by
 refine⟨hk,?_⟩;rw[h];exact⟨rfl,he⟩
theorem LineP.go{n:Nat}{p:Ph}{b:Nat}(h:bB n l p x= .go p' x')(hk:Lk B b w w')(hr:RdP w' B b x' p'):LineP n l p x B b w (.returned (.tuple #[.int .i64 0,.int .i64 0])) w':=by
 refine⟨hk,?_⟩;rw[h];exact⟨rfl,hr⟩
theorem mU{S:ByteArray}(h:S.data.toList=l.data.toList++[10]):Lib.byteCells a++Lib.strCells S=Lib.byteCells (a++l.data.toList++[10]):=by
 simp[Lib.byteCells,Lib.strCells,h]
theorem wO{n f:Nat}{b:Nat}(hr:RdP w B b x (.src a f))(hgB:GlB w b)(hbB:b<B)(hBw:B<=w.heap.size)(hl:l.size<=100000)(ha:a.length<=3000000000)(hf:f<=1000000):
 Calls Tryz.prog 20 #[.pointer (some ⟨b,0,none⟩),.int .i64 (n:Int),.string l] w (LineP n l (.src a f) x B b w):=by
 obtain⟨sa,sv,hb,hsa,hown,h0,hcs,hac⟩:=hr;have q5:=hb.cell 5;have f5:=hb.frozen 5;have HB:=H_ hb;have HX:=H_ (And.intro hcs hac);by_cases he:l=gB
 ·obtain⟨w1,hw1⟩:=nm_ (w.setCell ⟨b,5,none⟩ (.int .i64 5));have hk1:∀k,k≠b->w1.heap[k]?=w.heap[k]?:=λk hk=>hw1▸Dn _ _ _ _ hk;have hs1:w1.heap.size=w.heap.size:=by rw[<-hw1];simp[World.setCell]
  have q1:=hb.s5 hw1;have hg1:GlB w1 b:=GlB.below hgB (hw1▸(Db _ _).setCell (p:=⟨b,5,none⟩) (D8 _) _);have HP:=H_ (nu a w1 q1 (ed hown λk hk _ _=>hk1 k (by omega)) h0 hg1 hbB (by omega) ha hf);have HL:=H_ (show Lk B b w w1 from hw1▸(Lk.refl _ _ _).set 5 _);have HW:=H_ hw1;have hst:bB n l (.src a f) x=nX a f x:=by unfold bB;exact Dq he
  have HST:=H_ hst;have heq:(gB.toList==[101,110,100])=true:=by rw[DJ];rfl
  subst he;unfold gB at heq HST⊢;clear hb hown h0 hgB hw1 hk1 q1 hg1 hst hsa hcs hac;go_enter Tryz.func20,Tryz.ntmps20;go_upto_region 6 with fail;rw[HW.out];clear q5 f5;go_wp2_with fail;refine HP.out.mono ?_;rintro e w2 ⟨l2,hcase⟩;have HL2:=H_ (HL.out.trans l2);clear l2;cases hp:eg a with
  |err q er=>
   rw[hp]at hcase;obtain⟨rfl,hne⟩:=hcase;go_wp2_with fail;go_ret2;exact LineP.err (HST.out.trans (by unfold nX;rw[hp])) hne HL2.out
  |ok cs=>
   rw[hp]at hcase;obtain⟨rfl,A,m,c,q2,hsl⟩:=hcase;have HQ:=H_ (And.intro q2 hsl);clear q2 hsl;go_wp2_with fail;go_ret2;exact LineP.go (p':= .acts) (x':={x with cs:=cs}) (HST.out.trans (by unfold nX;rw[hp])) HL2.out ⟨A,m,c,_,sa,sv,f,HQ.out.1,HQ.out.2.aA (λk hk=>⟨⟨⟨hk.1,hk.2,λh=>h⟩,λh=>by cases h⟩,rfl⟩),HX.out.2▸Vec.nil _ _ _ _ _⟩
 ·obtain⟨S,hS,hSz,hadd⟩:=xP l ⟨#[10]⟩ (by have:(⟨#[10]⟩:ByteArray).size=1:=rfl;omega);have hS1:S.size=l.size+1:=hSz;have HC:=H_ (y7 (Lib.byteCells a) S w hb hsa hown hbB hBw (by omega));have HSN:=H_ (mU (a:=a) hS)
  have HSL:=H_ (show a.length+S.size=(a++l.data.toList++[10]).length by
   have h:l.data.toList.length=l.size:=rfl;rw[D7,D7,h,hS1];simp;omega)
  have hst:bB n l (.src a f) x= .go (.src (a++l.data.toList++[10]) f) x:=by unfold bB;exact Dg he
  have HST:=H_ hst;have hne:(l.toList==[101,110,100])=false:=D9.2 λe=>he (fu (e.trans (DJ gB).symm));clear hb hown h0 hgB hst hsa hS hSz hS1 hcs hac he;go_enter Tryz.func20,Tryz.ntmps20;go_wp2_with fail;refine HC.out.mono ?_;rintro e w1 ⟨rfl,l1,sv',q1,o1⟩;rw[HSN.out,HSL.out]at o1;have HQ:=H_ (And.intro l1 (And.intro q1 o1));clear l1 q1 o1;go_wp2_with fail;go_ret2;exact LineP.go HST.out HQ.out.1 ⟨_,sv',HQ.out.2.1,.inr rfl,HQ.out.2.2,λh=>by simp at h,HX.out.1,HX.out.2⟩
def vP:Ph->Int
 | .conf k=>k
 | .src _ _=>4
 | .acts=>5
theorem RdP.part{b:Nat}{p:Ph}(h:RdP w B b x p):w.cell? ⟨b,5,none⟩=some (.int .i64 (vP p)):=by
 cases p with
 |conf k=>exact h.1.cell 5
 |src a f=>obtain⟨sa,sv,hb,_⟩:=h;exact hb.cell 5
 |acts=>obtain⟨A,n,c,u,sa,sv,f,hb,_⟩:=h;exact hb.cell 5
theorem nC{n:Nat}{p:Ph}{b:Nat}(hr:RdP w B b x p)(hp:vP p≠4)(hs:eI l=true)(hst:bB n l p x= .go p x):
 Calls Tryz.prog 20 #[.pointer (some ⟨b,0,none⟩),.int .i64 (n:Int),.string l] w (LineP n l p x B b w):=by
 have q5:=hr.part;have hp4:=D9.2 hp;have HR:=H_ hr;have HST:=H_ hst;clear hr hst;generalize vP p=pn at q5 hp4 hp;by_cases h0:l.size=0
 ·obtain rfl:l=⟨#[]⟩:=Du (Dy h0);clear h0 hs hp;go_enter Tryz.func20,Tryz.ntmps20;go_wp2_with fail;go_ret2;exact LineP.go HST.out (Lk.refl _ _ _) HR.out
 ·have h1:0<l.size:=by omega
  have hz0:(0:Int)<(l.size:Int):=by omega
  have hc:(l[0]'h1)=35:=by
   unfold eI at hs;cases hl:l.data.toList with
   |nil=>have h2:l.data.toList.length=l.size:=rfl;rw[hl]at h2;simp at h2;omega
   |cons c r=>
    rw[hl]at hs;have h2:l.data.toList[0]?=some c:=by rw[hl];rfl
    have h3:=(De.1 h2).2;have h4:c=35:=by simpa using hs
    rw[<-h4];exact h3
  have hc35:(((l[0]'h1).toNat:Int)==35)=true:=by rw[hc];rfl
  have hne:(l.toList==[])=false:=D9.2 λe=>h0 (by rw[DJ]at e;exact Ev List.length e);clear hc h0 hs hp;go_enter Tryz.func20,Tryz.ntmps20;go_wp2_with fail;go_ret2;exact LineP.go HST.out (Lk.refl _ _ _) HR.out
theorem oh(h:eI l=false):∃h1:0<l.size,(((l[0]'h1).toNat:Int)==35)=false/\(l.toList==[])=false:=by
 unfold eI at h;cases hl:l.data.toList with
 |nil=>rw[hl]at h;cases h
 |cons c r=>
  rw[hl]at h;have h2:l.data.toList.length=l.size:=rfl;have h1:0<l.size:=by rw[hl]at h2;simp at h2;omega
  refine⟨h1,?_,by rw[DJ,hl];rfl⟩;have h3:l.data.toList[0]?=some c:=by rw[hl];rfl
  have h4:=(De.1 h3).2;have h5:(l[0]'h1)=c:=h4;rw[h5];have h6:c≠35:=by simpa using h
  exact D9.2 λe=>h6 (ET.1 (by show c.toNat=35;omega))
theorem Vec.kind{α:Type}{K:Kd α}{base:Nat}{Z:Nat->Prop}{u:Value}{xs:List α}(h:Vec K 48 base Z w u xs):∀k,u.ownBlock=some k->base<=k/\∃cs fz,w.heap[k]?=some (.cells cs 48 fz)\/w.heap[k]?=some (.cells cs 5 fz):=λk hk=>by
 refine⟨(h.lt k hk).1,?_⟩;obtain⟨_,css,h1,_⟩:=h;rcases h1.2 with⟨hv,_⟩|⟨g,cap,cur,hv,_,hg,_⟩
 ·rw[hv]at hk;cases hk
 ·rw[hv]at hk;cases hk;exact⟨cur,(0,0),.inl hg⟩
theorem BP:mT 7 29 48:=ir (z:= .agg #[.int .i64 0,.int .i64 0,.int .i64 0,.string ⟨#[]⟩,.string ⟨#[]⟩,.slice none 0 0,.slice none 0 0]) (bytes:=104) (by kernel_rfl) (by kernel_rfl) rfl (by decide)
theorem wP{n:Nat}{b:Nat}(hr:RdP w B b x .acts)(hg:Gl w)(hbB:b<B)(hBw:B<=w.heap.size)(hl:l.size<=100000)(hs:eI l=false)(hac:x.ac.length<=100000):
 Calls Tryz.prog 20 #[.pointer (some ⟨b,0,none⟩),.int .i64 (n:Int),.string l] w (LineP n l .acts x B b w):=by
 obtain⟨h1,hc35,hne⟩:=oh hs;have hz0:(0:Int)<(l.size:Int):=by omega
 obtain⟨A,m,c,u,sa,sv,f,hb,hsl,hv⟩:=hr;have q5:=hb.cell 5;have HB:=H_ hb;have HP:=H_ (it l w hg (by omega));have HV:=H_ (And.intro hsl hv);have hul:=hv.lt;clear hb hsl hv hg;go_enter Tryz.func20,Tryz.ntmps20;go_wp2_with fail;refine HP.out.mono ?_;rintro e w1 ⟨v,ad,rfl,had,hrd,hn1,hn2,hap,b1⟩;have hkad:=hrd.ad hn1 hn2 hap;obtain⟨ok,hok⟩:=nm_ ((ck (aQ l)).isSome);have HOK:=H_ hok;rw[hok];clear hok;obtain⟨code,hcd⟩:∃code:Int,(if ok=true then(0:Int)else 3)=code:=⟨_,rfl⟩;have hcode:(code==0)=ok:=by rw[<-hcd];cases ok<;>rfl
 rw[hcd];obtain⟨k',a',b',nm,mt,A1,n1,c1,A2,n2,c2⟩:=v;have hs1:=b1.size;have HB1:=hbl HB b1;have HL1:=H_ (Lk.of (B:=B) (b:=b) b1 (D8 _));have HV1:=H_ (And.intro (HV.out.1.aA (G':=λg=>NG B noZ w1 g/\u.ownBlock≠some g) (λg hg=>⟨⟨hg.1.mono hs1,hg.2⟩,b1.block g hg.1.2.1⟩)) (HV.out.2.aA hs1 (λk hk=>b1.block k hk.2.1)));have HK1:=H_ (kAd.aA (G':=λk=>NG B noZ w1 k/\u.ownBlock≠some k) (w':=w1) (λk hk=>⟨⟨⟨by have:=hk.1;omega,hk.2,λh=>h⟩,λe=>by have:=(hul k e).2;have:=hk.1;omega⟩,rfl⟩) hkad);have HAD:=H_ had;unfold Av.cells at HK1⊢;dsimp only at HK1⊢;clear hrd hn1 hn2 hap hkad HP HB HV q5 b1 had;obtain⟨g,hgz⟩:=nm_ (w1.heap.size);obtain⟨w2,hw2⟩:=nm_ (w1.alloc (.cells #[.int .i64 k',.int .i64 a',.int .i64 b',.string nm,.string mt,.slice A1 n1 c1,.slice A2 n2 c2] 48));have b2:=bal hw2;have hs2:w2.heap.size=g+1:=by rw[<-hw2,<-hgz];simp
 have HB2:=hbl HB1 b2;have HL2:=H_ (HL1.out.trans (Lk.of (B:=B) (b:=b) b2 (D8 _)));have HG2:=hng hw2 hgz;have HV2:=H_ (And.intro (HV1.out.1.aA (G':=λg=>NG B noZ w2 g/\u.ownBlock≠some g) (λg hg=>⟨⟨hg.1.mono b2.size,hg.2⟩,b2.block g hg.1.2.1⟩)) (HV1.out.2.aA b2.size (λk hk=>b2.block k hk.2.1)));have HK2:=H_ (kAd.aA (G':=λk=>NG B noZ w2 k/\u.ownBlock≠some k) (w':=w2) (λk hk=>⟨⟨hk.1.mono b2.size,hk.2⟩,b2.block k hk.1.2.1⟩) HK1.out);have HW:=H_ hw2;have hgw:w.heap.size<=g:=by omega
 clear b2 hw2 HB1 HL1 HV1 HK1;go_upto_region 12 with fail;rw[HW.out];have h1b:=HB2.out.lt;have hgb:g≠b:=by omega
 refine gK 7 8 9 (λj=>j==7) (λxs=>{tmps:= #[.pointer (some ⟨b,0,none⟩),.int .i64 (n:Int),.string l,undef,undef,undef,.int .i64 0,.int .i64 0,.bool ok,.pointer (some ⟨g,0,none⟩),.int .i64 code,.pointer (some ⟨b,0,none⟩),.pointer (some ⟨b,0,none⟩),.pointer (some ⟨b,5,none⟩),.int .i64 5,.bool false,undef,undef,undef,undef,undef,undef,undef,undef,undef,undef,undef,undef,undef,undef,undef,undef,undef,undef,undef,.string l,.bool false,.bool false,.string l,.int .u8 ((l[0]'h1).toNat:Int),.bool false,.bool false,.tuple #[.agg #[.int .i64 k',.int .i64 a',.int .i64 b',.string nm,.string mt,.slice A1 n1 c1,.slice A2 n2 c2],.int .i64 code],.string l,.tuple #[.agg #[.int .i64 k',.int .i64 a',.int .i64 b',.string nm,.string mt,.slice A1 n1 c1,.slice A2 n2 c2],.int .i64 code],.agg #[.int .i64 k',.int .i64 a',.int .i64 b',.string nm,.string mt,.slice A1 n1 c1,.slice A2 n2 c2],.int .i64 code,.int .i64 code,.bool ok,(xs 0).getD undef,(xs 1).getD undef,(xs 2).getD undef,(xs 3).getD undef,(xs 4).getD undef,(xs 5).getD undef,(xs 6).getD undef,(xs 7).getD undef,(xs 8).getD undef,undef,undef,undef,.bool false,.pointer (some ⟨b,0,none⟩),.pointer (some ⟨b,0,none⟩),.pointer (some ⟨b,5,none⟩),.int .i64 5,.bool false,undef,undef,undef,undef,undef,undef,undef,undef,undef,undef,.bool false,.pointer (some ⟨b,0,none⟩),.pointer (some ⟨b,0,none⟩),.pointer (some ⟨b,5,none⟩),.int .i64 5,.bool false,undef,undef,undef,undef,undef,undef,undef,undef,undef,undef,undef,undef,undef],defers:=[]})
  (λd W=>Lk B b w W/\Blk W b 60 #[.int .i64 x.m,.int .u64 x.sd,.int .i64 x.y,.slice A m c,u,.int .i64 5,sa,sv,.int .i64 f]/\Blk W g 48 #[.int .i64 k',.int .i64 a',.int .i64 b',.string nm,.string mt,.slice A1 n1 c1,.slice A2 n2 c2]/\(d=false->Below w2.heap.size w2 W)) 0
  (λi=>match i with
    |0=>fEq (.pointer (some ⟨b,0,none⟩))
    |1=>fEq (.pointer (some ⟨b,0,none⟩))
    |2=>fEq (.pointer (some ⟨b,0,none⟩))
    |3=>fEq (.pointer (some ⟨b,0,none⟩))
    |4=>fEq (.pointer (some ⟨b,4,none⟩))
    |5=>fEq u
    |6=>fEq (.agg #[.int .i64 k',.int .i64 a',.int .i64 b',.string nm,.string mt,.slice A1 n1 c1,.slice A2 n2 c2])
    |7=>λv W=>∃ra,v= .slice (some ⟨ra,0,none⟩) 1 1/\w2.heap.size<=ra/\Blk W ra 48 #[.int .i64 k',.int .i64 a',.int .i64 b',.string nm,.string mt,.slice A1 n1 c1,.slice A2 n2 c2]/\kAd.rd W (λk=>NG B noZ W k/\u.ownBlock≠some k) ad [.int .i64 k',.int .i64 a',.int .i64 b',.string nm,.string mt,.slice A1 n1 c1,.slice A2 n2 c2]/\Vec kAd 48 B noZ W u x.ac/\Sl kCl W (λg=>NG B noZ W g/\u.ownBlock≠some g) x.cs A m
    |8=>λv W=>Vec kAd 48 B noZ W v (x.ac++[ad])/\Sl kCl W (λg=>NG B noZ W g/\v.ownBlock≠some g) x.cs A m
    |_=>λ_ _=>True)
  (by
    intro k
    match k with
    |0|1|2|3|4|5|6=>exact fEq.st _ _
    |7=>exact λ_ W W' hn ⟨ra,e1,e2,e3,e4,e5,e6⟩=>⟨ra,e1,e2,(hn.block ra (Do _) e3.lt).trans e3,kAd.aA (λk hk=>⟨⟨hk.1.mono hn.size,hk.2⟩,hn.block k (Do _) hk.1.2.1⟩) e4,e5.aA hn.size (λk hk=>hn.block k (Do _) hk.2.1),e6.aA (λk hk=>⟨⟨hk.1.mono hn.size,hk.2⟩,hn.block k (Do _) hk.1.2.1⟩)⟩
    |8=>exact λ_ W W' hn ⟨e5,e6⟩=>⟨e5.aA hn.size (λk hk=>hn.block k (Do _) hk.2.1),e6.aA (λk hk=>⟨⟨hk.1.mono hn.size,hk.2⟩,hn.block k (Do _) hk.1.2.1⟩)⟩
    |_+9=>exact λ_ _ _ _ _=>trivial)
  (by kernel_rfl) (by kernel_rfl) (by decide) (by kernel_rfl) (by decide) (by decide) (by kernel_rfl) rfl ⟨HL2.out.trans (Lk.of (Db _ _).drew (D8 _)),HB2.out,HG2.out,λ_=>(Db _ _).drew⟩ ?_ ?_ ?_ ?_
 ·intro i hi hic hid d xs W hJ hd;have HJ:=H_ hJ;have p4:=hJ.2.1.cell 4;have s0:=hJ.2.2.1.cell 0;have s1:=hJ.2.2.1.cell 1;have s2:=hJ.2.2.1.cell 2;have s3:=hJ.2.2.1.cell 3;have s4:=hJ.2.2.1.cell 4;have s5:=hJ.2.2.1.cell 5;have s6:=hJ.2.2.1.cell 6;clear hJ;obtain rfl|rfl|rfl|rfl|rfl|rfl|rfl:i=0\/i=1\/i=2\/i=3\/i=4\/i=5\/i=6:=by omega
  ·refine Di rfl λK hK=>?_;go_simp;exact hK _ _ ⟨_,rfl,HJ.out,rfl,Nw.refl _ _⟩
  ·refine Di rfl λK hK=>?_;go_simp;exact hK _ _ ⟨_,rfl,HJ.out,rfl,Nw.refl _ _⟩
  ·obtain⟨_,h1,rfl⟩:=hd 1;refine Di rfl λK hK=>?_;go_simp;exact hK _ _ ⟨_,by simp only[cB,h1];rfl,HJ.out,rfl,Nw.refl _ _⟩
  ·obtain⟨_,h2,rfl⟩:=hd 2;refine Di rfl λK hK=>?_;go_simp;exact hK _ _ ⟨_,by simp only[cB,h2];rfl,HJ.out,rfl,Nw.refl _ _⟩
  ·obtain⟨_,h3,rfl⟩:=hd 3;refine Di rfl λK hK=>?_;go_simp;exact hK _ _ ⟨_,by simp only[cB,h3];rfl,HJ.out,rfl,Nw.refl _ _⟩
  ·obtain⟨_,h4,rfl⟩:=hd 4;refine Di rfl λK hK=>?_;go_simp;exact hK _ _ ⟨_,by simp only[cB,h4];rfl,HJ.out,rfl,Nw.refl _ _⟩
  ·refine Di rfl λK hK=>?_;go_simp;exact hK _ _ ⟨_,rfl,HJ.out,rfl,Nw.refl _ _⟩
 ·intro xs W hJ hd;obtain⟨_,h6,rfl⟩:=hd 6;have hb2:=hJ.2.2.2 rfl;have hbn:=(Db W.heap.size W).alloc (D8 _) (.cells #[.int .i64 k',.int .i64 a',.int .i64 b',.string nm,.string mt,.slice A1 n1 c1,.slice A2 n2 c2] 48);have hbw:=hb2.alloc hb2.size (.cells #[.int .i64 k',.int .i64 a',.int .i64 b',.string nm,.string mt,.slice A1 n1 c1,.slice A2 n2 c2] 48);have HJ:=H_ hJ;have HN:=H_ hbn;have HBW:=H_ hbw;clear hJ hbn hbw hb2;refine Di rfl λK hK=>?_;go_simp
  exact hK _ _ ⟨.slice (some ⟨W.heap.size,0,none⟩) 1 1,by simp only[cB,h6];rfl,⟨HJ.out.1.trans (Lk.of HN.out (D8 _)),HJ.out.2.1.below HN.out HJ.out.2.1.lt,HJ.out.2.2.1.below HN.out HJ.out.2.2.1.lt,λh=>by cases h⟩,
   ⟨W.heap.size,rfl,(HJ.out.2.2.2 rfl).size,Blk.new W 48 _,kAd.aA (λk hk=>⟨⟨hk.1.mono HBW.out.size,hk.2⟩,HBW.out.block k hk.1.2.1⟩) HK2.out,HV2.out.2.aA HBW.out.size (λk hk=>HBW.out.block k hk.2.1),HV2.out.1.aA (λk hk=>⟨⟨hk.1.mono HBW.out.size,hk.2⟩,HBW.out.block k hk.1.2.1⟩)⟩,Nw.below HN.out⟩
 ·intro _ xs W hJ hd;obtain⟨v5,h5,e5⟩:=hd 5;rw[show v5=u from e5]at h5;clear e5;obtain⟨_,h7,ra,rfl,hra,hrow,hkad,hvec,hsl⟩:=hd 7;have hWb:=hJ.2.1.lt;have hsW:=hJ.1.size;have hkind:=hvec.kind;refine Di rfl λK hK=>?_
  have hy:∀(j:Nat) (x':Ad) (cs':List Value),[ad][j]?=some x'->([[.int .i64 k',.int .i64 a',.int .i64 b',.string nm,.string mt,.slice A1 n1 c1,.slice A2 n2 c2]]:List (List Value))[j]?=some cs'->kAd.rd W (λk=>NG B noZ W k/\u.ownBlock≠some k) x' cs':=λj x' cs' e1 e2=>by
   cases j with
   |zero=>
    simp at e1 e2;subst e1 e2;exact hkad
   |succ j=>simp at e1
  obtain⟨v',W',hr,hv',hgrow,hat⟩:=i7 BP 29 (c:=1) hvec (ys:=[ad]) (dss:=[[.int .i64 k',.int .i64 a',.int .i64 b',.string nm,.string mt,.slice A1 n1 c1,.slice A2 n2 c2]]) (b:=ra) (off:=0) rfl (by simpa using At.aE hrow) hy (by simp;omega) (by omega) (λ_ _ h=>h);refine fP (.tmp 54) (.tmp 56) 29 rfl (by show(xs 5).getD undef=_;rw[h5];rfl) (by show(xs 7).getD undef=_;rw[h7];rfl) hr ?_
  ·have hub:=hul;have hkeep:∀k,k<W.heap.size->u.ownBlock≠some k->W'.heap[k]?=W.heap[k]?:=λk hk hne=>hgrow.block k hk (λe=>hne e.symm);refine hK _ _ ⟨v',rfl,⟨hJ.1.grown hgrow hkind,(hkeep b hWb (λe=>by have:=(hub b e).1;omega)).trans hJ.2.1,(hkeep g hJ.2.2.1.lt (λe=>by have:=(hub g e).2;omega)).trans hJ.2.2.1,λh=>by rw[h7]at h;cases h⟩,⟨hv',?_⟩,λk v hkd h1 h2=>?_⟩
   ·refine hsl.aA λk hk=>⟨⟨hk.1.mono hgrow.size,λe=>?_⟩,hkeep k hk.1.2.1 hk.2⟩;rcases hat with e2|e2
    ·exact hk.2 (e2▸e)
    ·rw[e2]at e;cases e;exact absurd hk.1.2.1 (EF _)
   ·match k,hkd,h1,h2 with
    |0,_,_,h2|1,_,_,h2|2,_,_,h2|3,_,_,h2|4,_,_,h2|5,_,_,h2|6,_,_,h2=>exact h2
    |8,hkd,_,_=>exact absurd rfl hkd
    |k+9,_,_,_=>trivial
 ·intro xs W hJ hF;obtain⟨_,h0,rfl⟩:=hF 0 (by omega) rfl;obtain⟨_,h1',rfl⟩:=hF 1 (by omega) rfl;obtain⟨_,h2,rfl⟩:=hF 2 (by omega) rfl;obtain⟨_,h3,rfl⟩:=hF 3 (by omega) rfl;obtain⟨_,h4,rfl⟩:=hF 4 (by omega) rfl;obtain⟨v5,h5,e5⟩:=hF 5 (by omega) rfl;rw[show v5=u from e5]at h5;obtain⟨_,h6,rfl⟩:=hF 6 (by omega) rfl;obtain⟨v',h8,hv',hsl'⟩:=hF 8 (by omega) rfl;have q4:=hJ.2.1.cell 4;have qf:=hJ.2.1.frozen 4;have HV:=H_ (And.intro hv' hsl');have HJ:=H_ hJ;obtain⟨A',c',rfl,_⟩:=hv'.sl (by simp[BD];omega);rw[show(x.ac++[ad]).length=x.ac.length+1 from by simp]at h8 HV;clear hv' hsl' hJ hF e5;rw[show List.range' 9 _=[9,10,11,12]from rfl,El];refine Di rfl λK hK=>?_;rw[show(xs 7)=xs 7 from rfl];generalize xs 7=x7;simp only[h0,h1',h2,h3,h4,h5,h6,h8,ER];go_simp;refine hK _ _ ?_;rw[El];refine Di rfl λK hK=>?_;go_simp;refine hK _ _ ?_;rw[El];refine Di rfl λK hK=>?_;go_simp;refine hK _ _ ?_;rw[El];refine Di rfl λK hK=>?_;go_simp;refine hK _ _ ?_
  have HR:=H_ (show RdP (W.setCell ⟨b,4,none⟩ (.slice A' (x.ac.length+1) c')) B b {x with ac:=x.ac++[ad]} .acts from
   ⟨A,m,c,.slice A' (x.ac.length+1) c',sa,sv,f,HJ.out.2.1.set 4 _,HV.out.2.aA (λk hk=>⟨⟨hk.1.mono (by simp[World.setCell]),hk.2⟩,Dn _ _ _ _ (show k≠b by have:=hk.1.1;omega)⟩),
     HV.out.1.aA (by simp[World.setCell]) (λk hk=>Dn _ _ _ _ (show k≠b by have:=hk.1;omega))⟩)
  have HL:=H_ (HJ.out.1.set 4 (.slice A' (x.ac.length+1) c'));clear q4 qf HJ HV;unfold wpOps;cases hpw:ck (aQ l)with
  |none=>
   have hok:=HOK.out;rw[hpw]at hok;obtain rfl:false=ok:=hok;obtain rfl:(3:Int)=code:=hcd;have hst:bB n l .acts x= .err n 3:=by unfold bB;simp only[hs,hpw];rfl
   have HST:=H_ hst;clear hst hpw;go_wp2_with fail;go_ret2;exact LineP.err HST.out (by decide) HL.out
  |some ad'=>
   have hok:=HOK.out;rw[hpw]at hok;obtain rfl:true=ok:=hok;obtain rfl:(0:Int)=code:=hcd
   have hst:bB n l .acts x= .go .acts {x with ac:=x.ac++[ad]}:=by
    have h:=HAD.out;rw[hpw]at h;unfold bB;simp only[hs,hpw,h];rfl
   have HST:=H_ hst;clear hst hpw;go_wp2_with fail;go_ret2;exact LineP.go HST.out HL.out HR.out
theorem ue{n:Nat}{b:Nat}(hr:RdP w B b x (.conf 3))(hbB:b<B)(hBw:B<=w.heap.size)(hs:eI l=false)(hn:n<=1000000):
 Calls Tryz.prog 20 #[.pointer (some ⟨b,0,none⟩),.int .i64 (n:Int),.string l] w (LineP n l (.conf 3) x B b w):=by
 obtain⟨h1,hc35,hne⟩:=oh hs;have hz0:(0:Int)<(l.size:Int):=by omega
 obtain⟨hb,hcs,hac,_⟩:=hr;have q5:=hb.cell 5;have q8:=hb.cell 8;have f5:=hb.frozen 5;have f8:=hb.frozen 8;have hwr:IntKind.i64.wrap ((n:Int)+1)=((n+1:Nat):Int):=by rw[EL _ (by omega)];rfl
 have HB:=H_ hb;have HX:=H_ (And.intro hcs hac);have HS:=H_ hs;clear hb hcs hac hs;by_cases he:l=lY
 ·have hst:bB n l (.conf 3) x= .go (.src [] (n+1)) x:=by unfold bB;simp only[HS.out,he];rfl
  have HST:=H_ hst;have heq:(l.toList==[112,114,111,103,114,97,109])=true:=by rw[he,DJ];rfl
  clear hst he;go_enter Tryz.func20,Tryz.ntmps20;go_wp2_with fail;go_ret2;exact LineP.go HST.out (((Lk.refl _ _ _).set 5 _).set 8 _) ⟨.pointer none,.slice none 0 0,(HB.out.set 5 _).set 8 _,.inl rfl,Eu _ _ _ _,λ_=>rfl,HX.out⟩
 ·have hst:bB n l (.conf 3) x= .err n 3:=by unfold bB;simp only[HS.out,Dg he];rfl
  have HST:=H_ hst;have heq:(l.toList==[112,114,111,103,114,97,109])=false:=D9.2 λe=>he (fu (e.trans (DJ lY).symm));clear hst he;go_enter Tryz.func20,Tryz.ntmps20;go_wp2_with fail;go_ret2;exact LineP.err HST.out (by decide) (((Lk.refl _ _ _).set 5 _).set 8 _)
theorem uf{n k:Nat}(hk:k<3){b:Nat}(hr:RdP w B b x (.conf k))(hg:Gl w)(hbB:b<B)(hBw:B<=w.heap.size)(hl:l.size<=100000)(hs:eI l=false):
 Calls Tryz.prog 20 #[.pointer (some ⟨b,0,none⟩),.int .i64 (n:Int),.string l] w (LineP n l (.conf k) x B b w):=by
 obtain⟨h1,hc35,hne⟩:=oh hs;have hz0:(0:Int)<(l.size:Int):=by omega
 have HP:=H_ (xx k hk l w B b x hg hr hbB hBw hl);have q5:=hr.1.cell 5;have hk4:((k:Int)==4)=false:=D9.2 (by omega);have hk3:((k:Int)==3)=false:=D9.2 (by omega);have hkl:(k:Int)<3:=by omega
 have hwr:IntKind.i64.wrap ((k:Int)+1)=((k+1:Nat):Int):=by rw[EL _ (by omega)];rfl
 have hst:bB n l (.conf k) x=match gn k l with
  |none=> .err n 3
  |some v=> .go (.conf (k+1)) (x.set k v):=by unfold bB;simp only[hs];rw[Dg (by simp),Dg (by omega)];cases gn k l<;>rfl
 have HST:=H_ hst;clear hr hg hs hst;go_enter Tryz.func20,Tryz.ntmps20;go_wp2_with fail;refine HP.out.mono ?_;rintro e w1 ⟨l1,⟨hn,rfl,x',hr1⟩|⟨v,hv,rfl,hr1⟩⟩
 ·have p5:=hr1.1.cell 5;have f5:=hr1.1.frozen 5;have HL:=H_ l1;have HST2:=H_ (HST.out.trans (by rw[hn]));clear l1 hn hr1 q5;go_wp2_with fail;go_ret2;exact LineP.err HST2.out (by decide) (HL.out.set 5 _)
 ·have p5:=hr1.1.cell 5;have f5:=hr1.1.frozen 5;have HL:=H_ l1;have HR:=H_ hr1;have HST2:=H_ (show bB n l (.conf k) x= .go (.conf (k+1)) (x.set k v)from HST.out.trans (by rw[hv]));clear l1 hv hr1 q5;go_wp2_with fail;go_ret2;exact LineP.go HST2.out (HL.out.set 5 _) ⟨HR.out.1.set 5 _,HR.out.2.1,HR.out.2.2.1,by omega⟩
def PhB(N:Nat)(x:Sc)(p:Ph):Prop:=x.ac.length<=N/\∀a f,p= .src a f->a.length<=N*40001/\f<=50000
theorem AH{n:Nat}{p:Ph}{b:Nat}(hr:RdP w B b x p)(hgB:GlB w b)(hbB:b<B)(hBw:B<=w.heap.size)(hl:l.size<=100000)(hn:n<=1000000)(hN:N<=50000)(hp:PhB N x p):
 Calls Tryz.prog 20 #[.pointer (some ⟨b,0,none⟩),.int .i64 (n:Int),.string l] w (LineP n l p x B b w):=by
 cases p with
 |src a f=>
  have h:=hp.2 a f rfl;exact wO hr hgB hbB hBw hl (by omega) (by omega)
 |conf k=>
  cases hs:eI l with
  |true=>exact nC hr (by have:=hr.2.2.2;show(k:Int)≠4;omega) hs (by unfold bB;simp only[hs];rfl)
  |false=>
   by_cases hk:k<3
   ·exact uf hk hr hgB.gl hbB hBw hl hs
   ·obtain rfl:k=3:=by have:=hr.2.2.2;omega
    exact ue hr hbB hBw hs hn
 |acts=>
  cases hs:eI l with
  |true=>exact nC hr (by decide) hs (by unfold bB;simp only[hs];rfl)
  |false=>exact wP hr hgB.gl hbB hBw hl hs (by have:=hp.1;omega)
theorem PhB.step{n:Nat}{p:Ph}(h:PhB N x p)(hst:bB n l p x= .go p' x')(hl:l.size<=40000)(hn:n<=49999):PhB (N+1) x' p':=by
 have hsz:l.data.toList.length=l.size:=rfl;have h0:=h.1;unfold bB at hst;cases p with
 |src a f=>
  have h1:=h.2 a f rfl;simp only at hst;split at hst
  ·unfold nX at hst;split at hst
   ·cases hst
   ·cases hst;exact⟨ES h0,λa f e=>by cases e⟩
  ·cases hst;refine⟨ES h0,λa' f' e=>?_⟩;cases e;simp only[D7,EG,hsz];omega
 |conf k=>
  simp only at hst;split at hst
  ·cases hst;exact⟨ES h0,λa f e=>by cases e⟩
  ·split at hst
   ·split at hst
    ·cases hst;refine⟨ES h0,λa' f' e=>?_⟩;cases e;exact⟨Do _,by omega⟩
    ·cases hst
   ·split at hst
    ·cases hst
    ·rename_i v hv;cases hst
     have hset:(x.set k v).ac=x.ac:=by
      unfold Sc.set;split<;>rfl
     exact⟨by rw[hset];exact ES h0,λa f e=>by cases e⟩
 |acts=>
  simp only at hst;split at hst
  ·cases hst;exact⟨ES h0,λa f e=>by cases e⟩
  ·split at hst
   ·cases hst
   ·cases hst;refine⟨?_,λa f e=>by cases e⟩;simp;omega
end
section
open Go.RowKit Go.Shelf
variable{B B0 D g:Nat}{W w w':World}{cs:Array Value}
abbrev NLn:={x:Nat×ByteArray//x.1<=40000/\x.2.size<=40000}
def qh(ls:List ByteArray)(k:Nat):NLn:=if h:k+1<=40000/\(ls.getD k ByteArray.empty).size<=40000 then⟨(k+1,ls.getD k ByteArray.empty),h⟩else⟨(0,ByteArray.empty),by decide⟩
def upN(ls:List ByteArray)(k:Nat):List NLn:=(List.range k).map (qh ls)
theorem jm(ls:List ByteArray)(k:Nat):upN ls (k+1)=upN ls k++[qh ls k]:=by unfold upN;rw[List.range_succ,EZ];rfl
theorem nR(ls:List ByteArray)(k:Nat):(upN ls k).length=k:=by unfold upN;simp
theorem jP{ls:List ByteArray}{k:Nat}{l:ByteArray}(h:ls[k]?=some l)(hk:k+1<=40000)(hl:l.size<=40000):(qh ls k).1=(k+1,l):=by
 have hg:ls.getD k ByteArray.empty=l:=by rw[DD,h];rfl
 unfold qh;rw[dif_pos (by rw[hg];exact⟨hk,hl⟩)];show(k+1,ls.getD k ByteArray.empty)=(k+1,l);rw[hg]
def uo(x:NLn):Array Value:= #[.int .i64 (x.1.1:Nat),.string x.1.2]
noncomputable def stN(st:Nx)(x:NLn):Nx:=match st with
 | .err q e=> .err q e
 | .go p y=>bB x.1.1 x.1.2 p y
noncomputable def jK(xs:List NLn):Nx:=xs.foldl stN (.go (.conf 0) zSc)
theorem mB(xs:List NLn)(x:NLn):jK (xs++[x])=stN (jK xs) x:=by unfold jK;rw[List.foldl_append];rfl
theorem iZ(ls:List ByteArray)(hls:∀l∈ls,l.size<=40000)(hm:ls.length<40000):∀k,k<=ls.length->fh ls 0 (.conf 0) zSc=match jK (upN ls k)with
  | .err q e=> .err q e
  | .go p x=>fh (ls.drop k) k p x
 |0,_=>by simp[upN,jK]
 |k+1,hk=>by
  rw[iZ ls hls hm k (by omega),jm,mB];have hg:ls[k]?=some ls[k]:=Df (by omega);have he:=jP hg (by omega) (hls _ (List.getElem_mem _));cases hf:jK (upN ls k)with
  |err q e=>rfl
  |go p x=>
   unfold stN;simp only[he];rw[EE (by omega)];cases hs:bB (k+1) ls[k] p x with
   |err q e=>simp only;rw[ns hs]
   |go p' x'=>simp only;rw[eJ hs]
def KpS(W W':World):Prop:=W.heap.size<=W'.heap.size/\∀(k:Nat) (cs:Array Value),W.heap[k]?=some (Obj.cells cs 9 (0,0))->W'.heap[k]?=W.heap[k]?
theorem KpS.t{A B C:World}(h:KpS A B)(k:KpS B C):KpS A C:=⟨Dz h.1 k.1,λi cs hi=>by
 have h1:=h.2 i cs hi;exact(k.2 i cs (h1.trans hi)).trans h1⟩
theorem KpS.b{n₀:Nat}(W:World)(l:Nat)(o o':Obj)(_:n₀<=l)(h:W.heap[l]?=some o)(hc:o.isCells=false)(_:o.isWalk=false):KpS W (W.putObj l o'):=
 ⟨by simp,λk cs hk=>World.putObj_heap_other (λe=>by subst e;rw[h]at hk;cases hk;cases hc)⟩
theorem xv(b:UInt8)(s:ByteArray):1<=(gC b s).length:=by
 have:=Lib.splitB_all ⟨#[b]⟩ (D8 1) 0 (Lib.countB s ⟨#[b]⟩) s rfl;unfold gC;omega
theorem xw(b:UInt8)(s:ByteArray):(gC b s).length=Lib.countB s ⟨#[b]⟩+1:=Lib.splitB_all ⟨#[b]⟩ (D8 1) 0 (Lib.countB s ⟨#[b]⟩) s rfl
theorem zA(l:List ByteArray)(h:1<=l.length):(∃z,l[l.length-1]?=some z/\((z=⟨#[]⟩/\mI l=l.take (l.length-1))\/(z≠⟨#[]⟩/\mI l=l))):=by
 have hl:l[l.length-1]?=some l[l.length-1]:=Df (by omega);refine⟨_,hl,?_⟩;have hg:l.getLast?=some l[l.length-1]:=by rw[List.getLast?_eq_getElem?,hl]
 unfold mI;rw[hg];by_cases hz:l[l.length-1]=⟨#[]⟩
 ·exact .inl ⟨hz,by rw[Dq (by rw[hz]),List.dropLast_eq_take]⟩
 ·exact .inr ⟨hz,Dg (λe=>hz (Option.some.inj e))⟩
attribute [local go_sem] Oper.semAt_some
theorem pP(n:Nat)(hn:1<=n)(s:ByteArray)(Bs:Nat)(w:World)(hg:Gl w)(hs:s.size<=39000)(hB:w.cell? ⟨Bs,0,none⟩=some (.string s))(hls:∀l∈ak s,l.size<=40000)(hm:(ak s).length<40000):
 SeqStopsK Fence.wide n Tryz.prog 47 #[.pointer (some ⟨Bs,0,none⟩)] uo KpS (λxs=>xs=upN (ak s) (ak s).length) (λpre=>∃k,k<=(ak s).length/\pre=upN (ak s) k) (ak s).length w:=λl J Jx W hW hJ hJx hY h0=>by
 have hcl:=xw 10 s;have hcp:=xv 10 s;obtain⟨z,hz,hch⟩:=zA (gC 10 s) hcp;obtain⟨m,hmx⟩:=(hg.below hW).mx
 have hBW:W.cell? ⟨Bs,0,none⟩=some (.string s):=by
  obtain⟨o,ho,_⟩:=cells_of_cell hB;exact(aj hW (Dt.1 ho).1 0).trans hB
 have HSP:=H_ (Tryz.strings_Split s ⟨#[10]⟩ m W (by omega) hmx (D8 1));have HJ:=H_ hJ;have HY:=H_ hY;refine callsIn_of_wp Tryz.func47 rfl trivial ?_ rfl;simp only[Tryz.ntmps47,List.size_toArray,Da,Dc,Nat.reduceAdd,Nat.reduceSub,Array.replicate_succ,Array.replicate_zero,List.push_toArray,List.append_toArray,DY,Ec];clear hJ hY hg hW
 have hrow:∀(k:Nat) (l':ByteArray),(ak s)[k]?=some l'->(gC 10 s)[k]?=some l':=λk l' hk=>by
  unfold ak at hk;rcases hch with⟨_,hc⟩|⟨_,hc⟩
  ·rw[hc,List.getElem?_take]at hk;split at hk
   ·exact hk
   ·cases hk
  ·rwa[hc]at hk
 have hlen:(ak s).length=(gC 10 s).length-1\/(ak s).length=(gC 10 s).length:=by
  unfold ak;rcases hch with⟨_,hc⟩|⟨_,hc⟩
  ·rw[hc,EI];omega
  ·rw[hc];exact .inr rfl
 obtain⟨N,hN⟩:=nm_ (Lib.countB s ⟨#[10]⟩);have hcs:(Lib.splitB ⟨#[10]⟩ 0 (Lib.countB s ⟨#[10]⟩) s)=gC 10 s:=rfl;rw[hcs,hN]at HSP;rw[hN]at hcl;rw[hcl]at hz hlen;obtain⟨W1,hW1⟩:=nm_ (W.alloc (.cells ((gC 10 s).map Value.string).toArray 9));obtain⟨G,hG⟩:=nm_ (W.heap.size);rw[hW1,hG]at HSP;have HR:=hng hW1 hG;have HJ1:=H_ (HJ.out [] W W1 none h0 (hW1▸World.grownBy_alloc W _ none) (λr e=>by cases e));have HROW:=H_ hrow
 have hcell:∀(W':World) (k:Nat) (l':ByteArray),Blk W' G 9 ((gC 10 s).map Value.string).toArray->(gC 10 s)[k]?=some l'->W'.cell? ⟨G,k,none⟩=some (.string l'):=λW' k l' hb hk=>by
  rw[hb.cell];simp[hk]
 have HCELL:=H_ hcell;have d0:=hcell W1 N z HR.out (by simpa using hz);have hwr:IntKind.i64.wrap (((N+1:Nat):Int)-1)=(N:Int):=by rw[EL _ (by omega)];omega
 have hNl:N<N+1:=by omega
 have HLS:=H_ hls;have HL:=H_ hlen;have HCH:=H_ hch;clear hrow hcell hz hW1 hls hch
 gi_wp2
 refine⟨trivial,(callsIn_wide.2 HSP.out).mono ?_⟩;rintro e W1' ⟨rfl,rfl⟩;rcases HCH.out with⟨hz0,hc⟩|⟨hz0,hc⟩
 ·have hM:(ak s).length=N:=by unfold ak;rw[hc,EI];omega
  subst hz0
  gi_wp2
  gi_loopw [22] (λi wr=>∃k:Nat,k<=(ak s).length/\i= .int .i64 k/\Hid (Blk wr G 9 ((gC 10 s).map Value.string).toArray)/\Hid (J (upN (ak s) k) wr)) (λi _=>(ak s).length-(intOf i).toNat)
  case atStart=>exact⟨0,Do _,rfl,HR,HJ1⟩
  case round=>
   obtain⟨k,hk,rfl,HRk,HJk⟩:=hrel;by_cases hkm:k<(ak s).length
   ·have hkz:(k:Int)<(N:Int):=by omega
    have hkn:k<N:=by omega
    obtain⟨l',hl'⟩:∃l',(ak s)[k]?=some l':=⟨_,Df hkm⟩;have dk:=HCELL.out wr k l' HRk.out (HROW.out k l' hl');have hwk:IntKind.i64.wrap ((k:Int)+1)=((k+1:Nat):Int):=by rw[EL _ (by omega)];rfl
    have hen:=jP hl' (by omega) (HLS.out l' (Dj hl'));obtain⟨fn,tmps,assign,body,hy,hR⟩:=HY.out (upN (ak s) k) (qh (ak s) k) wr HJk.out (by rw[nR];exact hkm);rw[show uo (qh (ak s) k)= #[.int .i64 ((k:Int)+1),.string l'] by unfold uo;rw[hen];rfl]at hy;rw[<-jm]at hR
    gi_wp2
    refine hR.mono ?_;rintro e W2 (⟨rfl,hJ2,hk2⟩|⟨rfl,hJx2⟩)
    ·have HK2:=H_ ((hk2.2 G _ HRk.out).trans HRk.out);have HJ2:=H_ hJ2;clear hk2 hJ2 dk hy hR
     gi_wp2
     go_roundw
     case rel=>exact⟨k+1,by omega,by go_num,HK2,HJ2⟩
     case measure=>simp[intOf];omega
    ·gi_wp2
     refine Dx (results_none rfl _ _ _) rfl ?_;exact⟨⟨_,rfl⟩,.inr ⟨_,⟨k+1,by omega,rfl⟩,hJx2⟩⟩
   ·have hke:k=(ak s).length:=by omega
    have hkl:¬((k:Int)<(N:Int)):=by omega
    gi_wp2
    go_end0;exact⟨⟨_,rfl⟩,.inl (by have h:=HJk.out;rw[show k=N by omega]at h;exact h)⟩
 ·have hM:(ak s).length=N+1:=by unfold ak;rw[hc];omega
  have hne:(z.toList==[])=false:=D9.2 λe=>hz0 (Du (by rw[DJ]at e;rw[e]))
  gi_wp2
  gi_loopw [22] (λi wr=>∃k:Nat,k<=(ak s).length/\i= .int .i64 k/\Hid (Blk wr G 9 ((gC 10 s).map Value.string).toArray)/\Hid (J (upN (ak s) k) wr)) (λi _=>(ak s).length-(intOf i).toNat)
  case atStart=>exact⟨0,Do _,rfl,HR,HJ1⟩
  case round=>
   obtain⟨k,hk,rfl,HRk,HJk⟩:=hrel;by_cases hkm:k<(ak s).length
   ·have hkz:(k:Int)<((N+1:Nat):Int):=by omega
    have hkn:k<N+1:=by omega
    obtain⟨l',hl'⟩:∃l',(ak s)[k]?=some l':=⟨_,Df hkm⟩;have dk:=HCELL.out wr k l' HRk.out (HROW.out k l' hl');have hwk:IntKind.i64.wrap ((k:Int)+1)=((k+1:Nat):Int):=by rw[EL _ (by omega)];rfl
    have hen:=jP hl' (by omega) (HLS.out l' (Dj hl'));obtain⟨fn,tmps,assign,body,hy,hR⟩:=HY.out (upN (ak s) k) (qh (ak s) k) wr HJk.out (by rw[nR];exact hkm);rw[show uo (qh (ak s) k)= #[.int .i64 ((k:Int)+1),.string l'] by unfold uo;rw[hen];rfl]at hy;rw[<-jm]at hR
    gi_wp2
    refine hR.mono ?_;rintro e W2 (⟨rfl,hJ2,hk2⟩|⟨rfl,hJx2⟩)
    ·have HK2:=H_ ((hk2.2 G _ HRk.out).trans HRk.out);have HJ2:=H_ hJ2;clear hk2 hJ2 dk hy hR
     gi_wp2
     go_roundw
     case rel=>exact⟨k+1,by omega,by go_num,HK2,HJ2⟩
     case measure=>simp[intOf];omega
    ·gi_wp2
     refine Dx (results_none rfl _ _ _) rfl ?_;exact⟨⟨_,rfl⟩,.inr ⟨_,⟨k+1,by omega,rfl⟩,hJx2⟩⟩
   ·have hke:k=(ak s).length:=by omega
    have hkl:¬((k:Int)<((N+1:Nat):Int)):=by omega
    gi_wp2
    go_end0;exact⟨⟨_,rfl⟩,.inl (by have h:=HJk.out;rw[show k=N+1 by omega]at h;exact h)⟩
def SV(w:World)(G:Nat->Prop)(x:Sc)(v:Value):Prop:=∃A n c A2 n2 c2,v= .agg #[.int .i64 x.m,.int .u64 x.sd,.int .i64 x.y,.slice A n c,.slice A2 n2 c2]/\Sl kCl w G x.cs A n/\Sl kAd w G x.ac A2 n2
def zSv:Value:= .agg #[.int .i64 0,.int .u64 0,.int .i64 0,.slice none 0 0,.slice none 0 0]
def CY(s:ByteArray)(w:World)(e:Ending)(w':World):Prop:=Below w.heap.size w w'/\match ec s with
 | .err q er=>e= .returned (.tuple #[zSv,.int .i64 (q:Int),.int .i64 er])/\er≠0
 | .ok x=>∃v,e= .returned (.tuple #[v,.int .i64 0,.int .i64 0])/\SV w' (λb=>b<w'.heap.size) x v
theorem yS(s:ByteArray)(w:World):Calls Tryz.prog 19 #[.string s] w λe w'=>e= .returned (.func (.func 47) #[] #[.pointer (some ⟨w.heap.size,0,none⟩)])/\w'=w.alloc (.cells #[.string s] 9):=by
 go_enter Tryz.func19,Tryz.ntmps19;go_wp2_with fail;go_ret;exact⟨rfl,rfl⟩
theorem bQ{k:Nat}{o:Obj}(h:w.heap[k]?=some o)(o':Obj):(w.alloc o').heap[k]?=some o:=(DM w o' k (Dt.1 h).1).trans h
theorem Bm(w:World)(o0 o1 o2 o3 o4 o5 o6:Obj):∃W,((((((w.alloc o0).alloc o1).alloc o2).alloc o3).alloc o4).alloc o5).alloc o6=W/\W.heap[w.heap.size]?=some o0/\W.heap[w.heap.size+1]?=some o1/\W.heap[w.heap.size+2]?=some o2/\W.heap[w.heap.size+3]?=some o3/\
 W.heap[w.heap.size+4]?=some o4/\W.heap[w.heap.size+5]?=some o5/\W.heap[w.heap.size+6]?=some o6/\W.heap.size=w.heap.size+7/\Below w.heap.size w W:=by
 obtain⟨w1,e1⟩:=nm_ (w.alloc o0);have s1:w1.heap.size=w.heap.size+1:=by rw[<-e1];simp
 have b1:Below w.heap.size w w1:=e1▸(Db _ _).alloc (D8 _) _;have n0:w1.heap[w.heap.size]?=some o0:=by have h:=Ez w o0;rw[e1]at h;exact h
 obtain⟨w2,e2⟩:=nm_ (w1.alloc o1);have s2:w2.heap.size=w.heap.size+2:=by rw[<-e2];simp[s1]
 have b2:Below w.heap.size w w2:=e2▸b1.alloc b1.size _;have n1:w2.heap[w.heap.size+1]?=some o1:=by have h:=Ez w1 o1;rw[e2,s1]at h;exact h
 replace n0:w2.heap[w.heap.size]?=some o0:=e2▸bQ n0 _;obtain⟨w3,e3⟩:=nm_ (w2.alloc o2);have s3:w3.heap.size=w.heap.size+3:=by rw[<-e3];simp[s2]
 have b3:Below w.heap.size w w3:=e3▸b2.alloc b2.size _;have n2:w3.heap[w.heap.size+2]?=some o2:=by have h:=Ez w2 o2;rw[e3,s2]at h;exact h
 replace n0:w3.heap[w.heap.size]?=some o0:=e3▸bQ n0 _;replace n1:w3.heap[w.heap.size+1]?=some o1:=e3▸bQ n1 _;obtain⟨w4,e4⟩:=nm_ (w3.alloc o3);have s4:w4.heap.size=w.heap.size+4:=by rw[<-e4];simp[s3]
 have b4:Below w.heap.size w w4:=e4▸b3.alloc b3.size _;have n3:w4.heap[w.heap.size+3]?=some o3:=by have h:=Ez w3 o3;rw[e4,s3]at h;exact h
 replace n0:w4.heap[w.heap.size]?=some o0:=e4▸bQ n0 _;replace n1:w4.heap[w.heap.size+1]?=some o1:=e4▸bQ n1 _;replace n2:w4.heap[w.heap.size+2]?=some o2:=e4▸bQ n2 _;obtain⟨w5,e5⟩:=nm_ (w4.alloc o4);have s5:w5.heap.size=w.heap.size+5:=by rw[<-e5];simp[s4]
 have b5:Below w.heap.size w w5:=e5▸b4.alloc b4.size _;have n4:w5.heap[w.heap.size+4]?=some o4:=by have h:=Ez w4 o4;rw[e5,s4]at h;exact h
 replace n0:w5.heap[w.heap.size]?=some o0:=e5▸bQ n0 _;replace n1:w5.heap[w.heap.size+1]?=some o1:=e5▸bQ n1 _;replace n2:w5.heap[w.heap.size+2]?=some o2:=e5▸bQ n2 _;replace n3:w5.heap[w.heap.size+3]?=some o3:=e5▸bQ n3 _;obtain⟨w6,e6⟩:=nm_ (w5.alloc o5);have s6:w6.heap.size=w.heap.size+6:=by rw[<-e6];simp[s5]
 have b6:Below w.heap.size w w6:=e6▸b5.alloc b5.size _;have n5:w6.heap[w.heap.size+5]?=some o5:=by have h:=Ez w5 o5;rw[e6,s5]at h;exact h
 replace n0:w6.heap[w.heap.size]?=some o0:=e6▸bQ n0 _;replace n1:w6.heap[w.heap.size+1]?=some o1:=e6▸bQ n1 _;replace n2:w6.heap[w.heap.size+2]?=some o2:=e6▸bQ n2 _;replace n3:w6.heap[w.heap.size+3]?=some o3:=e6▸bQ n3 _;replace n4:w6.heap[w.heap.size+4]?=some o4:=e6▸bQ n4 _;obtain⟨w7,e7⟩:=nm_ (w6.alloc o6);have s7:w7.heap.size=w.heap.size+7:=by rw[<-e7];simp[s6]
 have b7:Below w.heap.size w w7:=e7▸b6.alloc b6.size _;have n6:w7.heap[w.heap.size+6]?=some o6:=by have h:=Ez w6 o6;rw[e7,s6]at h;exact h
 replace n0:w7.heap[w.heap.size]?=some o0:=e7▸bQ n0 _;replace n1:w7.heap[w.heap.size+1]?=some o1:=e7▸bQ n1 _;replace n2:w7.heap[w.heap.size+2]?=some o2:=e7▸bQ n2 _;replace n3:w7.heap[w.heap.size+3]?=some o3:=e7▸bQ n3 _;replace n4:w7.heap[w.heap.size+4]?=some o4:=e7▸bQ n4 _;replace n5:w7.heap[w.heap.size+5]?=some o5:=e7▸bQ n5 _;exact⟨w7,by rw[e1,e2,e3,e4,e5,e6,e7],n0,n1,n2,n3,n4,n5,n6,s7,b7⟩
def st7(W:World)(p:Nat)(v0 v1 v2 v3 v4 a er:Value):World:=((((((W.setCell ⟨p,0,none⟩ v0).setCell ⟨p,1,none⟩ v1).setCell ⟨p,2,none⟩ v2).setCell ⟨p,3,none⟩ v3).setCell ⟨p,4,none⟩ v4).setCell ⟨p+1,0,none⟩ a).setCell ⟨p+2,0,none⟩ er
section
variable{W:World}{p:Nat}{u0 u1 u2 u3 u4 u5 u6:Value}
theorem yu(v0 v1 v2 v3 v4 a er:Value){k:Nat}(hk:k≠p/\k≠p+1/\k≠p+2):(st7 W p v0 v1 v2 v3 v4 a er).heap[k]?=W.heap[k]?:=by
 unfold st7;rw[Dn _ _ _ _ hk.2.2,Dn _ _ _ _ hk.2.1,Dn _ _ _ _ hk.1,Dn _ _ _ _ hk.1,Dn _ _ _ _ hk.1,Dn _ _ _ _ hk.1,Dn _ _ _ _ hk.1]
theorem vw(v0 v1 v2 v3 v4 a er:Value):(st7 W p v0 v1 v2 v3 v4 a er).heap.size=W.heap.size:=by simp[st7,World.setCell]
theorem js(h1:Blk W p 31 #[u0,u1,u2,u3,u4])(h2:Blk W (p+1) 3 #[u5])(h3:Blk W (p+2) 32 #[u6])(v0 v1 v2 v3 v4 a er:Value):
 Blk (st7 W p v0 v1 v2 v3 v4 a er) p 31 #[v0,v1,v2,v3,v4]/\Blk (st7 W p v0 v1 v2 v3 v4 a er) (p+1) 3 #[a]/\Blk (st7 W p v0 v1 v2 v3 v4 a er) (p+2) 32 #[er]/\Below p W (st7 W p v0 v1 v2 v3 v4 a er)/\KeepsOthers W (st7 W p v0 v1 v2 v3 v4 a er):=by
 have g1:=((((h1.set 0 v0).set 1 v1).set 2 v2).set 3 v3).set 4 v4;simp only[DX,Ey,Ew]at g1;have g2:=(((((h2.other ⟨p,0,none⟩ v0 (by simp)).other ⟨p,1,none⟩ v1 (by simp)).other ⟨p,2,none⟩ v2 (by simp)).other ⟨p,3,none⟩ v3 (by simp)).other ⟨p,4,none⟩ v4 (by simp)).set 0 a;have g3:=((((((h3.other ⟨p,0,none⟩ v0 (by simp)).other ⟨p,1,none⟩ v1 (by simp)).other ⟨p,2,none⟩ v2 (by simp)).other ⟨p,3,none⟩ v3 (by simp)).other ⟨p,4,none⟩ v4 (by simp)).other ⟨p+1,0,none⟩ a (by simp)).set 0 er;refine⟨(g1.other ⟨p+1,0,none⟩ a (by simp)).other ⟨p+2,0,none⟩ er (by simp),g2.other ⟨p+2,0,none⟩ er (by simp),g3,?_,?_⟩
 ·exact(((((((Db p W).setCell (p:=⟨p,0,none⟩) (D8 _) v0).setCell (p:=⟨p,1,none⟩) (D8 _) v1).setCell (p:=⟨p,2,none⟩) (D8 _) v2).setCell (p:=⟨p,3,none⟩) (D8 _) v3).setCell (p:=⟨p,4,none⟩) (D8 _) v4).setCell (p:=⟨p+1,0,none⟩) (Nat.le_succ _) a).setCell (p:=⟨p+2,0,none⟩) (Nat.le_add_right _ _) er
 ·exact((((((Es _ _ _).trans (Es _ _ _)).trans (Es _ _ _)).trans (Es _ _ _)).trans (Es _ _ _)).trans (Es _ _ _)).trans (Es _ _ _)
theorem results8(tmps:Array Value)(h1:Blk W p 31 #[u0,u1,u2,u3,u4])(h2:Blk W (p+1) 3 #[u5])(h3:Blk W (p+2) 32 #[u6])(e2:tmps.getD 2 undef= .pointer (some ⟨p,0,none⟩))(e3:tmps.getD 3 undef= .pointer (some ⟨p+1,0,none⟩))(e4:tmps.getD 4 undef= .pointer (some ⟨p+2,0,none⟩)):
 (results Tryz.f8 tmps).run Tryz.prog W= .ok (.tuple #[.agg #[u0,u1,u2,u3,u4],u5,u6]) W:=by
 have g0:=h1.cell 0;have g1:=h1.cell 1;have g2:=h1.cell 2;have g3:=h1.cell 3;have g4:=h1.cell 4;have c1:=h2.cell 0;have c2:=h3.cell 0;have e2':tmps[2]?.getD undef= .pointer (some ⟨p,0,none⟩):=by simpa using e2
 have e3':tmps[3]?.getD undef= .pointer (some ⟨p+1,0,none⟩):=by simpa using e3
 have e4':tmps[4]?.getD undef= .pointer (some ⟨p+2,0,none⟩):=by simpa using e4
 simp[results,Tryz.results8,go_sem,e2',e3',e4',asAddr,g0,g1,g2,g3,g4,c1,c2]
end
theorem fZ{p:Nat}{u0 u1 u2 u3 u4 u5 u6:Value}(tmps:Array Value)(h1:Blk W p 31 #[u0,u1,u2,u3,u4])(h2:Blk W (p+1) 3 #[u5])(h3:Blk W (p+2) 32 #[u6])(hK:W.heap[D]?=some (.deferred (some [])))
 (e2:tmps.getD 2 undef= .pointer (some ⟨p,0,none⟩)) (e3:tmps.getD 3 undef= .pointer (some ⟨p+1,0,none⟩)) (e4:tmps.getD 4 undef= .pointer (some ⟨p+2,0,none⟩)):
 (results Tryz.f8 tmps).run Tryz.prog (W.putObj D (.deferred none))= .ok (.tuple #[.agg #[u0,u1,u2,u3,u4],u5,u6]) (W.putObj D (.deferred none)):=by
 have hk:∀{g:Nat} {t:TypeId} {cs:Array Value},Blk W g t cs->Blk (W.putObj D (.deferred none)) g t cs:=λ{g t cs} h=>(World.putObj_heap_other (λe=>(by subst e;rw[show W.heap[g]?=_ from h]at hK;cases hK))).trans h;exact results8 tmps (hk h1) (hk h2) (hk h3) e2 e3 e4
def sO(pre:List NLn):Nat:=(pre.getLast?.map (·.1.1)).getD 0
theorem mh(pre:List NLn)(x:NLn):sO (pre++[x])=x.1.1:=by unfold sO;rw[List.getLast?_concat];rfl
theorem nz{W':World}{row:Option Nat}(hg:W.grownBy W' row)(hr:∀r,row=some r->∃o:Obj,W.heap[r]?=some o/\o.isCells=false){k:Nat}(hc:Cel W k):W'.heap[k]?=W.heap[k]?:=by
 obtain⟨o,ho,hoc⟩:=hc;refine hg.block k (Dt.1 ho).1 λe=>?_;obtain⟨o',ho',hoc'⟩:=hr k e.symm;rw[ho]at ho';cases ho';rw[hoc]at hoc';cases hoc'
theorem wS(ls:List ByteArray)(hls:∀l∈ls,l.size<=40000)(hm:ls.length<40000):∀k,k<=ls.length->sO (upN ls k)=k
 |0,_=>rfl
 |k+1,hk=>by
  have hg:ls[k]?=some ls[k]:=Df (by omega);rw[jm,mh,jP hg (by omega) (hls _ (List.getElem_mem _))]
theorem tc{o:Option Obj}(h:W.heap[D]?=o):W.drew.heap[D]?=o:=h
def ParI(w:World)(B b p:Nat)(pre:List NLn)(W:World):Prop:=((∃q x,jK pre= .go q x/\RdP W B b x q/\PhB pre.length x q)/\Blk W (b+1) 55 #[.pointer (some ⟨b,0,none⟩)]/\Blk W (b+2) 3 #[.int .i64 (sO pre:Int)])/\
 (Blk W p 31 #[.int .i64 0,.int .u64 0,.int .i64 0,.slice none 0 0,.slice none 0 0]/\Blk W (p+1) 3 #[.int .i64 0]/\Blk W (p+2) 32 #[.int .i64 0])/\Below p w W/\B<=W.heap.size
def ParX(w:World)(p:Nat)(c:Code)(pre:List NLn)(W:World):Prop:=c= .ret/\(∃(q:Nat) (er:Int),jK pre= .err q er/\er≠0/\Blk W p 31 #[.int .i64 0,.int .u64 0,.int .i64 0,.slice none 0 0,.slice none 0 0]/\Blk W (p+1) 3 #[.int .i64 (q:Int)]/\Blk W (p+2) 32 #[.int .i64 er])/\Below p w W
theorem ParI.own{b p:Nat}(hp:p<=B0):OwnFrom B0 (ParI w B b p):=λpre W W' row h hg hr=>by
 have hk:∀k,Cel W k->W'.heap[k]?=W.heap[k]?:=λk hc=>nz hg (λr e=>(hr r e).2) hc;have hb:∀{g:Nat} {t:TypeId} {cs:Array Value},Blk W g t cs->Blk W' g t cs:=λh=>(hk _ ⟨_,h,rfl⟩).trans h;obtain⟨⟨⟨q,x,h1,h2,h3⟩,h4,h5⟩,⟨h6,h7,h8⟩,h9,h10⟩:=h;exact⟨⟨⟨q,x,h1,h2.aK hg.size (λk _ _ hc=>hk k hc),h3⟩,hb h4,hb h5⟩,⟨hb h6,hb h7,hb h8⟩,h9.trans ⟨hg.os,hg.tape,hg.output,hg.size,λk hk=>hg.block k (Dh hk (by have:=h6.lt;omega)) (λe=>by have:=(hr k e.symm).1;omega)⟩,Dz h10 hg.size⟩
theorem ParX.own{p:Nat}(hp:p<=B0)(c:Code):OwnFrom B0 (ParX w p c):=λpre W W' row h hg hr=>by
 have hk:∀k,Cel W k->W'.heap[k]?=W.heap[k]?:=λk hc=>nz hg (λr e=>(hr r e).2) hc;have hb:∀{g:Nat} {t:TypeId} {cs:Array Value},Blk W g t cs->Blk W' g t cs:=λh=>(hk _ ⟨_,h,rfl⟩).trans h;obtain⟨h0,⟨q,er,h1,h2,h3,h4,h5⟩,h9⟩:=h;exact⟨h0,⟨q,er,h1,h2,hb h3,hb h4,hb h5⟩,h9.trans ⟨hg.os,hg.tape,hg.output,hg.size,λk hk=>hg.block k (by have:=h3.lt;omega) (λe=>by have:=(hr k e.symm).1;omega)⟩⟩
theorem Lk.others{b:Nat}{t:TypeId}(h:Lk B b w w')(hb:Blk w b t cs):KeepsOthers w w':=
 ⟨h.size,λk o hk ho=>(h.block k (Dt.1 hk).1 (λe=>(by subst e;rw[show w.heap[k]?=_ from hb]at hk;cases hk;cases ho)) (λ_ cs fz=>⟨λe=>(by rw[hk]at e;cases e;cases ho),λe=>(by rw[hk]at e;cases e;cases ho)⟩)).trans hk⟩
theorem Lk.kps{b:Nat}(h:Lk B b w w')(hb:Blk w b 60 cs):KpS w w':=
 ⟨h.size,λk cs' hk=>h.block k (Dt.1 hk).1 (λe=>(by subst e;rw[show w.heap[k]?=_ from hb]at hk;cases hk)) (λ_ cs fz=>⟨λe=>(by rw[hk]at e;cases e),λe=>(by rw[hk]at e;cases e)⟩)⟩
theorem Lk.aE{b:Nat}{t:TypeId}(h:Lk B b w w')(hq:Blk w g t cs)(hne:g≠b)(hB:g<B):Blk w' g t cs:=(h.block g hq.lt hne (λh=>by omega)).trans hq
theorem RdP.aE{b:Nat}{x:Sc}{p:Ph}(h:RdP w B b x p):∃cs,Blk w b 60 cs:=by
 cases p with
 |conf k=>exact⟨_,h.1⟩
 |src a f=>obtain⟨sa,sv,hb,_⟩:=h;exact⟨_,hb⟩
 |acts=>obtain⟨A,n,c,u,sa,sv,f,hb,_⟩:=h;exact⟨_,hb⟩
theorem yX{t:TypeId}(hq:Blk w g t cs)(ht:t≠9)(i:Nat)(u:Value):KpS w (w.setCell ⟨g,i,none⟩ u):=
 ⟨by simp[World.setCell],λk cs' hk=>Dn _ _ _ _ (λe=>by
  have e':k=g:=e;subst e';rw[show w.heap[k]?=_ from hq]at hk;cases hk;exact ht rfl)⟩
attribute [local go_sem] Oper.semAt_some
theorem Ar(s:ByteArray)(w:World)(hg:Gl w)(hs:s.size<=39000)(hls:∀l∈ak s,l.size<=40000)(hm:(ak s).length<40000):Calls Tryz.prog 8 #[.string s] w (CY s w):=by
 refine(callsIn_wide (n:=5)).1 ?_;refine callsIn_of_wp_marks Tryz.func8 rfl trivial ?_ rfl;simp only[Tryz.ntmps8,List.size_toArray,Da,Dc,Nat.reduceAdd,Nat.reduceSub,Array.replicate_succ,Array.replicate_zero,List.push_toArray,List.append_toArray,DY,Ec]
 gi_wp2
 refine⟨trivial,(callsIn_wide.2 (yS s _)).mono ?_⟩;rintro e W0 ⟨rfl,hW0⟩
 obtain⟨W0',hW0',q0,q1,q2,q3,q4,q5,q6,hs0,hb0⟩:=Bm w (.cells #[.int .i64 0,.int .u64 0,.int .i64 0,.slice none 0 0,.slice none 0 0] 31) (.cells #[.int .i64 0] 3) (.cells #[.int .i64 0] 32)
  (.cells #[.int .i64 0,.int .u64 0,.int .i64 0,.slice none 0 0,.slice none 0 0,.int .i64 0,.pointer none,.slice none 0 0,.int .i64 0] 60) (.cells #[.pointer (some ⟨w.heap.size+1+1+1,0,none⟩)] 55) (.cells #[.int .i64 0] 3) (.cells #[.string s] 9)
 rw[hW0']at hW0;subst hW0;have hg0:Gl W0:=GlB.gl (GlB.below hg hb0);have hB0:W0.cell? ⟨w.heap.size+6,0,none⟩=some (.string s):=(show Blk W0 (w.heap.size+6) 9 #[.string s]from q6).cell 0;clear hW0';have HG:=H_ hg
 gi_wp2
 obtain⟨p,hp⟩:=nm_ (w.heap.size);have hst:=pP 4 (by omega) s (p+6) W0 hg0 hs (hp▸hB0) hls hm;simp only[Dk,hp,Nat.add_assoc,Nat.reduceAdd]at q0 q1 q2 q3 q4 q5 q6 hs0 hb0 hB0⊢
 refine wpIn_rangeFunc_ownF rfl (by omega) (gf:=47) (lb:= #[.pointer (some ⟨p+6,0,none⟩)]) rfl trivial (enters_of Tryz.func47 (by kernel_rfl) rfl) hst KpS.t KpS.b (Db _ _) (λ_=>rfl)
  (ParI w (p+7) (p+3) p) (ParX w p) (ParI.own (by omega)) (ParX.own (by omega)) ?h0 ?a1 ?assign ?body ?done ?stop
 case h0=>
  exact⟨⟨⟨.conf 0,zSc,rfl,⟨q3,rfl,rfl,Do _⟩,Do _,λa f e=>by cases e⟩,q4,q5⟩,⟨q0,q1,q2⟩,hb0,by omega⟩
 case a1=>exact λx=>{tmps:= #[.string s,undef,.pointer (some ⟨p,0,none⟩),.pointer (some ⟨p+1,0,none⟩),.pointer (some ⟨p+2,0,none⟩),.pointer (some ⟨p+4,0,none⟩),.pointer (some ⟨p+5,0,none⟩),.int .i64 (x.1.1:Nat),.string x.1.2,undef,undef,undef,undef,.agg #[.int .i64 0,.int .u64 0,.int .i64 0,.slice none 0 0,.slice none 0 0,.int .i64 0,.pointer none,.slice none 0 0,.int .i64 0],.pointer (some ⟨p+3,0,none⟩),.string s,.func (.func 47) #[] #[.pointer (some ⟨p+6,0,none⟩)],.int .i64 (x.1.1:Nat),.string x.1.2,undef,undef,undef,undef,undef,undef,undef,undef,undef,undef,undef,undef,undef,undef,undef,undef,undef,undef,undef,undef,undef,undef,undef,undef,undef,undef,undef,undef,undef,undef,undef,undef,undef,undef,undef,undef,undef,undef,undef,undef],defers:=[]}
 case assign=>
  intro l x W K hK;unfold uo
  gi_wp2
  exact hK
 case body=>
  rintro l pre x W ⟨⟨⟨q,y,hf,hr,hph⟩,hrb,hlast⟩,⟨z1,z2,z3⟩,hbw,hBs⟩ hlt;have l0:=hlast.cell 0;have lf:=hlast.frozen 0;obtain⟨W1,hW1⟩:=nm_ (W.setCell ⟨p+5,0,none⟩ (.int .i64 (x.1.1:Nat)));have hk1:∀k,k≠p+5->W1.heap[k]?=W.heap[k]?:=λk hk=>hW1▸Dn _ _ _ _ hk;have hs1:W1.heap.size=W.heap.size:=by rw[<-hW1];simp[World.setCell]
  have hr1:RdP W1 (p+7) (p+3) y q:=hr.aK (by omega) (λk hk _ _=>hk1 k (by omega));have rb1:Blk W1 (p+4) 55 #[.pointer (some ⟨p+3,0,none⟩)]:=(hk1 _ (by omega)).trans hrb;have la1:Blk W1 (p+5) 3 #[.int .i64 (x.1.1:Nat)]:=hW1▸hlast.set 0 _;have y1:=(hk1 p (by omega)).trans z1;have y2:=(hk1 (p+1) (by omega)).trans z2;have y3:=(hk1 (p+2) (by omega)).trans z3;have hbw1:Below p w W1:=hbw.trans (hW1▸(Db p W).setCell (p:=⟨p+5,0,none⟩) (by show p<=p+5;omega) _);have hgB:GlB W1 (p+3):=(GlB.below HG.out (hp▸hbw1)).more (by omega) (by omega);have HL:=H_ (AH (n:=x.1.1) (N:=pre.length) (l:=x.1.2) hr1 hgB (by omega) (by omega) (by have:=x.2.2;omega) (by have:=x.2.1;omega) (by omega) hph);have HO1:=H_ (show KeepsOthers W W1 from hW1▸Es _ _ _);have HK1:=H_ (show KpS W W1 from hW1▸yX hlast (by decide) 0 _);have HH:=H_ (And.intro hr1 (And.intro rb1 (And.intro la1 (And.intro (show Blk W1 p 31 _ from y1) (And.intro (show Blk W1 (p+1) 3 _ from y2) (And.intro (show Blk W1 (p+2) 32 _ from y3) hbw1))))));have HF:=H_ (And.intro hf hph);have rc:=hrb.cell 0;have HW:=H_ hW1;clear hr hrb hlast z1 z2 z3 hbw hk1 hr1 rb1 la1 y1 y2 y3 hbw1 hgB hf hph hW1
  gi_wp2
  rw[HW.out];refine⟨trivial,(CallsIn.inRound l (callsIn_wide.2 HL.out)).mono ?_⟩;rintro e W2 ⟨l2,hcase⟩;obtain⟨hr1,rb1,la1,y1,y2,y3,hbw1⟩:=HH.out;obtain⟨csb,hcb⟩:=hr1.aE;have HO2:=H_ (HO1.out.trans (l2.others hcb));have HK2:=H_ (HK1.out.t (l2.kps hcb));have hs2:=l2.size;have HB2:=H_ (hbw1.trans (l2.below (by omega) (by omega) (by omega)));have HRB:=H_ (l2.aE rb1 (by omega) (by omega));have HLA:=H_ (l2.aE la1 (by omega) (by omega));have Y1:=H_ (l2.aE y1 (by omega) (by omega));have Y2:=H_ (l2.aE y2 (by omega) (by omega));have Y3:=H_ (l2.aE y3 (by omega) (by omega));have hfo:jK (pre++[x])=bB x.1.1 x.1.2 q y:=by rw[mB,HF.out.1];rfl
  clear l2 hr1 rb1 la1 y1 y2 y3 hbw1 hcb HH HO1 HK1 HL HW rc l0 lf;cases hst:bB x.1.1 x.1.2 q y with
  |err a er=>
   rw[hst]at hcase hfo;obtain⟨rfl,hne⟩:=hcase;have hne2:(er==0)=false:=by simpa using hne
   have HFO:=H_ (And.intro hfo hne);have c0:=Y1.out.cell 0;have c1:=Y1.out.cell 1;have c2:=Y1.out.cell 2;have c3:=Y1.out.cell 3;have c4:=Y1.out.cell 4;obtain⟨f0,f1,f2,f3,f4⟩:=Y1.out.f5;have d0:=Y2.out.cell 0;have d1:=Y2.out.frozen 0;have e0:=Y3.out.cell 0;have e1:=Y3.out.frozen 0;clear hfo hst hne
   gi_wp2
   obtain⟨g1,g2,g3,g4,g5⟩:=js Y1.out Y2.out Y3.out (.int .i64 0) (.int .u64 0) (.int .i64 0) (.slice none 0 0) (.slice none 0 0) (.int .i64 (a:Int)) (.int .i64 er);exact⟨HO2.out.trans g5,rfl,⟨a,er,HFO.out.1,HFO.out.2,g1,g2,g3⟩,HB2.out.trans g4⟩
  |go p' x'=>
   rw[hst]at hcase hfo;obtain⟨rfl,hr2⟩:=hcase;have HR2:=H_ hr2;have HFO:=H_ hfo;have hph:=HF.out.2.step hst (by have:=x.2.2;omega) (by have:=x.2.1;omega);have HPH:=H_ hph;clear hfo hst hr2 hph
   gi_wp2
   exact⟨HO2.out,HK2.out,⟨⟨p',x',HFO.out,HR2.out,by simpa using HPH.out⟩,HRB.out,by rw[mh];exact HLA.out⟩,⟨Y1.out,Y2.out,Y3.out⟩,HB2.out,by omega⟩
 case done=>
  rintro D xs W hD rfl ⟨⟨⟨q,y,hf,hr,hph⟩,hrb,hlast⟩,⟨z1,z2,z3⟩,hbw,hBs⟩ hK;have hsc:=iZ (ak s) hls hm _ (D8 _);rw[hf,List.drop_length]at hsc;rw[wS _ hls hm _ (D8 _)]at hlast;rw[nR]at hph;obtain⟨L,hL⟩:=nm_ ((ak s).length);rw[hL]at hsc hlast hph hm;have mixed:Tryz.prog.follows .mixedOrders=true:=by kernel_rfl
  have l0:=hlast.cell 0;have rc:=hrb.cell 0;have rp:=hr.part;have HZ:=H_ (And.intro z1 (And.intro z2 z3));have HSC:=H_ (show ec s=Cg L q y from hsc);have HB:=H_ hbw;clear hsc hf hbw;cases q with
  |conf k=>
   have hk3:=hr.2.2.2;have hk4:((k:Int)==4)=false:=D9.2 (by omega);have hk5:(k:Int)<5:=by omega
   have rp':W.cell? ⟨p+3,5,none⟩=some (.int .i64 (k:Int)):=rp;have hwr:IntKind.i64.wrap ((L:Int)+1)=((L+1:Nat):Int):=by rw[EL _ (by omega)];rfl
   have hsc2:ec s= .err (L+1) 3:=HSC.out;have HS2:=H_ hsc2;have c0:=z1.cell 0;have c1:=z1.cell 1;have c2:=z1.cell 2;have c3:=z1.cell 3;have c4:=z1.cell 4;obtain⟨f0,f1,f2,f3,f4⟩:=z1.f5;have d0:=z2.cell 0;have d1:=z2.frozen 0;have e0:=z3.cell 0;have e1:=z3.frozen 0;have HK:=H_ hK;clear rp hsc2 HSC hr hrb hlast z1 z2 z3 hph hst hK
   gi_wp2
   refine wpIn_wide.2 ?_;go_region_o
   gi_wp2
   obtain⟨g1,g2,g3,g4,g5⟩:=js HZ.out.1 HZ.out.2.1 HZ.out.2.2 (.int .i64 0) (.int .u64 0) (.int .i64 0) (.slice none 0 0) (.slice none 0 0) (.int .i64 ((L:Int)+1)) (.int .i64 3);have hK2:=g5.same D _ HK.out rfl;unfold st7 at g1 g2 g3 g4 hK2;have HE:=H_ (And.intro (And.intro g1.drew (And.intro g2.drew g3.drew)) (And.intro (Below.drew (HB.out.trans g4)) (tc hK2)));clear g1 g2 g3 g4 g5 hK2;refine⟨by simp,.inl ⟨_,_,rfl,run_takeDeferred (b:=D) HE.out.2.2,?_⟩⟩;refine⟨_,fZ _ HE.out.1.1 HE.out.1.2.1 HE.out.1.2.2 HE.out.2.2 rfl rfl rfl,?_,?_⟩
   ·exact hp▸HE.out.2.1.trans (belowK_b (w:=W0) (by omega) _ D _ _ hD HE.out.2.2 rfl rfl)
   ·rw[HS2.out];exact⟨rfl,by decide⟩
  |src a f=>
   obtain⟨sa,sv,hb,hsa,hown,h0,hcs,hac⟩:=hr;have hph2:=hph.2 a f rfl;have hgB:GlB W (p+3):=(GlB.below HG.out (hp▸HB.out)).more (by omega) (by omega);have HP:=H_ (nu (pt:=4) a W hb hown h0 hgB (by omega) (by omega) (by omega) (by omega));have hbl:=hb.lt;have rp':W.cell? ⟨p+3,5,none⟩=some (.int .i64 4):=rp;have hwr:IntKind.i64.wrap ((L:Int)+1)=((L+1:Nat):Int):=by rw[EL _ (by omega)];rfl
   have HBB:=H_ hb;have HRB:=H_ (And.intro hrb hlast);have HK0:=H_ hK;clear rp hb hsa hown h0 hcs hac hgB hrb hlast z1 z2 z3 hst hK hph
   gi_wp2
   refine⟨trivial,(callsIn_wide.2 HP.out).mono ?_⟩;rintro e W2 ⟨l2,hcase⟩;have hs2:=l2.size;have HB2:=H_ (HB.out.trans (l2.below (by omega) (by omega) (by omega)));have z1:=l2.aE HZ.out.1 (by omega) (by omega);have z2:=l2.aE HZ.out.2.1 (by omega) (by omega);have z3:=l2.aE HZ.out.2.2 (by omega) (by omega);have rb2:=l2.aE HRB.out.1 (by omega) (by omega);have la2:=l2.aE HRB.out.2 (by omega) (by omega);have HK:=H_ ((l2.others HBB.out).same D _ HK0.out rfl);have HZ2:=H_ (And.intro z1 (And.intro z2 z3));have c0:=z1.cell 0;have c1:=z1.cell 1;have c2:=z1.cell 2;have c3:=z1.cell 3;have c4:=z1.cell 4;obtain⟨f0,f1,f2,f3,f4⟩:=z1.f5;have d0:=z2.cell 0;have d1:=z2.frozen 0;have e0:=z3.cell 0;have e1:=z3.frozen 0;have l0':=la2.cell 0;have rc':=rb2.cell 0;have hfin:ec s=(match nX a f y with| .err q e=>SR.err q e| .go _ _=> .err (L+1) 3):=HSC.out;unfold nX at hfin
   clear l2 z1 z2 z3 rb2 la2 l0 rc HZ HB HRB HP HSC HBB HK0 rp';cases hpp:eg a with
   |err q er=>
    try rw[hpp]at hcase
    try rw[hpp]at hfin
    obtain⟨rfl,hne⟩:=hcase;have HS2:=H_ (And.intro (show ec s= .err (f+(a.take q.toNat).count 10) er from hfin) hne);have hne2:(er==0)=false:=by simpa using hne
    clear hfin hne hpp
    gi_wp2
    obtain⟨g1,g2,g3,g4,g5⟩:=js HZ2.out.1 HZ2.out.2.1 HZ2.out.2.2 (.int .i64 0) (.int .u64 0) (.int .i64 0) (.slice none 0 0) (.slice none 0 0) (.int .i64 ((f+(a.take q.toNat).count 10:Nat):Int)) (.int .i64 er);have hK2:=g5.same D _ HK.out rfl;unfold st7 at g1 g2 g3 g4 hK2;have HE:=H_ (And.intro (And.intro g1 (And.intro g2 g3)) (And.intro (HB2.out.trans g4) (hK2)));clear g1 g2 g3 g4 g5 hK2;refine⟨by simp,.inl ⟨_,_,rfl,run_takeDeferred (b:=D) HE.out.2.2,?_⟩⟩;refine⟨_,fZ _ HE.out.1.1 HE.out.1.2.1 HE.out.1.2.2 HE.out.2.2 rfl rfl rfl,?_,?_⟩
    ·exact hp▸HE.out.2.1.trans (belowK_b (w:=W0) (by omega) _ D _ _ hD HE.out.2.2 rfl rfl)
    ·rw[HS2.out.1];exact⟨rfl,HS2.out.2⟩
   |ok cs=>
    try rw[hpp]at hcase
    try rw[hpp]at hfin
    obtain⟨rfl,A,n,c,q2,_⟩:=hcase;have rp2:=q2.cell 5;have HS2:=H_ (show ec s= .err (L+1) 3 from hfin);clear hfin hpp q2
    gi_wp2
    refine wpIn_wide.2 ?_;go_region_o
    gi_wp2
    obtain⟨g1,g2,g3,g4,g5⟩:=js HZ2.out.1 HZ2.out.2.1 HZ2.out.2.2 (.int .i64 0) (.int .u64 0) (.int .i64 0) (.slice none 0 0) (.slice none 0 0) (.int .i64 ((L:Int)+1)) (.int .i64 3);have hK2:=g5.same D _ HK.out rfl;unfold st7 at g1 g2 g3 g4 hK2;have HE:=H_ (And.intro (And.intro g1.drew (And.intro g2.drew g3.drew)) (And.intro (Below.drew (HB2.out.trans g4)) (tc hK2)));clear g1 g2 g3 g4 g5 hK2;refine⟨by simp,.inl ⟨_,_,rfl,run_takeDeferred (b:=D) HE.out.2.2,?_⟩⟩;refine⟨_,fZ _ HE.out.1.1 HE.out.1.2.1 HE.out.1.2.2 HE.out.2.2 rfl rfl rfl,?_,?_⟩
    ·exact hp▸HE.out.2.1.trans (belowK_b (w:=W0) (by omega) _ D _ _ hD HE.out.2.2 rfl rfl)
    ·rw[HS2.out];exact⟨rfl,by decide⟩
  |acts=>
   obtain⟨A,n,c,u,sa,sv,f,hb,hsl,hv⟩:=hr;obtain⟨A2,cc,rfl,hsv⟩:=hv.sl (by have:=hph.1;simp[BD];omega);have b0:=hb.cell 0;have b1:=hb.cell 1;have b2:=hb.cell 2;have b3:=hb.cell 3;have b4:=hb.cell 4;have rp':W.cell? ⟨p+3,5,none⟩=some (.int .i64 5):=rp;have hsc2:ec s= .ok y:=HSC.out;have HS2:=H_ hsc2;have HSL:=H_ (And.intro hsl hsv);have c0:=z1.cell 0;have c1:=z1.cell 1;have c2:=z1.cell 2;have c3:=z1.cell 3;have c4:=z1.cell 4;obtain⟨f0,f1,f2,f3,f4⟩:=z1.f5;have d0:=z2.cell 0;have d1:=z2.frozen 0;have e0:=z3.cell 0;have e1:=z3.frozen 0;have HK:=H_ hK;clear rp hsc2 HSC hb hsl hv hsv hrb hlast z1 z2 z3 hph hst hK
   have hkk:∀g,p+7<=g->g<W.heap.size->Cel W g->g<((st7 W p (.int .i64 y.m) (.int .u64 y.sd) (.int .i64 y.y) (.slice A n c) (.slice A2 y.ac.length cc) (.int .i64 0) (.int .i64 0)).putObj D (.deferred none)).heap.size/\
    ((st7 W p (.int .i64 y.m) (.int .u64 y.sd) (.int .i64 y.y) (.slice A n c) (.slice A2 y.ac.length cc) (.int .i64 0) (.int .i64 0)).putObj D (.deferred none)).heap[g]?=W.heap[g]?:=λg h1 h2 ⟨o,ho,hc⟩=>
    ⟨by rw[World.putObj_size,vw];exact h2,(World.putObj_heap_other (λe=>by subst e;rw[HK.out]at ho;cases ho;cases hc)).trans (yu _ _ _ _ _ _ _ ⟨by omega,by omega,by omega⟩)⟩
   unfold st7 at hkk;have HKK:=H_ hkk;clear hkk
   gi_wp2
   obtain⟨g1,g2,g3,g4,g5⟩:=js HZ.out.1 HZ.out.2.1 HZ.out.2.2 (.int .i64 y.m) (.int .u64 y.sd) (.int .i64 y.y) (.slice A n c) (.slice A2 y.ac.length cc) (.int .i64 0) (.int .i64 0);have hK2:=g5.same D _ HK.out rfl;unfold st7 at g1 g2 g3 g4 hK2;have HE:=H_ (And.intro (And.intro g1 (And.intro g2 g3)) (And.intro (HB.out.trans g4) (hK2)));clear g1 g2 g3 g4 g5 hK2;refine⟨by simp,.inl ⟨_,_,rfl,run_takeDeferred (b:=D) HE.out.2.2,?_⟩⟩;refine⟨_,fZ _ HE.out.1.1 HE.out.1.2.1 HE.out.1.2.2 HE.out.2.2 rfl rfl rfl,?_,?_⟩
   ·exact hp▸HE.out.2.1.trans (belowK_b (w:=W0) (by omega) _ D _ _ hD HE.out.2.2 rfl rfl)
   ·rw[HS2.out];refine⟨_,rfl,A,n,c,A2,y.ac.length,cc,rfl,HSL.out.1.aK sP (λg hg hc=>?_),HSL.out.2.aK sQ (λg hg hc=>?_)⟩
    ·exact HKK.out g hg.1.1 hg.1.2.1 hc
    ·exact HKK.out g hg.1 hg.2.1 hc
 case stop=>
  rintro D c pre W hD ⟨k,hk,rfl⟩ ⟨rfl,⟨q,er,hfo,hne,g1,g2,g3⟩,hbw⟩ hK;have hsc:=iZ (ak s) hls hm k hk;rw[hfo]at hsc;have HSC:=H_ hsc;clear hsc hfo
  gi_wp2
  refine⟨by simp,.inl ⟨_,_,rfl,run_takeDeferred hK,?_⟩⟩;refine⟨_,fZ _ g1 g2 g3 hK rfl rfl rfl,?_,?_⟩
  ·exact hp▸hbw.trans (belowK_b (w:=W0) (by omega) W D _ _ hD hK rfl rfl)
  ·rw[show ec s= .err q er from HSC.out];exact⟨rfl,hne⟩
end
section
open Go.RowKit
variable{W w:World}{u0 u1 u2 u3 u4:Value}

theorem Ci(x:Sc)(A:Option Addr)(n c:Nat)(A2:Option Addr)(n2 c2:Nat)(w:World)(G:Nat->Prop)(hs:Sl eZ w G x.cs A n)(hs2:Sl kAd w G x.ac A2 n2)(hG:∀b,G b->b<w.heap.size)(hbig:n2<=9007199254740992):
 Calls Tryz.prog 12 #[.agg #[.int .i64 x.m,.int .u64 x.sd,.int .i64 x.y,.slice A n c,.slice A2 n2 c2]] w (FewP (gO x=true->lsz csz x.cs<=200/\x.ac.length<=200) w):=by
 obtain⟨g,hz⟩:=nm_ (w.heap.size);obtain⟨W0,hW0⟩:=nm_ (w.alloc (.cells #[.int .i64 x.m,.int .u64 x.sd,.int .i64 x.y,.slice A n c,.slice A2 n2 c2] 35));have HQ:=hng hW0 hz;have HB0:=hba hW0;have hs0:W0.heap.size=g+1:=by rw[<-hW0,Dk,hz]
 have HBZ:Hid (Below g w W0):=H_ (hz▸HB0.out);have HS:=H_ (hs.aA (G':=G) (w':=W0) (λb hb=>⟨hb,HB0.out.block b (hG b hb)⟩));have HS2:=H_ (hs2.aA (G':=G) (w':=W0) (λb hb=>⟨hb,HB0.out.block b (hG b hb)⟩));have HG:=H_ (show∀b,G b->b<W0.heap.size from λb hb=>by have:=hG b hb;omega);have hln:x.ac.length=n2:=hs2.1;have HW:=H_ hW0;have hvs:gO x=true->x.ac.all aN=true:=λh=>(Dv.1 h).1;have HVS:=H_ hvs;generalize gO x=vs at*
 obtain⟨m,hm⟩:=nm_ (x.m);obtain⟨sd,hsd⟩:∃m,x.sd=m:=⟨_,rfl⟩;obtain⟨y,hy⟩:∃m,x.y=m:=⟨_,rfl⟩;rw[hm,hsd,hy]at HQ HW⊢;obtain⟨q0,q1,q2,q3,q4⟩:=HQ.out.c5;clear hs hs2 hG hW0 HB0 hvs hm hsd hy;go_enter Tryz.func12,Tryz.ntmps12;go_upto_region 1 with fail;rw[HW.out];go_wp2_with fail;go_loopw [3,9] (λs i wr=>∃(k:Nat) (z:Int),k<=n2/\i= .int .i64 k/\s= .int .i64 z/\((x.ac.take k).all aN=true->(k:Int)<=z/\z<=60*(k:Int))/\Hid (Below W0.heap.size W0 wr)) (λ_ i _=>n2-(intOf i).toNat)
 case atStart=>exact⟨0,0,Do _,rfl,rfl,λ_=>by omega,H_ (Db _ _)⟩
 case round=>
  obtain⟨k,z,hk,rfl,rfl,hzz,HB⟩:=hrel;have hsr:=HB.out.size;obtain⟨q0,q1,q2,q3,q4⟩:=(HQ.out.below HB.out (by omega)).c5;by_cases hkm:k<n2
  ·have hkz:(k:Int)<(n2:Int):=by omega
   have hS2:=HS2.out.aA (G':=G) (w':=wr) (λb hb'=>⟨hb',HB.out.block b (HG.out b hb')⟩);obtain⟨b,off,d,cs,rfl,hgb,hx,hrd,hat⟩:=hS2.at_ hkm;obtain⟨v,rfl,hrv,hvn,hvn2,hvl,hvl2⟩:=lw hrd (λq hq=>by have:=HG.out q hq;omega);obtain⟨d0,d1,d2,d3,d4,d5,d6⟩:=At.e7 hat
   have htk:=bq (p:=aN) hx;have hnm:v.nm=d.nm:=hrv.nm;have hmt:v.mt=d.mt:=hrv.mt;obtain⟨p,hp⟩:=nm_ (wr.heap.size);obtain⟨w3,hw3⟩:=nm_ (wr.alloc (.cells v.cells 48));have HA:=hng hw3 hp;have hs3:w3.heap.size=p+1:=by rw[<-hw3,Dk,hp]
   have HB3:=H_ (HB.out.trans ((bal hw3).mono (by omega)));obtain⟨x0,x1,x2,x3,x4,x5,x6⟩:=HA.out.v7;have HW3:=H_ hw3;by_cases hall:(x.ac.take (k+1)).all aN=true
   ·have hall':=hall;rw[htk,Dv]at hall';obtain⟨hz1,hz2⟩:=hzz hall'.1;obtain⟨_,w1,w2',w3',w4'⟩:=jk hall'.2;have e1:v.nm.size<=31:=by rw[hnm];exact w1
    have e2:v.mt.size<=31:=by rw[hmt];exact w2'
    have e3:v.n<=30:=by omega
    have e4:v.n2<=20:=by omega
    clear hx hat hS2 hrd hrv hgb hw3 HB htk hnm hmt hall hall' hzz w1 w2' w3' w4' hvl hvl2 hvn hvn2;unfold Av.cells at*
    go_upto_region 5 with fail;rw[HW3.out];go_wp2_with fail;go_roundw
    case rel=>exact⟨k+1,_,by omega,by go_num,rfl,λ_=>by omega,HB3⟩
    case measure=>simp[intOf];omega
   ·clear hx hat hS2 hrd hrv hgb hw3 HB htk hnm hmt hzz hvl hvl2;unfold Av.cells at*
    go_upto_region 5 with fail;rw[HW3.out];go_wp2_with fail;go_roundw
    case rel=>exact⟨k+1,_,by omega,by go_num,rfl,λh=>absurd h hall,HB3⟩
    case measure=>simp[intOf];omega
  ·obtain rfl:k=n2:=by omega
   rw[Dd (by omega)]at hzz;have HZZ:=H_ hzz;have HC:=H_ (Ch x.cs A n c wr G 200 (HS.out.aA λb hb=>⟨hb,HB.out.block b (HG.out b hb)⟩) (λb hb=>by have:=HG.out b hb;omega) (by omega) (by omega));clear hzz;by_cases h200:z<=200
   ·go_wp2_with fail;refine HC.out.mono ?_;rintro r w4 ⟨b,rfl,hb,b4⟩;have HE:=H_ (HBZ.out.trans ((HB.out.trans (b4.mono (by omega))).mono (by omega)));have HFB:=H_ hb;clear b4 hb HC HB;go_wp2_with fail
    all_goals
     go_ret;refine FewP.mk b (by first|rfl|simp[*]) (λh1 h2=>?_) (hz▸HE.out);have h3:=HZZ.out (HVS.out h2);have h4:=HFB.out h1;omega
   ·have HE:=H_ (HBZ.out.trans (HB.out.mono (by omega)));go_wp2_with fail;go_ret;exact FewP.mk false rfl (λh=>absurd h (by simp)) (hz▸HE.out)
theorem CA{r:Nat}{t:TypeId}(h:Blk W r t #[u0,u1,u2,u3,u4])(a b c d e:Value):Blk (((((W.setCell ⟨r,0,none⟩ a).setCell ⟨r,1,none⟩ b).setCell ⟨r,2,none⟩ c).setCell ⟨r,3,none⟩ d).setCell ⟨r,4,none⟩ e) r t #[a,b,c,d,e]:=by
 have g:=((((h.set 0 a).set 1 b).set 2 c).set 3 d).set 4 e;simp only[DX,Ey,Ew]at g;exact g
theorem xX{S r:Nat}(h:Below S w W)(hr:S<=r)(a b c d e:Value):Below S w (((((W.setCell ⟨r,0,none⟩ a).setCell ⟨r,1,none⟩ b).setCell ⟨r,2,none⟩ c).setCell ⟨r,3,none⟩ d).setCell ⟨r,4,none⟩ e):=
 ((((h.setCell (p:=⟨r,0,none⟩) hr a).setCell (p:=⟨r,1,none⟩) hr b).setCell (p:=⟨r,2,none⟩) hr c).setCell (p:=⟨r,3,none⟩) hr d).setCell (p:=⟨r,4,none⟩) hr e
theorem Blk.zfac5{b:Nat}{t:TypeId}(h:Blk w b t #[u0,u1,u2,u3,u4]):(w.cell? ⟨b,0,none⟩=some u0/\w.cell? ⟨b,1,none⟩=some u1/\w.cell? ⟨b,2,none⟩=some u2/\w.cell? ⟨b,3,none⟩=some u3/\w.cell? ⟨b,4,none⟩=some u4)/\
 w.frozen? ⟨b,0,none⟩=false/\w.frozen? ⟨b,1,none⟩=false/\w.frozen? ⟨b,2,none⟩=false/\w.frozen? ⟨b,3,none⟩=false/\w.frozen? ⟨b,4,none⟩=false:=
 ⟨⟨h.cell 0,h.cell 1,h.cell 2,h.cell 3,h.cell 4⟩,h.frozen 0,h.frozen 1,h.frozen 2,h.frozen 3,h.frozen 4⟩
theorem results14(tmps:Array Value)(W:World)(r:Nat)(v0 v1 v2 v3 v4:Value)(hr:Blk W r 31 #[v0,v1,v2,v3,v4])(h2:tmps.getD 2 undef= .pointer (some ⟨r,0,none⟩)):
 (results Tryz.f14 tmps).run Tryz.prog W= .ok (.agg #[v0,v1,v2,v3,v4]) W:=by
 obtain⟨⟨g0,g1,g2,g3,g4⟩,_⟩:=hr.zfac5;have e2:tmps[2]?.getD undef= .pointer (some ⟨r,0,none⟩):=by simpa using h2
 simp[results,Tryz.results14,go_sem,e2,asAddr,g0,g1,g2,g3,g4]
theorem An(m sd y:Int)(A:Option Addr)(n c:Nat)(A2:Option Addr)(n2 c2:Nat)(w:World):
 Calls Tryz.prog 14 #[.agg #[.int .i64 m,.int .u64 sd,.int .i64 y,.slice A n c,.slice A2 n2 c2]] w λe w'=>e= .returned (.agg #[.int .i64 m,.int .u64 sd,.int .i64 y,.slice A n c,.slice A2 n2 c2])/\Below w.heap.size w w':=by
 obtain⟨p,hp⟩:=nm_ (w.heap.size);obtain⟨w0,hw0⟩:=nm_ (w.alloc (.cells #[.int .i64 m,.int .u64 sd,.int .i64 y,.slice A n c,.slice A2 n2 c2] 35));obtain⟨w1,hw1⟩:=nm_ (w0.alloc (.cells #[.int .i64 0,.int .u64 0,.int .i64 0,.slice none 0 0,.slice none 0 0] 31));have hz0:w0.heap.size=p+1:=by rw[<-hw0,<-hp];simp
 have b0:Below p w w0:=hw0▸(Db _ _).alloc (by omega) _;have b1:=bal hw1;have p0:Blk w1 p 35 #[.int .i64 m,.int .u64 sd,.int .i64 y,.slice A n c,.slice A2 n2 c2]:=(b1.block _ (by omega)).trans (hw0▸hp▸Blk.new w 35 _);have p1:Blk w1 (p+1) 31 #[.int .i64 0,.int .u64 0,.int .i64 0,.slice none 0 0,.slice none 0 0]:=hw1▸hz0▸Blk.new w0 31 _;have HB:=H_ (b0.trans (b1.mono (by omega)));have HP:=H_ p1;have HW:=H_ (And.intro hw0 hw1);obtain⟨⟨q0,q1,q2,q3,q4⟩,_⟩:=p0.zfac5;obtain⟨⟨r0,r1,r2,r3,r4⟩,f0,f1,f2,f3,f4⟩:=p1.zfac5;clear b0 b1 p0 p1 hw0 hw1;go_enter Tryz.func14,Tryz.ntmps14;go_upto_region 1 with fail;rw[HW.out.1,HW.out.2];go_wp2_with fail;exact Dx (results14 _ _ (p+1) _ _ _ _ _ (CA HP.out _ _ _ _ _) rfl) rfl ⟨rfl,hp▸xX HB.out (by omega) _ _ _ _ _⟩
end
end Go.Proofs.YtjpbckbpeblibaaGreatDoor
