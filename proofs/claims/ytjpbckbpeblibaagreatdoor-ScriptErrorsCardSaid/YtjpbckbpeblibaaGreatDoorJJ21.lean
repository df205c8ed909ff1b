/- part of a proof -/
import Derived.Test.YtjpbckbpeblibaaGreatDoorJJ20
import Derived.Lib.ConvBytes
import Derived.ProofKit
import Derived.OpenShut
import Derived.ChangeOld
import Derived.ChangeSame
import Derived.Lay
import Derived.MakeChecks
import Derived.HandedShaped
import Derived.Shelf.Vars
import Derived.Lib.LaidU8
namespace Go.Proofs.YtjpbckbpeblibaaGreatDoor
set_option linter.unusedVariables false
set_option linter.unusedSimpArgs false
set_option maxRecDepth 100000
set_option maxHeartbeats 64000000
section
open Go.RowKit
variable{A A2:Option Addr}{n2:Nat}{w w':World}{x:Sc}
theorem qx:aQ ⟨#[116,117,114,110,32,48,32,49]⟩=[⟨#[116,117,114,110]⟩,⟨#[48]⟩,⟨#[49]⟩]:=by
 refine fb ?_;rw[eF];decide+kernel
theorem qy:aQ ⟨#[116,105,99,107,32,32,49]⟩=[⟨#[116,105,99,107]⟩,⟨#[]⟩,⟨#[49]⟩]:=by
 refine fb ?_;rw[eF];decide+kernel
theorem rb:ck (aQ ⟨#[116,117,114,110,32,48,32,49]⟩)=none:=by
 rw[qx];unfold ck;dsimp only;rw[show fR ⟨#[116,117,114,110]⟩=some ⟨0,⟨#[116,117,114,110]⟩,[.numA 1 8,.numB 0 1099511627776]⟩from eD (q:=0) (by decide) rfl];dsimp only;have h0:dg ⟨#[48]⟩=0:=by decide+kernel
 simp only[eT,dy,cR,h0]
 have hn:∀b,okD ⟨0,0,b,⟨#[]⟩,⟨#[]⟩,[],[]⟩=false:=λb=>by
  rw[ey];simp[aN,cz,bn]
 cases h1:bV ⟨#[48]⟩<;>cases h2:bV ⟨#[49]⟩<;>simp[h1,h2,hn]
theorem re:ck (aQ ⟨#[116,105,99,107,32,32,49]⟩)=none:=by
 rw[qy];unfold ck;dsimp only;rw[show fR ⟨#[116,105,99,107]⟩=some ⟨4,⟨#[116,105,99,107]⟩,[.numA 1 8]⟩from eD (q:=4) (by decide) rfl];rfl
def dEx:Ad:=⟨11,2,0,⟨#[97]⟩,⟨#[82,105,110,103]⟩,[3,-1],[]⟩
theorem By:WfA dEx:=by
 refine⟨?_,?_,λz hz=>?_,λz hz=>?_⟩
 ·unfold I64 dEx;decide
 ·unfold I64 dEx;decide
 ·simp only[dEx,Dm,Dl,DP]at hz;unfold I64;omega
 ·simp[dEx]at hz
theorem AY:ej dEx=[115,112,97,119,110,32,50,32,97,32,82,105,110,103,32,51,32,45,49]:=by
 have h1:Lib.itoa 2=[50]:=by unfold Lib.itoa;rw[Dg (by decide)];exact cF (by decide)
 have h2:Lib.itoa 3=[51]:=by unfold Lib.itoa;rw[Dg (by decide)];exact cF (by decide)
 have h3:Lib.itoa (-1)=[45,49]:=by unfold Lib.itoa;rw[Dq (by decide)];exact Ev (45:: ·) (cF (by decide))
 have hv:aN dEx=true:=by
  unfold aN cz dEx db gS gD az inB;simp only[DJ];decide+kernel
 unfold ej;rw[Dq hv];unfold dEx kI rG ux;simp only[DS,Fb,h1,h2,h3];rfl
theorem gI(w:World)(hg:Gl w):Calls Tryz.prog 7 #[] w λe w'=>e= .returned (.bool true)/\Below w.heap.size w w':=by
 have HG:=H_ hg;have h1:=it ⟨#[116,117,114,110,32,48,32,49]⟩ w hg (by decide);unfold ParsePost at h1;simp only[rb]at h1;have H1:=H_ h1;clear h1 hg;go_enter Tryz.func7,Tryz.ntmps7;go_wp2_with fail;refine H1.out.mono ?_;rintro e w1 ⟨v1,a1,rfl,_,hr1,_,_,_,b1⟩;have B1:=H_ b1;clear hr1 b1;unfold Av.cells;go_upto_region 2 with fail;obtain⟨w2,hw2⟩:=nm_ (w1.alloc (.cells #[.int .i64 v1.k,.int .i64 v1.a,.int .i64 v1.b,.string v1.nm,.string v1.mt,.slice v1.A v1.n v1.c,.slice v1.A2 v1.n2 v1.c2] 48));have B2:=H_ (hw2▸B1.out.alloc B1.out.size _:Below w.heap.size w w2);rw[hw2];clear hw2;have h2:=it ⟨#[116,105,99,107,32,32,49]⟩ w2 (HG.out.below B2.out) (by decide);unfold ParsePost at h2;simp only[re]at h2;have H2:=H_ h2;clear h2;go_wp2_with fail;refine H2.out.mono ?_;rintro e w3 ⟨v2,a2,rfl,_,hr2,_,_,_,b3⟩;have B3:=htr B2 b3;clear hr2 b3;unfold Av.cells;go_upto_region 3 with fail;obtain⟨w4,hw4⟩:=nm_ (w3.alloc (.cells #[.int .i64 v2.k,.int .i64 v2.a,.int .i64 v2.b,.string v2.nm,.string v2.mt,.slice v2.A v2.n v2.c,.slice v2.A2 v2.n2 v2.c2] 48));have B4:=H_ (hw4▸B3.out.alloc B3.out.size _:Below w.heap.size w w4);rw[hw4];clear hw4;have b5:=B4.out.alloc B4.out.size (.cells #[.int .i64 3,.int .i64 (-1)] 2);have hq5:=Blk.new w4 2 #[.int .i64 3,.int .i64 (-1)]
 have hr:Reads (w4.alloc (.cells #[.int .i64 3,.int .i64 (-1)] 2)) (w4.alloc (.cells #[.int .i64 3,.int .i64 (-1)] 2)).heap.size ⟨11,2,0,⟨#[97]⟩,⟨#[82,105,110,103]⟩,some ⟨w4.heap.size,0,none⟩,2,2,none,0,0⟩ dEx:=
  ⟨rfl,rfl,rfl,rfl,rfl,⟨rfl,λ_=>⟨w4.heap.size,0,rfl,by simp,λj v hv=>by rw[Ep,hq5.cell];simpa[dEx]using hv⟩⟩,Ints.none _ _⟩
 have hf:=sY _ dEx _ hr (HG.out.below b5) (by show 2<=1000;decide) (by show 0<=1000;decide) (by show 1<=1000;decide) (by show 4<=1000;decide) By;rw[AY]at hf;unfold Av.cells at hf;have HF:=H_ hf;have B5:=H_ b5;clear b5 hq5 hr hf;go_wp2_with fail;refine HF.out.mono ?_;rintro e w6 ⟨rfl,b6⟩;have B6:=htr B5 b6;clear b6;go_wp2_with fail;go_ret;exact⟨rfl,B6.out⟩
theorem kR(b:UInt8):∀(k:Nat) (s:List UInt8),∃x r,Lib.splitK [b] 0 k s=x::r/\x++bJ b r=s
 |0,s=>⟨s,[],rfl,by simp[bJ]⟩
 |k+1,s=>by
  rw[Lib.splitK];by_cases hi:Lib.index s [b]= -1
  ·rw[Dq (by simpa using hi)];exact⟨s,[],rfl,by simp[bJ]⟩
  ·rw[Dg (by simpa using hi)];obtain⟨x,r,h1,h2⟩:=kR b k (s.drop ((Lib.index s [b]).toNat+[b].length));refine⟨_,_,rfl,?_⟩;rw[h1];rw[Lib.index_one]at hi h2⊢;have hge:=Lib.indexByte_ge s b;obtain⟨j,hj⟩:∃j:Nat,Lib.indexByte s b=(j:Int):=⟨(Lib.indexByte s b).toNat,by omega⟩;obtain⟨h3,_⟩:=Lib.indexByte_some hj;rw[hj]at h2⊢;simp only[Eq,Da,Dc,Ep,Fc]at h2⊢;obtain⟨h4,h5⟩:=De.1 h3
   have hs:bJ b (x::r)=b::s.drop (j+1):=by
    rw[<-h2];simp[bJ]
   rw[hs,<-h5,<-EE h4,Eo]
theorem kq(l:ByteArray)(ls:List ByteArray):(glu (l::ls)).length=l.size+1+(glu ls).length:=by
 have h:l.data.toList.length=l.size:=rfl;simp only[glu,DL,D7,EG];omega
theorem mr:∀(ls:List ByteArray) (x:List UInt8) (r:List (List UInt8)),bF ls=x::r->(glu ls).length=(x++bJ 10 r).length+1
 |[],x,r,h=>by cases h
 |[l],x,r,h=>by
  simp only[bF,DS,Fb,List.cons.injEq]at h;obtain⟨rfl,rfl⟩:=h;rw[kq];have h2:l.data.toList.length=l.size:=rfl;simp[glu,bJ,h2]
 |l::m::ls,x,r,h=>by
  have h0:bF (m::ls)=m.data.toList::bF ls:=rfl;have ih:=mr (m::ls) _ _ h0;simp only[bF,DS,List.cons.injEq]at h;obtain⟨rfl,rfl⟩:=h;have h2:l.data.toList.length=l.size:=rfl;rw[kq,ih];simp only[bF,bJ,DL,D7,Da];omega
theorem x8(s:ByteArray):(glu (gC 10 s)).length=s.size+1:=by
 obtain⟨x,r,h1,h2⟩:=kR 10 (Lib.countB s ⟨#[10]⟩) s.data.toList;rw[mr _ x r ((jg 10 s).trans h1),h2];rfl
theorem q7:∀ls:List ByteArray,(∀l∈ls,l.size<(glu ls).length)/\ls.length<=(glu ls).length
 |[]=>⟨λl h=>(by cases h),Do _⟩
 |l::ls=>by
  obtain⟨h1,h2⟩:=q7 ls;have h3:=kq l ls;refine⟨λx hx=>?_,by rw[Da];omega⟩;rcases Dm.1 hx with rfl|hx
  ·omega
  ·have:=h1 x hx;omega
theorem uj(ls:List ByteArray):(glu (mI ls)).length<=(glu ls).length:=by
 unfold mI;split
 ·have h:glu ls=glu ls.dropLast++glu (ls.drop (ls.length-1)):=by
   unfold glu;rw[List.dropLast_eq_take,<-Eh,Eo]
  rw[h,D7];omega
 ·exact D8 _
theorem ro{s:ByteArray}(h:s.size<=39000):(glu (ak s)).length<=100000/\(∀l∈ak s,l.size<=40000)/\(ak s).length<40000:=by
 have h1:=uj (gC 10 s);rw[x8]at h1;have h2:(glu (ak s)).length<=s.size+1:=h1;obtain⟨h3,h4⟩:=q7 (ak s);exact⟨by omega,λl hl=>by have:=h3 l hl;omega,by omega⟩
structure Came(w:World)(x:Sc)(A:Option Addr)(n:Nat)(A2:Option Addr)(n2:Nat):Prop where
 cs:Sl eZ w (λb=>b<w.heap.size) x.cs A n
 ac:Sl kAd w (λb=>b<w.heap.size) x.ac A2 n2
 cap:Cap w w.heap.size
 gf:GlF w
 s0:0<=x.sd
 s1:x.sd<=18446744073709551615
 few:n2<=9007199254740992
theorem SV.below{v:Value}(h:SV w (AllB w) x v)(hb:Below w.heap.size w w'):SV w' (AllB w') x v:=by
 obtain⟨A,n,c,A2,n2,c2,rfl,h1,h2⟩:=h;exact⟨A,n,c,A2,n2,c2,rfl,h1.aA (AllB.aA hb),h2.aA (AllB.aA hb)⟩
theorem Came.sv{n:Nat}(h:Came w x A n A2 n2)(c c2:Nat)(hb:Below w.heap.size w w'):SV w' (AllB w') x (.agg #[.int .i64 x.m,.int .u64 x.sd,.int .i64 x.y,.slice A n c,.slice A2 n2 c2]):=
 ⟨A,n,c,A2,n2,c2,rfl,(h.cs.aA λb hk=>⟨Dh hk hb.size,hb.block b hk⟩).cls,h.ac.aA λb hk=>⟨Dh hk hb.size,hb.block b hk⟩⟩
theorem qq{n:Nat}(h:Came w x A n A2 n2)(c c2:Nat)(hb:Below w.heap.size w w')(hg:Gl w)(hz:gO x=true->lsz csz x.cs<=900/\x.ac.length<=1000):
 Calls Tryz.prog 13 #[.agg #[.int .i64 x.m,.int .u64 x.sd,.int .i64 x.y,.slice A n c,.slice A2 n2 c2]] w' λe w''=>e= .returned (.string (ba (fmT x)))/\Below w'.heap.size w' w'':=
 xd x A n c A2 n2 c2 w' w.heap.size (h.cs.aA λb hk=>⟨hk,hb.block b hk⟩) (h.ac.aA λb hk=>⟨hk,hb.block b hk⟩) hb.size (hg.below hb) (h.gf.below hb hg.big) (h.cap.aA λb hk=>hb.block b hk) h.s0 h.s1 hz
theorem rR{n:Nat}(h:Came w x A n A2 n2)(c c2:Nat)(hb:Below w.heap.size w w'):
 Calls Tryz.prog 16 #[.agg #[.int .i64 x.m,.int .u64 x.sd,.int .i64 x.y,.slice A n c,.slice A2 n2 c2]] w' λe w''=>e= .returned (.bool (gO x))/\Below w'.heap.size w' w'':=
 ye x A n c A2 n2 c2 w' (λb=>b<w.heap.size) (h.cs.aA λb hk=>⟨hk,hb.block b hk⟩) (h.ac.aA λb hk=>⟨hk,hb.block b hk⟩) (λb hk=>Dh hk hb.size)
theorem xG{n:Nat}(h:Came w x A n A2 n2)(c c2:Nat)(hb:Below w.heap.size w w'):
 Calls Tryz.prog 12 #[.agg #[.int .i64 x.m,.int .u64 x.sd,.int .i64 x.y,.slice A n c,.slice A2 n2 c2]] w' (FewP (gO x=true->lsz csz x.cs<=200/\x.ac.length<=200) w'):=
 Ci x A n c A2 n2 c2 w' (λb=>b<w.heap.size) (h.cs.aA λb hk=>⟨hk,hb.block b hk⟩) (h.ac.aA λb hk=>⟨hk,hb.block b hk⟩) (λb hk=>Dh hk hb.size) h.few
theorem so:∀l:List Ad,glu (l.map di)=tAc l
 |[]=>rfl
 |a::l=>by
  rw[DS];show glu ([di a]++l.map di)=_;rw[iy,so l];show(ba (ej a)).data.toList++[10]++[]++tAc l=(ej a++[10])++tAc l;rw[DC];rfl
theorem tB(h:VSc x):ul x=en x:=by
 have h0:VSc {x with ac:=[]}:=⟨h.m1,h.m8,h.s0,h.s1,h.y0,h.y1,h.cs,λd hd=>(by cases hd),λd hd=>(by cases hd)⟩;have h1:=uY h0;have h2:AZ {x with ac:=[]}=ul x++[]:=rfl;have h3:en {x with ac:=[]}++tAc ({x with ac:=[]}:Sc).ac=en x++[]:=rfl;rw[h2,h3,DC,DC]at h1;exact h1
theorem yG(h:VSc x)(hl:(en x).length<=16384):(ag (prP x.cs)).length<=16384:=by
 rw[mM];unfold en at hl;simp only[D7]at hl;omega
theorem nE:∀l:List ByteArray,(∀x∈l,∀c∈x.data.toList,c≠10)->(glu l).count 10=l.length
 |[],_=>rfl
 |a::l,h=>by
  show((a.data.toList++[10])++glu l).count 10=_;rw[List.count_append,List.count_append,nE l λx hx=>h x (DF _ hx),List.count_eq_zero.2 λhm=>h a List.mem_cons_self 10 hm rfl];simp;omega
theorem qg(h:VSc x){c:List UInt8}(hc:∀b∈c,b≠10)(hs:eI (ba c)=false)(hp:ck (aQ (ba c))=none)(hz:lsz csz x.cs<=4000){S:List UInt8}(hS:S=en x++tAc x.ac)(hl:S.length<=16384):
 ec (ba (S++c++[10]++S))= .err (S.count 10+1) 3:=by
 obtain⟨P,h1,h2,h3,h4⟩:=qF h;have hP:=yG h (by rw[hS,D7]at hl;omega);have hk:∀d∈x.ac,aN d=true/\WfA d:=λd hd=>⟨h.ac d hd,h.wf d hd⟩;obtain⟨L,hL⟩:=nm_ (fl x++(P++[gB])++x.ac.map di);have hSL:S=glu L:=by rw[hS,<-hL,iy,so,<-h3,tB h]
 have hLn:∀l∈L,∀b∈l.data.toList,b≠10:=λl hl=>by
  rw[<-hL]at hl;exact(DR.1 hl).elim (h4 l) (uy h.ac l)
 have e:S++c++[10]++S=glu (L++(ba c::L)):=by
  rw[iy,<-hSL];show _=S++((c++[10])++glu L);rw[<-hSL];simp
 have hnl:∀l∈L++(ba c::L),∀b∈l.data.toList,b≠10:=λl hl=>by
  rcases DR.1 hl with hl|hl
  ·exact hLn l hl
  ·rcases Dm.1 hl with rfl|hl
   ·exact hc
   ·exact hLn l hl
 have hcnt:S.count 10=L.length:=by rw[hSL,nE L hLn]
 have hlen:L.length=4+P.length+1+x.ac.length:=by rw[<-hL];simp[fl];omega
 unfold ec;rw[e,ud hnl,hcnt]
 have hsplit:L++(ba c::L)=fl x++(P++(gB::(x.ac.map di++(ba c::L)))):=by
  conv=>lhs;arg 1;rw[<-hL]
  simp
 rw[hsplit,uh h hP hz h1 h2,nM _ _ _ _ hk];rw[ns (q:=0+(4+P.length+1)+x.ac.length+1) (e:=3) (by unfold bB;simp only;rw[Dg (by rw[hs];decide),hp])]
 congr 1
 omega
theorem kV(w:World)(e:TypeId)(s:ByteArray):Below w.heap.size w (Lib.bytesWorld w e s):=
 ⟨rfl,rfl,rfl,by rw[Lib.bytesWorld_size];omega,λk hk=>Lib.bytesWorld_at_old w e s k hk⟩
theorem Bz(x:Sc)(A:Option Addr)(n c:Nat)(A2:Option Addr)(n2 c2:Nat)(l:ByteArray)(w:World)(hC:Came w x A n A2 n2)(hg:Gl w):
 Calls Tryz.prog 6 #[.agg #[.int .i64 x.m,.int .u64 x.sd,.int .i64 x.y,.slice A n c,.slice A2 n2 c2],.string l] w λe w'=>e= .returned (.bool true)/\Below w.heap.size w w':=by
 have HC:=H_ hC;have HG:=H_ hg;obtain⟨g,hz⟩:=nm_ (w.heap.size);obtain⟨W0,hW0⟩:=nm_ (w.alloc (.cells #[.int .i64 x.m,.int .u64 x.sd,.int .i64 x.y,.slice A n c,.slice A2 n2 c2] 35));have HQ:=hng hW0 hz;have hs0:W0.heap.size=g+1:=by rw[<-hW0,Dk,hz]
 have HB0:=hba hW0;have CF:=H_ (xG hC c c2 HB0.out);have HW:=H_ hW0;obtain⟨m,hm⟩:=nm_ (x.m);obtain⟨sd,hsd⟩:∃m,x.sd=m:=⟨_,rfl⟩;obtain⟨y,hy⟩:∃m,x.y=m:=⟨_,rfl⟩;have HXE:=H_ (And.intro hm (And.intro hsd hy));rw[hm,hsd,hy]at HQ HW CF⊢;obtain⟨q0,q1,q2,q3,q4⟩:=HQ.out.c5;clear hC hg hW0 hm hsd hy;go_enter Tryz.func6,Tryz.ntmps6;rw[hz];go_upto_region 1 with fail;rw[HW.out];go_wp2_with fail;refine CF.out.mono ?_;rintro r w1 ⟨bf,rfl,hbf,b1⟩;have hs1:=b1.size;have HB1:Hid (Below w.heap.size w w1):=H_ (HB0.out.trans (b1.mono (by omega)));have HQ1:=hbl HQ b1;have HBF:=H_ hbf;clear b1 CF hbf q0 q1 q2 q3 q4;cases bf with
 |false=>
  have C7:=H_ (gI w1 (HG.out.below HB1.out));go_wp2_with fail;refine C7.out.mono ?_;rintro e w2 ⟨rfl,b2⟩;have HE:=htr HB1 b2;clear b2;go_wp2_with fail;go_ret;exact⟨rfl,hz▸HE.out⟩
 |true=>
  have HZ:=H_ (show gO x=true->lsz csz x.cs<=900/\x.ac.length<=1000 from λh=>by have:=HBF.out rfl h;omega);obtain⟨q0,q1,q2,q3,q4⟩:=HQ1.out.c5;have C16:=H_ (rR HC.out c c2 HB1.out);obtain⟨h1,h2,h3⟩:=HXE.out;rw[h1,h2,h3]at C16;obtain⟨vb,hvb⟩:=nm_ (gO x);rw[hvb]at C16;have HVB:=H_ hvb;clear h1 h2 h3 hvb;go_wp2_with fail;refine C16.out.mono ?_;rintro r w2 ⟨rfl,b2⟩;have hs2:=b2.size;have HB2:=htr HB1 b2;have HQ2:=hbl HQ1 b2;clear b2 C16 q0 q1 q2 q3 q4;by_cases hcut:vb=true/\l.size<=100
  ·obtain⟨rfl,hl100⟩:=hcut;have hlz:¬(100:Int)<(l.size:Int):=by omega
   obtain⟨hcz,hacl⟩:=HZ.out HVB.out;have HCZ:=H_ (And.intro hcz hacl);have hcv:∀W:World,(convert 9 51 (.string l)).run Tryz.prog W= .ok (.slice (some ⟨W.heap.size,0,none⟩) l.size (grownCap W l.size 0 5)) (Lib.bytesWorld W 5 l):=λW=>Lib.run_convert_string_bytes W 9 51 5 l Tryz.underlying9 Tryz.underlying51 Tryz.underlying5;obtain⟨w3,hw3⟩:=nm_ (Lib.bytesWorld w2 5 l);obtain⟨L,hL⟩:=nm_ (w2.heap.size)
   have hcell:∀k,k<l.size->w3.cell? ⟨L,k,none⟩=some (.int .u8 (l.data.toList.getD k 0).toNat):=λk hk=>by
    rw[<-hw3,<-hL];exact Lib.bytesWorld_cell w2 5 l k hk
   have b3:Below w2.heap.size w2 w3:=hw3▸kV w2 5 l;have hs3:=b3.size;have hL3:L<w3.heap.size:=by rw[<-hw3,Lib.bytesWorld_size];omega
   have HB3:=htr HB2 b3;have HQ3:=hbl HQ2 b3;have HCELL:=H_ hcell;have HW3:=H_ hw3;clear hcell b3 hw3 hcz hacl;go_upto_region 4 with fail;rw[HW3.out];go_loopw [33] (λi wr=>∃k:Nat,k<=l.size/\i= .int .i64 k/\wr=w3/\Hid (∀b∈l.data.toList.take k,b≠10)) (λi _=>l.size-(intOf i).toNat)
   case atStart=>exact⟨0,Do _,rfl,rfl,H_ (λb hb=>(by simp at hb))⟩
   case round=>
    obtain⟨k,hk,rfl,hwr,HN⟩:=hrel;subst hwr;obtain⟨w3,rfl⟩:∃w3,w3=wr:=⟨_,rfl⟩;by_cases hkm:k<l.size
    ·have hkz:(k:Int)<(l.size:Int):=by omega
     have hkl:k<l.data.toList.length:=hkm;have dk:=HCELL.out k hkm;obtain⟨bk,hbk⟩:∃b,l.data.toList.getD k 0=b:=⟨_,rfl⟩;rw[hbk]at dk;by_cases h10:bk=10
     ·have h10':((bk.toNat:Int)==10)=true:=by rw[h10];rfl
      have C7:=H_ (gI w3 (HG.out.below HB3.out));clear hbk;go_wp2_with fail;refine C7.out.mono ?_;rintro e w4 ⟨rfl,b4⟩;have HE:=htr HB3 b4;clear b4;go_wp2_with fail;go_ret;exact⟨rfl,hz▸HE.out⟩
     ·have h10':((bk.toNat:Int)==10)=false:=D9.2 λe=>h10 (ET.1 (by show bk.toNat=10;omega))
      have HN2:Hid (∀b∈l.data.toList.take (k+1),b≠10):=H_ λb hb=>by
       rw[DW,Df hkl]at hb;rcases DR.1 hb with hb|hb
       ·exact HN.out b hb
       ·simp only[Option.toList_some,List.mem_singleton]at hb;rw[hb];rw[DD,Df hkl]at hbk;exact λe=>h10 (by rw[<-hbk];exact e)
      clear hbk;go_wp2_with fail;go_roundw
      case rel=>exact⟨k+1,by omega,by go_num,by first|rfl|trivial,HN2⟩
      case measure=>simp[intOf];omega
    ·have hke:k=l.size:=by omega
     have HN2:Hid (∀b∈l.data.toList,b≠10):=H_ λb hb=>HN.out b (by rw[Dd (show l.data.toList.length<=k by show l.size<=k;omega)];exact hb);subst hke;obtain⟨q0,q1,q2,q3,q4⟩:=HQ3.out.c5;have C14:=H_ (An m sd y A n c A2 n2 c2 w3);clear HN;go_wp2_with fail;refine C14.out.mono ?_;rintro r w4 ⟨rfl,b4⟩;have hs4:=b4.size;have HB4:=htr HB3 b4;have HQ4:=hbl HQ3 b4;have C13:=H_ (qq HC.out c c2 HB4.out HG.out HZ.out);obtain⟨h1,h2,h3⟩:=HXE.out;rw[h1,h2,h3]at C13;clear b4 C14 q0 q1 q2 q3 q4 h1 h2 h3;go_wp2_with fail;refine C13.out.mono ?_;rintro r w5 ⟨rfl,b5⟩;have hs5:=b5.size;have HB5:=htr HB4 b5;obtain⟨SL,hSL⟩:=nm_ (fmT x);rw[hSL];have HSL:=H_ hSL;obtain⟨S,hS⟩:=nm_ (ba SL);rw[hS];have HS:=H_ hS;have C18:=H_ (it l w5 (HG.out.below HB5.out) (by omega));unfold ParsePost at C18;clear b5 C13 hSL hS HB4;go_wp2_with fail;refine C18.out.mono ?_;rintro r w6' ⟨v,a,rfl,_,_,_,_,_,b6'⟩;obtain⟨bp,hbp⟩:=nm_ ((ck (aQ l)).isSome);rw[hbp];have HBP:=H_ hbp;obtain⟨w6,hw6⟩:=nm_ (w6'.alloc (.cells v.cells 48));have HB6:=H_ (HB5.out.trans ((b6'.trans ((bal hw6).mono b6'.size)).mono (by have:=HB5.out.size;omega)));have HW6:=H_ hw6;clear b6' hw6 C18 hbp;unfold Av.cells at*
     go_upto_region 11 with fail;rw[HW6.out];cases bp with
     |true=>
      have C7:=H_ (gI w6 (HG.out.below HB6.out));go_wp2_with fail;refine C7.out.mono ?_;rintro e w7 ⟨rfl,b7⟩;have HE:=htr HB6 b7;clear b7;go_wp2_with fail;go_ret;exact⟨rfl,hz▸HE.out⟩
     |false=>
      by_cases hl0:l.size=0
      ·obtain rfl:l=⟨#[]⟩:=Du (Dy hl0);clear hl0;have C7:=H_ (gI w6 (HG.out.below HB6.out));go_wp2_with fail;refine C7.out.mono ?_;rintro e w7 ⟨rfl,b7⟩;have HE:=htr HB6 b7;clear b7;go_wp2_with fail;go_ret;exact⟨rfl,hz▸HE.out⟩
      ·have hl1:0<l.size:=by omega
       have hz1:(0:Int)<(l.size:Int):=by omega
       have hne:(l.toList==[])=false:=D9.2 λe=>hl0 (by rw[DJ]at e;exact Ev List.length e);cases hsk:eI l with
       |true=>
        have hc35:(((l[0]'hl1).toNat:Int)==35)=true:=by
         have hc:(l[0]'hl1)=35:=by
          unfold eI at hsk;cases hl:l.data.toList with
          |nil=>have h2:l.data.toList.length=l.size:=rfl;rw[hl]at h2;simp at h2;omega
          |cons cc r=>
           rw[hl]at hsk;have h2:l.data.toList[0]?=some cc:=by rw[hl];rfl
           have h3:=(De.1 h2).2;have h4:cc=35:=by simpa using hsk
           rw[<-h4];exact h3
         rw[hc];rfl
        clear hsk hl0;have C7:=H_ (gI w6 (HG.out.below HB6.out));go_wp2_with fail;refine C7.out.mono ?_;rintro e w7 ⟨rfl,b7⟩;have HE:=htr HB6 b7;clear b7;go_wp2_with fail;go_ret;exact⟨rfl,hz▸HE.out⟩
       |false=>
        obtain⟨_,hc35,_⟩:=oh hsk;have HSK:=H_ hsk;clear hsk hl0;by_cases hS16:(16384:Int)<(S.size:Int)
        ·clear HN2;have C7:=H_ (gI w6 (HG.out.below HB6.out));go_wp2_with fail;refine C7.out.mono ?_;rintro e w7 ⟨rfl,b7⟩;have HE:=htr HB6 b7;clear b7;go_wp2_with fail;go_ret;exact⟨rfl,hz▸HE.out⟩
        ·have hsz:S.size=SL.length:=by rw[<-HS.out];simp[ba,ByteArray.size]
         have hlc:l.data.toList.length=l.size:=rfl;obtain⟨cl,hcl⟩:=nm_ (l.data.toList);have hbl':ba cl=l:=by rw[<-hcl];simp[ba]
         have hv:=VSc.of HVB.out HC.out.s0 HC.out.s1;have hSf:SL=en x++tAc x.ac:=by rw[<-HSL.out];unfold fmT;rw[Dq HVB.out]
         have herr:=qg hv (c:=cl) (by rw[<-hcl];exact HN2.out) (by rw[hbl'];exact HSK.out) (by rw[hbl'];exact Option.not_isSome_iff_eq_none.1 (by rw[HBP.out];decide)) (by have:=HCZ.out.1;omega) hSf (by omega);have HERR:=H_ herr;obtain⟨NL,hNL⟩:=nm_ (SL.count 10);have hNle:NL<=16384:=by rw[<-hNL];have:=List.count_le_length (a:=(10:UInt8)) (l:=SL);omega
         rw[hNL]at HERR;have hcv:∀W:World,(convert 9 51 (.string S)).run Tryz.prog W= .ok (.slice (some ⟨W.heap.size,0,none⟩) S.size (grownCap W S.size 0 5)) (Lib.bytesWorld W 5 S):=λW=>Lib.run_convert_string_bytes W 9 51 5 S Tryz.underlying9 Tryz.underlying51 Tryz.underlying5;obtain⟨w7,hw7⟩:=nm_ (Lib.bytesWorld w6 5 S);obtain⟨L2,hL2⟩:∃L,w6.heap.size=L:=⟨_,rfl⟩
         have hcell:∀k,k<S.size->w7.cell? ⟨L2,k,none⟩=some (.int .u8 (S.data.toList.getD k 0).toNat):=λk hk=>by
          rw[<-hw7,<-hL2];exact Lib.bytesWorld_cell w6 5 S k hk
         have hSd:S.data.toList=SL:=by rw[<-HS.out];rfl
         rw[hSd]at hcell;have b7:Below w6.heap.size w6 w7:=hw7▸kV w6 5 S;have HB7:=htr HB6 b7;have HCELL2:=H_ hcell;have HW7:=H_ hw7;have HNL:=H_ hNL;have HCL:=H_ (And.intro hcl (show cl.length=l.size by rw[<-hcl];rfl));have HSZ:=H_ hsz;clear hcell b7 hw7 hsz hlc hcl hbl' hv hSf herr hNL hSd;go_upto_region 15 with fail;rw[HW7.out];go_loopw [10,69] (λct i wr=>∃k:Nat,k<=S.size/\i= .int .i64 k/\ct= .int .i64 ((SL.take k).count 10:Nat)/\wr=w7) (λ_ i _=>S.size-(intOf i).toNat)
         case atStart=>exact⟨0,Do _,rfl,rfl,rfl⟩
         case round=>
          obtain⟨k,hk,rfl,rfl,hwr⟩:=hrel;subst hwr;obtain⟨w7,rfl⟩:∃w7,w7=wr:=⟨_,rfl⟩;have hSZ:=HSZ.out;by_cases hkm:k<S.size
          ·have hkz:(k:Int)<(S.size:Int):=by omega
           have hkl:k<SL.length:=by omega
           have dk:=HCELL2.out k hkm;have hgd:SL.getD k 0=SL[k]:=by rw[DD,Df hkl];rfl
           rw[hgd]at dk;obtain⟨bk,hbk⟩:∃b,SL[k]=b:=⟨_,rfl⟩;rw[hbk]at dk
           have hct:(SL.take (k+1)).count 10=(SL.take k).count 10+(if bk=10 then 1 else 0):=by
            rw[DW,Df hkl,hbk,List.count_append];by_cases hb:bk=10<;>simp[hb]
           have hcl:(SL.take k).count 10<=k:=by have:=List.count_le_length (a:=(10:UInt8)) (l:=SL.take k);rw[EI]at this;omega
           obtain⟨ct,hcte⟩:=nm_ ((SL.take k).count 10);rw[hcte]at hct hcl⊢;have HCT:=H_ hct;clear hct hbk hcte hgd;by_cases h10:bk=10
           ·have h10':((bk.toNat:Int)==10)=true:=by rw[h10];rfl
            go_wp2_with fail;go_roundw
            case rel=>exact⟨k+1,by omega,by go_num,by rw[HCT.out,Dq h10];go_num,by first|rfl|trivial⟩
            case measure=>simp[intOf];omega
           ·have h10':((bk.toNat:Int)==10)=false:=D9.2 λe=>h10 (ET.1 (by show bk.toNat=10;omega));go_wp2_with fail;go_roundw
            case rel=>exact⟨k+1,by omega,by go_num,by rw[HCT.out,Dg h10];rfl,by first|rfl|trivial⟩
            case measure=>simp[intOf];omega
          ·obtain rfl:k=S.size:=by omega
           rw[Dd (by omega),HNL.out];have a1:=iJ S l SL cl (by rw[<-HS.out];rfl) HCL.out.1 (by have:=HCL.out.2;omega);have a2:=iJ (ba (SL++cl)) ⟨#[10]⟩ (SL++cl) [10] rfl rfl (by simp only[D7,Da,Dc];have:=HCL.out.2;omega);have a3:=iJ (ba (SL++cl++[10])) S (SL++cl++[10]) SL rfl (by rw[<-HS.out];rfl) (by simp only[D7,Da,Dc];have:=HCL.out.2;omega);obtain⟨T,hT⟩:=nm_ (ba (SL++cl++[10]++SL));have hTz:T.size=SL.length+cl.length+1+SL.length:=by rw[<-hT];simp[ba,ByteArray.size];omega
           have hTz2:T.size<=39000:=by have:=HCL.out.2;omega
           rw[hT]at a3;have hrd:ec T= .err (NL+1) 3:=by rw[<-hT];exact HERR.out
           have HRD:=H_ hrd;obtain⟨l1,l2,l3⟩:=ro hTz2;have C8:=H_ (Ar T w7 (HG.out.below HB7.out) hTz2 l2 l3);simp only[Dp,Ec,DY]at a1 a2 a3;clear l1 l2 l3 hT hTz hTz2 hrd;go_wp2_with fail;refine C8.out.mono ?_;rintro e w8 ⟨b8,hcase⟩;rw[HRD.out]at hcase;obtain⟨rfl,_⟩:=hcase;have HB8:=htr HB7 b8;unfold zSv;obtain⟨w9,hw9⟩:=nm_ (w8.alloc (.cells #[.int .i64 0,.int .u64 0,.int .i64 0,.slice none 0 0,.slice none 0 0] 31));have HB9:=H_ (HB8.out.trans ((bal hw9).mono HB8.out.size));have C7:=H_ (gI w9 (HG.out.below HB9.out));have HW9:=H_ hw9;have hqq:(((NL+1:Nat):Int)==((NL:Int)+1))=true:=by simp
           have hqq2:(((NL:Int)+1)==((NL:Int)+1))=true:=beq_self_eq_true _;clear b8 hw9 C8 a1 a2 a3;go_upto_region 21 with fail;rw[HW9.out];go_wp2_with fail;refine C7.out.mono ?_;rintro e w10 ⟨rfl,b10⟩;have HE:=htr HB9 b10;clear b10;go_wp2_with fail;go_ret;exact⟨rfl,hz▸HE.out⟩
  ·cases vb with
   |false=>
    have C7:=H_ (gI w2 (HG.out.below HB2.out));go_wp2_with fail;refine C7.out.mono ?_;rintro e w3 ⟨rfl,b3⟩;have HE:=htr HB2 b3;clear b3;go_wp2_with fail;go_ret;exact⟨rfl,hz▸HE.out⟩
   |true=>
    have hlz:(100:Int)<(l.size:Int):=by
     have:¬l.size<=100:=λh=>hcut ⟨rfl,h⟩;omega
    have C7:=H_ (gI w2 (HG.out.below HB2.out));go_wp2_with fail;refine C7.out.mono ?_;rintro e w3 ⟨rfl,b3⟩;have HE:=htr HB2 b3;clear b3;go_wp2_with fail;go_ret;exact⟨rfl,hz▸HE.out⟩
end
section
open Go.RowKit Go.ChangeShapes Go.WideShapes Go.ChangeAt Go.Deep
variable{H:Type}{K fuel g i o:Nat}{P:Program}{W w:World}{cs:List Value}{e t':TypeId}{f:Field}{fs:Array Field}{held:Bool}{name:String}{spare:Nat->Bool}{v:Value}
theorem CD:ownKnob Tryz.prog.godebug=none:=by kernel_rfl
theorem pQ:laidOutB Tryz.prog=true:=by kernel_rfl
theorem lJ{k:IntKind}{zs:List Int}{t:TypeId}{n:Nat}
 (hg:P.globalNamed name=some g) (hty:(P.globals[g]?).map (·.type)=some t) (ht:P.underlying t=some (.array n e)) (he:P.underlying e=some (.int k)) (hce:P.cellsOf e=1) (hct:P.cellsOf t=n)
 (h:Lib.VarReads P W name (Lib.tabData k zs)):Lib.TabIs P W name k zs:=by
 obtain⟨g',t',cs,fuel,p,h1,h2,h3,h4⟩:=h;rw[hg]at h1;obtain rfl:=Option.some.inj h1;rw[hty]at h2;obtain rfl:=Option.some.inj h2;have:=Lib.cells_of_tab ht he hce hct h4;unfold Lib.TabIs;rw[h3,<-this]
theorem ic{nm:String}{d:DataW Unit}{t:TypeId}{ms:Array (String×TypeId)}(hg:P.globalNamed name=some g)(hty:(P.globals[g]?).map (·.type)=some t)(ht:P.underlying t=some (.interface ms))
 (h:Lib.VarReads P W name (.iface nm d)):∃tp p,W.var? P name=some #[.iface tp p]:=by
 obtain⟨g',t',cs,fuel,p,h1,h2,h3,h4⟩:=h;rw[hg]at h1;obtain rfl:=Option.some.inj h1;rw[hty]at h2;obtain rfl:=Option.some.inj h2;obtain⟨_,u,v,hcs,_⟩:=iface_of_trod ht h4;refine⟨u,v,?_⟩;rw[h3]
 congr 1
 exact Array.toList_inj.1 hcs
theorem iL{ss:List (List UInt8)}{n:Nat}{t:TypeId}(hg:Tryz.prog.globalNamed name=some g)(hty:(Tryz.prog.globals[g]?).map (·.type)=some t)(ht:Tryz.prog.underlying t=some (.slice 9))(hn:ss.length=n+1)
 (h:Lib.VarReads Tryz.prog W name (.slice (ss.map λs=> .lit (.string s)) [])):∃A c,W.cell? ⟨g,0,none⟩=some (.slice A (n+1) c)/\Strs W W.heap.size A (n+1) (ss.map λs=>⟨s.toArray⟩):=by
 obtain⟨g',t',cs,fuel,p,h1,h2,h3,h4⟩:=h;rw[hg]at h1;obtain rfl:=Option.some.inj h1;rw[hty]at h2;obtain rfl:=Option.some.inj h2;rcases DataW.trod_slice ht h4 with⟨hcs,hx⟩|⟨a,len,cap,elems,rest,m,rfl,hcs,hx,_,_,_,hel,hi,_⟩
 ·simp at hx
 ·simp only[Prod.mk.injEq,DataW.slice.injEq]at hx;obtain⟨⟨hx1,_⟩,_⟩:=hx
  have hlen:len=n+1:=by
   have:=Ev List.length hx1;simp only[Er]at this;omega
  subst hlen
  have hcell:W.cell? ⟨g,0,none⟩=some (.slice (some a) (n+1) cap):=by
   have:=World.var?_cell hg h3 0;rw[show cs= #[.slice (some a) (n+1) cap]from Array.toList_inj.1 hcs]at this;simpa using this
  have hc9:Tryz.prog.cellsOf 9=1:=by kernel_rfl
  have hes:∀i s,ss[i]?=some s->W.cell? (a.add i)=some (.string ⟨s.toArray⟩):=λi s hs=>by
   have hil:i<n+1:=by rw[<-hn];exact(De.1 hs).1
   have h5:=hi i hil;have hel':i<elems.length:=by omega
   rw[Df hel',hc9,Nat.mul_one]at h5;obtain⟨cs',h6,h7⟩:=Option.bind_eq_some_iff.1 h5;obtain⟨s',rfl,h8,_⟩:=DataW.trod_string Tryz.underlying9 h7
   have h9:(elems.map (·.1))[i]?=some (.lit (.string s'.data.toList)):=by
    rw[DK,Df hel',h8];rfl
   rw[<-hx1,DK,hs]at h9;simp only[Option.map_some,Option.some.injEq,DataW.lit.injEq,Lit.string.injEq]at h9;obtain⟨_,_,h10⟩:=World.cells?_some h6;have:=h10 0 (by simp);rw[show((a.add i).add 0)=a.add i from by unfold Addr.add;simp]at this;rw[this];simp[h9]
  refine⟨some a,cap,hcell,by simp[hn],λh0=>?_⟩;have h00:0<ss.length:=by omega
  have hc0:=hes 0 ss[0] (Df h00);obtain⟨b,off,spot⟩:=a;have hspot:spot=none:=by simpa[Addr.add]using World.cell?_spot hc0
  subst hspot;refine⟨b,off,rfl,by simpa[Addr.add]using World.block_lt_of_cell? W _ hc0,λj v hv=>?_⟩;rw[List.map_map,DK]at hv;obtain⟨s,hs,rfl⟩:=DO.1 hv;have:=hes j s hs;rwa[show((⟨b,off,none⟩:Addr).add j)=⟨b,off+j,none⟩from by unfold Addr.add;split<;>simp_all]at this
def ae:List (String×DataW Unit):=Rows.scriptParsesRow.laid
def kwN:List (List UInt8):=kwL.map (·.data.toList)
def syN:List (List UInt8):=syL.map (·.data.toList)
theorem Bv:((begin Tryz.prog (λ_ _=>0) default).world.heap[0]?).bind Obj.row?=some (#[.int .i64 0],3):=by kernel_rfl
theorem Bu:∃x,((begin Tryz.prog (λ_ _=>0) default).world.heap[11]?).bind Obj.row?=some x:=by
 cases h:((begin Tryz.prog (λ_ _=>0) default).world.heap[11]?).bind Obj.row? with
 |some x=>exact⟨x,rfl⟩
 |none=>
  have:(((begin Tryz.prog (λ_ _=>0) default).world.heap[11]?).bind Obj.row?).isSome=true:=by kernel_rfl
  rw[h]at this;cases this
section
variable{H:Type}{enc:TypeId×Value->H}{w:World}{spare:Nat->Bool}{held:Bool}
def Wt(t:TypeId)(d:DataW H):Prop:=∀k∈d.weights Tryz.prog t,k<=reachBytes
theorem gR{e:TypeId}:∀{l:List (DataW H)} {d:DataW H},d∈l->∀k∈d.weights Tryz.prog e,k∈DataW.weightsAll Tryz.prog e l
 |[],_,h,_,_=>by cases h
 |a::l,d,h,k,hk=>by
  rw[DataW.weightsAll];rcases Dm.1 h with rfl|h
  ·exact List.mem_append_left _ hk
  ·exact List.mem_append_right _ (gR h k hk)
theorem eN:∀{ts:List TypeId} {l:List (DataW H)} {i:Nat} {t:TypeId} {d:DataW H},ts[i]?=some t->l[i]?=some d->∀k∈d.weights Tryz.prog t,k∈DataW.weightsEach Tryz.prog ts l
 |[],_,_,_,_,h,_,_,_=>by simp at h
 |_::_,[],_,_,_,_,h,_,_=>by simp at h
 |t'::ts,a::l,0,t,d,h1,h2,k,hk=>by
  simp only[DQ,Option.some.injEq]at h1 h2;subst h1 h2;rw[DataW.weightsEach];exact List.mem_append_left _ hk
 |t'::ts,a::l,i+1,t,d,h1,h2,k,hk=>by
  simp only[EJ]at h1 h2;rw[DataW.weightsEach];exact List.mem_append_right _ (eN h1 h2 k hk)
theorem Wt.part{t:TypeId}(ht:Tryz.prog.underlying t=some (.struct fs)){ps:List (DataW H)}(h:Wt t (.agg ps)){d:DataW H}(hf:fs[i]?=some f)(hd:ps[i]?=some d):Wt f.type d:=λk hk=>by
 refine h k ?_;rw[DataW.weights,ht];exact eN (i:=i) (t:=f.type) (by rw[DK,<-Array.getElem?_toList]at*;simp[hf]) hd k hk
theorem Wt.elem{t:TypeId}(ht:Tryz.prog.underlying t=some (.slice e)){el sp:List (DataW H)}(h:Wt t (.slice el sp)):el.length*Tryz.prog.bytesOf e<=reachBytes/\∀d∈el,Wt e d:=by
 have h0:∀k∈((el.length+sp.length)*Tryz.prog.bytesOf e::(DataW.weightsAll Tryz.prog e el++DataW.weightsAll Tryz.prog e sp)),k<=reachBytes:=λk hk=>h k (by rw[DataW.weights,ht];exact hk);refine⟨Dz (Nat.mul_le_mul_right _ (Nat.le_add_right _ _)) (h0 _ List.mem_cons_self),λd hd k hk=>h0 k ?_⟩;exact DF _ (List.mem_append_left _ (gR hd k hk))
theorem eG{t:TypeId}(ht:Tryz.prog.underlying t=some (.struct fs)){x:DataW H×List MemPlace}(h:DataW.trod enc Tryz.prog w 0 spare held fuel t cs=some x)(hw:Wt t x.1):
 ∃n,fuel=n+1/\cs.length=Tryz.prog.cellsOf t/\∀(i:Nat) (f:Field),fs[i]?=some f->∃y,DataW.trod enc Tryz.prog w 0 spare held n f.type ((cs.drop f.offset).take (Tryz.prog.cellsOf f.type))=some y/\Wt f.type y.1:=by
 obtain⟨xs,n,hfu,rfl,hl,hlen,hf⟩:=DataW.trod_struct ht h;refine⟨n,hfu,hl,λi f hi=>?_⟩;have hil:i<xs.length:=by rw[hlen];exact(Dt.1 hi).1
 have h1:=hf i f hi;rw[Df hil]at h1;exact⟨xs[i],h1,hw.part ht hi (by rw[DK,Df hil];rfl)⟩
theorem qo(h:o<cs.length):(cs.drop o).take 1=[cs[o]]:=by
 rw[EE h];rfl
theorem aT{n:Nat}(h:∃y,DataW.trod enc Tryz.prog w 0 spare held n t' ((cs.drop o).take (Tryz.prog.cellsOf t'))=some y/\Wt t' y.1)(ho:o<cs.length:=by simp)(hc:Tryz.prog.cellsOf t'=1:=by kernel_rfl):
 ∃y,DataW.trod enc Tryz.prog w 0 spare held n t' [cs[o]]=some y/\Wt t' y.1:=by
 rwa[hc,qo ho]at h
theorem gL{α:Type}(K:Kd α){t:TypeId}(ht:Tryz.prog.underlying t=some (.slice e)){x:DataW H×List MemPlace}
 (h:DataW.trod enc Tryz.prog w 0 spare held fuel t [v]=some x) (hw:Wt t x.1)
 (hel:∀n cs y,n<fuel->DataW.trod enc Tryz.prog w 0 spare held n e cs=some y->Wt e y.1->∃a,K.rd w (λb=>b<w.heap.size) a cs) (hce:Tryz.prog.cellsOf e=K.sz:=by kernel_rfl) (hbe:1<=Tryz.prog.bytesOf e:=by exact DI (by kernel_rfl)):
 ∃A n c xs,v= .slice A n c/\Sl K w (λb=>b<w.heap.size) xs A n/\n<=c/\n<=140737488355328:=by
 rcases DataW.trod_slice ht h with⟨hcs,_⟩|⟨a,len,cap,elems,rest,n,rfl,hcs,rfl,_,hl,hm,hlen,hi,_⟩
 ·simp only[List.cons.injEq,DA]at hcs;subst hcs;exact⟨none,0,0,[],rfl,Sl.nil _ _ _,D8 _,Do _⟩
 ·simp only[List.cons.injEq,DA]at hcs;subst hcs;obtain⟨hwl,hwe⟩:=hw.elem ht;rw[Er,hlen]at hwl
  have hbig:len<=140737488355328:=by
   have h1:len*1<=len*Tryz.prog.bytesOf e:=Nat.mul_le_mul_left _ hbe;unfold reachBytes at hwl;omega
  have hex:∀i,i<len->∃cs a',w.cells? 0 (a.add (i*K.sz)) K.sz=some cs/\K.rd w (λb=>b<w.heap.size) a' cs:=λi hin=>by
   have h1:=hi i hin
   have hil:i<elems.length:=by omega
   rw[Df hil,hce]at h1;obtain⟨cs,h2,h3⟩:=Option.bind_eq_some_iff.1 h1;obtain⟨a',h4⟩:=hel n cs elems[i] (Nat.lt_succ_self _) h3 (hwe _ (List.mem_map_of_mem (List.getElem_mem hil)));exact⟨cs,a',h2,h4⟩
  by_cases h0:0<len
  ·obtain⟨cs0,_,hc0,hr0⟩:=hex 0 h0
   have hspot:∃b off,a=⟨b,off,none⟩/\b<w.heap.size:=by
    obtain⟨_,hl0,hcell⟩:=World.cells?_some hc0;have h1:=hcell 0 K.pos;rw[Df (by rw[hl0];exact K.pos)]at h1;have h2:=World.cell?_spot h1;have h3:=World.block_lt_of_cell? w _ h1;obtain⟨b,off,spot⟩:=a;have:spot=none:=by simpa[Addr.add]using h2
    subst this;exact⟨b,off,rfl,by simpa[Addr.add]using h3⟩
   obtain⟨b,off,rfl,hb⟩:=hspot;refine⟨some ⟨b,off,none⟩,len,cap,(List.range len).map (λi=>if h:i<len then Classical.choose (En (hex i h))else Classical.choose (En (hex 0 h0))),rfl,⟨by simp,by unfold BD;omega,λ_=>⟨b,off,rfl,hb,λj y hy=>?_⟩⟩,hl,hbig⟩;have hj:j<len:=by have:=(De.1 hy).1;simpa using this
   rw[DK,List.getElem?_range hj]at hy;simp only[Option.map_some,Option.some.injEq,dif_pos hj]at hy;obtain⟨h1,h2⟩:=En (En (hex j hj));refine⟨Classical.choose (hex j hj),by rw[<-hy];exact h2,λi v hv=>?_⟩;obtain⟨_,hl0,hcell⟩:=World.cells?_some h1;have hil:i<K.sz:=by rw[<-hl0];exact(De.1 hv).1
   have h3:=(hcell i hil).trans hv;rwa[show((⟨b,off,none⟩:Addr).add (j*K.sz)).add i=⟨b,off+K.sz*j+i,none⟩from by unfold Addr.add;rw[DH K.sz j];by_cases h1:j*K.sz=0<;>by_cases h2:i=0<;>simp[h1,h2]]at h3
  ·obtain rfl:len=0:=by omega
   exact⟨some a,0,cap,[],rfl,Sl.nil _ _ _,Do _,Do _⟩
theorem Cj:∀(fuel:Nat) (cs:List Value) (x:DataW H×List MemPlace),DataW.trod enc Tryz.prog w 0 spare held fuel 172 cs=some x->Wt 172 x.1->∃e,ExK w (λb=>b<w.heap.size) e cs:=by
 intro fuel;induction fuel using Nat.strongRecOn with
 |_ fuel ih=>
  intro cs x h hw;obtain⟨n,rfl,hl,hf⟩:=eG Tryz.underlying172 h hw;have hl6:cs.length=6:=hl.trans (by kernel_rfl)
  match cs,hl6 with
  |[v0,v1,v2,v3,v4,v5],_=>
   obtain⟨y0,t0,_⟩:=aT (o:=0) (hf 0 _ rfl);obtain⟨y1,t1,_⟩:=aT (o:=1) (hf 1 _ rfl);obtain⟨y2,t2,_⟩:=aT (o:=2) (hf 2 _ rfl);obtain⟨y3,t3,_⟩:=aT (o:=3) (hf 3 _ rfl);obtain⟨y4,t4,_⟩:=aT (o:=4) (hf 4 _ rfl);obtain⟨y5,t5,w5⟩:=aT (o:=5) (hf 5 _ rfl);obtain⟨k,hk,_,_⟩:=DataW.trod_int Tryz.underlying3 t0;obtain⟨op,hop,_,_⟩:=DataW.trod_int Tryz.underlying3 t1;obtain⟨z,hz,_,_⟩:=DataW.trod_int Tryz.underlying2 t2;obtain⟨nm,hnm,_,_⟩:=DataW.trod_string Tryz.underlying9 t3;obtain⟨at_,hat,_⟩:=DataW.trod_bool Tryz.underlying4 t4;obtain⟨A,m,c,xs,h5,hs,hc,_⟩:=gL gQ Tryz.underlying166 t5 w5 (λa b z d e f=>ih a (by omega) b z e f);simp only[List.getElem_cons_succ,List.getElem_cons_zero,List.cons.injEq,DA]at hk hop hz hnm hat h5;subst hk hop hz hnm hat h5;exact⟨_,ExK.of k op z nm at_ hc hs⟩
theorem BG:∀(fuel:Nat) (cs:List Value) (x:DataW H×List MemPlace),DataW.trod enc Tryz.prog w 0 spare held fuel 168 cs=some x->Wt 168 x.1->∃e,StK w (λb=>b<w.heap.size) e cs:=by
 intro fuel;induction fuel using Nat.strongRecOn with
 |_ fuel ih=>
  intro cs x h hw;obtain⟨n,rfl,hl,hf⟩:=eG Tryz.underlying168 h hw;have hl5:cs.length=5:=hl.trans (by kernel_rfl)
  match cs,hl5 with
  |[v0,v1,v2,v3,v4],_=>
   obtain⟨y0,t0,_⟩:=aT (o:=0) (hf 0 _ rfl);obtain⟨y1,t1,_⟩:=aT (o:=1) (hf 1 _ rfl);obtain⟨y2,t2,w2⟩:=aT (o:=2) (hf 2 _ rfl);obtain⟨y3,t3,w3⟩:=aT (o:=3) (hf 3 _ rfl);obtain⟨y4,t4,w4⟩:=aT (o:=4) (hf 4 _ rfl);obtain⟨k,hk,_,_⟩:=DataW.trod_int Tryz.underlying3 t0;obtain⟨nm,hnm,_,_⟩:=DataW.trod_string Tryz.underlying9 t1;obtain⟨A,m,c,xs,h2,hs,hc,_⟩:=gL gQ Tryz.underlying166 t2 w2 (λa b z _ e f=>Cj a b z e f);obtain⟨A2,m2,c2,xs2,h3,hs2,hc2,_⟩:=gL gx Tryz.underlying119 t3 w3 (λa b z d e f=>ih a (by omega) b z e f);obtain⟨A3,m3,c3,xs3,h4,hs3,hc3,_⟩:=gL gx Tryz.underlying119 t4 w4 (λa b z d e f=>ih a (by omega) b z e f);simp only[List.getElem_cons_succ,List.getElem_cons_zero,List.cons.injEq,DA]at hk hnm h2 h3 h4;subst hk hnm h2 h3 h4;exact⟨_,StK.of k nm ⟨hc,hc2,hc3⟩ hs hs2 hs3⟩
theorem vr{x:DataW H×List MemPlace}(h:DataW.trod enc Tryz.prog w 0 spare held fuel 9 cs=some x):∃s,dH.rd w (λb=>b<w.heap.size) s cs:=by
 obtain⟨s,hs,_⟩:=DataW.trod_string Tryz.underlying9 h;exact⟨s,hs⟩
theorem wW{t:TypeId}(ht:Tryz.prog.underlying t=some (.int .i64)){x:DataW H×List MemPlace}(h:DataW.trod enc Tryz.prog w 0 spare held fuel t cs=some x):∃z,mY.rd w (λb=>b<w.heap.size) z cs:=by
 obtain⟨z,hz,_⟩:=DataW.trod_int ht h;exact⟨z,hz⟩
theorem BX{x:DataW H×List MemPlace}(h:DataW.trod enc Tryz.prog w 0 spare held fuel 121 cs=some x)(hw:Wt 121 x.1):∃m,MeK w (λb=>b<w.heap.size) m cs:=by
 obtain⟨n,rfl,hl,hf⟩:=eG Tryz.underlying121 h hw;have hl3:cs.length=3:=hl.trans (by kernel_rfl)
 match cs,hl3 with
 |[v0,v1,v2],_=>
  obtain⟨y0,t0,_⟩:=aT (o:=0) (hf 0 _ rfl);obtain⟨y1,t1,w1⟩:=aT (o:=1) (hf 1 _ rfl);obtain⟨y2,t2,w2⟩:=aT (o:=2) (hf 2 _ rfl);obtain⟨nm,hnm,_,_⟩:=DataW.trod_string Tryz.underlying9 t0;obtain⟨A,m,c,xs,h1,hs,hc,_⟩:=gL dH Tryz.underlying67 t1 w1 (λa b z _ e _=>vr e);obtain⟨A2,m2,c2,xs2,h2,hs2,hc2,_⟩:=gL gx Tryz.underlying119 t2 w2 (λa b z _ e f=>BG a b z e f);simp only[List.getElem_cons_succ,List.getElem_cons_zero,List.cons.injEq,DA]at hnm h1 h2;subst hnm h1 h2;exact⟨⟨nm,xs,xs2⟩,A,m,c,A2,m2,c2,rfl,hs,hs2,hc,hc2⟩
theorem Cm{x:DataW H×List MemPlace}(h:DataW.trod enc Tryz.prog w 0 spare held fuel 117 cs=some x)(hw:Wt 117 x.1):∃m,ClK w (λb=>b<w.heap.size) m cs:=by
 obtain⟨n,rfl,hl,hf⟩:=eG Tryz.underlying117 h hw;have hl4:cs.length=4:=hl.trans (by kernel_rfl)
 match cs,hl4 with
 |[v0,v1,v2,v3],_=>
  obtain⟨y0,t0,_⟩:=aT (o:=0) (hf 0 _ rfl);obtain⟨y1,t1,_⟩:=aT (o:=1) (hf 1 _ rfl);obtain⟨y2,t2,w2⟩:=aT (o:=2) (hf 2 _ rfl);obtain⟨y3,t3,w3⟩:=aT (o:=3) (hf 3 _ rfl);obtain⟨nm,hnm,_,_⟩:=DataW.trod_string Tryz.underlying9 t0;obtain⟨ac,hac,_⟩:=DataW.trod_bool Tryz.underlying4 t1;obtain⟨A,m,c,xs,h2,hs,hc,_⟩:=gL dH Tryz.underlying67 t2 w2 (λa b z _ e _=>vr e);obtain⟨A2,m2,c2,xs2,h3,hs2,hc2,_⟩:=gL mX Tryz.underlying115 t3 w3 (λa b z _ e f=>BX e f);simp only[List.getElem_cons_succ,List.getElem_cons_zero,List.cons.injEq,DA]at hnm hac h2 h3;subst hnm hac h2 h3;exact⟨⟨nm,ac,xs,xs2⟩,A,m,c,A2,m2,c2,rfl,hs,hs2,hc,hc2⟩
theorem Cu{x:DataW H×List MemPlace}(h:DataW.trod enc Tryz.prog w 0 spare held fuel 48 cs=some x)(hw:Wt 48 x.1):∃d,kAd.rd w (λb=>b<w.heap.size) d cs:=by
 obtain⟨n,rfl,hl,hf⟩:=eG Tryz.underlying48 h hw;have hl7:cs.length=7:=hl.trans (by kernel_rfl)
 match cs,hl7 with
 |[v0,v1,v2,v3,v4,v5,v6],_=>
  obtain⟨y0,t0,_⟩:=aT (o:=0) (hf 0 _ rfl);obtain⟨y1,t1,_⟩:=aT (o:=1) (hf 1 _ rfl);obtain⟨y2,t2,_⟩:=aT (o:=2) (hf 2 _ rfl);obtain⟨y3,t3,_⟩:=aT (o:=3) (hf 3 _ rfl);obtain⟨y4,t4,_⟩:=aT (o:=4) (hf 4 _ rfl);obtain⟨y5,t5,w5⟩:=aT (o:=5) (hf 5 _ rfl);obtain⟨y6,t6,w6⟩:=aT (o:=6) (hf 6 _ rfl);obtain⟨k,hk,_,_⟩:=DataW.trod_int Tryz.underlying3 t0;obtain⟨a,ha,_,_⟩:=DataW.trod_int Tryz.underlying3 t1;obtain⟨b,hb,_,_⟩:=DataW.trod_int Tryz.underlying3 t2;obtain⟨nm,hnm,_,_⟩:=DataW.trod_string Tryz.underlying9 t3;obtain⟨mt,hmt,_,_⟩:=DataW.trod_string Tryz.underlying9 t4;obtain⟨A,m,c,xs,h5,hs,hc,_⟩:=gL mY Tryz.underlying45 t5 w5 (λa b z _ e _=>wW Tryz.underlying2 e);obtain⟨A2,m2,c2,xs2,h6,hs2,hc2,_⟩:=gL mY Tryz.underlying46 t6 w6 (λa b z _ e _=>wW Tryz.underlying3 e);simp only[List.getElem_cons_succ,List.getElem_cons_zero,List.cons.injEq,DA]at hk ha hb hnm hmt h5 h6;subst hk ha hb hnm hmt h5 h6;exact⟨⟨k,a,b,nm,mt,xs,xs2⟩,A,m,c,A2,m2,c2,rfl,hs,hs2⟩
end
theorem ot{enc:TypeId×Value->H}{a:Assume}{C:Checked}{os:Os}{f:FuncId}{fn:Func}{s:ChangeSpec}{conds:List PathCond}{apart fresh handsOn again:Bool}{X:World->Array Value->Prop}
 (hX:∀(w w':World) (args:Array Value),w.heap=w'.heap->X w args->X w' args)
 (own:ownKnob C.prog.godebug=none) (started:os.Started) (noInit:C.prog.inits.idxOf? f=none) (hfn:C.prog.funcs[f]?=some fn)
 (witness:∃(w:World) (tape:Tape) (i:Input),w.os=os/\(w.forCall tape i).Shaped C.prog/\i.vars=[]/\Input.okWide C.prog (w.forCall tape i) .any w.heap.size f i/\
   ((s.pre enc C.prog fn conds apart (w.forCall tape i).memory i.args/\X (w.forCall tape i).memory i.args)/\sizedMet enc C.prog fn (OpenSpec.ofChange s) apart (w.forCall tape i).memory i.args)/\a.holds C.prog (lone (Frame.enter C.prog f i.args .normal) [] (w.forCall tape i)))
 (contract:∀(W:World) (base:Nat) (args:Array Value) (ds gs:List (DataW H)) (before:List MemPlace),
   (∀(j:Nat) t v,fn.params[j]?=some t->args[j]?=some v->Value.okWide C.prog W .any base t v)->
   DataW.Whole enc C.prog fn.params.toList s.vars apart W args.toList ds gs before->X W args->W.ShapedOpen C.prog->(DataW.weightsEach C.prog (fn.params.toList++(OpenSpec.ofChange s).bare.plain.varTypes C.prog) (ds++gs)).all (·<=reachBytes)=true->
   Calls C.prog f args W λe W'=>∃v,e= .returned v/\s.post enc C.prog fn apart fresh handsOn again W args v W'):
 ReturnsInHanded a C os f .any (λw args=>(s.pre enc C.prog fn conds apart w args/\X w args)/\sizedMet enc C.prog fn (OpenSpec.ofChange s) apart w args) (s.post enc C.prog fn apart fresh handsOn again):=by
 refine returnsInHanded_of_calls own started noInit witness ?_;intro w tape i _ hsh _ hok hpre _;obtain⟨_,_,_,fn',hfn',_,_,_,_,hval⟩:=hok;obtain rfl:fn'=fn:=Option.some.inj (hfn'.symm.trans hfn);obtain⟨⟨⟨ds,gs,before,hw,_⟩,hx⟩,hsz⟩:=hpre;refine(contract (w.forCall tape i) w.heap.size i.args ds gs before hval (DataW.Whole.of_heap (w':=w.forCall tape i) (by rfl) hw) (hX _ _ _ (by rfl) hx) hsh (hsz.weights hw)).mono λe W' ⟨v,he,hp⟩=>?_;subst he;exact ChangeSpec.post_blind hp
def bY:List (String×DataW Unit):=Rows.scriptFormatsRow.laid
theorem AX(hL:laidMetH Tryz.prog bY W)(hsh:W.ShapedOpen Tryz.prog):Gl W:=by
 rw[MakeChecks.laidMetH_plain _ _ _ (by kernel_rfl)]at hL;have r3:=Lib.laidMet.reads hL (show("internal/strconv.uint64pow10",Rows.laid_internal_strconv_uint64pow10)∈bY from by unfold bY Rows.scriptFormatsRow;simp);have r4:=Lib.laidMet.reads hL (show("strconv.ErrSyntax",Rows.laid_strconv_ErrSyntax)∈bY from by unfold bY Rows.scriptFormatsRow;simp);have r5:=Lib.laidMet.reads hL (show("strconv.ErrRange",Rows.laid_strconv_ErrRange)∈bY from by unfold bY Rows.scriptFormatsRow;simp);have r6:=Lib.laidMet.reads hL (show("refmesh/lexer.symbols",Rows.laid_refmesh_lexer_symbols)∈bY from by unfold bY Rows.scriptFormatsRow;simp);have r7:=Lib.laidMet.reads hL (show("refmesh/lexer.keywords",Rows.laid_refmesh_lexer_keywords)∈bY from by unfold bY Rows.scriptFormatsRow;simp)
 have h9:11<W.heap.size:=by
  obtain⟨⟨z,t⟩,h⟩:=Bu;obtain⟨cs,hh,_⟩:=hsh.1 11 z t (by rw[kr];decide) h;exact(Dt.1 hh).1
 have k7:=iL (ss:=kwN) (n:=23) (g:=11) (t:=67) (by kernel_rfl) (by kernel_rfl) (by kernel_rfl) (by kernel_rfl) (show Lib.VarReads Tryz.prog W "refmesh/lexer.keywords" (.slice (kwN.map λs=> .lit (.string s)) [])from r7);have k6:=iL (ss:=syN) (n:=18) (g:=9) (t:=67) (by kernel_rfl) (by kernel_rfl) (by kernel_rfl) (by kernel_rfl) (show Lib.VarReads Tryz.prog W "refmesh/lexer.symbols" (.slice (syN.map λs=> .lit (.string s)) [])from r6)
 exact⟨cell_of_shapedOpen_int hsh (by rw[kr];decide) Bv rfl (by kernel_rfl) (by kernel_rfl) Tryz.underlying3,
  lJ (g:=2) (t:=221) (e:=23) (n:=20) (by kernel_rfl) (by kernel_rfl) (by kernel_rfl) (by kernel_rfl) (by kernel_rfl) (by kernel_rfl) (show Lib.VarReads Tryz.prog W "internal/strconv.uint64pow10" (Lib.tabData .u64 Lib.pow10Tab)from r3),
  ic (g:=3) (t:=78) (by kernel_rfl) (by kernel_rfl) Tryz.underlying78 r4,ic (g:=4) (t:=78) (by kernel_rfl) (by kernel_rfl) Tryz.underlying78 r5,k7,k6,by omega,D8 _⟩
def vO{H:Type}:DataW H->List (DataW H)
 | .agg ps=>ps
 |_=>[]
theorem mP{enc:TypeId×Value->H}{t e N:Nat}(ht:Tryz.prog.underlying t=some (.array N e))(he:Tryz.prog.underlying e=some (.struct fs))(hce:Tryz.prog.cellsOf e=K)
 {ds:List (DataW H)} {p:List MemPlace} (h:DataW.trod enc Tryz.prog w 0 spare held fuel t cs=some (.agg ds,p)) {j:Nat} {parts:List (DataW H)} {d:DataW H} (hi:ds[i]?=some (.agg parts)) (hj:parts[j]?=some d)
 (hf:fs[j]?=some f) (hcf:Tryz.prog.cellsOf f.type=1) (ho:f.offset<K):∃n v p',cs[i*K+f.offset]?=some v/\DataW.trod enc Tryz.prog w 0 spare held n f.type [v]=some (d,p'):=by
 obtain⟨xs,m,_,hx,hl,hxl,hel⟩:=DataW.trod_array ht h;simp only[Prod.mk.injEq,DataW.agg.injEq]at hx;obtain⟨rfl,_⟩:=hx;rw[DK]at hi;obtain⟨y,hy,hyp⟩:=DO.1 hi;have hiN:i<N:=by rw[<-hxl];exact(De.1 hy).1
 have h1:=hel i hiN;rw[hy]at h1;obtain⟨ys,m2,_,hx2,hl2,_,hf2⟩:=DataW.trod_struct he h1;rw[hx2]at hyp;simp only[DataW.agg.injEq]at hyp;subst hyp;rw[DK]at hj;obtain⟨z,hz,hzd⟩:=DO.1 hj;have h3:=hf2 j f hf;rw[hz,hcf]at h3;rw[hce]at h3 hl2;have hlt:f.offset<((cs.drop (i*K)).take K).length:=by rw[hl2];exact ho
 rw[qo hlt]at h3;refine⟨m2,_,z.2,?_,by rw[h3,<-hzd]⟩;rw[<-Df hlt,List.getElem?_take_of_lt ho,List.getElem?_drop]
theorem xF{enc:TypeId×Value->H}{n:Nat}{bs:List UInt8}{p:List MemPlace}(h:DataW.trod enc Tryz.prog w 0 spare held n 9 [v]=some (.lit (.string bs),p)):v= .string ⟨bs.toArray⟩:=by
 obtain⟨s,hs,hx,_⟩:=DataW.trod_string Tryz.underlying9 h;simp only[Prod.mk.injEq,DataW.lit.injEq,Lit.string.injEq]at hx;simp only[List.cons.injEq,DA]at hs;rw[hs,hx.1]
theorem mK{enc:TypeId×Value->H}{n:Nat}{z:Int}{p:List MemPlace}(h:DataW.trod enc Tryz.prog w 0 spare held n 3 [v]=some (.lit (.int .i64 z),p)):v= .int .i64 z:=by
 obtain⟨s,hs,hx,_⟩:=DataW.trod_int Tryz.underlying3 h;simp only[Prod.mk.injEq,DataW.lit.injEq,Lit.int.injEq]at hx;simp only[List.cons.injEq,DA]at hs;rw[hs,hx.1.2]
theorem kC{enc:TypeId×Value->H}{n:Nat}{z:Bool}{p:List MemPlace}(h:DataW.trod enc Tryz.prog w 0 spare held n 4 [v]=some (.lit (.bool z),p)):v= .bool z:=by
 obtain⟨s,hs,hx⟩:=DataW.trod_bool Tryz.underlying4 h;simp only[Prod.mk.injEq,DataW.lit.injEq,Lit.bool.injEq]at hx;simp only[List.cons.injEq,DA]at hs;rw[hs,hx.1]
theorem As(h:Lib.VarReads Tryz.prog W "refmesh/syntax.operators" Rows.laid_refmesh_syntax_operators)(o:Nat)(ho:o<=12):W.cell? ⟨10,o*2,none⟩=some (.string (bD o))/\W.cell? ⟨10,o*2+1,none⟩=some (.int .i64 (ap (o:Int):Nat)):=by
 obtain⟨g,t,cs,fuel,p,h1,h2,h3,h4⟩:=h;obtain rfl:g=10:=(Option.some.inj ((show Tryz.prog.globalNamed "refmesh/syntax.operators"=some 10 by kernel_rfl).symm.trans h1)).symm;obtain rfl:t=310:=(Option.some.inj ((show(Tryz.prog.globals[10]?).map (·.type)=some 310 by kernel_rfl).symm.trans h2)).symm;have hcell:∀i v,cs.toList[i]?=some v->W.cell? ⟨10,i,none⟩=some v:=λi v hv=>(World.var?_cell (show Tryz.prog.globalNamed "refmesh/syntax.operators"=some 10 by kernel_rfl) h3 i).trans (by simpa using hv);obtain⟨ds,hds⟩:∃ds,ds=vO (Rows.laid_refmesh_syntax_operators:DataW Unit):=⟨_,rfl⟩
 have hd:ds[o]?=some (.agg [.lit (.string (bD o).data.toList),.lit (.int .i64 (ap (o:Int):Nat))]):=by
  subst hds;have ho':o=0\/o=1\/o=2\/o=3\/o=4\/o=5\/o=6\/o=7\/o=8\/o=9\/o=10\/o=11\/o=12:=by omega
  rcases ho' with rfl|rfl|rfl|rfl|rfl|rfl|rfl|rfl|rfl|rfl|rfl|rfl|rfl<;>rfl
 have h5:DataW.trod (λ_=>()) Tryz.prog W 0 (λ_=>true) false fuel 310 cs.toList=some (.agg ds,p):=by rw[hds];exact h4
 obtain⟨n0,v0,p0,c0,t0⟩:=mP (K:=2) Tryz.underlying310 Tryz.underlying309 (by kernel_rfl) h5 (i:=o) (j:=0) hd rfl rfl (by kernel_rfl) (by decide);obtain⟨n1,v1,p1,c1,t1⟩:=mP (K:=2) Tryz.underlying310 Tryz.underlying309 (by kernel_rfl) h5 (i:=o) (j:=1) hd rfl rfl (by kernel_rfl) (by decide);exact⟨(hcell _ _ c0).trans (by rw[xF t0]),(hcell _ _ c1).trans (by rw[mK t1])⟩
theorem rF(h:Lib.VarReads Tryz.prog W "refmesh/syntax.forms" Rows.laid_refmesh_syntax_forms)(k:Nat)(hk:k<=9):∃(a b:Int) (x y z:Bool),[(1,1,true,false,false),(1,1,true,false,false),(2,2,true,false,false),(1,1,false,true,true),(1,1,false,true,false),(1,4611686018427387904,true,false,false),(1,1,false,false,false),(2,2,false,false,false),(2,2,true,false,false),((0:Int),(0:Int),false,false,false)][k]?=some (a,b,x,y,z)/\
 W.cell? ⟨1,k*5,none⟩=some (.int .i64 a)/\W.cell? ⟨1,k*5+1,none⟩=some (.int .i64 b)/\W.cell? ⟨1,k*5+2,none⟩=some (.bool x)/\W.cell? ⟨1,k*5+3,none⟩=some (.bool y)/\W.cell? ⟨1,k*5+4,none⟩=some (.bool z):=by
 obtain⟨g,t,cs,fuel,p,h1,h2,h3,h4⟩:=h;obtain rfl:g=1:=(Option.some.inj ((show Tryz.prog.globalNamed "refmesh/syntax.forms"=some 1 by kernel_rfl).symm.trans h1)).symm;obtain rfl:t=216:=(Option.some.inj ((show(Tryz.prog.globals[1]?).map (·.type)=some 216 by kernel_rfl).symm.trans h2)).symm;have hcell:∀i v,cs.toList[i]?=some v->W.cell? ⟨1,i,none⟩=some v:=λi v hv=>(World.var?_cell (show Tryz.prog.globalNamed "refmesh/syntax.forms"=some 1 by kernel_rfl) h3 i).trans (by simpa using hv);obtain⟨ds,hds⟩:∃ds,ds=vO (Rows.laid_refmesh_syntax_forms:DataW Unit):=⟨_,rfl⟩
 have hd:∃(a b:Int) (x y z:Bool),[(1,1,true,false,false),(1,1,true,false,false),(2,2,true,false,false),(1,1,false,true,true),(1,1,false,true,false),(1,4611686018427387904,true,false,false),(1,1,false,false,false),(2,2,false,false,false),(2,2,true,false,false),((0:Int),(0:Int),false,false,false)][k]?=some (a,b,x,y,z)/\
  ds[k]?=some (.agg [.lit (.int .i64 a),.lit (.int .i64 b),.lit (.bool x),.lit (.bool y),.lit (.bool z)]):=by
  subst hds;have hk':k=0\/k=1\/k=2\/k=3\/k=4\/k=5\/k=6\/k=7\/k=8\/k=9:=by omega
  rcases hk' with rfl|rfl|rfl|rfl|rfl|rfl|rfl|rfl|rfl|rfl<;>exact⟨_,_,_,_,_,rfl,rfl⟩
 obtain⟨a,b,x,y,z,he,hd⟩:=hd;have h5:DataW.trod (λ_=>()) Tryz.prog W 0 (λ_=>true) false fuel 216 cs.toList=some (.agg ds,p):=by rw[hds];exact h4
 obtain⟨n0,v0,p0,c0,t0⟩:=mP (K:=5) Tryz.underlying216 Tryz.underlying215 (by kernel_rfl) h5 (i:=k) (j:=0) hd rfl rfl (by kernel_rfl) (by decide);obtain⟨n1,v1,p1,c1,t1⟩:=mP (K:=5) Tryz.underlying216 Tryz.underlying215 (by kernel_rfl) h5 (i:=k) (j:=1) hd rfl rfl (by kernel_rfl) (by decide);obtain⟨n2,v2,p2,c2,t2⟩:=mP (K:=5) Tryz.underlying216 Tryz.underlying215 (by kernel_rfl) h5 (i:=k) (j:=2) hd rfl rfl (by kernel_rfl) (by decide);obtain⟨n3,v3,p3,c3,t3⟩:=mP (K:=5) Tryz.underlying216 Tryz.underlying215 (by kernel_rfl) h5 (i:=k) (j:=3) hd rfl rfl (by kernel_rfl) (by decide);obtain⟨n4,v4,p4,c4,t4⟩:=mP (K:=5) Tryz.underlying216 Tryz.underlying215 (by kernel_rfl) h5 (i:=k) (j:=4) hd rfl rfl (by kernel_rfl) (by decide);exact⟨a,b,x,y,z,he,(hcell _ _ c0).trans (by rw[mK t0]),(hcell _ _ c1).trans (by rw[mK t1]),(hcell _ _ c2).trans (by rw[kC t2]),(hcell _ _ c3).trans (by rw[kC t3]),(hcell _ _ c4).trans (by rw[kC t4])⟩
theorem AW(hL:laidMetH Tryz.prog bY W):GlF W:=by
 rw[MakeChecks.laidMetH_plain _ _ _ (by kernel_rfl)]at hL;have r1:=Lib.laidMet.reads hL (show("refmesh/syntax.operators",Rows.laid_refmesh_syntax_operators)∈bY from by unfold bY Rows.scriptFormatsRow;simp);have r2:=Lib.laidMet.reads hL (show("refmesh/syntax.forms",Rows.laid_refmesh_syntax_forms)∈bY from by unfold bY Rows.scriptFormatsRow;simp);exact⟨As r1,rF r2⟩
theorem vv{enc:TypeId×Value->H}{n:Nat}(hc:Tryz.prog.cellsOf t'=K)(h:∃y,DataW.trod enc Tryz.prog w 0 spare held n t' ((cs.drop o).take (Tryz.prog.cellsOf t'))=some y/\Wt t' y.1):
 ∃y,DataW.trod enc Tryz.prog w 0 spare held n t' ((cs.drop o).take K)=some y/\Wt t' y.1:=by
 rwa[hc]at h
theorem BJ{enc:TypeId×Value->H}{v0:Value}(hs:∃cs,v0= .agg cs){x:DataW H×List MemPlace}(h:DataW.trod enc Tryz.prog w 0 spare held fuel 35 v0.cells.toList=some x)(hw:Wt 35 x.1):
 ∃(s:Sc) (A:Option Addr) (n c:Nat) (A2:Option Addr) (n2 c2:Nat),v0= .agg #[.int .i64 s.m,.int .u64 s.sd,.int .i64 s.y,.slice A n c,.slice A2 n2 c2]/\Sl eZ w (λb=>b<w.heap.size) s.cs A n/\Sl kAd w (λb=>b<w.heap.size) s.ac A2 n2/\
  0<=s.sd/\s.sd<=18446744073709551615/\n2<=140737488355328:=by
 obtain⟨cs,rfl⟩:=hs;obtain⟨L,hcs⟩:=nm_ (cs.toList);change DataW.trod enc Tryz.prog w 0 spare held fuel 35 cs.toList=some x at h;rw[hcs]at h;obtain⟨f1,rfl,hl,hf⟩:=eG Tryz.underlying35 h hw;have hl5:L.length=5:=hl.trans (by kernel_rfl)
 match L,hl5 with
 |[v0,v1,v2,v3,v4],_=>
  obtain⟨y0,t0,w0⟩:=vv (t':=25) (o:=0) (K:=3) (by kernel_rfl) (hf 0 _ rfl);obtain⟨y1,t1,w1⟩:=vv (t':=28) (o:=3) (K:=1) (by kernel_rfl) (hf 1 _ rfl);change DataW.trod enc Tryz.prog w 0 spare held f1 25 [v0,v1,v2]=some y0 at t0;change DataW.trod enc Tryz.prog w 0 spare held f1 28 [v3]=some y1 at t1;obtain⟨f2,rfl,hl2,hf2⟩:=eG Tryz.underlying25 t0 w0;obtain⟨f3,hf3',hl3,hf3⟩:=eG Tryz.underlying28 t1 w1;obtain⟨y2,t2,w2⟩:=aT (o:=4) (hf 2 _ rfl);obtain⟨z0,s0,_⟩:=aT (o:=0) (hf2 0 _ rfl);obtain⟨z1,s1,_⟩:=aT (o:=1) (hf2 1 _ rfl);obtain⟨z2,s2,_⟩:=aT (o:=2) (hf2 2 _ rfl);obtain⟨z3,s3,w3⟩:=aT (o:=0) (hf3 0 _ rfl);obtain⟨m,hm,_,_⟩:=DataW.trod_int Tryz.underlying3 s0;obtain⟨sd,hsd,_,hwf⟩:=DataW.trod_int Tryz.underlying23 s1;obtain⟨y,hy,_,_⟩:=DataW.trod_int Tryz.underlying3 s2;obtain⟨A,n,c,xs,h3,hs3,_,_⟩:=gL eZ Tryz.underlying26 s3 w3 (λa b z _ e f=>Cm e f);obtain⟨A2,n2,c2,ds,h4,hs4,_,hb⟩:=gL kAd Tryz.underlying29 t2 w2 (λa b z _ e f=>Cu e f);simp only[List.getElem_cons_succ,List.getElem_cons_zero,List.cons.injEq,DA]at hm hsd hy h3 h4;subst hm hsd hy h3 h4;have hb2:0<=sd/\sd<=18446744073709551615:=by simpa[Lit.wf,IntKind.min,IntKind.max,IntKind.signed,IntKind.bits]using hwf
  refine⟨⟨m,sd,y,xs,ds⟩,A,n,c,A2,n2,c2,?_,hs3,hs4,hb2.1,hb2.2,hb⟩
  congr 1
  exact Array.toList_inj.1 hcs
end
end Go.Proofs.YtjpbckbpeblibaaGreatDoor
