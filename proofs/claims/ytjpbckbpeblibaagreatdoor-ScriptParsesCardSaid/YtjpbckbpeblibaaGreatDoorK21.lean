/- part of a proof -/
import Derived.Test.YtjpbckbpeblibaaGreatDoorK20
namespace Go.Proofs.YtjpbckbpeblibaaGreatDoor
set_option linter.unusedVariables false
set_option linter.unusedSimpArgs false
set_option maxRecDepth 100000
set_option maxHeartbeats 64000000
section
open Go.RowKit
variable{A:Option Addr}{T:List Tk}{W w:World}{a b1 b2 bq:Bool}{c i j k l n p q:Nat}{fs:List ByteArray}{ms:List Me}{r:R Cl}{s:ByteArray}
set_option pp.deepTerms true
set_option pp.maxSteps 10000000
theorem Al{Q:Ending->World->Prop}{b:Bool}(h:RS w p A c T i b)(s:ByteArray)
 (hk:∀r:Bool,(r=true->b=false/\isT T s i=true)->(r=false->b=true\/isT T s i=false)->∀w',RS w' p A c T (bif r then i+1 else i) b->Bx w.heap.size p w w'->Q (.returned (.bool r)) w'):
 Calls Tryz.prog 142 #[.pointer (some ⟨p,0,none⟩),.string s] w Q:=
 am h s (λhb ht w' P k=>hk true (λ_=>⟨hb,ht⟩) nofun w' (by subst hb;exact P) k) (λhn w' P k=>hk false nofun (λ_=>hn) w' P k)
theorem zY{b:Bool}(h:RS w p A c T i b):
 ∃w0,w.alloc (.cells #[.string ⟨#[]⟩,.bool false,.slice none 0 0,.slice none 0 0] 117)=w0/\Blk w0 w.heap.size 117 #[.string ⟨#[]⟩,.bool false,.slice none 0 0,.slice none 0 0]/\Bx w.heap.size p w w0/\RS w0 p A c T i b:=
 ⟨_,rfl,Blk.new w 117 _,(Bx.refl _ _ _).new _ (AB _),h.alloc _⟩
theorem Ag{fn:Func}{s:Tmp}{tmps:Array Value}{g:Nat}{b:Bool}{x:Cl}{G:Nat->Prop}{o0 o1 o2 o3 v0 v1 v2 v3:Value}
 (hf:fn.results= #[.cell s 117]) (hs:tmps.getD s undef= .pointer (some ⟨g,0,none⟩)) (q:Blk W g 117 #[o0,o1,o2,o3]) (hx:ClC W G x [v0,v1,v2,v3])
 (hG:∀b,G b->g<b/\b<W.heap.size) (hP:RS W p A c T j b) (hr:Is r x j b) (hij:i<=j) (hB:Bx g p w W) (hg:w.heap.size=g) (hp:p<g):
 bodyPost Tryz.prog fn (ROut (rvC kCl) p A c T w i r) .ret {tmps:=tmps,defers:=[]} ((((W.setCell ⟨g,0,none⟩ v0).setCell ⟨g,1,none⟩ v1).setCell ⟨g,2,none⟩ v2).setCell ⟨g,3,none⟩ v3):=by
 obtain⟨N1,N2⟩:=wR q v0 v1 v2 v3;have hgl:=q.lt;refine lZ g 117 _ _ hf hs N1 Tryz.underlying117 rfl nT ⟨_,x,j,b,rfl,⟨_,rfl,kCl.aA (λk hk=>⟨⟨by rw[hg];exact Be (hG k hk).1,AF (hG k hk).2 N2.size⟩,N2.block k (hG k hk).2 (by have:=(hG k hk).1;omega)⟩) hx⟩,hP.aA N2 (by omega),hr,hij,?_⟩;subst hg;exact hB.put N2 (AB _) (AB _)
section
variable{T:List Tk}{n i:Nat}{b:Bool}
def mf(T:List Tk)(n:Nat)(a:Bool)(s:ByteArray)(fs:List ByteArray)(k:Nat)(ms:List Me)(l:Nat):R Cl:=
 match(if a=true then aS T n k ms l else .ok ms l)with
 | .bad p=> .bad p
 | .ok ms p=>match ap T gn p with
   | .bad q=> .bad q
   | .ok _ q=> .ok ⟨s,a,fs,ms⟩ q
def ob(T:List Tk)(n:Nat)(a:Bool)(s:ByteArray)(k:Nat)(fs:List ByteArray)(l:Nat):R Cl:=
 match bK T k fs l with
 | .bad m=> .bad m
 | .ok fs m=>mf T n a s fs (T.length+1) [] m
theorem lO(h1:Is (lif (aj T 3) i b) s j b1)(h2:Is (lif (ap T jT) j b1) () l b2):
 lif (cw T n a) i b=lif (ob T n a s (T.length+1) []) l b2:=by
 cases b with
 |true=>
  obtain⟨rfl,rfl⟩:=Is.aD h1;obtain⟨rfl,rfl⟩:=Is.aD h2;rfl
 |false=>
  have e1:aj T 3 i=if b1=true then .bad j else .ok s j:=h1;rw[aU];unfold cw;rw[e1];cases b1 with
  |true=>
   obtain⟨rfl,rfl⟩:=Is.aD h2;rfl
  |false=>
   have e2:ap T jT j=if b2=true then .bad l else .ok () l:=h2;simp only[AU,BO];rw[e2];cases b2<;>rfl
theorem vY{nm:ByteArray}(hr:r=lif (ob T n a s (k+1) fs) q false)(ht:isT T vt q=true)(h1:Is (lif (aj T 2) (q+1) false) nm j b1)(h2:Is (lif (ap T mi) j b1) () l b2):
 r=lif (ob T n a s k (fs++[nm])) l b2:=by
 have e1:aj T 2 (q+1)=if b1=true then .bad j else .ok nm j:=h1;rw[hr,aU]
 conv=>lhs;unfold ob bK;rw[AP ht,e1]
 cases b1 with
 |true=>
  obtain⟨rfl,rfl⟩:=Is.aD h2;rfl
 |false=>
  have e2:ap T mi j=if b2=true then .bad l else .ok () l:=h2;simp only[AU,BO];rw[e2];cases b2<;>rfl
theorem vX(hr:r=lif (ob T n a s (k+1) fs) q bq)(ht:bq=true\/isT T vt q=false):
 r=lif (mf T n a s fs (T.length+1) []) q bq:=by
 rw[hr];cases bq with
 |true=>rfl
 |false=>
  rw[aU];unfold ob bK;rw[AL (by rcases ht with h|h;cases h;rw[h];decide)];rfl
theorem vZ{me:Me}(hr:r=lif (mf T n true s fs (k+1) ms) q false)(ht:isT T kOn q=true)(h:Is (lif (dM T n) (q+1) false) me j b1):
 r=lif (mf T n true s fs k (ms++[me])) j b1:=by
 have e1:dM T n (q+1)=if b1=true then .bad j else .ok me j:=h;rw[hr,aU]
 conv=>lhs;unfold mf aS;rw[AP rfl,AP ht,e1]
 cases b1<;>rfl
theorem rV(hr:r=lif (mf T n a s fs (k+1) ms) q bq)(ht:a=false\/bq=true\/isT T kOn q=false)(h:Is (lif (ap T gn) q bq) () j b1):
 Is r ⟨s,a,fs,ms⟩ j b1:=by
 unfold Is;rw[hr];cases bq with
 |true=>
  obtain⟨rfl,rfl⟩:=Is.aD h;rfl
 |false=>
  have e1:ap T gn q=if b1=true then .bad j else .ok () j:=h
  have e2:(if a=true then aS T n (k+1) ms q else .ok ms q)= .ok ms q:=by
   cases a with
   |false=>rfl
   |true=>
    rw[AP rfl];unfold aS;rw[AL (by rcases ht with h|h|h;cases h;cases h;rw[h];decide)]
  rw[aU];unfold mf;rw[e2];simp only;rw[e1];cases b1<;>rfl
theorem tc{m:Nat}{b3:Bool}{ps:List ByteArray}{body:List St}(h1:Is (lif (aj T 2) i b) s j b1)(h2:Is (lif (bg T (aj T 2)) j b1) ps l b2)(h3:Is (lif (bp T (S T n)) l b2) body m b3):
 Is (lif (dM T n) i b) ⟨s,ps,body⟩ m b3:=by
 cases b with
 |true=>
  obtain⟨rfl,rfl⟩:=Is.aD h1;obtain⟨rfl,rfl⟩:=Is.aD h2;obtain⟨rfl,rfl⟩:=Is.aD h3;rfl
 |false=>
  have e1:aj T 2 i=if b1=true then .bad j else .ok s j:=h1;rw[aU];unfold dM;rw[e1];cases b1 with
  |true=>
   obtain⟨rfl,rfl⟩:=Is.aD h2;obtain⟨rfl,rfl⟩:=Is.aD h3;rfl
  |false=>
   have e2:bg T (aj T 2) j=if b2=true then .bad l else .ok ps l:=h2;simp only[AU,BO];rw[e2];cases b2 with
   |true=>
    obtain⟨rfl,rfl⟩:=Is.aD h3;rfl
   |false=>
    have e3:bp T (S T n) l=if b3=true then .bad m else .ok body m:=h3;simp only[AU,BO];rw[e3];cases b3<;>rfl
theorem qK{b o:Nat}(h:w.cell? ⟨b,o,none⟩=some (.slice A n c)):(Instr.loadAt 67 (.pointer (some ⟨b,o,none⟩))).run Tryz.prog w= .ok (.slice A n c) w:=by
 simp[Instr.loadAt,Instr.sureAddr,asAddr,Result.andThen,h,go_sem]
theorem nE(w:World)(t:ByteArray):(Instr.buildSlice 67 1 #[(0,.string t)]).run Tryz.prog w= .ok (.slice (some ⟨w.heap.size,0,none⟩) 1 1) (w.alloc (.cells #[.string t] 9)):=by
 kernel_rfl
theorem yA{base:Nat}{Z:Nat->Prop}{xs:List ByteArray}(h:Vec ea 9 base Z w (.slice A n c) xs)(hl:xs.length<=BD)(hs:w.heap.size<=W.heap.size)(hb:∀k,NG base Z w k->W.heap[k]?=w.heap[k]?):Sl ea W (NG base Z w) xs A n:=
 (h.slice hl).aA λb hb'=>⟨hb',hb b hb'⟩
theorem xY(hn:T.length<n)(hq:tG T)(p c:Nat)(A:Option Addr)(w:World)(h:RS w p A c T i false):
 Calls Tryz.prog 92 #[.pointer (some ⟨p,0,none⟩)] w (ROut (rvC kCl) p A c T w i (gm T n i)):=by
 have hp:=h.aG.lt;have hT:=h.wf.few;have hiT:=h.lt;obtain⟨w0,hw0,q0,b0,P0⟩:=zY h;have Q0:=H_ q0;have B0:=H_ b0;have HP0:=H_ P0;have HNQ:=H_ hq;clear h q0 b0 P0 hq;go_enter Tryz.func92,Tryz.ntmps92;go_upto_region 1 with(fail);have hsz:=B0.out.size;have hg0:w.heap.size<w0.heap.size:=Q0.out.lt;obtain⟨g,hgz⟩:=nm_ (w.heap.size);rw[hgz]at Q0 hg0⊢;clear hw0;go_wp2_with fail;refine Al HP0.out fj (λa ha1 ha2 w1 P1 b1=>?_);obtain⟨hs1,B1,Q1,qlt1⟩:=fr1 B0 Q0 b1;have HP1:=H_ P1;have HA1:=H_ ha1;have HA2:=H_ ha2;clear Q0 B0 HP0 P1 b1 ha1 ha2;go_upto_region 2 with fail;obtain⟨e,hez⟩:=nm_ (w1.heap.size);rw[hez];obtain⟨w2,hw2⟩:=nm_ (w1.alloc (.cells #[.string ⟨#[]⟩,.bool a,.slice none 0 0,.slice none 0 0] 117));have E2:=H_ (show Blk w2 e 117 _ from hw2▸hez▸Blk.new w1 117 #[.string ⟨#[]⟩,.bool a,.slice none 0 0,.slice none 0 0]);have b2:Bx w1.heap.size p w1 w2:=bxn hw2;have P2:RS w2 p A c T (bif a then i+1 else i) false:=hw2▸HP1.out.alloc _;rw[hw2];clear hw2;obtain⟨hs2,B2,Q2,qlt2⟩:=fr1 B1 Q1 b2;have HP2:=H_ P2;clear Q1 B1 HP1 P2 b2;have y1:w2.cell? ⟨e,1,none⟩=some (.bool a):=E2.out.cell 1;go_upto_if 10 with fail;clear y1
 go_cut [10] (λ_ U=>∃(j3:Nat) (e3:Bool),i<=j3/\w2.heap.size<=U.heap.size/\Hid (RS U p A c T j3 e3)/\Hid (Blk U e 117 #[.string ⟨#[]⟩,.bool a,.slice none 0 0,.slice none 0 0])/\Hid (Blk U g 117 #[.string ⟨#[]⟩,.bool false,.slice none 0 0,.slice none 0 0])/\Hid (Bx w.heap.size p w U)/\
  Hid (∀(s:ByteArray) (j l:Nat) (b1 b2:Bool),Is (lif (aj T 3) j3 e3) s j b1->Is (lif (ap T jT) j b1) () l b2->gm T n i=lif (ob T n a s (T.length+1) []) l b2))
 case first=>
  cases a with
  |true=>
   have HK:=H_ (HA1.out rfl).2;go_wp2_with fail;go_meet;refine⟨i+1,false,by omega,AB _,HP2,E2,Q2,B2,H_ λs j l b1 b2 h1 h2=>?_⟩;unfold gm;rw[AP HK.out];exact lO h1 h2
  |false=>
   have HK:=H_ ((HA2.out rfl).elim (λh=>by cases h) id);go_wp2_with fail;refine bA HP2.out ei (λj3 e3 w3 P3 hr hij3 b3=>?_);have HR3:=H_ (show Is (lif (ap T ei) i false) () j3 e3 from hr);have hij:i<=j3:=hij3;clear hr hij3;obtain⟨hs3,B3,Q3,qlt3,E3,elt3⟩:=fr2 B2 Q2 E2 b3;have HP3:=H_ P3;clear Q2 E2 B2 HP2 P3 b3;go_wp2_with fail;go_meet;refine⟨j3,e3,hij,hs3,HP3,E3,Q3,B3,H_ λs j l b1 b2 h1 h2=>?_⟩;unfold gm;rw[AL (by rw[HK.out];decide)];have e1:ap T ei i=if e3=true then .bad j3 else .ok () j3:=HR3.out;rw[e1];refine Eq.trans ?_ (lO (a:=false) h1 h2);cases e3<;>rfl
 obtain⟨j3,e3,hij3,hsc,HP3,E3,Q3,B3,HOP⟩:=hcut;have qlt3:=Q3.out.lt;have elt3:=E3.out.lt;clear HP2 E2 Q2 B2;have hfl:=cX;go_wp2_with fail;refine du HP3.out 3 (by decide) (λkk4 s zz4 qq4 j4 e4 w4 P4 hr hij4 b4=>?_);have HR4:=H_ (show Is (lif (aj T 3) j3 e3) s j4 e4 from hr);clear hr;obtain⟨hs4,B4,Q4,qlt4,E4,elt4⟩:=fr2 B3 Q3 E3 b4;have HP4:=H_ P4;clear Q3 E3 B3 HP3 P4 b4;have x0:w4.cell? ⟨e,0,none⟩=some (.string ⟨#[]⟩):=E4.out.cell 0;have x0f:=E4.out.frozen 0;go_upto_region 5 with fail;obtain⟨w5,hw5⟩:=nm_ (w4.setCell ⟨e,0,none⟩ (.string s));have bw:Bx w4.heap.size e w4 w5:=hw5▸(Bx.refl _ _ _).aJ (.inr rfl) _;have E5:=hs0 E4 hw5;have Q5:=hbx Q4 bw;have HP5:=H_ (HP4.out.aA bw (by omega));have B5:=H_ (B4.out.put bw (by omega) (AB _));have hs5:=bw.size;have elt5:=E5.out.lt;have qlt5:=Q5.out.lt;rw[hw5];clear hw5 bw E4 Q4 HP4 B4 x0 x0f;go_wp2_with fail;refine bA HP5.out jT (λj6 e6 w6 P6 hr hij6 b6=>?_);have HR6:=H_ hr;clear hr;obtain⟨hs6,B6,Q6,qlt6,E6,elt6⟩:=fr2 B5 Q5 E5 b6;have HP6:=H_ P6;clear Q5 E5 B5 HP5 P6 b6;have HCL:=H_ (HOP.out _ _ _ _ _ HR4.out HR6.out);clear HR4 HR6 HOP;go_wp2_with fail
 go_loopg [] (T.length-j6) (λkk wr=>∃(fs:List ByteArray) (q:Nat) (bq:Bool) (A':Option Addr) (c':Nat),kk=T.length-q/\Hid (Blk wr e 117 #[.string s,.bool a,.slice A' fs.length c',.slice none 0 0])/\Hid (Vec ea 9 g (two g e) wr (.slice A' fs.length c') fs)/\
  Hid (Blk wr g 117 #[.string ⟨#[]⟩,.bool false,.slice none 0 0,.slice none 0 0])/\Hid (RS wr p A c T q bq)/\Hid (Bx w.heap.size p w wr)/\i<=q/\fs.length<=q/\Hid (∃m,T.length+1<=m+q/\gm T n i=lif (ob T n a s m fs) q bq))
 case atStart=>exact⟨[],j6,e6,none,0,rfl,E6,H_ (Vec.nil _ _ _ _ _),Q6,HP6,B6,by omega,by simp,H_ ⟨T.length+1,by omega,HCL.out⟩⟩
 case round=>
  clear E6 Q6 B6 HP6 HCL;obtain⟨fs,q,bq,A',c',rfl,Er,Vr,Qr,HPr,Br,hiq,hfq,HEr⟩:=hrel;have hqT:=HPr.out.lt;have eltr:=Er.out.lt;have qltr:=Qr.out.lt;have hsr:=Br.out.size;go_wp2_with fail;refine am HPr.out vt (λhbq ht w10 P10 b10=>?_) (λht w10 P10 b10=>?_)
  ·subst hbq;have HT:=H_ ht;have E10:=hbx Er b10;have Q10:=hbx Qr b10;have V10:=hvk Vr b10;have B10:=hth Br b10;have HP10:=H_ P10;have hs10:=b10.size;have elt10:=E10.out.lt;have qlt10:=Q10.out.lt;clear ht P10 b10 Er Qr Vr Br HPr;go_upto_region 7 with fail;obtain⟨j11,e11,hsj⟩:=Is.known (lif (aj T 2) (q+1) false)
   refine ay 3 6 (λys=>{tmps:= #[.pointer (some ⟨p,0,none⟩),undef,.pointer (some ⟨g,0,none⟩),.pointer (some ⟨e,0,none⟩),undef,u5,u6,u7,u8,u9,u10,u11,u12,.pointer (some ⟨p,0,none⟩),.agg #[.int .i64 kk4,.string s,.int .i64 zz4,.int .i64 qq4],.string s,.pointer (some ⟨e,0,none⟩),.pointer (some ⟨p,0,none⟩),.tuple #[],.pointer (some ⟨p,0,none⟩),.bool true,(ys 0).getD u21,(ys 1).getD u22,(ys 2).getD u23,(ys 3).getD u24,(ys 4).getD u25,(ys 5).getD u26,u27,u28,u29,u30,u31,u32,u33,u34,u35,u36,u37,u38,u39,u40,u41,u42,u43,u44,u45,u46,u47,u48,u49,u50,u51,u52,u53,u54,u55,u56,u57,u58,u59,u60,u61,u62,u63,u64,u65,u66,u67,u68,u69,u70,u71,u72,u73,u74,u75,u76,u77],defers:=[]})
    (RQ w10 p A c T (q+1) false j11 e11) w10.heap.size
    (λkx=>match kx with
      |0=>fEq (.pointer (some ⟨e,2,none⟩))
      |1=>fEq (.slice A' fs.length c')
      |2=>fEq (.pointer (some ⟨p,0,none⟩))
      |3=>fTk (lif (aj T 2) (q+1) false) j11 e11
      |4=>fTx (lif (aj T 2) (q+1) false) j11 e11
      |_=>λv W=>∃t a,v= .slice (some ⟨a,0,none⟩) 1 1/\RowA w10.heap.size W a #[.string t] 9/\Is (lif (aj T 2) (q+1) false) t j11 e11)
    (by
      intro k
      match k with
      |0=>exact fEq.st _ _
      |1=>exact fEq.st _ _
      |2=>exact fEq.st _ _
      |3=>exact fTk.st
      |4=>exact fTx.st
      |_+5=>exact λ_ _ _ hn ⟨t,a,h1,h2,h3⟩=>⟨t,a,h1,h2.nw hn,h3⟩)
    (by kernel_rfl) (by kernel_rfl) (by decide) (by kernel_rfl) (by decide) rfl ⟨(Bx.refl _ _ _).drew,HP10.out.drew⟩ ?_ ?_ ?_
   ·intro i' hi hic b ys W hJ hd;obtain rfl|rfl|rfl|rfl|rfl:i'=0\/i'=1\/i'=2\/i'=4\/i'=5:=by omega
    ·exact rdO hJ
    ·obtain⟨_,h0,rfl⟩:=hd 0;exact ldO rfl rfl (gd h0 _) (qK ((E10.out.bx hJ.1 (by omega) (by omega)).cell 2)) hJ
    ·exact mvO hJ
    ·obtain⟨_,h3,k7,t,z7,q7,rfl,ht⟩:=hd 3;refine stp rfl (by kernel_rfl) λK hK=>?_;refine lp (x:= .tmp 24) rfl (gd h3 _) (cX _ _ _ _ _) ?_;exact hK _ _ ⟨_,rfl,hJ,⟨t,rfl,ht⟩,Nw.refl _ _⟩
    ·obtain⟨_,h4,t,rfl,ht⟩:=hd 4;have hb:=(AC W.heap.size W).alloc (AB _) (.cells #[.string t] 9);refine stp rfl (by kernel_rfl) λK hK=>?_;refine ip (x:= .tmp 25) rfl (gd h4 _) (nE W _) ?_;exact hK _ _ ⟨.slice (some ⟨W.heap.size,0,none⟩) 1 1,rfl,hJ.below hb,⟨t,W.heap.size,rfl,⟨hJ.1.size,Blk.new W 9 _⟩,ht⟩,Nw.below hb⟩
   ·intro ys W hJ hd;obtain⟨_,h2,rfl⟩:=hd 2;have hsW:=hJ.1.size;refine stp rfl (by kernel_rfl) λK hK=>?_;refine cV (n:=144) (x:= .tmp 23) (y:= .const (.int .i64 2)) rfl (gd h2 _) rfl (by kernel_rfl) ?_;refine du hJ.2 2 (by decide) (λk7 t z7 q7 jj bb ww PP hr hqj bx=>?_);obtain⟨rfl,rfl⟩:=hsj _ _ _ hr;exact hK _ _ ⟨_,rfl,⟨hJ.1.aB bx,PP,hqj⟩,⟨k7,t,z7,q7,rfl,hr⟩,Nw.of bx (by omega)⟩
   ·intro ys W hJ hd;obtain⟨_,h0,rfl⟩:=hd 0;obtain⟨_,h1,rfl⟩:=hd 1;obtain⟨_,h2,rfl⟩:=hd 2;obtain⟨_,h3,k7,t7,z7,q7,rfl,_⟩:=hd 3;obtain⟨_,h4,t8,rfl,_⟩:=hd 4;obtain⟨_,h5,nm,ra,rfl,hra,hnm⟩:=hd 5;have hW:=hJ.1.size;have HNM:=H_ hnm;have E11:=H_ (E10.out.bx hJ.1 (by omega) (by omega));have Q11:=H_ (Q10.out.bx hJ.1 (by omega) (by omega));have B11:=H_ (B10.out.aB hJ.1);have VW:=H_ (V10.out.aA hJ.1.size (λk hk=>hJ.1.block k hk.2.1 (by have:=hk.1;omega)));have HJ:=H_ hJ;have HRA:=H_ hra;have HLT:=H_ V10.out.lt;have HNZ:=H_ V10.out.1;clear hJ hra hd hnm V10;rw[show List.range' 6 _=[6,7,8]from rfl,Bl];refine AE rfl λK hK=>?_;simp only[h0,h1,h2,h3,h4,h5,Bz];rw[AP (by kernel_rfl)];refine cZ mE (.tmp 22) (.tmp 26) rfl VW.out (ys:=[nm]) (dss:=[[.string nm]]) (b:=ra) (off:=0) (c:=1) (m:=1) rfl ?_ ?_ rfl rfl rfl ?_ ?_ ?_ ?_
    ·simpa using At.aG HRA.out.2
    ·intro j' x' cs' h1' h2';cases j' with
     |zero=>
      simp at h1' h2';subst h1' h2';rfl
     |succ j'=>simp at h1'
    ·simp<;>omega
    ·omega
    ·exact λb hb h=>by unfold two at h;omega
    ·intro v' w14 hv14 hg14;refine hK _ _ ?_;have hs14:=hg14.size;have hown:∀k,(Value.slice A' fs.length c').ownBlock=some k->g<=k:=λk hk=>(HLT.out k hk).1;have hnz:=HNZ.out;have E14:=H_ (E11.out.aI hg14 (λk hk h=>hnz k hk (.inr h.symm)));have Q14:=H_ (Q11.out.aI hg14 (λk hk h=>hnz k hk (.inl h.symm)));have HP14:=H_ (HJ.out.2.1.grown hg14 (λk hk=>by have:=hown k hk;omega));have B14:=H_ (B11.out.grown hg14 (by omega) (λk hk=>by have:=hown k hk;omega));have hjj:=HJ.out.2.2;obtain⟨A15,c15,rfl,_⟩:=hv14.sl (by simp[BD]<;>omega);rw[show(fs++[nm]).length=fs.length+1 from by simp]at hv14;have V14:=H_ hv14;clear hv14 hg14 HJ HRA E11 Q11 B11 VW hK K HLT HNZ hown hnz E10 Q10 B10;have x2:w14.cell? ⟨e,2,none⟩=some (.slice A' fs.length c'):=E14.out.cell 2;have x2f:=E14.out.frozen 2;have elt14:=E14.out.lt;have qlt14:=Q14.out.lt;rw[Bl];refine AE rfl λK hK=>?_;go_simp;refine hK _ _ ?_;rw[Bl];refine AE rfl λK hK=>?_;go_simp;refine hK _ _ ?_;obtain⟨w15,hw15⟩:=nm_ (w14.setCell ⟨e,2,none⟩ (.slice A15 (fs.length+1) c15));have bw:Bx w14.heap.size e w14 w15:=hw15▸(Bx.refl _ _ _).aJ (.inr rfl) _;have E15:=H_ (show Blk w15 e 117 #[.string s,.bool a,.slice A15 (fs.length+1) c15,.slice none 0 0]from hw15▸E14.out.set 2 _);have Q15:=hbx Q14 bw;have HP15:=H_ (HP14.out.aA bw (by omega));have B15:=H_ (B14.out.put bw (by omega) (by omega));have V15:=H_ (V14.out.aA bw.size (λk hk=>bw.block k hk.2.1 (λh=>hk.2.2 (.inr h))));have hs15:=bw.size;have elt15:=E15.out.lt;have qlt15:=Q15.out.lt;rw[hw15];clear hw15 bw E14 Q14 HP14 B14 V14 x2 x2f hK K;unfold wpOps;go_wp2_with fail;refine bA HP15.out mi (λj16 e16 w16 P16 hr hij16 b16=>?_);have HR16:=H_ hr;clear hr;have V16:=hvk V15 b16;clear V15;obtain⟨hs16,B16,Q16,qlt16,E16,elt16⟩:=fr2 B15 Q15 E15 b16;have HP16:=H_ P16;clear Q15 E15 B15 HP15 P16 b16
     have HEQ:=H_ (show∃m,T.length+1<=m+j16/\gm T n i=lif (ob T n a s m (fs++[nm])) j16 e16 by
      obtain⟨m,hm,heq⟩:=HEr.out;obtain⟨m,rfl⟩:∃m',m=m'+1:=⟨m-1,by omega⟩;exact⟨m,by omega,vY heq HT.out HNM.out HR16.out⟩)
     have hj16:=HP16.out.lt;clear HEr HR16 HNM;rw[show fs.length+1=(fs++[nm]).length from by simp]at E16 V16;go_wp2_with fail;go_roundg (T.length-j16)
     case rel=>exact⟨fs++[nm],j16,e16,A15,c15,rfl,E16,V16,Q16,HP16,B16,by omega,by simp;omega,HEQ⟩
     case measure=>omega
  ·have HM:=H_ (show gm T n i=lif (mf T n a s fs (T.length+1) []) q bq by
    obtain⟨m,hm,heq⟩:=HEr.out;obtain⟨m,rfl⟩:∃m',m=m'+1:=⟨m-1,by omega⟩;exact vX heq ht)
   have E10:=hbx Er b10;have Q10:=hbx Qr b10;have V10:=hvk Vr b10;have B10:=hth Br b10;have HP10:=H_ P10;have hs10:=b10.size;have elt10:=E10.out.lt;have qlt10:=Q10.out.lt;clear ht P10 b10 Er Qr Vr Br HPr HEr;cases a with
   |false=>
    go_wp2_with fail;refine D7 1 ?_;rw[Dg];have ya:w10.cell? ⟨e,1,none⟩=some (.bool false):=E10.out.cell 1;go_upto_region 19 with fail;clear ya;go_wp2_with fail;refine bA HP10.out gn (λjz ez w11 P11 hr hij11 b11=>?_);have HRz:=H_ hr;clear hr;have SF11:=H_ ((V10.out.slice (by unfold BD;omega)).aA (G':=NG g (two g e) w11) (λb hb=>⟨hb.mono b11.size,b11.block b hb.2.1 (by have:=hb.1;omega)⟩));clear V10;obtain⟨hs11,B11,Q11,qlt11,E11,elt11⟩:=fr2 B10 Q10 E10 b11;have HP11:=H_ P11;clear Q10 E10 B10 HP10 P11 b11;have HR:=H_ (rV HM.out (.inl rfl) HRz.out);have VE:=H_ (show ClC w11 (NG g (two g e) w11) ⟨s,false,fs,[]⟩ [.string s,.bool false,.slice A' fs.length c',.slice none 0 0]from⟨_,_,_,_,_,_,rfl,SF11.out,Sl.nil _ _ none⟩);obtain⟨g0',g1',g2',g3'⟩:=(E11.out).aH.1;obtain⟨⟨d0,d1,d2,d3⟩,f0,f1,f2,f3⟩:=(Q11.out).aH;go_wp2_with fail;exact Ag rfl (by simp) Q11.out VE.out (λb hb=>⟨by have:=hb.1;have:=hb.2.2;unfold two at this;omega,hb.2.1⟩) HP11.out HR.out (by omega) (hgz▸B11.out) hgz (by omega)
   |true=>
    go_wp2_with fail;have SF10:=H_ (V10.out.slice (by unfold BD;omega));clear V10
    go_loopg [] (T.length-q) (λkk wr=>∃(ms:List Me) (r:Nat) (br:Bool) (A2:Option Addr) (c2:Nat),kk=T.length-r/\Hid (Blk wr e 117 #[.string s,.bool true,.slice A' fs.length c',.slice A2 ms.length c2])/\Hid (Vec kMe 121 w10.heap.size noZ wr (.slice A2 ms.length c2) ms)/\Hid (Sl ea wr (NG g (two g e) w10) fs A' fs.length)/\
     Hid (Blk wr g 117 #[.string ⟨#[]⟩,.bool false,.slice none 0 0,.slice none 0 0])/\Hid (RS wr p A c T r br)/\Hid (Bx w.heap.size p w wr)/\w10.heap.size<=wr.heap.size/\i<=r/\ms.length<=r/\Hid (∃m,T.length+1<=m+r/\gm T n i=lif (mf T n true s fs m ms) r br))
    case atStart=>exact⟨[],q,bq,none,0,rfl,E10,H_ (Vec.nil _ _ _ _ _),SF10,Q10,HP10,B10,AB _,by omega,by simp,H_ ⟨T.length+1,by omega,HM.out⟩⟩
    case round=>
     clear E10 SF10 Q10 HP10 B10 HM;obtain⟨ms,r,br,A2,c2,rfl,Er,Vr,SFr,Qr,HPr,Br,hLr,hir,hmr,HEr⟩:=hrel;have hrT:=HPr.out.lt;have eltr:=Er.out.lt;have qltr:=Qr.out.lt;have hsr:=Br.out.size;have ya:wr.cell? ⟨e,1,none⟩=some (.bool true):=Er.out.cell 1;go_wp2_with fail;refine am HPr.out kOn (λhbr ht w20 P20 b20=>?_) (λht w20 P20 b20=>?_)
     ·subst hbr;have HT20:=H_ ht;have V20:=hvk Vr b20;have SF20:=H_ (SFr.out.aA (G':=NG g (two g e) w10) (λb hb=>⟨hb,b20.block b (by have:=hb.2.1;omega) (by have:=hb.1;omega)⟩));clear Vr SFr;obtain⟨hs20,B20,Q20,qlt20,E20,elt20⟩:=fr2 Br Qr Er b20;have HP20:=H_ P20;clear Qr Er Br HPr P20 b20;clear ya ht;have hfl:=cX;go_wp2_with fail;refine du HP20.out 2 (by decide) (λkk21 mn zz21 qq21 j21 e21 w21 P21 hr hij21 b21=>?_);have HR21:=H_ (show Is (lif (aj T 2) (r+1) false) mn j21 e21 from hr);clear hr;have V21:=hvk V20 b21;have SF21:=H_ (SF20.out.aA (G':=NG g (two g e) w10) (λb hb=>⟨hb,b21.block b (by have:=hb.2.1;omega) (by have:=hb.1;omega)⟩));clear V20 SF20;obtain⟨hs21,B21,Q21,qlt21,E21,elt21⟩:=fr2 B20 Q20 E20 b21;have HP21:=H_ P21;clear Q20 E20 B20 HP20 P21 b21;go_upto_region 11 with fail;obtain⟨f,hfz⟩:=nm_ (w21.heap.size);rw[hfz];obtain⟨w22,hw22⟩:=nm_ (w21.alloc (.cells #[.string mn,.slice none 0 0,.slice none 0 0] 121));have b22:Bx w21.heap.size p w21 w22:=bxn hw22;have F22:=hng hw22 hfz;have HP22:=H_ (show RS w22 p A c T j21 e21 from hw22▸HP21.out.alloc _);have BF22:=H_ (show Bx f p w21 w22 from hfz▸b22);have hs22:=b22.size;have flt22:=F22.out.lt;rw[hw22];clear hw22 b22 HP21;go_wp2_with fail;refine bA HP22.out eA (λj23 e23 w23 P23 hr hij23 b23=>?_);have HR23:=H_ hr;clear hr;have F23:=hbx F22 b23;have BF23:=H_ (BF22.out.trans (b23.mono (by omega)));have HP23:=H_ P23;have hs23:=b23.size;have flt23:=F23.out.lt;clear F22 BF22 HP22 P23 b23;have HLO:=H_ (mO (f:=aj T 2) HR23.out);clear HR23;go_wp2_with fail;refine Al HP23.out eg (λra hr1 hr2 w24 P24 b24=>?_);have F24:=hbx F23 b24;have BF24:=H_ (BF23.out.trans (b24.mono (by omega)));have HP24:=H_ P24;have HA3:=H_ hr1;have HA4:=H_ hr2;have hs24:=b24.size;have flt24:=F24.out.lt;clear F23 BF23 HP23 P24 b24 hr1 hr2;go_upto_if 45 with fail;go_cut [45] (λ_ U=>∃(ps:List ByteArray) (j31:Nat) (e31:Bool) (A3:Option Addr) (c3:Nat),r+1<=j31/\ps.length<=j31+1/\w21.heap.size<U.heap.size/\Hid (RS U p A c T j31 e31)/\Hid (Blk U f 121 #[.string mn,.slice A3 ps.length c3,.slice none 0 0])/\Hid (Vec ea 9 f (λb=>b=f) U (.slice A3 ps.length c3) ps)/\Hid (Bx f p w21 U)/\Hid (Is (lif (bg T (aj T 2)) j21 e21) ps j31 e31))
      case first=>
       cases ra with
       |true=>
        have HK:=H_ (HA3.out rfl);go_wp2_with fail;go_meet;obtain⟨he23,ht⟩:=HK.out;subst he23;refine⟨[],j23+1,false,none,0,by omega,by simp,by omega,HP24,F24,H_ (Vec.nil _ _ _ _ _),BF24,H_ ?_⟩;rw[HLO.out,mP ht];rfl
       |false=>
        have HT24:=H_ (HA4.out rfl);replace HP24:=H_ (show RS w24 p A c T j23 e23 from HP24.out);have VP24:=H_ (Vec.nil ea 9 f (λb=>b=f) w24);go_upto_region 13 with fail;obtain⟨j11,e11,hsj⟩:=Is.known (lif (aj T 2) j23 e23)
        refine ay 3 6 (λys=>{tmps:= #[.pointer (some ⟨p,0,none⟩),undef,.pointer (some ⟨g,0,none⟩),.pointer (some ⟨e,0,none⟩),.pointer (some ⟨f,0,none⟩),u5,u6,u7,u8,u9,u10,u11,u12,.pointer (some ⟨p,0,none⟩),.agg #[.int .i64 kk4,.string s,.int .i64 zz4,.int .i64 qq4],.string s,.pointer (some ⟨e,0,none⟩),.pointer (some ⟨p,0,none⟩),.tuple #[],.pointer (some ⟨p,0,none⟩),.bool false,u21,u22,u23,u24,u25,u26,u27,u28,u29,u30,.pointer (some ⟨e,1,none⟩),.bool true,.bool true,.pointer (some ⟨p,0,none⟩),.bool true,.bool true,.pointer (some ⟨p,0,none⟩),.agg #[.int .i64 kk21,.string mn,.int .i64 zz21,.int .i64 qq21],.string mn,.agg #[.string mn,.slice none 0 0,.slice none 0 0],.pointer (some ⟨p,0,none⟩),.tuple #[],.pointer (some ⟨p,0,none⟩),.bool false,.bool true,(ys 0).getD u46,(ys 1).getD u47,(ys 2).getD u48,(ys 3).getD u49,(ys 4).getD u50,(ys 5).getD u51,u52,u53,u54,u55,u56,u57,u58,u59,u60,u61,u62,u63,u64,u65,u66,u67,u68,u69,u70,u71,u72,u73,u74,u75,u76,u77],defers:=[]})
         (RQ w24 p A c T j23 e23 j11 e11) w24.heap.size
         (λkx=>match kx with
           |0=>fEq (.pointer (some ⟨f,1,none⟩))
           |1=>fEq (.slice none 0 0)
           |2=>fEq (.pointer (some ⟨p,0,none⟩))
           |3=>fTk (lif (aj T 2) j23 e23) j11 e11
           |4=>fTx (lif (aj T 2) j23 e23) j11 e11
           |_=>λv W=>∃t a,v= .slice (some ⟨a,0,none⟩) 1 1/\RowA w24.heap.size W a #[.string t] 9/\Is (lif (aj T 2) j23 e23) t j11 e11)
         (by
           intro k
           match k with
           |0=>exact fEq.st _ _
           |1=>exact fEq.st _ _
           |2=>exact fEq.st _ _
           |3=>exact fTk.st
           |4=>exact fTx.st
           |_+5=>exact λ_ _ _ hn ⟨t,a,h1,h2,h3⟩=>⟨t,a,h1,h2.nw hn,h3⟩)
         (by kernel_rfl) (by kernel_rfl) (by decide) (by kernel_rfl) (by decide) rfl ⟨(Bx.refl _ _ _).drew,HP24.out.drew⟩ ?_ ?_ ?_
        ·intro i' hi hic b ys W hJ hd;obtain rfl|rfl|rfl|rfl|rfl:i'=0\/i'=1\/i'=2\/i'=4\/i'=5:=by omega
         ·exact rdO hJ
         ·obtain⟨_,h0,rfl⟩:=hd 0;exact ldO rfl rfl (gd h0 _) (qK ((F24.out.bx hJ.1 (by omega) (by omega)).cell 1)) hJ
         ·exact mvO hJ
         ·obtain⟨_,h3,k7,t,z7,q7,rfl,ht⟩:=hd 3;refine stp rfl (by kernel_rfl) λK hK=>?_;refine lp (x:= .tmp 49) rfl (gd h3 _) (cX _ _ _ _ _) ?_;exact hK _ _ ⟨_,rfl,hJ,⟨t,rfl,ht⟩,Nw.refl _ _⟩
         ·obtain⟨_,h4,t,rfl,ht⟩:=hd 4;have hb:=(AC W.heap.size W).alloc (AB _) (.cells #[.string t] 9);refine stp rfl (by kernel_rfl) λK hK=>?_;refine ip (x:= .tmp 50) rfl (gd h4 _) (nE W _) ?_;exact hK _ _ ⟨.slice (some ⟨W.heap.size,0,none⟩) 1 1,rfl,hJ.below hb,⟨t,W.heap.size,rfl,⟨hJ.1.size,Blk.new W 9 _⟩,ht⟩,Nw.below hb⟩
        ·intro ys W hJ hd;obtain⟨_,h2,rfl⟩:=hd 2;have hsW:=hJ.1.size;refine stp rfl (by kernel_rfl) λK hK=>?_;refine cV (n:=144) (x:= .tmp 48) (y:= .const (.int .i64 2)) rfl (gd h2 _) rfl (by kernel_rfl) ?_;refine du hJ.2 2 (by decide) (λk7 t z7 q7 jj bb ww PP hr hqj bx=>?_);obtain⟨rfl,rfl⟩:=hsj _ _ _ hr;exact hK _ _ ⟨_,rfl,⟨hJ.1.aB bx,PP,hqj⟩,⟨k7,t,z7,q7,rfl,hr⟩,Nw.of bx (by omega)⟩
        ·intro ys W hJ hd;obtain⟨_,h0,rfl⟩:=hd 0;obtain⟨_,h1,rfl⟩:=hd 1;obtain⟨_,h2,rfl⟩:=hd 2;obtain⟨_,h3,k7,t7,z7,q7,rfl,_⟩:=hd 3;obtain⟨_,h4,t8,rfl,_⟩:=hd 4;obtain⟨_,h5,nm,ra,rfl,hra,hnm⟩:=hd 5;have hW:=hJ.1.size;have HNM:=H_ hnm;have F11:=H_ (F24.out.bx hJ.1 (by omega) (by omega));have BF11:=H_ (BF24.out.trans (hJ.1.mono (by omega)));have VW:=H_ (VP24.out.aA hJ.1.size (λk hk=>hJ.1.block k hk.2.1 (by have:=hk.1;omega)));have HJ:=H_ hJ;have HRA:=H_ hra;have HLT:=H_ VP24.out.lt;have HNZ:=H_ VP24.out.1;clear hJ hra hd hnm VP24;rw[show List.range' 6 _=[6,7,8]from rfl,Bl];refine AE rfl λK hK=>?_;simp only[h0,h1,h2,h3,h4,h5,Bz];rw[AP (by kernel_rfl)];refine cZ mE (.tmp 47) (.tmp 51) rfl VW.out (ys:=[nm]) (dss:=[[.string nm]]) (b:=ra) (off:=0) (c:=1) (m:=1) rfl ?_ ?_ rfl rfl rfl ?_ ?_ ?_ ?_
         ·simpa using At.aG HRA.out.2
         ·intro j' x' cs' h1' h2';cases j' with
          |zero=>
           simp at h1' h2';subst h1' h2';rfl
          |succ j'=>simp at h1'
         ·simp<;>omega
         ·omega
         ·exact λb hb h=>by omega
         ·intro v' w14 hv14 hg14;refine hK _ _ ?_;have hs14:=hg14.size;have hown:∀k,(Value.slice none 0 0).ownBlock=some k->f<=k:=λk hk=>(HLT.out k hk).1;have hnz:=HNZ.out;have F14:=H_ (F11.out.aI hg14 (λk hk h=>hnz k hk h.symm));have HP14:=H_ (HJ.out.2.1.grown hg14 (λk hk=>by have:=hown k hk;omega));have BF14:=H_ (BF11.out.grown hg14 (by omega) (λk hk=>hown k hk));have hjj:=HJ.out.2.2;obtain⟨A15,c15,rfl,_⟩:=hv14.sl (by simp[BD]<;>omega);rw[show(([]:List ByteArray)++[nm]).length=0+1 from by simp]at hv14;have V14:=H_ hv14;clear hv14 hg14 HJ HRA F11 BF11 VW hK K HLT HNZ hown hnz F24 BF24 HP24;have x2:w14.cell? ⟨f,1,none⟩=some (.slice none 0 0):=F14.out.cell 1;have x2f:=F14.out.frozen 1;have flt14:=F14.out.lt;rw[Bl];refine AE rfl λK hK=>?_;go_simp;refine hK _ _ ?_;rw[Bl];refine AE rfl λK hK=>?_;go_simp;refine hK _ _ ?_;obtain⟨w15,hw15⟩:=nm_ (w14.setCell ⟨f,1,none⟩ (.slice A15 (0+1) c15));have bw:Bx w14.heap.size f w14 w15:=hw15▸(Bx.refl _ _ _).aJ (.inr rfl) _;have F15:=H_ (show Blk w15 f 121 #[.string mn,.slice A15 (0+1) c15,.slice none 0 0]from hw15▸F14.out.set 1 _);have HP15:=H_ (HP14.out.aA bw (by omega));have BF15:=H_ (BF14.out.put bw (by omega) (Dc hfz.symm));have VP15:=H_ (V14.out.aA bw.size (λk hk=>bw.block k hk.2.1 (λh=>hk.2.2 h)));have hs15:=bw.size;have flt15:=F15.out.lt;rw[hw15];clear hw15 bw F14 HP14 BF14 V14 x2 x2f hK K;unfold wpOps;go_wp2_with fail;rw[show(0:Nat)+1=([nm]:List ByteArray).length from rfl]at F15 VP15;replace VP15:=H_ (show Vec ea 9 f (λb=>b=f) w15 (.slice A15 [nm].length c15) [nm]from VP15.out);have HNX:=H_ (HLO.out.trans (lr HT24.out HNM.out));clear HLO HNM HT24;have hj11:=HP15.out.lt;go_loopg [] (T.length-j11) (λkk wr=>∃(ps:List ByteArray) (q3:Nat) (b3:Bool) (A3:Option Addr) (c3:Nat),kk=T.length-q3/\Hid (Blk wr f 121 #[.string mn,.slice A3 ps.length c3,.slice none 0 0])/\Hid (Vec ea 9 f (λb=>b=f) wr (.slice A3 ps.length c3) ps)/\Hid (RS wr p A c T q3 b3)/\Hid (Bx f p w21 wr)/\r+1<=q3/\ps.length<=q3+1/\Hid (∃m,T.length+1<=m+q3/\lif (bg T (aj T 2)) j21 e21=lif (cx T (aj T 2) m ps) q3 b3))
          case atStart=>exact⟨[nm],j11,e11,A15,c15,rfl,F15,VP15,HP15,BF15,by omega,by simp,H_ ⟨_,by omega,HNX.out⟩⟩
          case round=>
           clear F15 VP15 HP15 BF15 HNX;obtain⟨ps,q3,b3,A3,c3,rfl,Fr_,VPr,HPr,BFr,hrq,hpq,HE3⟩:=hrel;have hq3T:=HPr.out.lt;have fltr:=Fr_.out.lt;have hsr3:=BFr.out.size
           obtain⟨m3,hm3,heq3⟩:∃m,T.length+1<=m+1+q3/\lif (bg T (aj T 2)) j21 e21=lif (cx T (aj T 2) (m+1) ps) q3 b3:=by
            obtain⟨m,hm,heq⟩:=HE3.out;obtain⟨m,rfl⟩:∃m',m=m'+1:=⟨m-1,by omega⟩;exact⟨m,hm,heq⟩
           have HE4:=H_ heq3;clear HE3 heq3;go_wp2_with fail;refine am HPr.out lW (λhb3 ht w30 P30 b30=>?_) (λht w30 P30 b30=>?_)
           ·subst hb3;have HT30:=H_ ht;have VP30:=hvk VPr b30;have F30:=hbx Fr_ b30;have BF30:=H_ (BFr.out.trans (b30.mono (by omega)));have HP30:=H_ P30;have hs30:=b30.size;have flt30:=F30.out.lt;clear ht P30 b30 Fr_ VPr HPr BFr;go_upto_region 15 with fail;obtain⟨j12,e12,hsj⟩:=Is.known (lif (aj T 2) (q3+1) false)
            refine ay 3 6 (λys=>{tmps:= #[.pointer (some ⟨p,0,none⟩),undef,.pointer (some ⟨g,0,none⟩),.pointer (some ⟨e,0,none⟩),.pointer (some ⟨f,0,none⟩),u5,u6,u7,u8,u9,u10,u11,u12,.pointer (some ⟨p,0,none⟩),.agg #[.int .i64 kk4,.string s,.int .i64 zz4,.int .i64 qq4],.string s,.pointer (some ⟨e,0,none⟩),.pointer (some ⟨p,0,none⟩),.tuple #[],.pointer (some ⟨p,0,none⟩),.bool false,u21,u22,u23,u24,u25,u26,u27,u28,u29,u30,.pointer (some ⟨e,1,none⟩),.bool true,.bool true,.pointer (some ⟨p,0,none⟩),.bool true,.bool true,.pointer (some ⟨p,0,none⟩),.agg #[.int .i64 kk21,.string mn,.int .i64 zz21,.int .i64 qq21],.string mn,.agg #[.string mn,.slice none 0 0,.slice none 0 0],.pointer (some ⟨p,0,none⟩),.tuple #[],.pointer (some ⟨p,0,none⟩),.bool false,.bool true,.pointer (some ⟨f,1,none⟩),.slice none 0 0,.pointer (some ⟨p,0,none⟩),.agg #[.int .i64 k7,.string t7,.int .i64 z7,.int .i64 q7],.string t8,.slice (some ⟨ra,0,none⟩) 1 1,.slice A15 1 c15,.pointer (some ⟨f,1,none⟩),.pointer (some ⟨p,0,none⟩),.bool true,(ys 0).getD u56,(ys 1).getD u57,(ys 2).getD u58,(ys 3).getD u59,(ys 4).getD u60,(ys 5).getD u61,u62,u63,u64,u65,u66,u67,u68,u69,u70,u71,u72,u73,u74,u75,u76,u77],defers:=[]})
             (RQ w30 p A c T (q3+1) false j12 e12) w30.heap.size
             (λkx=>match kx with
               |0=>fEq (.pointer (some ⟨f,1,none⟩))
               |1=>fEq (.slice A3 ps.length c3)
               |2=>fEq (.pointer (some ⟨p,0,none⟩))
               |3=>fTk (lif (aj T 2) (q3+1) false) j12 e12
               |4=>fTx (lif (aj T 2) (q3+1) false) j12 e12
               |_=>λv W=>∃t a,v= .slice (some ⟨a,0,none⟩) 1 1/\RowA w30.heap.size W a #[.string t] 9/\Is (lif (aj T 2) (q3+1) false) t j12 e12)
             (by
               intro k
               match k with
               |0=>exact fEq.st _ _
               |1=>exact fEq.st _ _
               |2=>exact fEq.st _ _
               |3=>exact fTk.st
               |4=>exact fTx.st
               |_+5=>exact λ_ _ _ hn ⟨t,a,h1,h2,h3⟩=>⟨t,a,h1,h2.nw hn,h3⟩)
             (by kernel_rfl) (by kernel_rfl) (by decide) (by kernel_rfl) (by decide) rfl ⟨(Bx.refl _ _ _).drew,HP30.out.drew⟩ ?_ ?_ ?_
            ·intro i' hi hic b ys W hJ hd;obtain rfl|rfl|rfl|rfl|rfl:i'=0\/i'=1\/i'=2\/i'=4\/i'=5:=by omega
             ·exact rdO hJ
             ·obtain⟨_,h0,rfl⟩:=hd 0;exact ldO rfl rfl (gd h0 _) (qK ((F30.out.bx hJ.1 (by omega) (by omega)).cell 1)) hJ
             ·exact mvO hJ
             ·obtain⟨_,h3,k7,t,z7,q7,rfl,ht⟩:=hd 3;refine stp rfl (by kernel_rfl) λK hK=>?_;refine lp (x:= .tmp 59) rfl (gd h3 _) (cX _ _ _ _ _) ?_;exact hK _ _ ⟨_,rfl,hJ,⟨t,rfl,ht⟩,Nw.refl _ _⟩
             ·obtain⟨_,h4,t,rfl,ht⟩:=hd 4;have hb:=(AC W.heap.size W).alloc (AB _) (.cells #[.string t] 9);refine stp rfl (by kernel_rfl) λK hK=>?_;refine ip (x:= .tmp 60) rfl (gd h4 _) (nE W _) ?_;exact hK _ _ ⟨.slice (some ⟨W.heap.size,0,none⟩) 1 1,rfl,hJ.below hb,⟨t,W.heap.size,rfl,⟨hJ.1.size,Blk.new W 9 _⟩,ht⟩,Nw.below hb⟩
            ·intro ys W hJ hd;obtain⟨_,h2,rfl⟩:=hd 2;have hsW:=hJ.1.size;refine stp rfl (by kernel_rfl) λK hK=>?_;refine cV (n:=144) (x:= .tmp 58) (y:= .const (.int .i64 2)) rfl (gd h2 _) rfl (by kernel_rfl) ?_;refine du hJ.2 2 (by decide) (λk7 t z7 q7 jj bb ww PP hr hqj bx=>?_);obtain⟨rfl,rfl⟩:=hsj _ _ _ hr;exact hK _ _ ⟨_,rfl,⟨hJ.1.aB bx,PP,hqj⟩,⟨k7,t,z7,q7,rfl,hr⟩,Nw.of bx (by omega)⟩
            ·intro ys W hJ hd;obtain⟨_,h0,rfl⟩:=hd 0;obtain⟨_,h1,rfl⟩:=hd 1;obtain⟨_,h2,rfl⟩:=hd 2;obtain⟨_,h3,k7,t7,z7,q7,rfl,_⟩:=hd 3;obtain⟨_,h4,t8,rfl,_⟩:=hd 4;obtain⟨_,h5,nm,ra,rfl,hra,hnm⟩:=hd 5;have hW:=hJ.1.size;have HNM:=H_ hnm;have F11:=H_ (F30.out.bx hJ.1 (by omega) (by omega));have BF11:=H_ (BF30.out.trans (hJ.1.mono (by omega)));have VW:=H_ (VP30.out.aA hJ.1.size (λk hk=>hJ.1.block k hk.2.1 (by have:=hk.1;omega)));have HJ:=H_ hJ;have HRA:=H_ hra;have HLT:=H_ VP30.out.lt;have HNZ:=H_ VP30.out.1;clear hJ hra hd hnm VP30;rw[show List.range' 6 _=[6,7,8]from rfl,Bl];refine AE rfl λK hK=>?_;simp only[h0,h1,h2,h3,h4,h5,Bz];rw[AP (by kernel_rfl)];refine cZ mE (.tmp 57) (.tmp 61) rfl VW.out (ys:=[nm]) (dss:=[[.string nm]]) (b:=ra) (off:=0) (c:=1) (m:=1) rfl ?_ ?_ rfl rfl rfl ?_ ?_ ?_ ?_
             ·simpa using At.aG HRA.out.2
             ·intro j' x' cs' h1' h2';cases j' with
              |zero=>
               simp at h1' h2';subst h1' h2';rfl
              |succ j'=>simp at h1'
             ·simp<;>omega
             ·omega
             ·exact λb hb h=>by omega
             ·intro v' w14 hv14 hg14;refine hK _ _ ?_;have hs14:=hg14.size;have hown:∀k,(Value.slice A3 ps.length c3).ownBlock=some k->f<=k:=λk hk=>(HLT.out k hk).1;have hnz:=HNZ.out;have F14:=H_ (F11.out.aI hg14 (λk hk h=>hnz k hk h.symm));have HP14:=H_ (HJ.out.2.1.grown hg14 (λk hk=>by have:=hown k hk;omega));have BF14:=H_ (BF11.out.grown hg14 (by omega) (λk hk=>hown k hk));have hjj:=HJ.out.2.2;obtain⟨A15,c15,rfl,_⟩:=hv14.sl (by simp[BD]<;>omega);rw[show(ps++[nm]).length=ps.length+1 from by simp]at hv14;have V14:=H_ hv14;clear hv14 hg14 HJ HRA F11 BF11 VW hK K HLT HNZ hown hnz F30 BF30 HP30;have x2:w14.cell? ⟨f,1,none⟩=some (.slice A3 ps.length c3):=F14.out.cell 1;have x2f:=F14.out.frozen 1;have flt14:=F14.out.lt;rw[Bl];refine AE rfl λK hK=>?_;go_simp;refine hK _ _ ?_;rw[Bl];refine AE rfl λK hK=>?_;go_simp;refine hK _ _ ?_;obtain⟨w15,hw15⟩:=nm_ (w14.setCell ⟨f,1,none⟩ (.slice A15 (ps.length+1) c15));have bw:Bx w14.heap.size f w14 w15:=hw15▸(Bx.refl _ _ _).aJ (.inr rfl) _;have F15:=H_ (show Blk w15 f 121 #[.string mn,.slice A15 (ps.length+1) c15,.slice none 0 0]from hw15▸F14.out.set 1 _);have HP15:=H_ (HP14.out.aA bw (by omega));have BF15:=H_ (BF14.out.put bw (by omega) (Dc hfz.symm));have VP15:=H_ (V14.out.aA bw.size (λk hk=>bw.block k hk.2.1 (λh=>hk.2.2 h)));have hs15:=bw.size;have flt15:=F15.out.lt;rw[hw15];clear hw15 bw F14 HP14 BF14 V14 x2 x2f hK K;unfold wpOps;go_wp2_with fail;have HE5:=H_ (mQ HE4.out HT30.out HNM.out);clear HE4 HT30 HNM;have hj12:=HP15.out.lt;rw[show ps.length+1=(ps++[nm]).length from by simp]at F15 VP15;go_roundg (T.length-j12)
              case rel=>exact⟨ps++[nm],j12,e12,A15,c15,rfl,F15,VP15,HP15,BF15,by omega,by simp;omega,H_ ⟨m3,by omega,HE5.out⟩⟩
              case measure=>omega
           ·have HT30:=H_ ht;have VP30:=hvk VPr b30;have F30:=hbx Fr_ b30;have BF30:=H_ (BFr.out.trans (b30.mono (by omega)));have HP30:=H_ P30;have hs30:=b30.size;have flt30:=F30.out.lt;clear ht P30 b30 Fr_ VPr HPr BFr;go_wp2_with fail;refine bA HP30.out eg (λj31 e31 w31 P31 hr hij31 b31=>?_);have HR31:=H_ hr;clear hr;have VP31:=hvk VP30 b31;clear VP30;have F31:=hbx F30 b31;have BF31:=H_ (BF30.out.trans (b31.mono (by omega)));have HP31:=H_ P31;have hs31:=b31.size;have flt31:=F31.out.lt;clear F30 BF30 HP30 P31 b31;have HR2:=H_ (p6 HE4.out HT30.out HR31.out);clear HE4 HT30 HR31;go_wp2_with fail;go_meet;exact⟨ps,j31,e31,A3,c3,by omega,by omega,by omega,HP31,F31,VP31,BF31,HR2⟩
      obtain⟨ps,j31,e31,A3,c3,hrj31,hpj31,hsc31,HP31,F31,VP31,BF31,HR2⟩:=hcut;have flt31:=F31.out.lt;have hj31T:=HP31.out.lt;clear HP24 F24 BF24 HLO HA3 HA4;go_wp2_with fail;refine ROut.use (jq (st:=S T n) (λj' hj'=>ur HNQ.out n j' (by omega) (by omega)) (wA n) p c A wc HP31.out) (λv32 bs j32 e32 w32 hv P32 hr hij32 b32=>?_);have HME:=H_ (tc HR21.out HR2.out hr);obtain⟨hvec,hbl⟩:=hv;obtain⟨A32b,c32b,rfl,hsb⟩:=hvec.sl (by unfold BD;omega);have SB32:=H_ (show Sl kSt w32 (λb=>f<b/\b<w32.heap.size) bs A32b bs.length from hsb.aA (λb hb=>⟨⟨by have:=hb.1;omega,hb.2.1⟩,rfl⟩));have SP32:=H_ (show Sl ea w32 (λb=>f<b/\b<w32.heap.size) ps A3 ps.length from(yA VP31.out (by unfold BD;omega) b32.size (λk hk=>b32.block k hk.2.1 (by have:=hk.1;omega))).aA (λb hb=>⟨⟨by have:=hb.1;have:=hb.2.2;omega,by have:=hb.2.1;have:=b32.size;omega⟩,rfl⟩));have F32:=hbx F31 b32;have BF32:=H_ (BF31.out.trans (b32.mono (by omega)));have HP32:=H_ P32;have hs32:=b32.size;have flt32:=F32.out.lt;have hj32T:=P32.lt;clear hr hvec hsb P32 b32 F31 BF31 HP31;have z2:w32.cell? ⟨f,2,none⟩=some (.slice none 0 0):=F32.out.cell 2;have z2f:=F32.out.frozen 2;go_upto_region 18 with fail;obtain⟨w33,hw33⟩:=nm_ (w32.setCell ⟨f,2,none⟩ (.slice A32b bs.length c32b));have bw:Bx w32.heap.size f w32 w33:=hw33▸(Bx.refl _ _ _).aJ (.inr rfl) _;have hz33:=H_ (show w33.heap.size=w32.heap.size by rw[<-hw33];simp);have hsz33:w32.heap.size<=w33.heap.size:=Dc hz33.out.symm;have F33:=H_ (show Blk w33 f 121 #[.string mn,.slice A3 ps.length c3,.slice A32b bs.length c32b]from hw33▸F32.out.set 2 _);have HP33:=H_ (HP32.out.aA bw (by omega));have BF33:=H_ (BF32.out.put bw (by omega) (Dc hfz.symm));have SB33:=H_ (SB32.out.aA (G':=λb=>f<b/\b<w33.heap.size) (λb hb=>⟨⟨hb.1,by have:=hz33.out;have:=hb.2;omega⟩,bw.block b hb.2 (by have:=hb.1;omega)⟩));have SP33:=H_ (SP32.out.aA (G':=λb=>f<b/\b<w33.heap.size) (λb hb=>⟨⟨hb.1,by have:=hz33.out;have:=hb.2;omega⟩,bw.block b hb.2 (by have:=hb.1;omega)⟩));rw[hw33];clear hw33 bw F32 BF32 HP32 SB32 SP32 z2 z2f;have E33:=H_ (E21.out.bx BF33.out (by omega) (by omega));have Q33:=H_ (Q21.out.bx BF33.out (by omega) (by omega));have V33:=H_ (V21.out.aA BF33.out.size (λk hk=>BF33.out.block k (by have:=hk.2.1;omega) (by have:=hk.1;omega)));have SF33:=H_ (SF21.out.aA (G':=NG g (two g e) w10) (λb hb=>⟨hb,BF33.out.block b (by have:=hb.2.1;omega) (by have:=hb.1;omega)⟩));have B33:=H_ (B21.out.trans (BF33.out.mono (by omega)));have elt33:=E33.out.lt;have qlt33:=Q33.out.lt;have flt33:=F33.out.lt;have HO33:=H_ V21.out.lt;clear E21 Q21 V21 SF21 B21 BF33;have x3:w33.cell? ⟨e,3,none⟩=some (.slice A2 ms.length c2):=E33.out.cell 3;obtain⟨z0,z1,z2⟩:w33.cell? ⟨f,0,none⟩=some (.string mn)/\w33.cell? ⟨f,1,none⟩=some (.slice A3 ps.length c3)/\w33.cell? ⟨f,2,none⟩=some (.slice A32b bs.length c32b):=⟨F33.out.cell 0,F33.out.cell 1,F33.out.cell 2⟩;have HMC:=H_ (show MeC w33 (λb=>f<b/\b<w33.heap.size) ⟨mn,ps,bs⟩ [.string mn,.slice A3 ps.length c3,.slice A32b bs.length c32b]from⟨_,_,_,_,_,_,rfl,SP33.out,SB33.out⟩);clear SP33 SB33;go_wp2_with (at_builtin;refine bv yl (K:=kMe) rfl (.tmp 70) (.tmp 72) rfl V33.out (kMe.aA (λb hb=>⟨⟨⟨by have:=hb.1;omega,hb.2,λh=>h⟩,λh=>by have:=(HO33.out b h).2;have:=hb.1;omega⟩,rfl⟩) HMC.out) rfl rfl (by omega) (by omega) (λb hb h=>h) ?_);intro u34 w34 hv34 hg34;obtain⟨A34,c34,rfl,_⟩:=hv34.sl (by simp[BD]<;>omega);rw[show(ms++[(⟨mn,ps,bs⟩:Me)]).length=ms.length+1 from by simp]at hv34;have V34:=H_ hv34;have hs34:=hg34.size;have hown:∀k,(Value.slice A2 ms.length c2).ownBlock=some k->w10.heap.size<=k:=λk hk=>(HO33.out k hk).1;have E34:=H_ (E33.out.aI hg34 (λk hk=>by have:=hown k hk;omega));have Q34:=H_ (Q33.out.aI hg34 (λk hk=>by have:=hown k hk;omega));have HP34:=H_ (HP33.out.grown hg34 (λk hk=>by have:=hown k hk;omega));have B34:=H_ (B33.out.grown hg34 (by omega) (λk hk=>by have:=hown k hk;omega));have SF34:=H_ (SF33.out.aA (G':=NG g (two g e) w10) (λb hb=>⟨hb,hg34.block b (by have:=hb.2.1;omega) (λh=>by have:=hown b h.symm;have:=hb.2.1;omega)⟩));clear hv34 hg34 E33 Q33 HP33 B33 SF33 V33 HMC z0 z1 z2 x3 F33;have elt34:=E34.out.lt;have qlt34:=Q34.out.lt;have x3:w34.cell? ⟨e,3,none⟩=some (.slice A2 ms.length c2):=E34.out.cell 3;have x3f:=E34.out.frozen 3
      have HEQ:=H_ (show∃m,T.length+1<=m+j32/\gm T n i=lif (mf T n true s fs m (ms++[⟨mn,ps,bs⟩])) j32 e32 by
       obtain⟨m,hm,heq⟩:=HEr.out;obtain⟨m,rfl⟩:∃m',m=m'+1:=⟨m-1,by omega⟩;exact⟨m,by omega,vZ heq HT20.out HME.out⟩)
      have E99:=H_ (show Blk (w34.setCell ⟨e,3,none⟩ (.slice A34 (ms.length+1) c34)) e 117 #[.string s,.bool true,.slice A' fs.length c',.slice A34 (ms.length+1) c34]from E34.out.set 3 _);have bw:Bx w34.heap.size e w34 (w34.setCell ⟨e,3,none⟩ (.slice A34 (ms.length+1) c34)):=(Bx.refl _ _ _).aJ (.inr rfl) _;have Q99:=hbx Q34 bw;have HP99:=H_ (HP34.out.aA bw (by omega));have B99:=H_ (B34.out.put bw (by omega) (AB _));have V99:=hvk V34 bw;have SF99:=H_ (SF34.out.aA (G':=NG g (two g e) w10) (λb hb=>⟨hb,bw.block b (by have:=hb.2.1;omega) (λh=>hb.2.2 (.inr h))⟩));have hsz99:w10.heap.size<=(w34.setCell ⟨e,3,none⟩ (.slice A34 (ms.length+1) c34)).heap.size:=by have:=bw.size;omega
      clear bw Q34 HP34 B34 V34 SF34 HEr HME HR21;rw[show ms.length+1=(ms++[(⟨mn,ps,bs⟩:Me)]).length from by simp]at E99 V99 Q99 HP99 B99 SF99 hsz99;go_wp2_with fail;go_roundg (T.length-j32)
      case rel=>exact⟨ms++[⟨mn,ps,bs⟩],j32,e32,A34,c34,rfl,by simpa using E99,by simpa using V99,by simpa using SF99,by simpa using Q99,by simpa using HP99,by simpa using B99,by simpa using hsz99,by omega,by simp;omega,HEQ⟩
      case measure=>omega
     ·have HT20:=H_ ht;have V20:=hvk Vr b20;have SF20:=H_ (SFr.out.aA (G':=NG g (two g e) w10) (λb hb=>⟨hb,b20.block b (by have:=hb.2.1;omega) (by have:=hb.1;omega)⟩));clear Vr SFr;obtain⟨hs20,B20,Q20,qlt20,E20,elt20⟩:=fr2 Br Qr Er b20;have HP20:=H_ P20;clear Qr Er Br HPr P20 b20;clear ya ht;go_wp2_with fail;refine bA HP20.out gn (λjz ez w21 P21 hr hij21 b21=>?_);have HRz:=H_ hr;clear hr;have V21:=hvk V20 b21;have SF21:=H_ (SF20.out.aA (G':=NG g (two g e) w10) (λb hb=>⟨hb,b21.block b (by have:=hb.2.1;omega) (by have:=hb.1;omega)⟩));clear V20 SF20;obtain⟨hs21,B21,Q21,qlt21,E21,elt21⟩:=fr2 B20 Q20 E20 b21;have HP21:=H_ P21;clear Q20 E20 B20 HP20 P21 b21
      have HR:=H_ (show Is (gm T n i) ⟨s,true,fs,ms⟩ jz ez by
       obtain⟨m,hm,heq⟩:=HEr.out;obtain⟨m,rfl⟩:∃m',m=m'+1:=⟨m-1,by omega⟩;exact rV heq (.inr HT20.out) HRz.out)
      have SM:=H_ (V21.out.slice (by unfold BD;omega));clear HEr;have VE:=H_ (show ClC w21 (NG g (two g e) w21) ⟨s,true,fs,ms⟩ [.string s,.bool true,.slice A' fs.length c',.slice A2 ms.length c2]from⟨_,_,_,_,_,_,rfl,SF21.out.aA (λb hb=>⟨hb.mono (by omega),rfl⟩),SM.out.aA (λb hb=>⟨⟨by have:=hb.1;omega,hb.2.1,λh=>by have:=hb.1;unfold two at h;omega⟩,rfl⟩)⟩);obtain⟨g0',g1',g2',g3'⟩:=(E21.out).aH.1;obtain⟨⟨d0,d1,d2,d3⟩,f0,f1,f2,f3⟩:=(Q21.out).aH;go_wp2_with fail;exact Ag rfl (by simp) Q21.out VE.out (λb hb=>⟨by have:=hb.1;have:=hb.2.2;unfold two at this;omega,hb.2.1⟩) HP21.out HR.out (by omega) (hgz▸B21.out) hgz (by omega)
end
end
end Go.Proofs.YtjpbckbpeblibaaGreatDoor
