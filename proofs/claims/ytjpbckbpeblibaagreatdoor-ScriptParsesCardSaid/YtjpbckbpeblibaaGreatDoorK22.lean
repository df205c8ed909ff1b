/- part of a proof -/
import Derived.Test.YtjpbckbpeblibaaGreatDoorK21
namespace Go.Proofs.YtjpbckbpeblibaaGreatDoor
set_option linter.unusedVariables false
set_option linter.unusedSimpArgs false
set_option maxRecDepth 100000
set_option maxHeartbeats 64000000
section
open Go.RowKit
variable{K:Act->World->Prop}{P:Program}{Q:Exit->Act->World->Prop}{a g i j n q:Nat}{er m:Int}{o:Oper}{p:UInt8->Bool}{s tx:ByteArray}{ss:List ByteArray}{w:World}{x y:Operand}
def yw(s:ByteArray)(w:World)(e':Ending)(w':World):Prop:=∃(v:Value) (p e:Int),e'= .returned (.tuple #[v,.int .i64 p,.int .i64 e])/\Below w.heap.size w w'/\
    (match ce s.data.toList with
      | .toks T=>e=0/\p=0/\w'.ownsRow w.heap.size 162 4 v T.length (dj T)
      | .err p' e''=>p=(p':Int)/\e=e''/\e≠0)
theorem results53(tmps:Array Value)(W:World)(a:Nat)(v u1 u2:Value)(ha:Blk W a 28 #[v])(h2:tmps.getD 2 undef= .pointer (some ⟨a,0,none⟩))(h3:tmps.getD 3 undef=u1)(h4:tmps.getD 4 undef=u2):
 (results Tryz.f53 tmps).run Tryz.prog W= .ok (.tuple #[.agg #[v],u1,u2]) W:=by
 have h1:=De (P:=Tryz.prog) W a 28 28 #[v] (0,0) _ ha Tryz.underlying28 rfl (by kernel_rfl);have h2':tmps[2]?.getD undef= .pointer (some ⟨a,0,none⟩):=by simpa using h2
 have h3':tmps[3]?.getD undef=u1:=by simpa using h3
 have h4':tmps[4]?.getD undef=u2:=by simpa using h4
 simp[results,Tryz.results53,h2',h3',h4',asAddr,h1]
theorem zb{b o c:Nat}{A:Option Addr}(h:w.cell? ⟨b,o,none⟩=some (.slice A n c)):(Instr.loadAt 26 (.pointer (some ⟨b,o,none⟩))).run Tryz.prog w= .ok (.slice A n c) w:=by
 simp[Instr.loadAt,Instr.sureAddr,asAddr,Result.andThen,h,go_sem]
theorem wP(w:World)(u0 u1 u2 u3:Value):(Instr.buildSlice 26 1 #[(0,.agg #[u0,u1,u2,u3])]).run Tryz.prog w= .ok (.slice (some ⟨w.heap.size,0,none⟩) 1 1) (w.alloc (.cells #[u0,u1,u2,u3] 117)):=by
 kernel_rfl
theorem rW{T:List Tk}{x:Cl}(h:gm T n i= .ok x j):i<j:=by
 unfold gm at h;split at h
 ·have:=eM n _ _ _ _ h;omega
 ·split at h
  ·cases h
  ·rename_i l hl;have h1:=(bV hl).2;have:=eM n _ _ _ _ h;omega
theorem sO(HScan:∀(s:ByteArray) (w:World),Calls Tryz.prog 91 #[.string s] w (yw s w))
 (HSize:∀(xs:List Cl) (A:Option Addr) (m c:Nat) (w:World) (G:Nat->Prop),Sl kCl w G xs A m->(∀b,G b->b<w.heap.size)->lsz csz xs<=100000->Calls Tryz.prog 93 #[.agg #[.slice A m c]] w λe w'=>e= .returned (.int .i64 (lsz csz xs:Nat))/\Below w.heap.size w w')
 (s:ByteArray) (w:World):Calls Tryz.prog 53 #[.string s] w (sg s w):=by
 obtain⟨w0,hw0⟩:=nm_ (w.alloc (.cells #[.slice none 0 0] 28));have A0:=H_ (show Blk w0 w.heap.size 28 #[.slice none 0 0]from hw0▸Blk.new w 28 _);have B0:=H_ (show Below w.heap.size w w0 from hw0▸(AC _ _).alloc (AB _) _);have HS:=H_ HScan;have HZ:=H_ HSize;clear HScan HSize;go_enter Tryz.func53,Tryz.ntmps53;go_upto_region 1 with(fail);obtain⟨g,hgz⟩:=nm_ (w.heap.size);rw[hgz]at A0 B0⊢;have hg0:=A0.out.lt;clear hw0;go_wp2_with fail;refine(HS.out s w0).mono ?_;rintro e' w1 ⟨v,pp,er,rfl,b1,hsc⟩;have A1:=H_ (A0.out.below b1 (by omega));have B1:=htm B0 b1;have hs1:=b1.size;clear A0 B0 b1;cases hs:ce s.data.toList with
 |err p' e''=>
  rw[hs]at hsc;obtain⟨rfl,rfl,he⟩:=hsc;have hne:(er !=0)=true:=by simpa using he
  have HS':=H_ hs;have HE':=H_ he;have a1:w1.cell? ⟨g,0,none⟩=some (.slice none 0 0):=A1.out.cell 0;have af:=A1.out.frozen 0;clear hs he;go_wp2_with fail;refine AO (results53 _ _ g (.slice none 0 0) _ _ (A1.out.set 0 _) rfl rfl rfl) rfl ⟨by rw[hgz];exact B1.out.setCell (p:=⟨g,0,none⟩) (AB _) _,_,_,_,rfl,?_⟩;unfold ca;rw[HS'.out];exact⟨rfl,rfl,rfl,HE'.out⟩
 |toks T=>
  rw[hs]at hsc;obtain⟨rfl,rfl,hown⟩:=hsc;have htk:=ik hs;have HNQ:=H_ (qa hs)
  obtain⟨tb,cap,rfl⟩:∃tb cap,v= .slice (some ⟨tb,0,none⟩) T.length cap:=by
   rcases hown.2 with⟨_,h0⟩|⟨tb,cap,cur,hv,_⟩
   ·omega
   ·exact⟨tb,cap,hv⟩
  have htl:=(hown.lt tb rfl).2;have htg:=(hown.lt tb rfl).1;have HOWN:=H_ hown;have HTK:=H_ htk;have HS':=H_ hs;clear hown htk hs;go_upto_region 5 with fail;obtain⟨P,hPz⟩:=nm_ (w1.heap.size);rw[hPz];obtain⟨w2,hw2⟩:=nm_ (w1.alloc (.cells #[.slice (some ⟨tb,0,none⟩) T.length cap,.int .i64 0,.bool false] 160));have b2:=bal hw2
  have P2:=H_ (show RS w2 P (some ⟨tb,0,none⟩) cap T 0 false from
   ⟨by rw[<-hw2,<-hPz];exact Blk.new _ 160 _,⟨tb,0,rfl,by omega,λj u hj=>by
    have h1:=HOWN.out.cells (g:=tb) rfl j u (by
     have:dj T=(T.map tkC).flatten:=by unfold dj;rw[List.flatMap_def];rfl
     rw[this];exact hj)
    rw[fY]at h1;exact(C8 (a:=⟨tb,0+j,none⟩) (b2.block tb (by omega))).trans h1⟩,
    ⟨HTK.out.2.2.1,by have:=HTK.out.1;have:=HTK.out.2.1;omega,HTK.out.2.2.2.1⟩,HTK.out.2.2.1⟩)
  have A2:=H_ (A1.out.below b2 (by omega));have B2:=htm B1 b2;have hs2:w2.heap.size=P+1:=by rw[<-hw2,AR,hPz]
  rw[hw2];clear hw2 b2 A1 B1 HOWN;go_upto_region 6 with fail;obtain⟨h,hhz⟩:=nm_ (P+1);obtain⟨w3,hw3⟩:=nm_ (w2.alloc (.cells #[.slice none 0 0] 28));have b3:=bal hw3;have E3:=H_ (show Blk w3 h 28 #[.slice none 0 0]from hw3▸hhz▸hs2▸Blk.new w2 28 _);have P3:=H_ (P2.out.below b3);have A3:=H_ (A2.out.below b3 (by omega));have B3:=H_ (show Below g w w3 from B2.out.trans (b3.mono (by omega)));have hs3:w3.heap.size=h+1:=by rw[<-hw3,AR];omega
  have hT:=P3.out.wf.few;have HPR:=H_ (show cn T=lif (aY T (T.length+1) (T.length+1) []) 0 false from rfl);try rw[hs2,hhz]
  try rw[hhz]
  rw[hw3];clear hw3 b3 P2 A2 B2
  go_loopg [] (2*(T.length-0)+(if false=true then 0 else 1)) (λkk wr=>∃(cs:List Cl) (q:Nat) (bq:Bool) (A':Option Addr) (c':Nat),kk=2*(T.length-q)+(if bq=true then 0 else 1)/\Hid (Blk wr h 28 #[.slice A' cs.length c'])/\Hid (Vec kCl 117 h (λb=>b=h) wr (.slice A' cs.length c') cs)/\
   Hid (Blk wr g 28 #[.slice none 0 0])/\Hid (RS wr P (some ⟨tb,0,none⟩) cap T q bq)/\Hid (Below g w wr)/\cs.length<=q+(if bq=true then 1 else 0)/\Hid (∃m,T.length+1<=m+q/\cn T=lif (aY T (T.length+1) m cs) q bq))
  case atStart=>exact⟨[],0,false,none,0,rfl,E3,H_ (Vec.nil _ _ _ _ _),A3,P3,B3,by simp,H_ ⟨T.length+1,by omega,HPR.out⟩⟩
  case round=>
   clear E3 A3 P3 B3 HPR;obtain⟨cs,q,bq,A',c',rfl,Er,Vr,Ar,HPr,Br,hcq,HEr⟩:=hrel;have hqT:=HPr.out.lt;have eltr:=Er.out.lt;have altr:=Ar.out.lt;have hsr:=Br.out.size;have pltr:=HPr.out.aG.lt;obtain⟨bt,off,hA,hb,hat⟩:=HPr.out.tok.cell hqT;obtain⟨⟨k2,t2,z2,q2⟩,htk⟩:∃x,tk T q=x:=⟨_,rfl⟩;rw[htk]at hat
   have HTQ:=H_ htk;simp only[Option.some.injEq,Addr.mk.injEq,Bn]at hA;obtain⟨rfl,rfl⟩:=hA;have hfew:T.length<=20000:=HPr.out.wf.few;obtain⟨TT,fq,hne,hf,hcov⟩:=aX wr.heap.size wr;have a0:∀x,(fq x).cell? ⟨P,0,none⟩=some (.slice (some ⟨tb,0,none⟩) T.length cap):=λx=>(HPr.out.aG.below (hf x) pltr).cell 0;have a1:∀x,(fq x).cell? ⟨P,1,none⟩=some (.int .i64 q):=λx=>(HPr.out.aG.below (hf x) pltr).cell 1;have a2:∀x,(fq x).cell? ⟨P,2,none⟩=some (.bool bq):=λx=>(HPr.out.aG.below (hf x) pltr).cell 2;have d0:∀x,(fq x).cell? ⟨tb,q*4,none⟩=some (.int .i64 k2):=λx=>(a8 (hf x) (by omega) _).trans (by have:=hat 0 _ rfl;rwa[By,AQ]at this);have d3:wr.cell? ⟨tb,q*4+3,none⟩=some (.int .i64 q2):=by have:=hat 3 _ rfl;rwa[By,AQ]at this
   have hd:decide (q<T.length)=true:=by simpa using hqT
   have HF:=H_ hf;have HCOV:=H_ hcov;have HD3:=H_ d3;clear hf hcov htk hat d3;cases bq with
   |true=>
    have HBAD:=H_ (show cn T= .bad q by
     obtain⟨m,hm,heq⟩:=HEr.out;exact heq)
    clear HEr;go_upto_region 6 with fail;refine ah fq (by kernel_rfl) (by kernel_rfl) (HCOV.out _ (AC _ _).drew) ?_;repeat (go_big_quiet_step (fail))
    refine BL ?_;rintro _ ⟨xq,rfl⟩;have bq:=HF.out xq;have P5:=H_ (HPr.out.below bq);have A5:=H_ (Ar.out.below bq altr);have B5:=htm Br bq;have d3:(fq xq).cell? ⟨tb,q*4+3,none⟩=some (.int .i64 q2):=(a8 bq (by omega) _).trans HD3.out;have hs5:=bq.size;generalize fq xq=w5 at*
    have e2:w5.cell? ⟨P,2,none⟩=some (.bool true):=P5.out.aG.cell 2;have e0:w5.cell? ⟨P,0,none⟩=some (.slice (some ⟨tb,0,none⟩) T.length cap):=P5.out.aG.cell 0;have e1:w5.cell? ⟨P,1,none⟩=some (.int .i64 q):=P5.out.aG.cell 1;clear a0 a1 a2 d0 HF HCOV bq Er Vr Ar HPr Br;go_upto_region 9 with fail;have a5:w5.cell? ⟨g,0,none⟩=some (.slice none 0 0):=A5.out.cell 0;have af:=A5.out.frozen 0;have hgP:g≠P:=by omega
    have hgt:tb≠g:=by omega
    have A6:=H_ (show Blk w5.drew g 28 #[.slice none 0 0]from A5.out);have B6:=H_ (show Below g w w5.drew from B5.out.drew);go_region;all_goals go_wp2_with fail
    refine AO (results53 _ _ g (.slice none 0 0) _ _ (A6.out.set 0 _) rfl rfl rfl) rfl ⟨by rw[hgz];exact B6.out.setCell (p:=⟨g,0,none⟩) (AB _) _,_,_,_,rfl,?_⟩;unfold ca;rw[HS'.out];simp only;rw[HBAD.out];simp only;rw[HTQ.out]
    first|exact⟨rfl,rfl,rfl,by decide⟩|exact⟨trivial,trivial,rfl,by decide⟩|simp
   |false=>
    by_cases hk:k2=0
    ·subst hk
     have HOK:=H_ (show cn T= .ok cs q by
      obtain⟨m,hm,heq⟩:=HEr.out;obtain⟨m,rfl⟩:∃m',m=m'+1:=⟨m-1,by omega⟩;rw[heq,aU,kA (by rw[HTQ.out])])
     clear HEr;go_upto_region 6 with fail;refine ah fq (by kernel_rfl) (by kernel_rfl) (HCOV.out _ (AC _ _).drew) ?_;repeat (go_big_quiet_step (fail))
     refine BL ?_;rintro _ ⟨xq,rfl⟩;have bq:=HF.out xq;have P5:=H_ (HPr.out.below bq);have A5:=H_ (Ar.out.below bq altr);have E5:=H_ (Er.out.below bq eltr);have V5:=H_ (Vr.out.aA bq.size (λk hk=>bq.block k hk.2.1));have B5:=htm Br bq;have hs5:=bq.size;generalize fq xq=w5 at*
     have e2:w5.cell? ⟨P,2,none⟩=some (.bool false):=P5.out.aG.cell 2;have e0:w5.cell? ⟨h,0,none⟩=some (.slice A' cs.length c'):=E5.out.cell 0;clear a0 a1 a2 d0 HF HCOV bq Er Vr Ar HPr Br;have hlen:cs.length<=BD:=by unfold BD;simp only[AU,BO]at hcq;omega
     have HSZ:=H_ (λ(W:World) (h1:Sl kCl W (NG h (λb=>b=h) W) cs A' cs.length)=>HZ.out cs A' cs.length c' W _ h1 (λb hb=>hb.2.1) (by have:=ke HOK.out;omega));go_wp2_with fail;refine(HSZ.out w5 (V5.out.slice hlen)).mono ?_;rintro e' w6 ⟨rfl,b6⟩;have A6:=H_ (A5.out.below b6 (by omega));have E6:=H_ (E5.out.below b6 (by omega));have B6:=htm B5 b6;have SL6:=H_ ((V5.out.slice hlen).aA (G':=λb=>g<b/\b<w6.heap.size) (w':=w6) (λb hb=>⟨⟨by have:=hb.1;omega,by have:=hb.2.1;have:=b6.size;omega⟩,b6.block b hb.2.1⟩));have a6:w6.cell? ⟨g,0,none⟩=some (.slice none 0 0):=A6.out.cell 0;have af:=A6.out.frozen 0;have e6:w6.cell? ⟨h,0,none⟩=some (.slice A' cs.length c'):=E6.out.cell 0;have hgh:g≠h:=by omega
     clear e2 e0 b6 A5 E5 V5 B5 P5;by_cases hbig:4000<lsz csz cs
     ·have hbig':(4000:Int)<(lsz csz cs:Nat):=by omega
      go_wp2_with fail;refine AO (results53 _ _ g (.slice none 0 0) _ _ (A6.out.set 0 _) rfl rfl rfl) rfl ⟨by rw[hgz];exact B6.out.setCell (p:=⟨g,0,none⟩) (AB _) _,_,_,_,rfl,?_⟩;unfold ca;rw[HS'.out];simp only;rw[HOK.out];simp only;rw[AP hbig]
      first|exact⟨rfl,rfl,rfl,by decide⟩|exact⟨trivial,trivial,rfl,by decide⟩|simp
     ·have hbig':¬(4000:Int)<(lsz csz cs:Nat):=by omega
      go_wp2_with fail;refine AO (results53 _ _ g (.slice A' cs.length c') _ _ (A6.out.set 0 _) rfl rfl rfl) rfl ⟨by rw[hgz];exact B6.out.setCell (p:=⟨g,0,none⟩) (AB _) _,_,_,_,rfl,?_⟩;unfold ca;rw[HS'.out];simp only;rw[HOK.out];simp only;rw[AL hbig];refine⟨trivial,trivial,_,_,_,rfl,SL6.out.aA (λb hb=>⟨⟨by have:=hb.1;omega,by simpa using hb.2⟩,AG _ _ _ _ (show b≠g by have:=hb.1;omega)⟩)⟩
    ·have hk':(k2 !=0)=true:=by simpa using hk
     go_upto_region 6 with fail;refine ah fq (by kernel_rfl) (by kernel_rfl) (HCOV.out _ (AC _ _).drew) ?_;repeat (go_big_quiet_step (fail))
     refine BL ?_;rintro _ ⟨xq,rfl⟩;have bq:=HF.out xq;have P5:=H_ (HPr.out.below bq);have A5:=H_ (Ar.out.below bq altr);have E5:=H_ (Er.out.below bq eltr);have V5:=H_ (Vr.out.aA bq.size (λk hk=>bq.block k hk.2.1));have B5:=htm Br bq;have hs5:=bq.size;have HKQ:=H_ (show(tk T q).1≠0 by rw[HTQ.out];exact hk);generalize fq xq=w5 at*
     have elt5:=E5.out.lt;have alt5:=A5.out.lt;have plt5:=P5.out.aG.lt;clear a0 a1 a2 d0 HF HCOV bq Er Vr Ar HPr Br HD3 hd hk hk' HTQ;go_upto_region 7 with fail;obtain⟨j6,b6,hsj⟩:=Is.known (gm T (T.length+1) q)
     refine ay 3 5 (λys=>{tmps:= #[.string s,undef,.pointer (some ⟨g,0,none⟩),.int .i64 0,.int .i64 0,.slice (some ⟨tb,0,none⟩) T.length cap,.int .i64 0,.int .i64 0,.pointer (some ⟨P,0,none⟩),.pointer (some ⟨h,0,none⟩),.tuple #[.slice (some ⟨tb,0,none⟩) T.length cap,.int .i64 0,.int .i64 0],.string s,.tuple #[.slice (some ⟨tb,0,none⟩) T.length cap,.int .i64 0,.int .i64 0],.slice (some ⟨tb,0,none⟩) T.length cap,.int .i64 0,.int .i64 0,.int .i64 0,.bool false,undef,undef,undef,.slice (some ⟨tb,0,none⟩) T.length cap,.agg #[.slice (some ⟨tb,0,none⟩) T.length cap,.int .i64 0,.bool false],.pointer (some ⟨P,0,none⟩),.agg #[.slice none 0 0],.pointer (some ⟨P,0,none⟩),.pointer (some ⟨P,0,none⟩),.pointer (some ⟨P,2,none⟩),.bool false,.bool true,.bool true,.pointer (some ⟨P,0,none⟩),.pointer (some ⟨P,0,none⟩),.pointer (some ⟨P,0,none⟩),.slice (some ⟨tb,0,none⟩) T.length cap,.pointer (some ⟨P,0,none⟩),.pointer (some ⟨P,0,none⟩),.pointer (some ⟨P,1,none⟩),.int .i64 ↑q,.pointer (some ⟨tb,q*4,none⟩),.pointer (some ⟨tb,q*4,none⟩),.int .i64 k2,.bool true,.bool true,(ys 0).getD u44,(ys 1).getD u45,(ys 2).getD u46,(ys 3).getD u47,(ys 4).getD u48,u49,u50,undef,undef,undef,undef,undef,undef,undef,undef,undef,undef,undef,undef,undef,undef,undef,undef,undef,undef,undef,undef,undef],defers:=[]})
      (RQ w5 P (some ⟨tb,0,none⟩) cap T q false j6 b6) h
      (λkx=>match kx with
        |0=>fEq (.pointer (some ⟨h,0,none⟩))
        |1=>fEq (.slice A' cs.length c')
        |2=>fEq (.pointer (some ⟨P,0,none⟩))
        |3=>λv W=>∃y,rvC kCl W (λb=>w5.heap.size<=b/\b<W.heap.size) y v/\Is (gm T (T.length+1) q) y j6 b6
        |_=>λv W=>∃y a ds,v= .slice (some ⟨a,0,none⟩) 1 1/\w5.heap.size<=a/\Blk W a 117 (List.toArray ds)/\kCl.rd W (λb=>w5.heap.size<=b/\b<W.heap.size) y ds/\Is (gm T (T.length+1) q) y j6 b6)
      (by
        intro k
        match k with
        |0=>exact fEq.st _ _
        |1=>exact fEq.st _ _
        |2=>exact fEq.st _ _
        |3=>exact λ_ _ _ hn ⟨y,h1,h2⟩=>⟨y,rvC.aA (λb hb=>⟨⟨hb.1,AF hb.2 hn.size⟩,hn.block b (by have:=hb.1;omega) hb.2⟩) h1,h2⟩
        |_+4=>exact λ_ _ _ hn ⟨y,a,ds,h1,h2,h3,h4,h5⟩=>⟨y,a,ds,h1,h2,(hn.block a (by omega) h3.lt).trans h3,kCl.aA (λb hb=>⟨⟨hb.1,AF hb.2 hn.size⟩,hn.block b (by have:=hb.1;omega) hb.2⟩) h4,h5⟩)
      (by kernel_rfl) (by kernel_rfl) (by decide) (by kernel_rfl) (by decide) rfl ⟨(Bx.refl _ _ _).drew,P5.out.drew⟩ ?_ ?_ ?_
     ·intro i' hi hic b ys W hJ hd;obtain rfl|rfl|rfl|rfl:i'=0\/i'=1\/i'=2\/i'=4:=by omega
      ·exact rdO hJ
      ·obtain⟨_,h0,rfl⟩:=hd 0;exact ldO rfl rfl (gd h0 _) (zb ((E5.out.bx hJ.1 (by omega) (by omega)).cell 0)) hJ
      ·exact mvO hJ
      ·obtain⟨_,h3,y,⟨ds,rfl,hds⟩,hy⟩:=hd 3;have hds':=hds;obtain⟨AA,nn,cc,A2,n2,c2,rfl,_⟩:=hds';have hb:=(AC W.heap.size W).alloc (AB _) (.cells #[.string y.nm,.bool y.actor,.slice AA nn cc,.slice A2 n2 c2] 117);refine stp rfl (by kernel_rfl) λK hK=>?_;refine ip (x:= .tmp 47) rfl (gd h3 _) (wP W _ _ _ _) ?_;exact hK _ _ ⟨.slice (some ⟨W.heap.size,0,none⟩) 1 1,rfl,hJ.below hb,⟨y,W.heap.size,_,rfl,hJ.1.size,Blk.new W 117 _,kCl.aA (λb hb'=>⟨⟨hb'.1,AF hb'.2 hb.size⟩,hb.block b hb'.2⟩) hds,hy⟩,Nw.below hb⟩
     ·intro ys W hJ hd;obtain⟨_,h2,rfl⟩:=hd 2;have hsW:=hJ.1.size;refine stp rfl (by kernel_rfl) λK hK=>?_;refine iU (n:=92) (x:= .tmp 46) rfl (gd h2 _) (by kernel_rfl) ?_;refine ROut.use (xY (n:=T.length+1) (by omega) HNQ.out P cap _ W hJ.2) (λv y jj bb ww hv PP hr hqj bx=>?_);obtain⟨rfl,rfl⟩:=hsj _ _ _ hr;exact hK _ _ ⟨v,rfl,⟨hJ.1.aB bx,PP,hqj⟩,⟨y,rvC.aA (λb hb=>⟨⟨by have:=hb.1;omega,hb.2⟩,rfl⟩) hv,hr⟩,Nw.of bx (by omega)⟩
     ·intro ys W hJ hd;obtain⟨_,h0,rfl⟩:=hd 0;obtain⟨_,h1,rfl⟩:=hd 1;obtain⟨_,h2,rfl⟩:=hd 2;obtain⟨v3,h3,_⟩:=hd 3;obtain⟨_,h4,y,ra,ds,rfl,hra,hrb,hrd,hyi⟩:=hd 4;have hW:=hJ.1.size;have E6:=H_ (E5.out.bx hJ.1 (by omega) (by omega));have A6:=H_ (A5.out.bx hJ.1 (by omega) (by omega));have B6:=H_ (show Below g w W from B5.out.trans (hJ.1.below (by omega) (by omega)));have V6:=H_ (V5.out.aA hJ.1.size (λk hk=>hJ.1.block k hk.2.1 (by have:=hk.1;omega)));have HJ:=H_ hJ;have HRB:=H_ hrb;have HRD:=H_ hrd;have HYI:=H_ hyi;have HLT:=H_ V5.out.lt;have HNZ:=H_ V5.out.1;clear hJ hrb hrd hyi hd E5 A5 B5 V5;rw[show List.range' 5 _=[5,6,7]from rfl,Bl];refine AE rfl λK hK=>?_;simp only[h0,h1,h2,h3,h4,Bz];rw[AP (by kernel_rfl)];have hcq':cs.length<=q:=by simpa using hcq
      refine cZ un (.tmp 45) (.tmp 48) rfl V6.out (ys:=[y]) (dss:=[ds]) (b:=ra) (off:=0) (c:=1) (m:=1) rfl ?_ ?_ rfl rfl rfl ?_ ?_ ?_ ?_
      ·simpa using At.aG HRB.out
      ·intro j' x' cs' h1' h2';cases j' with
       |zero=>
        simp at h1' h2';subst h1' h2';exact kCl.aA (λb hb=>⟨⟨⟨by have:=hb.1;omega,hb.2,λh=>by have:=hb.1;omega⟩,λe=>by have:=(HLT.out b e).2;have:=hb.1;omega⟩,rfl⟩) HRD.out
       |succ j'=>simp at h1'
      ·simp<;>omega
      ·omega
      ·exact λb hb h=>by omega
      ·intro v' w7 hv7 hg7;refine hK _ _ ?_;have hs7:=hg7.size;have hown:∀k,(Value.slice A' cs.length c').ownBlock=some k->h<=k:=λk hk=>(HLT.out k hk).1;have hnz:=HNZ.out;have E7:=H_ (E6.out.aI hg7 (λk hk e=>hnz k hk e.symm));have A7:=H_ (A6.out.aI hg7 (λk hk=>by have:=hown k hk;omega));have P7:=H_ (HJ.out.2.1.grown hg7 (λk hk=>by have:=hown k hk;omega));have B7:=H_ (show Below g w w7 from(B6.out.trans ⟨hg7.os,hg7.tape,hg7.output,hg7.size,λk hk=>hg7.block k (by omega) (λe=>by have:=hown k e.symm;omega)⟩));have hjj:=HJ.out.2.2;obtain⟨A8,c8,rfl,_⟩:=hv7.sl (by simp[BD]<;>omega);rw[show(cs++[y]).length=cs.length+1 from by simp]at hv7;have V7:=H_ hv7;clear hv7 hg7 HJ HRB HRD E6 A6 B6 V6 hK K HLT HNZ hown hnz P5;have x2:w7.cell? ⟨h,0,none⟩=some (.slice A' cs.length c'):=E7.out.cell 0;have x2f:=E7.out.frozen 0;rw[Bl];refine AE rfl λK hK=>?_;go_simp;refine hK _ _ ?_;rw[Bl];refine AE rfl λK hK=>?_;go_simp;refine hK _ _ ?_;have bw:Bx w7.heap.size h w7 (w7.setCell ⟨h,0,none⟩ (.slice A8 (cs.length+1) c8)):=(Bx.refl _ _ _).aJ (.inr rfl) _;have E8:=H_ (show Blk (w7.setCell ⟨h,0,none⟩ (.slice A8 (cs.length+1) c8)) h 28 #[.slice A8 (cs.length+1) c8]from E7.out.set 0 _);have A8':=H_ (A7.out.bx bw A7.out.lt (by omega));have P8:=H_ (P7.out.aA bw (by omega));have B8:=H_ (show Below g w (w7.setCell ⟨h,0,none⟩ (.slice A8 (cs.length+1) c8))from B7.out.setCell (p:=⟨h,0,none⟩) (by show g<=h;omega) _);have V8:=H_ (V7.out.aA bw.size (λk hk=>bw.block k hk.2.1 (λe=>hk.2.2 e)))
       have HEQ:=H_ (show∃m,T.length+1<=m+j6/\cn T=lif (aY T (T.length+1) m (cs++[y])) j6 b6 by
        obtain⟨m,hm,heq⟩:=HEr.out;obtain⟨m,rfl⟩:∃m',m=m'+1:=⟨m-1,by omega⟩
        have h9:cn T=lif (aY T (T.length+1) m (cs++[y])) j6 b6:=by
         have h1:gm T (T.length+1) q=if b6=true then .bad j6 else .ok y j6:=HYI.out;rw[heq,aU,jP HKQ.out,h1];cases b6<;>rfl
        cases b6 with
        |false=>have:=rW (Is.ok_of HYI.out);exact⟨m,by omega,h9⟩
        |true=>exact⟨T.length+1,by omega,h9.trans rfl⟩)
       have hup:b6=false->q<j6:=λe=>by subst e;exact rW (Is.ok_of HYI.out)
       have hj6:=P8.out.lt;clear bw E7 A7 P7 B7 V7 x2 x2f HEr HYI hK K;unfold wpOps;go_wp2_with fail;go_roundg (2*(T.length-j6)+(if b6=true then 0 else 1))
       case rel=>exact⟨cs++[y],j6,b6,A8,c8,rfl,by simpa using E8,by simpa using V8,by simpa using A8',by simpa using P8,by simpa using B8,by
        cases b6
        ·have:=hup rfl;simp;omega
        ·simp;omega,HEQ⟩
       case measure=>
        cases b6
        ·have:=hup rfl;simp;omega
        ·simp;omega
set_option pp.deepTerms true
set_option pp.maxSteps 10000000
def pL(s:ByteArray)(a:Nat)(w:World)(e:Ending)(w':World):Prop:=Below w.heap.size w w'/\∃(k:Int) (t:ByteArray) (v q er:Int),e= .returned (.tuple #[.agg #[.int .i64 k,.string t,.int .i64 v,.int .i64 q],.int .i64 er])/\
 (match ci (s.data.toList.drop a)with
   | .err e'=>er=e'/\er≠0
   | .tok k' t' v'=>er=0/\k=k'/\t=ba t'/\v=v'/\q=(a:Int))
theorem gR{w':World}{B B':Nat}(h:Strs w B (some ⟨g,0,none⟩) n ss)(hb:w'.heap[g]?=w.heap[g]?)(hg:g<B'):Strs w' B' (some ⟨g,0,none⟩) n ss:=
 ⟨h.1,λh0=>by
  obtain⟨b,off,h1,h2,h3⟩:=h.2 h0;simp only[Option.some.injEq,Addr.mk.injEq,Bn]at h1;obtain⟨rfl,rfl⟩:=h1;exact⟨g,0,rfl,hg,λj v hv=>(C8 (a:=⟨g,0+j,none⟩) hb).trans (h3 j v hv)⟩⟩
theorem kG(h:Strs w w.heap.size (some ⟨g,0,none⟩) n ss)(h0:0<n):g<w.heap.size:=by
 obtain⟨b,off,h1,h2,h3⟩:=h.2 h0;simp only[Option.some.injEq,Addr.mk.injEq,Bn]at h1;omega
theorem iV{a:Act}{t:Array TypeId}(ho:o.op= .call {callee:= .value (.func n),args:= #[],argTypes:=t})
 (he:(callFunc n #[]).run P w= .ok (.enter n #[]) w) (h:Calls P n #[] w λe w''=>match e,w'' with
   | .returned u,w''=>K (a.put o.dst u) w''
   | .panicked chain,w''=>Q (.panic chain) a w''
   | .outgrown,_=>LetsOut Q):Oper.wp P o a w K Q:=by
 have hr:(execOp a.eval o).run P w= .ok (.enter n #[]) w:=by
  have hf:a.eval (.func n)= .func (.func n) #[] #[]:=rfl;simp[execOp,ho,resolve,invoke,hf,he,BC,Bv,Deferred.ofValue]
 unfold Oper.wp;rw[hr];exact h
theorem tJ(c:UInt8):eZ c=(dF c||cu c||decide ((c.toNat:Int)=95)):=by
 unfold eZ;rw[show(95:UInt8)=UInt8.ofNat 95 from rfl,gY c 95 (by decide)]
 congr 1
 exact Cu.2 (by omega)
theorem fh(s:ByteArray)(a q:Nat):(s.extract a q).data.toList=(s.data.toList.drop a).take (q-a):=by
 rw[BE,BM,Bq]
theorem cq{tmps:Array Value}{W:World}{k v q:Int}{t:ByteArray}{o0 o1 o2 o3:Value}(h4:tmps.getD 4 undef= .pointer (some ⟨g,0,none⟩))(h5:tmps.getD 5 undef= .int .i64 er)(hq:Blk W g 162 #[o0,o1,o2,o3])(hg:w.heap.size=g)(hB:Below g w W)
 (hR:match ci (s.data.toList.drop a)with
 | .err e'=>er=e'/\er≠0
 | .tok k' t' v'=>er=0/\k=k'/\t=ba t'/\v=v'/\q=(a:Int)):
 bodyPost Tryz.prog Tryz.f141 (pL s a w) .ret {tmps:=tmps,defers:=[]} ((((W.setCell ⟨g,0,none⟩ (.int .i64 k)).setCell ⟨g,1,none⟩ (.string t)).setCell ⟨g,2,none⟩ (.int .i64 v)).setCell ⟨g,3,none⟩ (.int .i64 q)):=by
 obtain⟨N1,N2⟩:=wR hq (.int .i64 k) (.string t) (.int .i64 v) (.int .i64 q);have h:=ab (P:=Tryz.prog) (fn:=Tryz.f141) (p:=4) (u:=5) (ty:=162) rfl tmps _ g 162 _ _ h4 N1 Tryz.underlying162 rfl rQ;rw[h5]at h;refine AO h rfl ⟨?_,k,t,v,q,er,rfl,hR⟩;subst hg;exact hB.trans (N2.below (Be hq.lt) (AB _))
def Run(p:UInt8->Bool)(s:ByteArray)(a q:Nat):Prop:=(s.data.toList.drop a).takeWhile p=(s.data.toList.drop a).take (q-a)++(s.data.toList.drop q).takeWhile p/\(s.data.toList.drop a).dropWhile p=(s.data.toList.drop q).dropWhile p
theorem Run.start(p:UInt8->Bool)(s:ByteArray)(a:Nat):Run p s a a:=⟨by simp,rfl⟩
theorem Run.step(h:Run p s a q)(ha:a<=q)(hq:q<s.size)(hp:p s[q]=true):Run p s a (q+1):=by
 obtain⟨h1,h2⟩:=h;have hl:q<s.data.toList.length:=by simpa using hq
 rw[ct s hq,Bj hp]at h1;rw[ct s hq,List.dropWhile_cons_of_pos hp]at h2;refine⟨?_,h2⟩;rw[h1,show q+1-a=(q-a)+1 by omega,BT,CS,show a+(q-a)=q by omega,AI hl];simp;rfl
theorem Run.stop(h:Run p s a q)(hq:q<=s.size)(hp:∀hq:q<s.size,p s[q]=false):
 (s.data.toList.drop a).takeWhile p=(s.data.toList.drop a).take (q-a)/\(s.data.toList.drop a).dropWhile p=s.data.toList.drop q:=by
 obtain⟨h1,h2⟩:=h;rcases BI q s.size with hl|hl
 ·have h3:=hp hl;rw[ct s hl,CP (by rw[h3];decide),Da]at h1;rw[ct s hl,CO (by rw[h3];decide),<-ct s hl]at h2;exact⟨h1,h2⟩
 ·obtain rfl:q=s.size:=by omega
  rw[jR]at h1 h2;rw[jR];exact⟨by simpa using h1,by simpa using h2⟩
theorem mu(ha:a<s.size)(hL:dF s[a]=true)(ht:(s.data.toList.drop a).takeWhile eZ=tx.data.toList):
 ci (s.data.toList.drop a)=if 31<tx.size then .err 8 else .tok (if inB kwL tx=true then 4 else if s[a].toNat<=90 then 3 else 2) tx.data.toList 0:=by
 have hw:eZ s[a]=true:=by unfold eZ;rw[hL];rfl
 have hhd:tx.data.toList.head?=some s[a]:=by rw[<-ht,ct s ha,Bj hw];rfl
 have h1:ci (s.data.toList.drop a)=mM (s.data.toList.drop a):=by
  rw[ct s ha];unfold ci;simp only;rw[AP hL]
 rw[h1];unfold mM;simp only;rw[ht,hhd];simp only[Option.any_some,Bk];rfl
theorem ta(s:ByteArray)(a:Nat)(ha:a<s.size)(hs:s.size<=100000)(hL:dF s[a]=true)(w:World):Calls Tryz.prog 141 #[.string s,.int .i64 a] w (pL s a w):=by
 obtain⟨w0,hw0⟩:=nm_ (w.alloc (.cells #[.int .i64 0,.string ⟨#[]⟩,.int .i64 0,.int .i64 0] 162));have Q0:=H_ (show Blk w0 w.heap.size 162 #[.int .i64 0,.string ⟨#[]⟩,.int .i64 0,.int .i64 0]from hw0▸Blk.new w 162 _);have B0:=H_ (show Below w.heap.size w w0 from hw0▸(AC _ _).alloc (AB _) _);have hz0:w0.heap.size=w.heap.size+1:=by rw[<-hw0];exact AR _ _
 have ha0:0<=(a:Int):=by omega
 have ha1:(a:Int)<s.size:=by omega
 have HL:=H_ hL;go_enter Tryz.func141,Tryz.ntmps141;go_upto_region 1 with(fail);obtain⟨g,hgz⟩:=nm_ (w.heap.size);rw[hgz]at Q0 hz0⊢;clear hw0 hL;go_wp2_with fail;refine(cN s[a] _).mono ?_;rintro e w1 ⟨rfl,rfl⟩;rw[HL.out];go_wp2_with fail;go_loop [6] (λu=>∃q:Nat,a<=q/\q<=s.size/\u= .int .i64 q/\Hid (Run eZ s a q)) (λu=>s.size-(intOf u).toNat)
 case atStart=>exact⟨a,AB _,by omega,rfl,H_ (Run.start _ _ _)⟩
 case round=>
  obtain⟨q,haq,hqs,rfl,HR⟩:=hrel;by_cases hq:q<s.size
  ·have hq0:0<=(q:Int):=by omega
   have hq1:(q:Int)<s.size:=by omega
   have HW:=H_ (tJ s[q]);cases hl:dF s[q]with
   |true=>
    have HN:=H_ (HR.out.step haq hq (by rw[HW.out,hl];rfl));have HHL:=H_ hl;clear hl HW;go_wp2_with fail;refine(cN s[q] _).mono ?_;rintro e w1 ⟨rfl,rfl⟩;rw[HHL.out];go_wp2_with fail;exact⟨⟨q+1,by omega,by omega,by go_num,HN⟩,by simp[intOf];omega⟩
   |false=>
    cases hd:cu s[q]with
    |true=>
     have HN:=H_ (HR.out.step haq hq (by rw[HW.out,hl,hd];rfl));have HHL:=H_ hl;have HHD:=H_ hd;clear hl hd HW;go_wp2_with fail;refine(cN s[q] _).mono ?_;rintro e w1 ⟨rfl,rfl⟩;rw[HHL.out];go_wp2_with fail;refine(dQ s[q] _).mono ?_;rintro e w1 ⟨rfl,rfl⟩;rw[HHD.out];go_wp2_with fail;exact⟨⟨q+1,by omega,by omega,by go_num,HN⟩,by simp[intOf];omega⟩
    |false=>
     have HHL:=H_ hl;have HHD:=H_ hd;by_cases hu:(s[q].toNat:Int)=95
     ·have hu':((s[q].toNat:Int)==95)=true:=by simpa using hu
      have HN:=H_ (HR.out.step haq hq (by rw[HW.out,hl,hd,BJ hu];rfl));clear hl hd HW hu;go_wp2_with fail;refine(cN s[q] _).mono ?_;rintro e w1 ⟨rfl,rfl⟩;rw[HHL.out];go_wp2_with fail;refine(dQ s[q] _).mono ?_;rintro e w1 ⟨rfl,rfl⟩;rw[HHD.out];go_wp2_with fail;exact⟨⟨q+1,by omega,by omega,by go_num,HN⟩,by simp[intOf];omega⟩
     ·have hu':=AD.2 hu;have HN:=H_ (HR.out.stop hqs (λ_=>by rw[HW.out,hl,hd,Bg hu];rfl));clear hl hd HW hu;go_wp2_with fail;refine(cN s[q] _).mono ?_;rintro e w1 ⟨rfl,rfl⟩;rw[HHL.out];go_wp2_with fail;refine(dQ s[q] _).mono ?_;rintro e w1 ⟨rfl,rfl⟩;rw[HHD.out];go_upto_region 6 with fail;obtain⟨e,hez⟩:=nm_ (g+1);rw[hez];obtain⟨tx,htx⟩:=nm_ (s.extract a q);have HTX:=H_ (show(s.data.toList.drop a).takeWhile eZ=tx.data.toList by rw[HN.out.1,<-htx,fh]);rw[htx];obtain⟨w2,hw2⟩:=nm_ (w0.alloc (.cells #[.int .i64 2,.string tx,.int .i64 0,.int .i64 a] 162));have E2:=H_ (show Blk w2 e 162 #[.int .i64 2,.string tx,.int .i64 0,.int .i64 a]from hw2▸hez▸hz0▸Blk.new w0 162 _);have bb2:=bal hw2;have Q2:=H_ (Q0.out.below bb2 (by omega));have B2:=H_ (show Below g w w2 from hgz▸B0.out.trans (bb2.mono (by omega)));have hs2:e<w2.heap.size:=E2.out.lt;rw[hw2];clear hw2 bb2 Q0 B0 htx HN;have e1:w2.cell? ⟨e,1,none⟩=some (.string tx):=E2.out.cell 1;have HTL:=H_ (mu (s:=s) (a:=a) ha HL.out HTX.out);by_cases h31:31<tx.size
      ·have h31':(31:Int)<tx.size:=by omega
       have HR:=H_ (show ci (s.data.toList.drop a)= .err 8 by rw[HTL.out,AP h31]);obtain⟨⟨d0,d1,d2,d3⟩,f0,f1,f2,f3⟩:=Blk.aH Q2.out;clear h31 HTL;go_wp2_with fail;exact cq (er:=8) (by simp) (by simp) Q2.out hgz B2.out (by rw[HR.out];exact⟨rfl,by decide⟩)
      ·have h31':¬(31:Int)<tx.size:=by omega
       have HTL2:=H_ (show ci (s.data.toList.drop a)=_ by rw[HTL.out,AL h31]);clear h31 HTL;go_upto_region 8 with fail;go_cut [53] (λv wx=>v= .bool (inB kwL tx)/\Hid (Below w2.heap.size w2 wx))
       case first=>
        refine ay 0 3 (λys=>{tmps:= #[.string s,.int .i64 ↑a,undef,undef,.pointer (some ⟨g,0,none⟩),.int .i64 0,.int .i64 ↑q,.pointer (some ⟨e,0,none⟩),undef,undef,.int .i64 ↑a,.string s,.int .i64 ↑a,.int .u8 ↑s[a].toNat,.bool true,.int .i64 ↑q,.string s,.int .i64 ↑s.size,.bool true,.bool true,.string s,.int .i64 ↑q,.int .u8 ↑s[q].toNat,.bool false,.bool false,.string s,.int .i64 ↑q,.int .u8 ↑s[q].toNat,.bool false,.bool false,.bool false,.string s,.int .i64 ↑q,.int .u8 ↑s[q].toNat,.bool false,.bool false,.bool false,u37,u38,.string s,.int .i64 ↑a,.int .i64 ↑q,.string tx,.int .i64 ↑a,.agg #[.int .i64 2,.string tx,.int .i64 0,.int .i64 ↑a],.pointer (some ⟨e,1,none⟩),.string tx,.int .i64 ↑tx.size,.bool false,undef,(ys 0).getD undef,(ys 1).getD undef,(ys 2).getD undef,undef,undef,undef,undef,undef,undef,undef,undef,undef,undef,undef,undef,undef,undef,undef,undef,undef,undef,undef,undef,undef,undef,undef,undef,undef,undef,undef,undef,undef,undef,undef,undef,undef,undef,undef,undef,undef,undef,undef,undef,undef,undef,undef,undef,undef,undef,undef,undef,undef,undef,undef,undef,undef,undef,undef,undef,undef,undef,undef,undef,undef,undef,undef,undef,undef,undef,undef,undef,undef,undef,undef,undef,undef,undef,undef,undef,undef,undef,undef,undef,undef,undef,undef,undef,undef,undef,undef,undef,undef,undef,undef,undef,undef,undef,undef,undef],defers:=[]})
         (λ_ W=>Below w2.heap.size w2 W) w2.heap.size
         (λkx=>match kx with
           |0=>λv W=>∃A,v= .slice (some ⟨A,0,none⟩) 24 24/\w2.heap.size<=A/\A<W.heap.size/\Strs W W.heap.size (some ⟨A,0,none⟩) 24 kwL
           |1=>fEq (.pointer (some ⟨e,1,none⟩))
           |_=>fEq (.string tx))
         (by
           intro k
           match k with
           |0=>exact λ_ _ _ hn ⟨A,h1,h2,h3,h4⟩=>⟨A,h1,h2,AF h3 hn.size,gR h4 (hn.block A h2 h3) (AF h3 hn.size)⟩
           |1=>exact fEq.st _ _
           |_+2=>exact fEq.st _ _)
         (by kernel_rfl) (by kernel_rfl) (by decide) (by kernel_rfl) (by decide) rfl (AC _ _).drew ?_ ?_ ?_
        ·intro i' hi hic b ys W hJ hd;obtain rfl|rfl:i'=1\/i'=2:=by omega
         ·exact rdO hJ
         ·obtain⟨_,h1,rfl⟩:=hd 1;exact ldO rfl rfl (gd h1 _) (vi ((E2.out.below hJ hs2).cell 1)) hJ
        ·intro ys W hJ hd;refine stp rfl (by kernel_rfl) λK hK=>?_;refine iV (n:=173) rfl (by kernel_rfl) ?_;refine(iv W).mono ?_;rintro e' W' ⟨rfl,b1,s1⟩;have hsz:=b1.size;exact hK _ _ ⟨_,rfl,hJ.trans (b1.mono hJ.size),⟨W.heap.size,rfl,hJ.size,kG s1 (by decide),s1⟩,Nw.below b1⟩
        ·intro ys W hJ hd;obtain⟨_,h0,AA,rfl,_,_,hst⟩:=hd 0;obtain⟨_,h1,rfl⟩:=hd 1;obtain⟨_,h2,rfl⟩:=hd 2;rw[show List.range' 3 _=[3]from rfl,Bl];refine AE rfl λK hK=>?_;simp only[h0,h1,h2,Bz];rw[AP (by kernel_rfl)];refine cV (n:=172) (x:= .tmp 50) (y:= .tmp 52) rfl rfl rfl (by kernel_rfl) ?_;refine(vx _ _ _ kwL tx _ _ hst (by omega)).mono ?_;rintro e' W' ⟨rfl,rfl⟩;refine hK _ _ ?_;have HJ:=H_ hJ;clear hJ hst hd;unfold wpOps;go_wp2_with fail;go_meet;exact⟨rfl,HJ⟩
       case rest=>
        obtain⟨rfl,hb3⟩:=hcut;obtain⟨w3,rfl⟩:∃w3,w3=wc:=⟨_,rfl⟩;have E3:=H_ (E2.out.below hb3.out hs2);have Q3:=H_ (Q2.out.below hb3.out (by omega));have B3:=H_ (show Below g w w3 from B2.out.trans (hb3.out.mono (by omega)));have hge:g≠e:=by omega
        clear E2 Q2 B2 hb3 e1;cases hin:inB kwL tx with
        |true=>
         have HR:=H_ (show ci (s.data.toList.drop a)= .tok 4 tx.data.toList 0 by rw[HTL2.out,hin];rfl);clear HTL2 hin
         obtain⟨⟨d0,d1,d2,d3⟩,f0,f1,f2,f3⟩:=Blk.aH Q3.out;obtain⟨⟨x0,x1,x2,x3⟩,y0,y1,y2,y3⟩:=Blk.aH E3.out;have Q4:=H_ (show Blk (w3.setCell ⟨e,0,none⟩ (.int .i64 4)) g 162 _ from(AG _ _ _ _ hge).trans Q3.out);have B4:=H_ (show Below g w (w3.setCell ⟨e,0,none⟩ (.int .i64 4))from B3.out.setCell (p:=⟨e,0,none⟩) (by show g<=e;omega) _);go_wp2_with fail;exact cq (er:=0) (by simp) (by simp) Q4.out hgz B4.out (by rw[HR.out];exact⟨rfl,rfl,rfl,rfl,rfl⟩)
        |false=>
         by_cases h90:(s[a].toNat:Int)<=90
         ·have HR:=H_ (show ci (s.data.toList.drop a)= .tok 3 tx.data.toList 0 by
           rw[HTL2.out,hin];simp only[AU,BO];rw[AP (by omega)])
          clear HTL2 hin
          obtain⟨⟨d0,d1,d2,d3⟩,f0,f1,f2,f3⟩:=Blk.aH Q3.out;obtain⟨⟨x0,x1,x2,x3⟩,y0,y1,y2,y3⟩:=Blk.aH E3.out;have Q4:=H_ (show Blk (w3.setCell ⟨e,0,none⟩ (.int .i64 3)) g 162 _ from(AG _ _ _ _ hge).trans Q3.out);have B4:=H_ (show Below g w (w3.setCell ⟨e,0,none⟩ (.int .i64 3))from B3.out.setCell (p:=⟨e,0,none⟩) (by show g<=e;omega) _);go_wp2_with fail;exact cq (er:=0) (by simp) (by simp) Q4.out hgz B4.out (by rw[HR.out];exact⟨rfl,rfl,rfl,rfl,rfl⟩)
         ·have HR:=H_ (show ci (s.data.toList.drop a)= .tok 2 tx.data.toList 0 by
           rw[HTL2.out,hin];simp only[AU,BO];rw[AL (by omega)])
          clear HTL2 hin
          obtain⟨⟨d0,d1,d2,d3⟩,f0,f1,f2,f3⟩:=Blk.aH Q3.out;obtain⟨⟨x0,x1,x2,x3⟩,y0,y1,y2,y3⟩:=Blk.aH E3.out;go_wp2_with fail;exact cq (er:=0) (by simp) (by simp) Q3.out hgz B3.out (by rw[HR.out];exact⟨rfl,rfl,rfl,rfl,rfl⟩)
  ·obtain rfl:q=s.size:=by omega
   have HN:=H_ (HR.out.stop hqs (λh=>absurd h (Ci _)));go_upto_region 6 with fail;obtain⟨e,hez⟩:=nm_ (g+1);rw[hez];obtain⟨tx,htx⟩:=nm_ (s.extract a s.size);have HTX:=H_ (show(s.data.toList.drop a).takeWhile eZ=tx.data.toList by rw[HN.out.1,<-htx,fh]);rw[htx];obtain⟨w2,hw2⟩:=nm_ (w0.alloc (.cells #[.int .i64 2,.string tx,.int .i64 0,.int .i64 a] 162));have E2:=H_ (show Blk w2 e 162 #[.int .i64 2,.string tx,.int .i64 0,.int .i64 a]from hw2▸hez▸hz0▸Blk.new w0 162 _);have bb2:=bal hw2;have Q2:=H_ (Q0.out.below bb2 (by omega));have B2:=H_ (show Below g w w2 from hgz▸B0.out.trans (bb2.mono (by omega)));have hs2:e<w2.heap.size:=E2.out.lt;rw[hw2];clear hw2 bb2 Q0 B0 htx HN;have e1:w2.cell? ⟨e,1,none⟩=some (.string tx):=E2.out.cell 1;have HTL:=H_ (mu (s:=s) (a:=a) ha HL.out HTX.out);by_cases h31:31<tx.size
   ·have h31':(31:Int)<tx.size:=by omega
    have HR:=H_ (show ci (s.data.toList.drop a)= .err 8 by rw[HTL.out,AP h31]);obtain⟨⟨d0,d1,d2,d3⟩,f0,f1,f2,f3⟩:=Blk.aH Q2.out;clear h31 HTL;go_wp2_with fail;exact cq (er:=8) (by simp) (by simp) Q2.out hgz B2.out (by rw[HR.out];exact⟨rfl,by decide⟩)
   ·have h31':¬(31:Int)<tx.size:=by omega
    have HTL2:=H_ (show ci (s.data.toList.drop a)=_ by rw[HTL.out,AL h31]);clear h31 HTL;go_upto_region 8 with fail;go_cut [53] (λv wx=>v= .bool (inB kwL tx)/\Hid (Below w2.heap.size w2 wx))
    case first=>
     refine ay 0 3 (λys=>{tmps:= #[.string s,.int .i64 ↑a,undef,undef,.pointer (some ⟨g,0,none⟩),.int .i64 0,.int .i64 ↑s.size,.pointer (some ⟨e,0,none⟩),undef,undef,.int .i64 ↑a,.string s,.int .i64 ↑a,.int .u8 ↑s[a].toNat,.bool true,.int .i64 ↑s.size,.string s,.int .i64 ↑s.size,.bool false,.bool false,undef,undef,undef,undef,undef,undef,undef,undef,undef,undef,undef,undef,undef,undef,undef,undef,.bool false,u37,u38,.string s,.int .i64 ↑a,.int .i64 ↑s.size,.string tx,.int .i64 ↑a,.agg #[.int .i64 2,.string tx,.int .i64 0,.int .i64 ↑a],.pointer (some ⟨e,1,none⟩),.string tx,.int .i64 ↑tx.size,.bool false,undef,(ys 0).getD undef,(ys 1).getD undef,(ys 2).getD undef,undef,undef,undef,undef,undef,undef,undef,undef,undef,undef,undef,undef,undef,undef,undef,undef,undef,undef,undef,undef,undef,undef,undef,undef,undef,undef,undef,undef,undef,undef,undef,undef,undef,undef,undef,undef,undef,undef,undef,undef,undef,undef,undef,undef,undef,undef,undef,undef,undef,undef,undef,undef,undef,undef,undef,undef,undef,undef,undef,undef,undef,undef,undef,undef,undef,undef,undef,undef,undef,undef,undef,undef,undef,undef,undef,undef,undef,undef,undef,undef,undef,undef,undef,undef,undef,undef,undef,undef,undef,undef,undef,undef,undef,undef,undef,undef],defers:=[]})
      (λ_ W=>Below w2.heap.size w2 W) w2.heap.size
      (λkx=>match kx with
        |0=>λv W=>∃A,v= .slice (some ⟨A,0,none⟩) 24 24/\w2.heap.size<=A/\A<W.heap.size/\Strs W W.heap.size (some ⟨A,0,none⟩) 24 kwL
        |1=>fEq (.pointer (some ⟨e,1,none⟩))
        |_=>fEq (.string tx))
      (by
        intro k
        match k with
        |0=>exact λ_ _ _ hn ⟨A,h1,h2,h3,h4⟩=>⟨A,h1,h2,AF h3 hn.size,gR h4 (hn.block A h2 h3) (AF h3 hn.size)⟩
        |1=>exact fEq.st _ _
        |_+2=>exact fEq.st _ _)
      (by kernel_rfl) (by kernel_rfl) (by decide) (by kernel_rfl) (by decide) rfl (AC _ _).drew ?_ ?_ ?_
     ·intro i' hi hic b ys W hJ hd;obtain rfl|rfl:i'=1\/i'=2:=by omega
      ·exact rdO hJ
      ·obtain⟨_,h1,rfl⟩:=hd 1;exact ldO rfl rfl (gd h1 _) (vi ((E2.out.below hJ hs2).cell 1)) hJ
     ·intro ys W hJ hd;refine stp rfl (by kernel_rfl) λK hK=>?_;refine iV (n:=173) rfl (by kernel_rfl) ?_;refine(iv W).mono ?_;rintro e' W' ⟨rfl,b1,s1⟩;have hsz:=b1.size;exact hK _ _ ⟨_,rfl,hJ.trans (b1.mono hJ.size),⟨W.heap.size,rfl,hJ.size,kG s1 (by decide),s1⟩,Nw.below b1⟩
     ·intro ys W hJ hd;obtain⟨_,h0,AA,rfl,_,_,hst⟩:=hd 0;obtain⟨_,h1,rfl⟩:=hd 1;obtain⟨_,h2,rfl⟩:=hd 2;rw[show List.range' 3 _=[3]from rfl,Bl];refine AE rfl λK hK=>?_;simp only[h0,h1,h2,Bz];rw[AP (by kernel_rfl)];refine cV (n:=172) (x:= .tmp 50) (y:= .tmp 52) rfl rfl rfl (by kernel_rfl) ?_;refine(vx _ _ _ kwL tx _ _ hst (by omega)).mono ?_;rintro e' W' ⟨rfl,rfl⟩;refine hK _ _ ?_;have HJ:=H_ hJ;clear hJ hst hd;unfold wpOps;go_wp2_with fail;go_meet;exact⟨rfl,HJ⟩
    case rest=>
     obtain⟨rfl,hb3⟩:=hcut;obtain⟨w3,rfl⟩:∃w3,w3=wc:=⟨_,rfl⟩;have E3:=H_ (E2.out.below hb3.out hs2);have Q3:=H_ (Q2.out.below hb3.out (by omega));have B3:=H_ (show Below g w w3 from B2.out.trans (hb3.out.mono (by omega)));have hge:g≠e:=by omega
     clear E2 Q2 B2 hb3 e1;cases hin:inB kwL tx with
     |true=>
      have HR:=H_ (show ci (s.data.toList.drop a)= .tok 4 tx.data.toList 0 by rw[HTL2.out,hin];rfl);clear HTL2 hin
      obtain⟨⟨d0,d1,d2,d3⟩,f0,f1,f2,f3⟩:=Blk.aH Q3.out;obtain⟨⟨x0,x1,x2,x3⟩,y0,y1,y2,y3⟩:=Blk.aH E3.out;have Q4:=H_ (show Blk (w3.setCell ⟨e,0,none⟩ (.int .i64 4)) g 162 _ from(AG _ _ _ _ hge).trans Q3.out);have B4:=H_ (show Below g w (w3.setCell ⟨e,0,none⟩ (.int .i64 4))from B3.out.setCell (p:=⟨e,0,none⟩) (by show g<=e;omega) _);go_wp2_with fail;exact cq (er:=0) (by simp) (by simp) Q4.out hgz B4.out (by rw[HR.out];exact⟨rfl,rfl,rfl,rfl,rfl⟩)
     |false=>
      by_cases h90:(s[a].toNat:Int)<=90
      ·have HR:=H_ (show ci (s.data.toList.drop a)= .tok 3 tx.data.toList 0 by
        rw[HTL2.out,hin];simp only[AU,BO];rw[AP (by omega)])
       clear HTL2 hin
       obtain⟨⟨d0,d1,d2,d3⟩,f0,f1,f2,f3⟩:=Blk.aH Q3.out;obtain⟨⟨x0,x1,x2,x3⟩,y0,y1,y2,y3⟩:=Blk.aH E3.out;have Q4:=H_ (show Blk (w3.setCell ⟨e,0,none⟩ (.int .i64 3)) g 162 _ from(AG _ _ _ _ hge).trans Q3.out);have B4:=H_ (show Below g w (w3.setCell ⟨e,0,none⟩ (.int .i64 3))from B3.out.setCell (p:=⟨e,0,none⟩) (by show g<=e;omega) _);go_wp2_with fail;exact cq (er:=0) (by simp) (by simp) Q4.out hgz B4.out (by rw[HR.out];exact⟨rfl,rfl,rfl,rfl,rfl⟩)
      ·have HR:=H_ (show ci (s.data.toList.drop a)= .tok 2 tx.data.toList 0 by
        rw[HTL2.out,hin];simp only[AU,BO];rw[AL (by omega)])
       clear HTL2 hin
       obtain⟨⟨d0,d1,d2,d3⟩,f0,f1,f2,f3⟩:=Blk.aH Q3.out;obtain⟨⟨x0,x1,x2,x3⟩,y0,y1,y2,y3⟩:=Blk.aH E3.out;go_wp2_with fail;exact cq (er:=0) (by simp) (by simp) Q3.out hgz B3.out (by rw[HR.out];exact⟨rfl,rfl,rfl,rfl,rfl⟩)
theorem tW(ha:a<s.size)(hL:dF s[a]=false)(hD:cu s[a]=true):ci (s.data.toList.drop a)=fa (s.data.toList.drop a):=by
 rw[ct s ha];unfold ci;simp only;rw[AL (by rw[hL];decide),AP hD]
theorem rC(hq:q<s.size)(hd:(s.data.toList.drop a).dropWhile cu=s.data.toList.drop q)(hb:(dF s[q]||s[q]==95)=true):fa (s.data.toList.drop a)= .err 3:=by
 unfold fa;simp only;rw[AP (.inr (by rw[hd,ct s hq];exact hb))]
theorem uF{n:Int}(ht:(s.data.toList.drop a).takeWhile cu=tx.data.toList)(hd:(s.data.toList.drop a).dropWhile cu=s.data.toList.drop q)(hb:∀hq:q<s.size,(dF s[q]||s[q]==95)=false)(hqs:q<=s.size)
 (h:jr tx.data.toList n er):match fa (s.data.toList.drop a)with
 | .err e'=>er=e'/\er≠0
 | .tok k' t' v'=>er=0/\(1:Int)=k'/\tx=ba t'/\n=v'/\(a:Int)=(a:Int):=by
 have hz:((s.data.toList.drop q).head?.any λc=>dF c||c==95)=false:=by
  rcases BI q s.size with hq|hq
  ·rw[ct s hq];exact hb hq
  ·obtain rfl:q=s.size:=by omega
   rw[jR];rfl
 unfold jr at h;unfold fa;simp only;rw[ht,hd,hz];by_cases h1:2<=tx.data.toList.length/\tx.data.toList.head?=some 48
 ·rw[AP h1]at h;rw[AP (.inl h1)];exact⟨h,by omega⟩
 ·rw[AL h1]at h;rw[AL (by rintro(h2|h2);exact h1 h2;cases h2)];by_cases h2:2305843009213693951<cO tx.data.toList
  ·rw[AP h2]at h;rw[AP h2];exact⟨h,by omega⟩
  ·rw[AL h2]at h;rw[AL h2];exact⟨h.1,rfl,rfl,h.2,by trivial⟩
theorem uQ(s:ByteArray)(a:Nat)(ha:a<s.size)(hs:s.size<=100000)(hL:dF s[a]=false)(hD:cu s[a]=true)(w:World):Calls Tryz.prog 141 #[.string s,.int .i64 a] w (pL s a w):=by
 obtain⟨w0,hw0⟩:=nm_ (w.alloc (.cells #[.int .i64 0,.string ⟨#[]⟩,.int .i64 0,.int .i64 0] 162));have Q0:=H_ (show Blk w0 w.heap.size 162 #[.int .i64 0,.string ⟨#[]⟩,.int .i64 0,.int .i64 0]from hw0▸Blk.new w 162 _);have B0:=H_ (show Below w.heap.size w w0 from hw0▸(AC _ _).alloc (AB _) _);have hz0:w0.heap.size=w.heap.size+1:=by rw[<-hw0];exact AR _ _
 have ha0:0<=(a:Int):=by omega
 have ha1:(a:Int)<s.size:=by omega
 have HL:=H_ hL;have HD:=H_ hD;have HTL:=H_ (tW ha hL hD);go_enter Tryz.func141,Tryz.ntmps141;go_upto_region 1 with(fail);obtain⟨g,hgz⟩:=nm_ (w.heap.size);rw[hgz]at Q0 hz0⊢;clear hw0 hL hD;go_wp2_with fail;refine(cN s[a] _).mono ?_;rintro e w1 ⟨rfl,rfl⟩;rw[HL.out];go_wp2_with fail;refine(dQ s[a] _).mono ?_;rintro e w1 ⟨rfl,rfl⟩;rw[HD.out];go_wp2_with fail;go_loop [6] (λu=>∃q:Nat,a<=q/\q<=s.size/\u= .int .i64 q/\Hid (Run cu s a q)) (λu=>s.size-(intOf u).toNat)
 case atStart=>exact⟨a,AB _,by omega,rfl,H_ (Run.start _ _ _)⟩
 case round=>
  obtain⟨q,haq,hqs,rfl,HR⟩:=hrel;by_cases hq:q<s.size
  ·have hq0:0<=(q:Int):=by omega
   have hq1:(q:Int)<s.size:=by omega
   cases hd:cu s[q]with
   |true=>
    have HN:=H_ (HR.out.step haq hq hd);have HHD:=H_ hd;clear hd;go_wp2_with fail;refine(dQ s[q] _).mono ?_;rintro e w1 ⟨rfl,rfl⟩;rw[HHD.out];go_wp2_with fail;exact⟨⟨q+1,by omega,by omega,by go_num,HN⟩,by simp[intOf];omega⟩
   |false=>
    have HN:=H_ (HR.out.stop hqs (λ_=>hd));have HHD:=H_ hd;clear hd
    have hu95:(s[q]==95)=decide ((s[q].toNat:Int)=95):=by
     rw[show(95:UInt8)=UInt8.ofNat 95 from rfl,gY s[q] 95 (by decide)];exact Cu.2 (by omega)
    have HU:=H_ hu95;clear hu95;cases hl:dF s[q]with
    |true=>
     have HHL:=H_ hl;have HR:=H_ (show ci (s.data.toList.drop a)= .err 3 by rw[HTL.out];exact rC hq HN.out.2 (by rw[HHL.out];rfl));obtain⟨⟨d0,d1,d2,d3⟩,f0,f1,f2,f3⟩:=Blk.aH Q0.out;clear hl;go_wp2_with fail;refine(dQ s[q] _).mono ?_;rintro e w1 ⟨rfl,rfl⟩;rw[HHD.out];go_wp2_with fail;refine(cN s[q] _).mono ?_;rintro e w1 ⟨rfl,rfl⟩;rw[HHL.out];go_wp2_with fail;exact cq (er:=3) (by simp) (by simp) Q0.out hgz (hgz▸B0.out) (by rw[HR.out];exact⟨rfl,by decide⟩)
    |false=>
     have HHL:=H_ hl;by_cases hu:(s[q].toNat:Int)=95
     ·have hu':((s[q].toNat:Int)==95)=true:=by simpa using hu
      have HR:=H_ (show ci (s.data.toList.drop a)= .err 3 by rw[HTL.out];exact rC hq HN.out.2 (by rw[HU.out,BJ hu];simp));obtain⟨⟨d0,d1,d2,d3⟩,f0,f1,f2,f3⟩:=Blk.aH Q0.out;clear hl hu;go_wp2_with fail;refine(dQ s[q] _).mono ?_;rintro e w1 ⟨rfl,rfl⟩;rw[HHD.out];go_wp2_with fail;refine(cN s[q] _).mono ?_;rintro e w1 ⟨rfl,rfl⟩;rw[HHL.out];go_wp2_with fail;exact cq (er:=3) (by simp) (by simp) Q0.out hgz (hgz▸B0.out) (by rw[HR.out];exact⟨rfl,by decide⟩)
     ·have hu':=AD.2 hu;have HB:=H_ (show∀hq:q<s.size,(dF s[q]||s[q]==95)=false from λ_=>by rw[hl,HU.out,Bg hu];rfl);clear hl hu;obtain⟨tx,htx⟩:=nm_ (s.extract a q);have HTX:=H_ (show(s.data.toList.drop a).takeWhile cu=tx.data.toList by rw[HN.out.1,<-htx,fh]);have hall:∀x∈tx.data.toList,cu x=true:=λx hx=>by rw[<-HTX.out]at hx;exact Bb.1 List.all_takeWhile x hx
      have hne:1<=tx.size:=by
       have h1:tx.data.toList.length=tx.size:=by simp
       have h2:=HTX.out;rw[ct s ha,Bj HD.out]at h2;rw[<-h1,<-h2];simp
      have hle:tx.size<=100000:=by
       have h1:tx.data.toList.length=tx.size:=by simp
       have h2:=CN (List.takeWhile_sublist (p:=cu) (l:=s.data.toList.drop a));rw[HTX.out,h1]at h2;have h3:(s.data.toList.drop a).length=s.size-a:=by simp
       omega
      have HNU:=H_ (mK tx hall hne hle);have HTK:=H_ (λn er=>uF (n:=n) (er:=er) HTX.out HN.out.2 HB.out hqs);clear hall hne hle;go_wp2_with fail;refine(dQ s[q] _).mono ?_;rintro e w1 ⟨rfl,rfl⟩;rw[HHD.out];go_wp2_with fail;refine(cN s[q] _).mono ?_;rintro e w1 ⟨rfl,rfl⟩;rw[HHL.out];go_wp2_with fail;try rw[htx]
      refine(HNU.out _).mono ?_;rintro e w1 ⟨rfl,n,er,rfl,hnp⟩;have HT2:=H_ (HTK.out n er hnp);obtain⟨⟨d0,d1,d2,d3⟩,f0,f1,f2,f3⟩:=Blk.aH Q0.out;by_cases her:er=0
      ·subst her;have HR:=H_ (show ci (s.data.toList.drop a)=fa (s.data.toList.drop a)from HTL.out);clear hnp HTK HNU;go_wp2_with fail;try rw[htx]
       exact cq (er:=0) (by simp) (by simp) Q0.out hgz (hgz▸B0.out) (by
        rw[HR.out];have h:=HT2.out;revert h;cases fa (s.data.toList.drop a)<;>simp)
      ·have her':(er !=0)=true:=by simpa using her
       have HR:=H_ (show match ci (s.data.toList.drop a)with
        | .err e'=>er=e'/\er≠0
        | .tok k' t' v'=>er=0/\(0:Int)=k'/\(⟨#[]⟩:ByteArray)=ba t'/\(0:Int)=v'/\(0:Int)=(a:Int) by
        rw[HTL.out];have h:=HT2.out;cases hz:fa (s.data.toList.drop a)with
        |err e'=>rw[hz]at h;exact h
        |tok k' t' v'=>rw[hz]at h;exact absurd h.1 her)
       clear hnp HTK HNU her;go_wp2_with fail;exact cq (er:=er) (by simp) (by simp) Q0.out hgz (hgz▸B0.out) HR.out
  ·obtain rfl:q=s.size:=by omega
   have HN:=H_ (HR.out.stop hqs (λh=>absurd h (Ci _)));have HB:=H_ (show∀hq:s.size<s.size,(dF s[s.size]||s[s.size]==95)=false from λh=>absurd h (Ci _));obtain⟨tx,htx⟩:=nm_ (s.extract a s.size);have HTX:=H_ (show(s.data.toList.drop a).takeWhile cu=tx.data.toList by rw[HN.out.1,<-htx,fh]);have hall:∀x∈tx.data.toList,cu x=true:=λx hx=>by rw[<-HTX.out]at hx;exact Bb.1 List.all_takeWhile x hx
   have hne:1<=tx.size:=by
    have h1:tx.data.toList.length=tx.size:=by simp
    have h2:=HTX.out;rw[ct s ha,Bj HD.out]at h2;rw[<-h1,<-h2];simp
   have hle:tx.size<=100000:=by
    have h1:tx.data.toList.length=tx.size:=by simp
    have h2:=CN (List.takeWhile_sublist (p:=cu) (l:=s.data.toList.drop a));rw[HTX.out,h1]at h2;have h3:(s.data.toList.drop a).length=s.size-a:=by simp
    omega
   have HNU:=H_ (mK tx hall hne hle);have HTK:=H_ (λn er=>uF (n:=n) (er:=er) HTX.out HN.out.2 HB.out hqs);clear hall hne hle;go_wp2_with fail;try rw[htx]
   refine(HNU.out _).mono ?_;rintro e w1 ⟨rfl,n,er,rfl,hnp⟩;have HT2:=H_ (HTK.out n er hnp);obtain⟨⟨d0,d1,d2,d3⟩,f0,f1,f2,f3⟩:=Blk.aH Q0.out;by_cases her:er=0
   ·subst her;have HR:=H_ (show ci (s.data.toList.drop a)=fa (s.data.toList.drop a)from HTL.out);clear hnp HTK HNU;go_wp2_with fail;try rw[htx]
    exact cq (er:=0) (by simp) (by simp) Q0.out hgz (hgz▸B0.out) (by
     rw[HR.out];have h:=HT2.out;revert h;cases fa (s.data.toList.drop a)<;>simp)
   ·have her':(er !=0)=true:=by simpa using her
    have HR:=H_ (show match ci (s.data.toList.drop a)with
     | .err e'=>er=e'/\er≠0
     | .tok k' t' v'=>er=0/\(0:Int)=k'/\(⟨#[]⟩:ByteArray)=ba t'/\(0:Int)=v'/\(0:Int)=(a:Int) by
     rw[HTL.out];have h:=HT2.out;cases hz:fa (s.data.toList.drop a)with
     |err e'=>rw[hz]at h;exact h
     |tok k' t' v'=>rw[hz]at h;exact absurd h.1 her)
    clear hnp HTK HNU her;go_wp2_with fail;exact cq (er:=er) (by simp) (by simp) Q0.out hgz (hgz▸B0.out) HR.out
set_option pp.deepTerms true
set_option pp.maxSteps 10000000
theorem qD{a:Act}{n:Int}(ho:o.op= .binOp .add 3 x y 3)(hx:a.eval x= .int .i64 m)(hy:a.eval y= .int .i64 n)(hb: -9223372036854775808<=m+n/\m+n<=9223372036854775807)
 (h:K (a.put o.dst (.int .i64 (m+n))) w):Oper.wp P o a w K Q:=by
 refine ge (v:= .int .i64 (m+n)) (w':=w) ?_ h;have hw:IntKind.i64.wrap (m+n)=m+n:=AY _ hb;simp only[execOp,ho,hx,hy];simp[go_sem,hw]
theorem yW{a:Act}{n:Int}(ho:o.op= .binOp .leq 3 x y 3)(hx:a.eval x= .int .i64 m)(hy:a.eval y= .int .i64 n)(hb:m<=n)
 (h:K (a.put o.dst (.bool true)) w):Oper.wp P o a w K Q:=by
 refine ge (v:= .bool true) (w':=w) ?_ h;simp only[execOp,ho,hx,hy];simp[go_sem,hb]
theorem yX{a:Act}(ho:o.op= .call {callee:= .builtin .len,args:= #[x],argTypes:= #[9]})(hx:a.eval x= .string s)
 (h:K (a.put o.dst (.int .i64 s.size)) w):Oper.wp Tryz.prog o a w K Q:=by
 refine ge (v:= .int .i64 s.size) (w':=w) ?_ h;simp only[execOp,ho,resolve,invoke,builtin,BC,Bv,Bi,Cm,BG,Ct,hx];have hk:(Builtin.len_ #[9] o.type #[.string s]).run Tryz.prog w= .ok (.int .i64 s.size) w:=by kernel_rfl
 rw[hk];rfl
theorem mJ{a:Act}{z:Operand}(ho:o.op= .slice 9 x (some y) (some z) none)(hx:a.eval x= .string s)(hy:a.eval y= .int .i64 i)(hz:a.eval z= .int .i64 j)(hij:i<=j)(hj:j<=s.size)
 (h:K (a.put o.dst (.string (s.extract i j))) w):Oper.wp Tryz.prog o a w K Q:=by
 refine ge (v:= .string (s.extract i j)) (w':=w) ?_ h;have h1:(i:Int)<=j:=by omega
 have h2:(j:Int)<=s.size:=by omega
 simp only[execOp,ho,hx,hy,hz,Option.map_some,Option.map_none];simp[go_sem,h1,h2]
theorem tV(ha:a<s.size)(hL:dF s[a]=false)(hD:cu s[a]=false):ci (s.data.toList.drop a)=if a+2<=s.size/\inB bi (s.extract a (a+2))=true then .tok 5 (s.extract a (a+2)).data.toList 0 else if inB bi (s.extract a (a+1))=true then .tok 5 (s.extract a (a+1)).data.toList 0 else .err 3:=by
 have h1:ci (s.data.toList.drop a)=fo (s.data.toList.drop a):=by
  rw[ct s ha];unfold ci;simp only;rw[AL (by rw[hL];decide),AL (by rw[hD];decide)]
 have h2:(s.data.toList.drop a).length=s.size-a:=by simp
 have e2:ba ((s.data.toList.drop a).take 2)=s.extract a (a+2):=AN (by rw[fh,show a+2-a=2 by omega];rfl);have e1:ba ((s.data.toList.drop a).take 1)=s.extract a (a+1):=AN (by rw[fh,show a+1-a=1 by omega];rfl);rw[h1];unfold fo;rw[e2,e1,h2,fh,fh,show a+2-a=2 by omega,show a+1-a=1 by omega];by_cases h3:a+2<=s.size
 ·have h4:2<=s.size-a:=by omega
  simp only[h3,h4,true_and]
 ·have h4:¬2<=s.size-a:=by omega
  simp only[h3,h4,false_and,BO]
theorem uP(s:ByteArray)(a:Nat)(ha:a<s.size)(hs:s.size<=100000)(hL:dF s[a]=false)(hD:cu s[a]=false)(w:World):Calls Tryz.prog 141 #[.string s,.int .i64 a] w (pL s a w):=by
 obtain⟨w0,hw0⟩:=nm_ (w.alloc (.cells #[.int .i64 0,.string ⟨#[]⟩,.int .i64 0,.int .i64 0] 162));have Q0:=H_ (show Blk w0 w.heap.size 162 #[.int .i64 0,.string ⟨#[]⟩,.int .i64 0,.int .i64 0]from hw0▸Blk.new w 162 _);have B0:=H_ (show Below w.heap.size w w0 from hw0▸(AC _ _).alloc (AB _) _);have hz0:w0.heap.size=w.heap.size+1:=by rw[<-hw0];exact AR _ _
 have ha0:0<=(a:Int):=by omega
 have ha1:(a:Int)<s.size:=by omega
 have HL:=H_ hL;have HD:=H_ hD;have HTL:=H_ (tV ha hL hD);go_enter Tryz.func141,Tryz.ntmps141;go_upto_region 1 with(fail);obtain⟨g,hgz⟩:=nm_ (w.heap.size);rw[hgz]at Q0 hz0⊢;clear hw0 hL hD;go_wp2_with fail;refine(cN s[a] _).mono ?_;rintro e w1 ⟨rfl,rfl⟩;rw[HL.out];go_wp2_with fail;refine(dQ s[a] _).mono ?_;rintro e w1 ⟨rfl,rfl⟩;rw[HD.out];have hwa:IntKind.i64.wrap ((a:Int)+2)=(a:Int)+2:=AY _ ⟨by omega,by omega⟩;go_upto_region 22 with fail;obtain⟨r2,hr2⟩:=nm_ ((decide (a+2<=s.size)&&inB bi (s.extract a (a+2))));go_cut [126] (λv wx=>v= .bool r2/\Hid (Below w0.heap.size w0 wx))
 case first=>
  by_cases h2:a+2<=s.size
  ·have h2':(a:Int)+2<=s.size:=by omega
   refine ay 6 12 (λys=>{tmps:= #[.string s,.int .i64 ↑a,undef,undef,.pointer (some ⟨g,0,none⟩),.int .i64 0,.int .i64 ↑a,undef,undef,undef,.int .i64 ↑a,.string s,.int .i64 ↑a,.int .u8 ↑s[a].toNat,.bool false,undef,undef,undef,undef,undef,undef,undef,undef,undef,undef,undef,undef,undef,undef,undef,undef,undef,undef,undef,undef,undef,undef,undef,undef,undef,undef,undef,undef,undef,undef,undef,undef,undef,undef,undef,undef,undef,undef,undef,undef,undef,undef,undef,undef,undef,undef,.string s,.int .i64 ↑a,.int .u8 ↑s[a].toNat,.bool false,undef,undef,undef,undef,undef,undef,undef,undef,undef,undef,undef,undef,undef,undef,undef,undef,undef,undef,undef,undef,undef,undef,undef,undef,undef,undef,undef,undef,undef,undef,undef,undef,undef,undef,undef,undef,undef,undef,undef,undef,undef,undef,undef,undef,undef,undef,undef,undef,(ys 0).getD undef,(ys 1).getD undef,(ys 2).getD undef,(ys 3).getD undef,(ys 4).getD undef,(ys 5).getD undef,(ys 6).getD undef,(ys 7).getD undef,(ys 8).getD undef,(ys 9).getD undef,(ys 10).getD undef,(ys 11).getD undef,undef,undef,undef,undef,undef,undef,undef,undef,undef,undef,undef,undef,undef,undef,undef,undef,undef,undef,undef,undef,undef,undef,undef,undef],defers:=[]})
    (λ_ W=>Below w0.heap.size w0 W) w0.heap.size
    (λkx=>match kx with
      |0=>fEq (.int .i64 a)
      |1=>fEq (.int .i64 ((a:Int)+2))
      |2=>fEq (.string s)
      |3=>fEq (.int .i64 s.size)
      |4=>fEq (.bool true)
      |5=>fEq (.bool true)
      |6=>λv W=>∃A,v= .slice (some ⟨A,0,none⟩) 19 19/\w0.heap.size<=A/\A<W.heap.size/\Strs W W.heap.size (some ⟨A,0,none⟩) 19 bi
      |7=>fEq (.string s)
      |8=>fEq (.int .i64 a)
      |9=>fEq (.int .i64 a)
      |10=>fEq (.int .i64 ((a:Int)+2))
      |_=>fEq (.string (s.extract a (a+2))))
    (by
      intro k
      match k with
      |0=>exact fEq.st _ _
      |1=>exact fEq.st _ _
      |2=>exact fEq.st _ _
      |3=>exact fEq.st _ _
      |4=>exact fEq.st _ _
      |5=>exact fEq.st _ _
      |6=>exact λ_ _ _ hn ⟨A,h1,h2,h3,h4⟩=>⟨A,h1,h2,AF h3 hn.size,gR h4 (hn.block A h2 h3) (AF h3 hn.size)⟩
      |7=>exact fEq.st _ _
      |8=>exact fEq.st _ _
      |9=>exact fEq.st _ _
      |10=>exact fEq.st _ _
      |_+11=>exact fEq.st _ _)
    (by kernel_rfl) (by kernel_rfl) (by decide) (by kernel_rfl) (by decide) rfl (AC _ _).drew ?_ ?_ ?_
   ·intro i' hi hic b ys W hJ hd;obtain rfl|rfl|rfl|rfl|rfl|rfl|rfl|rfl|rfl|rfl|rfl:i'=0\/i'=1\/i'=2\/i'=3\/i'=4\/i'=5\/i'=7\/i'=8\/i'=9\/i'=10\/i'=11:=by omega
    ·exact mvO hJ
    ·obtain⟨_,h0,rfl⟩:=hd 0;refine stp rfl (by kernel_rfl) λK hK=>?_;refine qD (x:= .tmp 113) (y:= .const (.int .i64 2)) rfl (gd h0 _) rfl ⟨by omega,by omega⟩ ?_;exact hK _ _ ⟨_,rfl,hJ,rfl,Nw.refl _ _⟩
    ·exact mvO hJ
    ·obtain⟨_,h2,rfl⟩:=hd 2;refine stp rfl (by kernel_rfl) λK hK=>?_;refine yX (x:= .tmp 115) rfl (gd h2 _) ?_;exact hK _ _ ⟨_,rfl,hJ,rfl,Nw.refl _ _⟩
    ·obtain⟨_,h1,rfl⟩:=hd 1;obtain⟨_,h3,rfl⟩:=hd 3;refine stp rfl (by kernel_rfl) λK hK=>?_;refine yW (x:= .tmp 114) (y:= .tmp 116) rfl (gd h1 _) (gd h3 _) h2' ?_;exact hK _ _ ⟨_,rfl,hJ,rfl,Nw.refl _ _⟩
    ·obtain⟨_,h4,rfl⟩:=hd 4;refine stp rfl (by kernel_rfl) λK hK=>?_;refine kK (x:= .tmp 117) rfl (gd h4 _) ?_;exact hK _ _ ⟨_,rfl,hJ,rfl,Nw.refl _ _⟩
    ·obtain⟨_,h5,rfl⟩:=hd 5;refine AE rfl λK hK=>?_;rw[AP (by rw[h5];kernel_rfl)];refine kK (x:= .tmp 0) rfl rfl ?_;exact hK _ _ ⟨_,rfl,hJ,rfl,Nw.refl _ _⟩
    ·obtain⟨_,h5,rfl⟩:=hd 5;refine AE rfl λK hK=>?_;rw[AP (by rw[h5];kernel_rfl)];refine kK (x:= .tmp 1) rfl rfl ?_;exact hK _ _ ⟨_,rfl,hJ,rfl,Nw.refl _ _⟩
    ·obtain⟨_,h5,rfl⟩:=hd 5;refine AE rfl λK hK=>?_;rw[AP (by rw[h5];kernel_rfl)];refine kK (x:= .tmp 1) rfl rfl ?_;exact hK _ _ ⟨_,rfl,hJ,rfl,Nw.refl _ _⟩
    ·obtain⟨_,h9,rfl⟩:=hd 9;obtain⟨_,h5,rfl⟩:=hd 5;refine AE rfl λK hK=>?_;rw[AP (by rw[h5];kernel_rfl)];refine qD (x:= .tmp 122) (y:= .const (.int .i64 2)) rfl (gd h9 _) rfl ⟨by omega,by omega⟩ ?_;exact hK _ _ ⟨_,rfl,hJ,rfl,Nw.refl _ _⟩
    ·obtain⟨_,h7,rfl⟩:=hd 7;obtain⟨_,h8,rfl⟩:=hd 8;obtain⟨_,h10,rfl⟩:=hd 10;obtain⟨_,h5,rfl⟩:=hd 5;refine AE rfl λK hK=>?_;rw[AP (by rw[h5];kernel_rfl)];refine mJ (x:= .tmp 120) (y:= .tmp 121) (z:= .tmp 123) (i:=a) (j:=a+2) rfl (gd h7 _) (gd h8 _) (gd h10 _) (by omega) (by omega) ?_;exact hK _ _ ⟨_,rfl,hJ,rfl,Nw.refl _ _⟩
   ·intro ys W hJ hd;obtain⟨_,h5,rfl⟩:=hd 5;refine AE rfl λK hK=>?_;rw[AP (by rw[h5];kernel_rfl)];refine iV (n:=222) rfl (by kernel_rfl) ?_;refine(kZ W).mono ?_;rintro e' W' ⟨rfl,b1,s1⟩;exact hK _ _ ⟨_,rfl,hJ.trans (b1.mono hJ.size),⟨W.heap.size,rfl,hJ.size,kG s1 (by decide),s1⟩,Nw.below b1⟩
   ·intro ys W hJ hd;obtain⟨_,h0,rfl⟩:=hd 0;obtain⟨_,h1,rfl⟩:=hd 1;obtain⟨_,h2x,rfl⟩:=hd 2;obtain⟨_,h3,rfl⟩:=hd 3;obtain⟨_,h4,rfl⟩:=hd 4;obtain⟨_,h5,rfl⟩:=hd 5;obtain⟨_,h6,AA,rfl,_,_,hst⟩:=hd 6;obtain⟨_,h7,rfl⟩:=hd 7;obtain⟨_,h8,rfl⟩:=hd 8;obtain⟨_,h9,rfl⟩:=hd 9;obtain⟨_,h10,rfl⟩:=hd 10;obtain⟨_,h11,rfl⟩:=hd 11;rw[show List.range' 12 _=[12,13]from rfl,Bl];refine AE rfl λK hK=>?_;simp only[h0,h1,h2x,h3,h4,h5,h6,h7,h8,h9,h10,h11,Bz];rw[AP (by kernel_rfl)];refine cV (n:=172) (x:= .tmp 119) (y:= .tmp 124) rfl rfl rfl (by kernel_rfl) ?_;refine(vx _ _ _ bi (s.extract a (a+2)) _ _ hst (by omega)).mono ?_;rintro e' W' ⟨rfl,rfl⟩;refine hK _ _ ?_;have HJ:=H_ hJ;have hrr:inB bi (s.extract a (a+2))=r2:=by rw[<-hr2,BJ h2,CR]
    rw[hrr];clear hJ hst hd hr2 hrr;rw[Bl];refine stp rfl (by kernel_rfl) λK hK=>?_;refine ge (show(execOp _ _).run _ _= .ok (.value (.bool r2)) W by kernel_rfl) ?_;refine hK _ _ ?_;unfold wpOps;go_wp2_with fail;go_meet;exact⟨rfl,HJ⟩
  ·have h2':¬(a:Int)+2<=s.size:=by omega
   have hr:r2=false:=by rw[<-hr2,Bg h2];rfl
   subst hr;clear hr2 h2;obtain⟨TT,fq,hne,hf,hcov⟩:=aX w0.heap.size w0;have HF:=H_ hf;have HCOV:=H_ hcov;clear hf hcov;refine ah fq (by kernel_rfl) (by kernel_rfl) (HCOV.out _ (AC _ _).drew) ?_;repeat (go_big_quiet_step (fail))
   refine BL ?_;rintro _ ⟨xq,rfl⟩;go_wp2_with fail;go_meet;exact⟨rfl,H_ (HF.out xq)⟩
 case rest=>
  obtain⟨rfl,hb3⟩:=hcut;obtain⟨w3,rfl⟩:∃w3,w3=wc:=⟨_,rfl⟩;have Q3:=H_ (Q0.out.below hb3.out (by omega));have B3:=H_ (show Below g w w3 from hgz▸B0.out.trans (hb3.out.mono (by omega)));clear Q0 B0 hb3;cases r2 with
  |true=>
   simp only[Ba,Bk]at hr2;have HR:=H_ (show ci (s.data.toList.drop a)= .tok 5 (s.extract a (a+2)).data.toList 0 by rw[HTL.out,AP hr2]);have h2:=hr2.1;have h2':(a:Int)+2<=s.size:=by omega
   have hal:(a:Int)<=(a:Int)+2:=by omega
   obtain⟨⟨d0,d1,d2,d3⟩,f0,f1,f2,f3⟩:=Blk.aH Q3.out;clear hr2 HTL;go_wp2_with fail;exact cq (er:=0) (by simp) (by simp) Q3.out hgz B3.out (by rw[HR.out];exact⟨rfl,rfl,rfl,rfl,rfl⟩)
  |false=>
   have HTL2:=H_ (show ci (s.data.toList.drop a)=if inB bi (s.extract a (a+1))=true then .tok 5 (s.extract a (a+1)).data.toList 0 else .err 3 by
    rw[HTL.out,AL (λh=>by rw[BJ h.1,h.2]at hr2;cases hr2)])
   clear hr2 HTL;have hwb:IntKind.i64.wrap ((a:Int)+1)=(a:Int)+1:=AY _ ⟨by omega,by omega⟩;go_upto_region 24 with fail
   refine ay 0 6 (λys=>{tmps:= #[.string s,.int .i64 ↑a,undef,undef,.pointer (some ⟨g,0,none⟩),.int .i64 0,.int .i64 ↑a,undef,undef,undef,u10,u11,u12,u13,u14,u15,u16,u17,u18,u19,u20,u21,u22,u23,u24,u25,u26,u27,u28,u29,u30,u31,u32,u33,u34,u35,u36,u37,u38,u39,u40,u41,u42,u43,u44,u45,u46,u47,u48,u49,u50,u51,u52,u53,u54,u55,u56,u57,u58,u59,u60,u61,u62,u63,u64,u65,u66,u67,u68,u69,u70,u71,u72,u73,u74,u75,u76,u77,u78,u79,u80,u81,u82,u83,u84,u85,u86,u87,u88,u89,u90,u91,u92,u93,u94,u95,u96,u97,u98,u99,u100,u101,u102,u103,u104,u105,u106,u107,u108,u109,u110,u111,u112,u113,u114,u115,u116,u117,u118,u119,u120,u121,u122,u123,u124,u125,.bool false,u127,u128,u129,u130,u131,u132,u133,(ys 0).getD u134,(ys 1).getD u135,(ys 2).getD u136,(ys 3).getD u137,(ys 4).getD u138,(ys 5).getD u139,u140,u141,u142,u143,u144,u145,u146,u147,u148],defers:=[]})
    (λ_ W=>Below w3.heap.size w3 W) w3.heap.size
    (λkx=>match kx with
      |0=>λv W=>∃A,v= .slice (some ⟨A,0,none⟩) 19 19/\w3.heap.size<=A/\A<W.heap.size/\Strs W W.heap.size (some ⟨A,0,none⟩) 19 bi
      |1=>fEq (.string s)
      |2=>fEq (.int .i64 a)
      |3=>fEq (.int .i64 a)
      |4=>fEq (.int .i64 ((a:Int)+1))
      |_=>fEq (.string (s.extract a (a+1))))
    (by
      intro k
      match k with
      |0=>exact λ_ _ _ hn ⟨A,h1,h2,h3,h4⟩=>⟨A,h1,h2,AF h3 hn.size,gR h4 (hn.block A h2 h3) (AF h3 hn.size)⟩
      |1=>exact fEq.st _ _
      |2=>exact fEq.st _ _
      |3=>exact fEq.st _ _
      |4=>exact fEq.st _ _
      |_+5=>exact fEq.st _ _)
    (by kernel_rfl) (by kernel_rfl) (by decide) (by kernel_rfl) (by decide) rfl (AC _ _).drew ?_ ?_ ?_
   ·intro i' hi hic b ys W hJ hd;obtain rfl|rfl|rfl|rfl|rfl:i'=1\/i'=2\/i'=3\/i'=4\/i'=5:=by omega
    ·exact mvO hJ
    ·exact mvO hJ
    ·exact mvO hJ
    ·obtain⟨_,h3,rfl⟩:=hd 3;refine stp rfl (by kernel_rfl) λK hK=>?_;refine qD (x:= .tmp 137) (y:= .const (.int .i64 1)) rfl (gd h3 _) rfl ⟨by omega,by omega⟩ ?_;exact hK _ _ ⟨_,rfl,hJ,rfl,Nw.refl _ _⟩
    ·obtain⟨_,h1,rfl⟩:=hd 1;obtain⟨_,h2,rfl⟩:=hd 2;obtain⟨_,h4,rfl⟩:=hd 4;refine stp rfl (by kernel_rfl) λK hK=>?_;refine mJ (x:= .tmp 135) (y:= .tmp 136) (z:= .tmp 138) (i:=a) (j:=a+1) rfl (gd h1 _) (gd h2 _) (gd h4 _) (by omega) (by omega) ?_;exact hK _ _ ⟨_,rfl,hJ,rfl,Nw.refl _ _⟩
   ·intro ys W hJ hd;refine stp rfl (by kernel_rfl) λK hK=>?_;refine iV (n:=222) rfl (by kernel_rfl) ?_;refine(kZ W).mono ?_;rintro e' W' ⟨rfl,b1,s1⟩;exact hK _ _ ⟨_,rfl,hJ.trans (b1.mono hJ.size),⟨W.heap.size,rfl,hJ.size,kG s1 (by decide),s1⟩,Nw.below b1⟩
   ·intro ys W hJ hd;obtain⟨_,h0,AA,rfl,_,_,hst⟩:=hd 0;obtain⟨_,h1,rfl⟩:=hd 1;obtain⟨_,h2x,rfl⟩:=hd 2;obtain⟨_,h3,rfl⟩:=hd 3;obtain⟨_,h4,rfl⟩:=hd 4;obtain⟨_,h5,rfl⟩:=hd 5;rw[show List.range' 6 _=[6]from rfl,Bl];refine AE rfl λK hK=>?_;simp only[h0,h1,h2x,h3,h4,h5,Bz];rw[AP (by kernel_rfl)];refine cV (n:=172) (x:= .tmp 134) (y:= .tmp 139) rfl rfl rfl (by kernel_rfl) ?_;refine(vx _ _ _ bi (s.extract a (a+1)) _ _ hst (by omega)).mono ?_;rintro e' W' ⟨rfl,rfl⟩;refine hK _ _ ?_;have Q4:=H_ (Q3.out.below hJ (by have:=Q3.out.lt;omega));have B4:=H_ (show Below g w W from B3.out.trans (hJ.mono (by have:=Q3.out.lt;omega)));clear hJ hst hd;obtain⟨⟨d0,d1,d2,d3⟩,f0,f1,f2,f3⟩:=Blk.aH Q4.out;have hal:(a:Int)<=(a:Int)+1:=by omega
    have h1s:(a:Int)+1<=s.size:=by omega
    cases hin:inB bi (s.extract a (a+1))with
    |true=>
     have HR:=H_ (show ci (s.data.toList.drop a)= .tok 5 (s.extract a (a+1)).data.toList 0 by rw[HTL2.out,AP hin]);clear hin HTL2;unfold wpOps;go_wp2_with fail;exact cq (er:=0) (by simp) (by simp) Q4.out hgz B4.out (by rw[HR.out];exact⟨rfl,rfl,rfl,rfl,rfl⟩)
    |false=>
     have HR:=H_ (show ci (s.data.toList.drop a)= .err 3 by rw[HTL2.out,AL (by rw[hin];decide)]);clear hin HTL2;unfold wpOps;go_wp2_with fail;exact cq (er:=3) (by simp) (by simp) Q4.out hgz B4.out (by rw[HR.out];exact⟨rfl,by decide⟩)
theorem wX(s:ByteArray)(a:Nat)(ha:a<s.size)(hs:s.size<=100000)(w:World):Calls Tryz.prog 141 #[.string s,.int .i64 a] w (pL s a w):=by
 cases hL:dF s[a]with
 |true=>exact ta s a ha hs hL w
 |false=>
  cases hD:cu s[a]with
  |true=>exact uQ s a ha hs hL hD w
  |false=>exact uP s a ha hs hL hD w
end
end Go.Proofs.YtjpbckbpeblibaaGreatDoor
