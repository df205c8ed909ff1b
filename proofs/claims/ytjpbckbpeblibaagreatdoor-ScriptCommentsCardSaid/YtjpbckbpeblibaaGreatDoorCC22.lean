/- part of a proof -/
import Derived.Test.YtjpbckbpeblibaaGreatDoorCC21
import Derived.Laws.RangeAny
import Derived.Lib.OthersKept
import Derived.ProofKit
import Derived.OpenShut
import Derived.ChangeOld
import Derived.ChangeSame
import Derived.Lay
import Derived.MakeChecks
import Derived.HandedShaped
import Derived.Shelf.Vars
import Derived.Lib.LaidU8
namespace Go.Proofs.YtjpbckbpeblibaaGreatDoor
set_option linter.unusedVariables false
set_option linter.unusedSimpArgs false
set_option maxRecDepth 100000
set_option maxHeartbeats 64000000
section
open Go.RowKit
theorem qE(s:ByteArray)(pos:Nat)(h:pos<s.size)(h10:(Utf8.decode s pos).1≠10):
 1<=(Utf8.decode s pos).2/\pos+(Utf8.decode s pos).2<=s.size/\∀j,pos<=j->j<pos+(Utf8.decode s pos).2->(s.get! j).toNat≠10:=by
 have key:∀n,1<=n->n<=4->pos+n<=s.size->(s.get! (pos+0)).toNat≠10->(2<=n->(s.get! (pos+1)).toNat≠10)->(3<=n->(s.get! (pos+2)).toNat≠10)->(4<=n->(s.get! (pos+3)).toNat≠10)->
  1<=n/\pos+n<=s.size/\∀j,pos<=j->j<pos+n->(s.get! j).toNat≠10:=by
  intro n h1 h4 hs a0 a1 a2 a3;refine⟨h1,hs,λj hj hj2=>?_⟩;obtain⟨k,rfl⟩:∃k,j=pos+k:=⟨j-pos,by omega⟩
  match k,hj2 with
  |0,_=>exact a0
  |1,hj2=>exact a1 (by omega)
  |2,hj2=>exact a2 (by omega)
  |3,hj2=>exact a3 (by omega)
  |k+4,hj2=>omega
 revert h10;simp only[Utf8.decode]
 repeat' split
 all_goals intro h10
 all_goals simp only[Ee,FG,Ep]at*
 all_goals refine key _ (by decide) (by decide) (by omega) (by omega) (by omega) (by omega) (by omega)
theorem uC{s:ByteArray}(h:∀j,j<s.size->(s.get! j).toNat≠10):∀b∈s.data.toList,b≠10:=λb hb e=>by
 obtain⟨j,hj,rfl⟩:=List.getElem_of_mem hb;have hj':j<s.size:=hj;refine h j hj' ?_
 have e2:s.get! j=s.data.toList[j]:=by
  show s.data[j]! =_;rw[getElem!_pos s.data j hj'];simp
 rw[e2,e];rfl
section
variable{α:Type}{K:Kd α}{w:World}{G:Nat->Prop}{xs:List α}{A:Option Addr}{n k:Nat}
theorem Sl.pre(h:Sl K w G xs A n)(hk:k<=n):Sl K w G (xs.take k) A k:=by
 refine⟨by rw[Fd,h.1];omega,by have:=h.2.1;omega,λh0=>?_⟩;obtain⟨b,off,h1,h2,h3⟩:=h.2.2 (by omega);exact⟨b,off,h1,h2,λj x hx=>h3 j x (by rw[List.getElem?_take]at hx;split at hx<;>simp_all)⟩
theorem Sl.suf(h:Sl K w G xs A n)(hk:k<=n){s:Nat}(hs:s=K.sz){B:Option Addr}(hB:0<n-k->B=A.map (·.add (k*s))):Sl K w G (xs.drop k) B (n-k):=by
 refine⟨by rw[FJ,h.1],by have:=h.2.1;omega,λh0=>?_⟩;obtain⟨b,off,h1,h2,h3⟩:=h.2.2 (by omega);refine⟨b,off+k*s,by rw[hB h0,h1];simp[iL],h2,λj x hx=>?_⟩;obtain⟨cs,h4,h5⟩:=h3 (k+j) x (by rw[List.getElem?_drop]at hx;exact hx);exact⟨cs,h4,by rw[show off+k*s+K.sz*j=off+K.sz*(k+j) by rw[hs,Nat.mul_add,El k];omega];exact h5⟩
end
theorem Addr.add0(a:Addr):a.add 0=a:=by unfold Addr.add;simp
theorem wi(A:Option Addr)(n c k:Nat)(hk:k<=c):∀W,(Instr.sliceAt 29 (.slice A n c) none (some (.int .i64 k)) none).run Tryz.prog W= .ok (.slice A k c) W:=λW=>by
 refine(run_sliceAt_slice (P:=Tryz.prog) (w:=W) 29 (.slice A n c) none (some (.int .i64 k)) none (by kernel_rfl)).trans ((run_slice_h (P:=Tryz.prog) (w:=W) 29 A n c (by kernel_rfl) .i64 k (by omega) (by omega)).trans ?_);have hsz:(sizeOf (Tryz.prog.elem 29)).run Tryz.prog W= .ok 7 W:=by kernel_rfl
 rw[hsz];show Result.ok (sliced A 0 k c 7) W=_;unfold sliced
 have:(if c=0 then A else A.map (·.add (0*7)))=A:=by
  split
  ·rfl
  ·cases A with
   |none=>rfl
   |some a=>simp[Addr.add0]
 rw[this];simp
theorem wh(A:Option Addr)(n c k:Nat)(hk:k<=n):∀W,(Instr.sliceAt 29 (.slice A n c) (some (.int .i64 k)) none none).run Tryz.prog W= .ok (.slice (if c=k then A else A.map (·.add (k*7))) (n-k) (c-k)) W:=λW=>by
 refine(run_sliceAt_slice (P:=Tryz.prog) (w:=W) 29 (.slice A n c) (some (.int .i64 k)) none none (by kernel_rfl)).trans ((run_slice_l (P:=Tryz.prog) (w:=W) 29 A n c (by kernel_rfl) .i64 k (by omega) (by omega)).trans ?_);have hsz:(sizeOf (Tryz.prog.elem 29)).run Tryz.prog W= .ok 7 W:=by kernel_rfl
 rw[hsz];show Result.ok (sliced A ((k:Int).toNat) n c 7) W=_;rw[EZ];rfl
theorem Cq(x:Sc)(A:Option Addr)(n c:Nat)(A2:Option Addr)(n2 c2:Nat)(l:ByteArray)(u:Nat)(w:World)(hC:Came w x A n A2 n2)(hg:Gl w)(hnc:n2<=c2)(hu:u<=255):
 Calls Tryz.prog 5 #[.agg #[.int .i64 x.m,.int .u64 x.sd,.int .i64 x.y,.slice A n c,.slice A2 n2 c2],.string l,.int .u8 u] w λe w'=>e= .returned (.bool true)/\Below w.heap.size w w':=by
 have HC:=H_ hC;have HG:=H_ hg;have HU:=H_ (And.intro hnc hu);obtain⟨g,hz⟩:=nm_ (w.heap.size);obtain⟨W0,hW0⟩:=nm_ (w.alloc (.cells #[.int .i64 x.m,.int .u64 x.sd,.int .i64 x.y,.slice A n c,.slice A2 n2 c2] 35));have HQ:=hng hW0 hz;have hs0:W0.heap.size=g+1:=by rw[<-hW0,DV,hz]
 have HB0:=hba hW0;have CF:=H_ (yl hC c c2 HB0.out);have HW:=H_ hW0;obtain⟨m,hm⟩:=nm_ (x.m);obtain⟨sd,hsd⟩:∃m,x.sd=m:=⟨_,rfl⟩;obtain⟨y,hy⟩:∃m,x.y=m:=⟨_,rfl⟩;have HXE:=H_ (And.intro hm (And.intro hsd hy));rw[hm,hsd,hy]at HQ HW CF⊢;obtain⟨q0,q1,q2,q3,q4⟩:=HQ.out.c5;clear hC hg hW0 hm hsd hy hnc hu;go_enter Tryz.func5,Tryz.ntmps5;rw[hz];go_upto_region 1 with fail;rw[HW.out];go_wp2_with fail;refine CF.out.mono ?_;rintro r w1 ⟨bf,rfl,hbf,b1⟩;have hs1:=b1.size;have HB1:Hid (Below w.heap.size w w1):=H_ (HB0.out.trans (b1.mono (by omega)));have HQ1:=hbl HQ b1;have HBF:=H_ hbf;clear b1 CF hbf q0 q1 q2 q3 q4;cases bf with
 |false=>
  have C7:=H_ (kM w1 (HG.out.below HB1.out));go_wp2_with fail;refine C7.out.mono ?_;rintro e w2 ⟨rfl,b2⟩;have HE:=htr HB1 b2;clear b2;go_wp2_with fail;go_ret;exact⟨rfl,hz▸HE.out⟩
 |true=>
  have HZ:=H_ (show fT x=true->lsz csz x.cs<=900/\x.ac.length<=1000 from λh=>by have:=HBF.out rfl h;omega);obtain⟨q0,q1,q2,q3,q4⟩:=HQ1.out.c5;have C16:=H_ (sw HC.out c c2 HB1.out);obtain⟨h1,h2,h3⟩:=HXE.out;rw[h1,h2,h3]at C16;obtain⟨vb,hvb⟩:=nm_ (fT x);rw[hvb]at C16;have HVB:=H_ hvb;clear h1 h2 h3 hvb;go_wp2_with fail;refine C16.out.mono ?_;rintro r w2 ⟨rfl,b2⟩;have hs2:=b2.size;have HB2:=htr HB1 b2;have HQ2:=hbl HQ1 b2;clear b2 C16 q0 q1 q2 q3 q4;by_cases hcut:vb=true/\l.size<=100
  ·obtain⟨rfl,hl100⟩:=hcut;have hlz:¬(100:Int)<(l.size:Int):=by omega
   obtain⟨hcz,hacl⟩:=HZ.out HVB.out;have HCZ:=H_ (And.intro hcz hacl);obtain⟨w3,hw3⟩:=nm_ (w2.iter l 0);obtain⟨L,hL⟩:=nm_ (w2.heap.size);have hit0:w3.heap[L]?=some (.stringIter l 0):=by rw[<-hw3,<-hL];exact World.iter_heap w2 l 0
   have b3:Below w2.heap.size w2 w3:=bal hw3;have HB3:=htr HB2 b3;have HIT:=H_ hit0;have HBI:=H_ b3;have HW3:=H_ hw3;clear b3 hw3 hcz hacl hit0;go_upto_region 4 with fail;rw[HW3.out];go_loopw [8] (λ_ wr=>∃pos:Nat,pos<=l.size/\wr.heap[L]?=some (.stringIter l pos)/\Hid (Below w2.heap.size w2 wr)/\Hid (∀j,j<pos->(l.get! j).toNat≠10)) (λ_ wr=>l.size-wr.iterPos L)
   case atStart=>exact⟨0,Ea _,HIT.out,HBI,H_ (λj hj=>by omega)⟩
   case round=>
    obtain⟨pos,hk,hit,HBR,HN⟩:=hrel;have HBT:=htr HB2 HBR.out;have hszr:=HBR.out.size;by_cases hkm:pos<l.size
    ·have hnx:∀ty,(Instr.next (.pointer (some ⟨L,0,none⟩)) true ty).run Tryz.prog wr=_:=λty=>Lib.run_next_any_at wr L l pos ty hit hkm;have hit2:=Lib.iterAt_heap wr L l pos (pos+(Utf8.decode l pos).2) hit;have hb2:=Lib.below_iterAt HBR.out (k:=L) (by omega) l (pos+(Utf8.decode l pos).2);obtain⟨rn,hrn⟩:∃r,(Utf8.decode l pos).1=r:=⟨_,rfl⟩;have hsp:=qE l pos hkm;rw[hrn]at hsp hnx;obtain⟨wd,hwd⟩:∃r,(Utf8.decode l pos).2=r:=⟨_,rfl⟩;rw[hwd]at hsp hnx hit2 hb2;have hle:=decode_le l pos;rw[hrn]at hle;obtain⟨w4,hw4⟩:=nm_ (wr.iterAt L l (pos+wd));rw[hw4]at hnx hit2 hb2;have HB4:=htr HB2 hb2;have HBR4:=H_ hb2;have HIT2:=H_ hit2;have HITR:=H_ hit;have HSP:=H_ hsp;clear hit hb2 hrn hwd hsp hw4 hit2;by_cases h10:rn=10
     ·have h10':((rn:Int)==10)=true:=by rw[h10];rfl
      have C7:=H_ (kM w4 (HG.out.below HB4.out));clear HSP;go_wp2_with fail;refine C7.out.mono ?_;rintro e w5 ⟨rfl,b5⟩;have HE:=htr HB4 b5;clear b5;go_wp2_with fail;go_ret;exact⟨rfl,hz▸HE.out⟩
     ·have h10':((rn:Int)==10)=false:=DM.2 λe=>h10 (by omega);go_wp2_with fail;go_roundw
      case rel=>
       obtain⟨e1,e2,e3⟩:=HSP.out h10;exact⟨pos+wd,e2,HIT2.out,HBR4,H_ λj hj=>if h:j<pos then HN.out j h else e3 j (by omega) hj⟩
      case measure=>
       obtain⟨e1,e2,e3⟩:=HSP.out h10;simp only[World.iterPos,HIT2.out,HITR.out];omega
    ·have hnx:∀ty,(Instr.next (.pointer (some ⟨L,0,none⟩)) true ty).run Tryz.prog wr=_:=λty=>Lib.run_next_end_at wr L l pos ty hit hkm;have HN2:Hid (∀b∈l.data.toList,b≠10):=H_ (uC λj hj=>HN.out j (by omega));have HQ3:=hbl HQ2 HBR.out;have hn2:x.ac.length=n2:=HC.out.ac.1;have hnc:=HU.out.1;obtain⟨k,hk1⟩:=nm_ (u%(n2+1));have hkn:k<=n2:=by have:=Nat.mod_lt u (show 0<n2+1 by omega);omega
     have hrem:(u:Int).tmod ((n2:Int)+1)=(k:Int):=by
      rw[Int.tmod_eq_emod_of_nonneg (by omega),<-hk1,show(n2:Int)+1=((n2+1:Nat):Int) by omega];exact(Int.natCast_emod u (n2+1)).symm
     have hnz:¬((n2:Int)+1=0):=by omega
     have hu:=HU.out.2;have hn1:=HCZ.out.2;have hwr1:IntKind.i64.wrap (u:Int)=u:=Fj _ ⟨by omega,by omega⟩;have hwr2:IntKind.i64.wrap ((n2:Int)+1)=(n2:Int)+1:=Fj _ ⟨by omega,by omega⟩;have mixed:Tryz.prog.follows .mixedOrders=true:=by kernel_rfl
     have HKN:=H_ hkn;have hsl:=wi A2 n2 c2 k (by omega);obtain⟨h,hh⟩:=nm_ (wr.heap.size);obtain⟨w4,hw4⟩:=nm_ (wr.alloc (.cells #[.int .i64 m,.int .u64 sd,.int .i64 y,.slice A n c,.slice A2 n2 c2] 35));have HH:=hng hw4 hh;have HB4:=H_ (HBT.out.trans ((bal hw4).mono HBT.out.size));have HQ4:=hbl HQ3 (bal hw4);have hgh:g<h:=by have:=HQ3.out.lt;omega
     have HGH:=H_ hgh;have HW4:=H_ hw4;obtain⟨q0,q1,q2,q3,q4⟩:=HQ3.out.c5;clear HN hk1 hw4 hn2;go_upto_region 9 with fail;rw[HW4.out];obtain⟨q0,q1,q2,q3,q4⟩:=HQ4.out.c5;have f4:=HH.out.frozen 4;obtain⟨h0,h1,h2,h3,h4⟩:=HH.out.c5;go_region_o;obtain⟨w5,hw5⟩:=nm_ ((w4.setCell ⟨h,4,none⟩ (.slice A2 k c2)).drew);have HH5:Hid (Blk w5 h 35 #[.int .i64 m,.int .u64 sd,.int .i64 y,.slice A n c,.slice A2 k c2]):=H_ (by rw[<-hw5];exact(HH.out.set 4 (.slice A2 k c2)).drew);have HQ5:Hid (Blk w5 g 35 #[.int .i64 m,.int .u64 sd,.int .i64 y,.slice A n c,.slice A2 n2 c2]):=H_ (by rw[<-hw5];exact(HQ4.out.other ⟨h,4,none⟩ _ (Nat.ne_of_lt HGH.out)).drew);have HB5:Hid (Below w.heap.size w w5):=H_ (by rw[<-hw5];exact(HB4.out.setCell (p:=⟨h,4,none⟩) (show w.heap.size<=h by omega) _).drew);rw[hw5];clear hw5 q0 q1 q2 q3 q4 h0 h1 h2 h3 h4 f4 hsl hrem hnz hwr1 hwr2 hn1 HH HQ4 HB4 HW4 HQ3 hnx;obtain⟨xh,hxh⟩:∃xh,{x with ac:=x.ac.take k}=xh:=⟨_,rfl⟩
     have hCh:Came w xh A n A2 k:=by
      rw[<-hxh];exact⟨HC.out.cs,HC.out.ac.pre HKN.out,HC.out.cap,HC.out.gf,HC.out.s0,HC.out.s1,by have:=HC.out.few;have:=HKN.out;omega⟩
     have hvh:fT xh=true:=by
      rw[<-hxh];obtain⟨h1,h2⟩:=Eg.1 (show(x.ac.all ay&&(kJ x&&vPr x.cs))=true from HVB.out);show((x.ac.take k).all ay&&(kJ x&&vPr x.cs))=true;rw[h2,Bool.and_true];exact Ec.2 λd hd=>Ec.1 h1 d (List.mem_of_mem_take hd)
     have hzh:fT xh=true->lsz csz xh.cs<=900/\xh.ac.length<=1000:=λ_=>by
      rw[<-hxh];exact⟨HCZ.out.1,by rw[Fd];have:=HCZ.out.2;omega⟩
     have hfh:fmT xh=dz x++tAc (x.ac.take k):=by unfold fmT;rw[Ed hvh,<-hxh];rfl
     obtain⟨e1,e2,e3⟩:=HXE.out;have hx1:xh.m=m:=by rw[<-hxh];exact e1
     have hx2:xh.sd=sd:=by rw[<-hxh];exact e2
     have hx3:xh.y=y:=by rw[<-hxh];exact e3
     have HCH:=H_ (And.intro hCh (And.intro hzh (And.intro hx1 (And.intro hx2 hx3))));have hv:=VSc.of HVB.out HC.out.s0 HC.out.s1
     have hHl:(fmT xh).length<=12000000:=by
      have b1:=nC hv HCZ.out.1;have b2:=lB (x.ac.take k) λd hd=>hv.ac d (List.mem_of_mem_take hd);have b3:(x.ac.take k).length<=1000:=by rw[Fd];have:=HCZ.out.2;omega
      rw[hfh,DJ];omega
     obtain⟨S,hS⟩:=nm_ (ba (fmT xh));have hSd:S.data.toList=dz x++tAc (x.ac.take k):=by rw[<-hS,<-hfh];rfl
     have hSz:S.size<=12000000:=by rw[<-hS];simpa[ba,ByteArray.size]using hHl
     have k2:(ByteArray.mk #[10,35]).size=2:=rfl;have k3:(ByteArray.mk #[10,10]).size=2:=rfl;have k1:(ByteArray.mk #[10]).size=1:=rfl;obtain⟨T1,t1,z1,a1⟩:=gg ⟨#[10,35]⟩ l (by omega);obtain⟨T2,t2,z2,a2⟩:=gg T1 ⟨#[10]⟩ (by omega);obtain⟨T3,t3,z3,a3⟩:=gg T2 S (by omega);obtain⟨T4,t4,z4,a4⟩:=gg T3 ⟨#[10,35]⟩ (by omega);obtain⟨T5,t5,z5,a5⟩:=gg T4 l (by omega);obtain⟨T6,t6,z6,a6⟩:=gg T5 ⟨#[10,10]⟩ (by omega);obtain⟨TL,hTL⟩:=nm_ (T6.data.toList)
     have hTLe:TL=[10,35]++l.data.toList++[10]++(dz x++tAc (x.ac.take k))++[10,35]++l.data.toList++[10,10]:=by
      rw[<-hTL,t6,t5,t4,t3,t2,t1,hSd]
     have HTL:=H_ (And.intro hTL (And.intro hTLe (show TL.length<=13000000 by rw[<-hTL];show T6.size<=_;omega)));have HS:=H_ hS;have HVS:=H_ hv;obtain⟨n3,hn3⟩:=nm_ (n2-k);obtain⟨c3,hc3⟩:=nm_ (c2-k);obtain⟨B,hB⟩:∃B,(if c2=k then A2 else A2.map (·.add (k*7)))=B:=⟨_,rfl⟩;have hsl2:=wh A2 n2 c2 k HKN.out;rw[hB,hn3,hc3]at hsl2;obtain⟨AC,hAC⟩:=nm_ (x.ac.drop k)
     have HS3:Hid (∀W,Below w.heap.size w W->Sl kAd W (λb=>b<w.heap.size) AC B n3):=H_ λW hW=>by
      rw[<-hAC,<-hn3];refine(HC.out.ac.aA λb hk=>⟨hk,hW.block b hk⟩).suf HKN.out (s:=7) rfl λh0=>?_;rw[<-hB,DS (by omega)]
     have HAC:=H_ (And.intro hAC (And.intro (show∀d∈AC,ay d=true by rw[<-hAC];exact λd hd=>hv.ac d (List.mem_of_mem_drop hd)) (show AC.length<=1000 by rw[<-hAC,FJ];have:=HCZ.out.2;omega)));clear hCh hvh hzh hx1 hx2 hx3 hv hHl hSd t1 t2 t3 t4 t5 t6 z1 z2 z3 z4 z5 z6 k1 k2 k3 hTL hTLe hn3 hc3 hB hAC hxh e1 e2 e3 hfh;have C14:=H_ (Be m sd y A n c A2 k c2 w5);obtain⟨h0,h1,h2,h3,h4⟩:=HH5.out.c5;go_wp2_with fail;refine C14.out.mono ?_;rintro r w6 ⟨rfl,b6⟩;have HB6:=htr HB5 b6;have HH6:=hbl HH5 b6;have HQ6:=hbl HQ5 b6;have C13:=H_ (qM HCH.out.1 c c2 HB6.out HG.out HCH.out.2.1);rw[HCH.out.2.2.1,HCH.out.2.2.2.1,HCH.out.2.2.2.2,hS]at C13;clear b6 C14 h0 h1 h2 h3 h4 hS;go_wp2_with fail;refine C13.out.mono ?_;rintro r w7 ⟨rfl,b7⟩;have HB7:=htr HB6 b7;have HH7:=hbl HH6 b7;have HQ7:=hbl HQ6 b7;obtain⟨q0,q1,q2,q3,q4⟩:=HQ7.out.c5;obtain⟨h0,h1,h2,h3,h4⟩:=HH7.out.c5;clear b7 C13 HB5 HB6 HH5 HH6 HQ5 HQ6;go_wp2_with fail;clear q0 q1 q2 q3 q4 h0 h1 h2 h3 h4 hsl2 a1 a2 a3 a4 a5 a6;go_loopw [10,68] (λs i wr=>∃(j:Nat) (S:ByteArray),j<=n3/\i= .int .i64 j/\s= .string S/\Hid (S.data.toList=TL++tAc (AC.take j))/\Hid (Below w7.heap.size w7 wr)) (λ_ i _=>n3-(intOf i).toNat)
     case atStart=>exact⟨0,T6,Ea _,rfl,rfl,H_ (by rw[HTL.out.1];simp[tAc]),H_ (DN _ _)⟩
     case round=>
      obtain⟨j,S8,hj,rfl,rfl,HS8,HL⟩:=hrel;have hsr7:=HL.out.size;have hn3:n3<=1000:=(HS3.out w7 HB7.out).1▸HAC.out.2.2;have HB:=htr HB7 HL.out;have hsr:=HB.out.size
      have hS8:S8.size<=13000000+2001*1000:=by
       have e1:=HTL.out.2.2;have e2:=lB (AC.take j) λd hd=>HAC.out.2.1 d (List.mem_of_mem_take hd);have e3:(AC.take j).length<=1000:=by rw[Fd];have:=HAC.out.2.2;omega
       have e4:S8.data.toList.length=S8.size:=rfl;rw[HS8.out,DJ]at e4;omega
      by_cases hjm:j<n3
      ·have hjz:(j:Int)<(n3:Int):=by omega
       obtain⟨b,off,d,cs,rfl,hgb,ha,hrd,hat⟩:=(HS3.out wr HB.out).at_ hjm;obtain⟨v,rfl,hrv,-,-,hvn,hvn2⟩:=jN hrd (λq hq=>by omega);have hvd:=HAC.out.2.1 d (DW ha);obtain⟨hwf,w1',w2',w3',w4'⟩:=gk hvd;have hfl:=mP hvd;have HTK:=H_ (pJ ha);obtain⟨d0,d1,d2,d3,d4,d5,d6⟩:=At.e7 hat
       obtain⟨r,hr⟩:=nm_ (wr.heap.size);obtain⟨w8,hw8⟩:=nm_ (wr.alloc (.cells v.cells 48));have HA:=hng hw8 hr;have HL8:=htr HL (bal hw8);have HB8:=htr HB7 HL8.out;have hnm:v.nm=d.nm:=hrv.nm;have hmt:v.mt=d.mt:=hrv.mt;have hs8:w8.heap.size=r+1:=by rw[<-hw8,DV,hr]
       have HCL:Hid (Calls Tryz.prog 17 #[.agg v.cells] w8 λe w'=>e= .returned (.string (ba (dO d)))/\Below w8.heap.size w8 w'):=
        H_ (oK v d w8 ((hrv.below (bal hw8)).more (by omega)) (HG.out.below HB8.out) (by omega) (by omega) (by rw[hnm];omega) (by rw[hmt];omega) hwf)
       obtain⟨x0,x1,x2,x3,x4,x5,x6⟩:=HA.out.v7;obtain⟨E,hE⟩:=nm_ (ba (dO d));have hEd:E.data.toList=dO d:=by rw[<-hE];rfl
       have hEz:E.size<=2000:=by have e:E.data.toList.length=E.size:=rfl;rw[hEd]at e;omega
       have k1:(ByteArray.mk #[10]).size=1:=rfl;obtain⟨S9,s9,z9,a1⟩:=gg E ⟨#[10]⟩ (by omega);obtain⟨S10,s10,z10,a2⟩:=gg S8 S9 (by omega);have HS10:Hid (S10.data.toList=TL++tAc (AC.take (j+1))):=H_ (by rw[s10,s9,HS8.out,hEd,HTK.out,Eb]);rw[hE]at HCL;have HW8:=H_ hw8;clear ha hat hrd hrv hgb hw8 hvd hwf hnm hmt hE hEd hvn hvn2 s9 s10 z9 z10 k1 HS8 hEz hS8 hfl HTK;unfold Av.cells at*
       go_upto_region 14 with fail;rw[HW8.out];go_wp2_with fail;refine HCL.out.mono ?_;rintro e w9 ⟨rfl,b9⟩;have HL9:=htr HL8 b9;clear b9 HCL HB8;go_wp2_with fail;go_roundw
       case rel=>exact⟨j+1,S10,by omega,by go_num,rfl,HS10,HL9⟩
       case measure=>simp[intOf];omega
      ·obtain rfl:j=n3:=by omega
       have hfin:S8.data.toList=qH x l.data.toList k:=by
        have hal:AC.length=j:=(HS3.out wr HB.out).1;rw[HS8.out,DP (by omega),HTL.out.2.1,<-HAC.out.1];rfl
       have HFIN:=H_ hfin
       clear HS8 hfin hS8;have C7:=H_ (kM wr (HG.out.below HB.out));by_cases hS16:(16384:Int)<(S8.size:Int)
       ·go_wp2_with fail;refine C7.out.mono ?_;rintro e w9 ⟨rfl,b9⟩;have HE:=htr HB b9;clear b9;go_wp2_with fail;go_ret;exact⟨rfl,hz▸HE.out⟩
       ·have hsz:S8.size<=16384:=by omega
        obtain⟨l1,l2,l3⟩:=rQ (show S8.size<=39000 by omega);have C8:=H_ (Bi S8 wr (HG.out.below HB.out) (by omega) l2 l3)
        have hrd:ei S8= .ok x:=by
         have e:S8=ba (qH x l.data.toList k):=by rw[<-HFIN.out,jZ]
         rw[e];refine ns HVS.out HN2.out k (by have:=HCZ.out.1;omega) ?_;rw[<-HFIN.out];exact hsz
        have HRD:=H_ hrd;have HQR:Hid (Blk wr g 35 #[.int .i64 m,.int .u64 sd,.int .i64 y,.slice A n c,.slice A2 n2 c2]):=hbl HQ7 HL.out;clear l1 l2 l3 C7 hrd;go_wp2_with fail;refine C8.out.mono ?_;rintro e wa ⟨b6,hcase⟩;rw[HRD.out]at hcase;obtain⟨v,rfl,hv⟩:=hcase;obtain⟨A',n',c',A2',n2',c2',rfl,_⟩:=id hv;obtain⟨h1,h2,h3⟩:=HXE.out;rw[h1,h2,h3]at hv⊢;obtain⟨wb,hwb⟩:=nm_ (wa.alloc (.cells #[.int .i64 m,.int .u64 sd,.int .i64 y,.slice A' n' c',.slice A2' n2' c2'] 31));obtain⟨L9,hL9⟩:=nm_ (wa.heap.size);have b7:=bal hwb;have HL7:=hng hwb hL9;have hsL:wb.heap.size=L9+1:=by rw[<-hwb,DV,hL9]
        have HV7:Hid (SV wb (AllB wb) x (.agg #[.int .i64 m,.int .u64 sd,.int .i64 y,.slice A' n' c',.slice A2' n2' c2'])):=H_ (SV.below hv b7);have HBb:=H_ (HB.out.trans ((b6.trans (b7.mono b6.size)).mono (by have:=HB.out.size;omega)));have HQb:=hbl (hbl HQR b6) b7
        have HU7:Hid (SV wb (AllB wb) x (.agg #[.int .i64 m,.int .u64 sd,.int .i64 y,.slice A n c,.slice A2 n2 c2])):=H_ (by
         have:=HC.out.sv c c2 HBb.out;rwa[h1,h2,h3]at this)
        have HW7:=H_ hwb;clear hv b6 b7 hwb C8 h1 h2 h3;go_upto_region 19 with fail;try rw[HW7.out]
        try rw[hL9]
        obtain⟨TT,f,hne,hf,hcov⟩:=cq wb.heap.size wb
        have C11:=H_ (show∀z,Calls Tryz.prog 11 #[.agg #[.int .i64 m,.int .u64 sd,.int .i64 y,.slice A' n' c',.slice A2' n2' c2']] (f z) (λe w''=>e= .returned (.agg #[.int .i64 m,.int .u64 sd,.int .i64 y,.slice A' n' c',.slice A2' n2' c2'])/\∃z',w''=f z')from λz=>
         (zB m sd y A' n' c' A2' n2' c2' (f z)).mono λe w'' ⟨h1,h2⟩=>⟨h1,hcov _ ((hf z).trans (h2.mono (hf z).size))⟩)
        have C10:=H_ (show∀z,Calls Tryz.prog 10 #[.agg #[.int .i64 m,.int .u64 sd,.int .i64 y,.slice A' n' c',.slice A2' n2' c2'],.agg #[.int .i64 m,.int .u64 sd,.int .i64 y,.slice A n c,.slice A2 n2 c2]] (f z) (λe w''=>e= .returned (.bool true)/\∃z',w''=f z')from λz=>
         (Bb x _ _ (f z) (SV.below HV7.out (hf z)) (SV.below HU7.out (hf z)) (by have:=HCZ.out.1;omega) (qT HVB.out) (by have:=HCZ.out.2;omega)).mono λe w'' ⟨h1,h2⟩=>⟨h1,hcov _ ((hf z).trans (h2.mono (hf z).size))⟩)
        have C7:=H_ (show∀z,Calls Tryz.prog 7 #[] (f z) (λe w''=>e= .returned (.bool true)/\∃z',w''=f z')from λz=>
         (kM (f z) ((HG.out.below HBb.out).below (hf z))).mono λe w'' ⟨h1,h2⟩=>⟨h1,hcov _ ((hf z).trans (h2.mono (hf z).size))⟩)
        have R1:=H_ (show∀z,(f z).rangeAt L9 0 [.int .i64 m,.int .u64 sd,.int .i64 y,.slice A' n' c',.slice A2' n2' c2']from λz j u hj=>by rw[ET];exact((HL7.out.below (hf z) HL7.out.lt).cell j).trans (by simpa using hj));have R2:=H_ (show∀z,(f z).rangeAt g 0 [.int .i64 m,.int .u64 sd,.int .i64 y,.slice A n c,.slice A2 n2 c2]from λz j u hj=>by rw[ET];exact((HQb.out.below (hf z) HQb.out.lt).cell j).trans (by simpa using hj));have HF:=H_ (λz=>HBb.out.trans ((hf z).mono HBb.out.size));have HCOV:=H_ hcov;clear hf hcov HBb HV7 HU7 HL7 HQb;refine az f (by kernel_rfl) (by kernel_rfl) (HCOV.out _ (DN _ _).drew) ?_;repeat (go_big_quiet_step (fail))
        go_big_quiet_want;refine cW 31 (.tmp 13) rfl L9 0 rfl [_,_,_,_,_] _ (by rintro _ ⟨z,rfl⟩;exact R1.out z) Tryz.underlying31 rfl (by kernel_rfl) ?_;go_simp;go_big_quiet_on;repeat (go_big_quiet_step ((go_at_call 11;exact C11.out _)))
        go_big_quiet_want;refine cW 35 (.tmp 3) rfl g 0 rfl [_,_,_,_,_] _ (by rintro _ ⟨z,rfl⟩;exact R2.out z) Tryz.underlying35 rfl (by kernel_rfl) ?_;go_simp;go_big_quiet_on;repeat (go_big_quiet_step (first|(go_at_call 10;exact C10.out _)|(go_at_call 7;exact C7.out _)))
        refine Fp ?_;rintro _ ⟨z,rfl⟩;go_wp2_with fail;go_ret;exact⟨rfl,hz▸HF.out z⟩
  ·cases vb with
   |false=>
    have C7:=H_ (kM w2 (HG.out.below HB2.out));go_wp2_with fail;refine C7.out.mono ?_;rintro e w3 ⟨rfl,b3⟩;have HE:=htr HB2 b3;clear b3;go_wp2_with fail;go_ret;exact⟨rfl,hz▸HE.out⟩
   |true=>
    have hlz:(100:Int)<(l.size:Int):=by
     have:¬l.size<=100:=λh=>hcut ⟨rfl,h⟩;omega
    have C7:=H_ (kM w2 (HG.out.below HB2.out));go_wp2_with fail;refine C7.out.mono ?_;rintro e w3 ⟨rfl,b3⟩;have HE:=htr HB2 b3;clear b3;go_wp2_with fail;go_ret;exact⟨rfl,hz▸HE.out⟩
end
section
open Go.RowKit Go.ChangeShapes Go.WideShapes Go.ChangeAt Go.Deep
variable{H:Type}{K fuel g i o:Nat}{P:Program}{W w:World}{cs:List Value}{e t':TypeId}{f:Field}{fs:Array Field}{held:Bool}{name:String}{spare:Nat->Bool}{v:Value}
theorem Dn:ownKnob Tryz.prog.godebug=none:=by kernel_rfl
theorem mB:laidOutB Tryz.prog=true:=by kernel_rfl
theorem lV{k:IntKind}{zs:List Int}{t:TypeId}{n:Nat}
 (hg:P.globalNamed name=some g) (hty:(P.globals[g]?).map (·.type)=some t) (ht:P.underlying t=some (.array n e)) (he:P.underlying e=some (.int k)) (hce:P.cellsOf e=1) (hct:P.cellsOf t=n)
 (h:Lib.VarReads P W name (Lib.tabData k zs)):Lib.TabIs P W name k zs:=by
 obtain⟨g',t',cs,fuel,p,h1,h2,h3,h4⟩:=h;rw[hg]at h1;obtain rfl:=Option.some.inj h1;rw[hty]at h2;obtain rfl:=Option.some.inj h2;have:=Lib.cells_of_tab ht he hce hct h4;unfold Lib.TabIs;rw[h3,<-this]
theorem ip{nm:String}{d:DataW Unit}{t:TypeId}{ms:Array (String×TypeId)}(hg:P.globalNamed name=some g)(hty:(P.globals[g]?).map (·.type)=some t)(ht:P.underlying t=some (.interface ms))
 (h:Lib.VarReads P W name (.iface nm d)):∃tp p,W.var? P name=some #[.iface tp p]:=by
 obtain⟨g',t',cs,fuel,p,h1,h2,h3,h4⟩:=h;rw[hg]at h1;obtain rfl:=Option.some.inj h1;rw[hty]at h2;obtain rfl:=Option.some.inj h2;obtain⟨_,u,v,hcs,_⟩:=iface_of_trod ht h4;refine⟨u,v,?_⟩;rw[h3]
 congr 1
 exact Array.toList_inj.1 hcs
theorem iQ{ss:List (List UInt8)}{n:Nat}{t:TypeId}(hg:Tryz.prog.globalNamed name=some g)(hty:(Tryz.prog.globals[g]?).map (·.type)=some t)(ht:Tryz.prog.underlying t=some (.slice 9))(hn:ss.length=n+1)
 (h:Lib.VarReads Tryz.prog W name (.slice (ss.map λs=> .lit (.string s)) [])):∃A c,W.cell? ⟨g,0,none⟩=some (.slice A (n+1) c)/\Strs W W.heap.size A (n+1) (ss.map λs=>⟨s.toArray⟩):=by
 obtain⟨g',t',cs,fuel,p,h1,h2,h3,h4⟩:=h;rw[hg]at h1;obtain rfl:=Option.some.inj h1;rw[hty]at h2;obtain rfl:=Option.some.inj h2;rcases DataW.trod_slice ht h4 with⟨hcs,hx⟩|⟨a,len,cap,elems,rest,m,rfl,hcs,hx,_,_,_,hel,hi,_⟩
 ·simp at hx
 ·simp only[Prod.mk.injEq,DataW.slice.injEq]at hx;obtain⟨⟨hx1,_⟩,_⟩:=hx
  have hlen:len=n+1:=by
   have:=Fo List.length hx1;simp only[Fe]at this;omega
  subst hlen
  have hcell:W.cell? ⟨g,0,none⟩=some (.slice (some a) (n+1) cap):=by
   have:=World.var?_cell hg h3 0;rw[show cs= #[.slice (some a) (n+1) cap]from Array.toList_inj.1 hcs]at this;simpa using this
  have hc9:Tryz.prog.cellsOf 9=1:=by kernel_rfl
  have hes:∀i s,ss[i]?=some s->W.cell? (a.add i)=some (.string ⟨s.toArray⟩):=λi s hs=>by
   have hil:i<n+1:=by rw[<-hn];exact(DQ.1 hs).1
   have h5:=hi i hil;have hel':i<elems.length:=by omega
   rw[DT hel',hc9,Nat.mul_one]at h5;obtain⟨cs',h6,h7⟩:=Option.bind_eq_some_iff.1 h5;obtain⟨s',rfl,h8,_⟩:=DataW.trod_string Tryz.underlying9 h7
   have h9:(elems.map (·.1))[i]?=some (.lit (.string s'.data.toList)):=by
    rw[Eu,DT hel',h8];rfl
   rw[<-hx1,Eu,hs]at h9;simp only[Option.map_some,Option.some.injEq,DataW.lit.injEq,Lit.string.injEq]at h9;obtain⟨_,_,h10⟩:=World.cells?_some h6;have:=h10 0 (by simp);rw[show((a.add i).add 0)=a.add i from by unfold Addr.add;simp]at this;rw[this];simp[h9]
  refine⟨some a,cap,hcell,by simp[hn],λh0=>?_⟩;have h00:0<ss.length:=by omega
  have hc0:=hes 0 ss[0] (DT h00);obtain⟨b,off,spot⟩:=a;have hspot:spot=none:=by simpa[Addr.add]using World.cell?_spot hc0
  subst hspot;refine⟨b,off,rfl,by simpa[Addr.add]using World.block_lt_of_cell? W _ hc0,λj v hv=>?_⟩;rw[List.map_map,Eu]at hv;obtain⟨s,hs,rfl⟩:=Ev.1 hv;have:=hes j s hs;rwa[show((⟨b,off,none⟩:Addr).add j)=⟨b,off+j,none⟩from by unfold Addr.add;split<;>simp_all]at this
def ae:List (String×DataW Unit):=Rows.scriptParsesRow.laid
def kwN:List (List UInt8):=kwL.map (·.data.toList)
def syN:List (List UInt8):=syL.map (·.data.toList)
theorem Cn:((begin Tryz.prog (λ_ _=>0) default).world.heap[0]?).bind Obj.row?=some (#[.int .i64 0],3):=by kernel_rfl
theorem Cm:∃x,((begin Tryz.prog (λ_ _=>0) default).world.heap[11]?).bind Obj.row?=some x:=by
 cases h:((begin Tryz.prog (λ_ _=>0) default).world.heap[11]?).bind Obj.row? with
 |some x=>exact⟨x,rfl⟩
 |none=>
  have:(((begin Tryz.prog (λ_ _=>0) default).world.heap[11]?).bind Obj.row?).isSome=true:=by kernel_rfl
  rw[h]at this;cases this
section
variable{H:Type}{enc:TypeId×Value->H}{w:World}{spare:Nat->Bool}{held:Bool}
def Wt(t:TypeId)(d:DataW H):Prop:=∀k∈d.weights Tryz.prog t,k<=reachBytes
theorem gY{e:TypeId}:∀{l:List (DataW H)} {d:DataW H},d∈l->∀k∈d.weights Tryz.prog e,k∈DataW.weightsAll Tryz.prog e l
 |[],_,h,_,_=>by cases h
 |a::l,d,h,k,hk=>by
  rw[DataW.weightsAll];rcases DY.1 h with rfl|h
  ·exact List.mem_append_left _ hk
  ·exact List.mem_append_right _ (gY h k hk)
theorem eS:∀{ts:List TypeId} {l:List (DataW H)} {i:Nat} {t:TypeId} {d:DataW H},ts[i]?=some t->l[i]?=some d->∀k∈d.weights Tryz.prog t,k∈DataW.weightsEach Tryz.prog ts l
 |[],_,_,_,_,h,_,_,_=>by simp at h
 |_::_,[],_,_,_,_,h,_,_=>by simp at h
 |t'::ts,a::l,0,t,d,h1,h2,k,hk=>by
  simp only[ED,Option.some.injEq]at h1 h2;subst h1 h2;rw[DataW.weightsEach];exact List.mem_append_left _ hk
 |t'::ts,a::l,i+1,t,d,h1,h2,k,hk=>by
  simp only[FA]at h1 h2;rw[DataW.weightsEach];exact List.mem_append_right _ (eS h1 h2 k hk)
theorem Wt.part{t:TypeId}(ht:Tryz.prog.underlying t=some (.struct fs)){ps:List (DataW H)}(h:Wt t (.agg ps)){d:DataW H}(hf:fs[i]?=some f)(hd:ps[i]?=some d):Wt f.type d:=λk hk=>by
 refine h k ?_;rw[DataW.weights,ht];exact eS (i:=i) (t:=f.type) (by rw[Eu,<-Array.getElem?_toList]at*;simp[hf]) hd k hk
theorem Wt.elem{t:TypeId}(ht:Tryz.prog.underlying t=some (.slice e)){el sp:List (DataW H)}(h:Wt t (.slice el sp)):el.length*Tryz.prog.bytesOf e<=reachBytes/\∀d∈el,Wt e d:=by
 have h0:∀k∈((el.length+sp.length)*Tryz.prog.bytesOf e::(DataW.weightsAll Tryz.prog e el++DataW.weightsAll Tryz.prog e sp)),k<=reachBytes:=λk hk=>h k (by rw[DataW.weights,ht];exact hk);refine⟨Ek (Nat.mul_le_mul_right _ (Nat.le_add_right _ _)) (h0 _ List.mem_cons_self),λd hd k hk=>h0 k ?_⟩;exact Et _ (List.mem_append_left _ (gY hd k hk))
theorem eM{t:TypeId}(ht:Tryz.prog.underlying t=some (.struct fs)){x:DataW H×List MemPlace}(h:DataW.trod enc Tryz.prog w 0 spare held fuel t cs=some x)(hw:Wt t x.1):
 ∃n,fuel=n+1/\cs.length=Tryz.prog.cellsOf t/\∀(i:Nat) (f:Field),fs[i]?=some f->∃y,DataW.trod enc Tryz.prog w 0 spare held n f.type ((cs.drop f.offset).take (Tryz.prog.cellsOf f.type))=some y/\Wt f.type y.1:=by
 obtain⟨xs,n,hfu,rfl,hl,hlen,hf⟩:=DataW.trod_struct ht h;refine⟨n,hfu,hl,λi f hi=>?_⟩;have hil:i<xs.length:=by rw[hlen];exact(Ef.1 hi).1
 have h1:=hf i f hi;rw[DT hil]at h1;exact⟨xs[i],h1,hw.part ht hi (by rw[Eu,DT hil];rfl)⟩
theorem qK(h:o<cs.length):(cs.drop o).take 1=[cs[o]]:=by
 rw[Fu h];rfl
theorem aU{n:Nat}(h:∃y,DataW.trod enc Tryz.prog w 0 spare held n t' ((cs.drop o).take (Tryz.prog.cellsOf t'))=some y/\Wt t' y.1)(ho:o<cs.length:=by simp)(hc:Tryz.prog.cellsOf t'=1:=by kernel_rfl):
 ∃y,DataW.trod enc Tryz.prog w 0 spare held n t' [cs[o]]=some y/\Wt t' y.1:=by
 rwa[hc,qK ho]at h
theorem gT{α:Type}(K:Kd α){t:TypeId}(ht:Tryz.prog.underlying t=some (.slice e)){x:DataW H×List MemPlace}
 (h:DataW.trod enc Tryz.prog w 0 spare held fuel t [v]=some x) (hw:Wt t x.1)
 (hel:∀n cs y,n<fuel->DataW.trod enc Tryz.prog w 0 spare held n e cs=some y->Wt e y.1->∃a,K.rd w (λb=>b<w.heap.size) a cs) (hce:Tryz.prog.cellsOf e=K.sz:=by kernel_rfl) (hbe:1<=Tryz.prog.bytesOf e:=by exact Er (by kernel_rfl)):
 ∃A n c xs,v= .slice A n c/\Sl K w (λb=>b<w.heap.size) xs A n/\n<=c/\n<=140737488355328:=by
 rcases DataW.trod_slice ht h with⟨hcs,_⟩|⟨a,len,cap,elems,rest,n,rfl,hcs,rfl,_,hl,hm,hlen,hi,_⟩
 ·simp only[List.cons.injEq,Em]at hcs;subst hcs;exact⟨none,0,0,[],rfl,Sl.nil _ _ _,DK _,Ea _⟩
 ·simp only[List.cons.injEq,Em]at hcs;subst hcs;obtain⟨hwl,hwe⟩:=hw.elem ht;rw[Fe,hlen]at hwl
  have hbig:len<=140737488355328:=by
   have h1:len*1<=len*Tryz.prog.bytesOf e:=Nat.mul_le_mul_left _ hbe;unfold reachBytes at hwl;omega
  have hex:∀i,i<len->∃cs a',w.cells? 0 (a.add (i*K.sz)) K.sz=some cs/\K.rd w (λb=>b<w.heap.size) a' cs:=λi hin=>by
   have h1:=hi i hin
   have hil:i<elems.length:=by omega
   rw[DT hil,hce]at h1;obtain⟨cs,h2,h3⟩:=Option.bind_eq_some_iff.1 h1;obtain⟨a',h4⟩:=hel n cs elems[i] (Nat.lt_succ_self _) h3 (hwe _ (List.mem_map_of_mem (List.getElem_mem hil)));exact⟨cs,a',h2,h4⟩
  by_cases h0:0<len
  ·obtain⟨cs0,_,hc0,hr0⟩:=hex 0 h0
   have hspot:∃b off,a=⟨b,off,none⟩/\b<w.heap.size:=by
    obtain⟨_,hl0,hcell⟩:=World.cells?_some hc0;have h1:=hcell 0 K.pos;rw[DT (by rw[hl0];exact K.pos)]at h1;have h2:=World.cell?_spot h1;have h3:=World.block_lt_of_cell? w _ h1;obtain⟨b,off,spot⟩:=a;have:spot=none:=by simpa[Addr.add]using h2
    subst this;exact⟨b,off,rfl,by simpa[Addr.add]using h3⟩
   obtain⟨b,off,rfl,hb⟩:=hspot;refine⟨some ⟨b,off,none⟩,len,cap,(List.range len).map (λi=>if h:i<len then Classical.choose (Fc (hex i h))else Classical.choose (Fc (hex 0 h0))),rfl,⟨by simp,by unfold BD;omega,λ_=>⟨b,off,rfl,hb,λj y hy=>?_⟩⟩,hl,hbig⟩;have hj:j<len:=by have:=(DQ.1 hy).1;simpa using this
   rw[Eu,List.getElem?_range hj]at hy;simp only[Option.map_some,Option.some.injEq,dif_pos hj]at hy;obtain⟨h1,h2⟩:=Fc (Fc (hex j hj));refine⟨Classical.choose (hex j hj),by rw[<-hy];exact h2,λi v hv=>?_⟩;obtain⟨_,hl0,hcell⟩:=World.cells?_some h1;have hil:i<K.sz:=by rw[<-hl0];exact(DQ.1 hv).1
   have h3:=(hcell i hil).trans hv;rwa[show((⟨b,off,none⟩:Addr).add (j*K.sz)).add i=⟨b,off+K.sz*j+i,none⟩from by unfold Addr.add;rw[El K.sz j];by_cases h1:j*K.sz=0<;>by_cases h2:i=0<;>simp[h1,h2]]at h3
  ·obtain rfl:len=0:=by omega
   exact⟨some a,0,cap,[],rfl,Sl.nil _ _ _,Ea _,Ea _⟩
theorem CZ:∀(fuel:Nat) (cs:List Value) (x:DataW H×List MemPlace),DataW.trod enc Tryz.prog w 0 spare held fuel 172 cs=some x->Wt 172 x.1->∃e,ExK w (λb=>b<w.heap.size) e cs:=by
 intro fuel;induction fuel using Nat.strongRecOn with
 |_ fuel ih=>
  intro cs x h hw;obtain⟨n,rfl,hl,hf⟩:=eM Tryz.underlying172 h hw;have hl6:cs.length=6:=hl.trans (by kernel_rfl)
  match cs,hl6 with
  |[v0,v1,v2,v3,v4,v5],_=>
   obtain⟨y0,t0,_⟩:=aU (o:=0) (hf 0 _ rfl);obtain⟨y1,t1,_⟩:=aU (o:=1) (hf 1 _ rfl);obtain⟨y2,t2,_⟩:=aU (o:=2) (hf 2 _ rfl);obtain⟨y3,t3,_⟩:=aU (o:=3) (hf 3 _ rfl);obtain⟨y4,t4,_⟩:=aU (o:=4) (hf 4 _ rfl);obtain⟨y5,t5,w5⟩:=aU (o:=5) (hf 5 _ rfl);obtain⟨k,hk,_,_⟩:=DataW.trod_int Tryz.underlying3 t0;obtain⟨op,hop,_,_⟩:=DataW.trod_int Tryz.underlying3 t1;obtain⟨z,hz,_,_⟩:=DataW.trod_int Tryz.underlying2 t2;obtain⟨nm,hnm,_,_⟩:=DataW.trod_string Tryz.underlying9 t3;obtain⟨at_,hat,_⟩:=DataW.trod_bool Tryz.underlying4 t4;obtain⟨A,m,c,xs,h5,hs,hc,_⟩:=gT gX Tryz.underlying166 t5 w5 (λa b z d e f=>ih a (by omega) b z e f);simp only[List.getElem_cons_succ,List.getElem_cons_zero,List.cons.injEq,Em]at hk hop hz hnm hat h5;subst hk hop hz hnm hat h5;exact⟨_,ExK.of k op z nm at_ hc hs⟩
theorem Cv:∀(fuel:Nat) (cs:List Value) (x:DataW H×List MemPlace),DataW.trod enc Tryz.prog w 0 spare held fuel 168 cs=some x->Wt 168 x.1->∃e,StK w (λb=>b<w.heap.size) e cs:=by
 intro fuel;induction fuel using Nat.strongRecOn with
 |_ fuel ih=>
  intro cs x h hw;obtain⟨n,rfl,hl,hf⟩:=eM Tryz.underlying168 h hw;have hl5:cs.length=5:=hl.trans (by kernel_rfl)
  match cs,hl5 with
  |[v0,v1,v2,v3,v4],_=>
   obtain⟨y0,t0,_⟩:=aU (o:=0) (hf 0 _ rfl);obtain⟨y1,t1,_⟩:=aU (o:=1) (hf 1 _ rfl);obtain⟨y2,t2,w2⟩:=aU (o:=2) (hf 2 _ rfl);obtain⟨y3,t3,w3⟩:=aU (o:=3) (hf 3 _ rfl);obtain⟨y4,t4,w4⟩:=aU (o:=4) (hf 4 _ rfl);obtain⟨k,hk,_,_⟩:=DataW.trod_int Tryz.underlying3 t0;obtain⟨nm,hnm,_,_⟩:=DataW.trod_string Tryz.underlying9 t1;obtain⟨A,m,c,xs,h2,hs,hc,_⟩:=gT gX Tryz.underlying166 t2 w2 (λa b z _ e f=>CZ a b z e f);obtain⟨A2,m2,c2,xs2,h3,hs2,hc2,_⟩:=gT gI Tryz.underlying119 t3 w3 (λa b z d e f=>ih a (by omega) b z e f);obtain⟨A3,m3,c3,xs3,h4,hs3,hc3,_⟩:=gT gI Tryz.underlying119 t4 w4 (λa b z d e f=>ih a (by omega) b z e f);simp only[List.getElem_cons_succ,List.getElem_cons_zero,List.cons.injEq,Em]at hk hnm h2 h3 h4;subst hk hnm h2 h3 h4;exact⟨_,StK.of k nm ⟨hc,hc2,hc3⟩ hs hs2 hs3⟩
theorem vW{x:DataW H×List MemPlace}(h:DataW.trod enc Tryz.prog w 0 spare held fuel 9 cs=some x):∃s,dn.rd w (λb=>b<w.heap.size) s cs:=by
 obtain⟨s,hs,_⟩:=DataW.trod_string Tryz.underlying9 h;exact⟨s,hs⟩
theorem xI{t:TypeId}(ht:Tryz.prog.underlying t=some (.int .i64)){x:DataW H×List MemPlace}(h:DataW.trod enc Tryz.prog w 0 spare held fuel t cs=some x):∃z,lv.rd w (λb=>b<w.heap.size) z cs:=by
 obtain⟨z,hz,_⟩:=DataW.trod_int ht h;exact⟨z,hz⟩
theorem CL{x:DataW H×List MemPlace}(h:DataW.trod enc Tryz.prog w 0 spare held fuel 121 cs=some x)(hw:Wt 121 x.1):∃m,MeK w (λb=>b<w.heap.size) m cs:=by
 obtain⟨n,rfl,hl,hf⟩:=eM Tryz.underlying121 h hw;have hl3:cs.length=3:=hl.trans (by kernel_rfl)
 match cs,hl3 with
 |[v0,v1,v2],_=>
  obtain⟨y0,t0,_⟩:=aU (o:=0) (hf 0 _ rfl);obtain⟨y1,t1,w1⟩:=aU (o:=1) (hf 1 _ rfl);obtain⟨y2,t2,w2⟩:=aU (o:=2) (hf 2 _ rfl);obtain⟨nm,hnm,_,_⟩:=DataW.trod_string Tryz.underlying9 t0;obtain⟨A,m,c,xs,h1,hs,hc,_⟩:=gT dn Tryz.underlying67 t1 w1 (λa b z _ e _=>vW e);obtain⟨A2,m2,c2,xs2,h2,hs2,hc2,_⟩:=gT gI Tryz.underlying119 t2 w2 (λa b z _ e f=>Cv a b z e f);simp only[List.getElem_cons_succ,List.getElem_cons_zero,List.cons.injEq,Em]at hnm h1 h2;subst hnm h1 h2;exact⟨⟨nm,xs,xs2⟩,A,m,c,A2,m2,c2,rfl,hs,hs2,hc,hc2⟩
theorem D8{x:DataW H×List MemPlace}(h:DataW.trod enc Tryz.prog w 0 spare held fuel 117 cs=some x)(hw:Wt 117 x.1):∃m,ClK w (λb=>b<w.heap.size) m cs:=by
 obtain⟨n,rfl,hl,hf⟩:=eM Tryz.underlying117 h hw;have hl4:cs.length=4:=hl.trans (by kernel_rfl)
 match cs,hl4 with
 |[v0,v1,v2,v3],_=>
  obtain⟨y0,t0,_⟩:=aU (o:=0) (hf 0 _ rfl);obtain⟨y1,t1,_⟩:=aU (o:=1) (hf 1 _ rfl);obtain⟨y2,t2,w2⟩:=aU (o:=2) (hf 2 _ rfl);obtain⟨y3,t3,w3⟩:=aU (o:=3) (hf 3 _ rfl);obtain⟨nm,hnm,_,_⟩:=DataW.trod_string Tryz.underlying9 t0;obtain⟨ac,hac,_⟩:=DataW.trod_bool Tryz.underlying4 t1;obtain⟨A,m,c,xs,h2,hs,hc,_⟩:=gT dn Tryz.underlying67 t2 w2 (λa b z _ e _=>vW e);obtain⟨A2,m2,c2,xs2,h3,hs2,hc2,_⟩:=gT nr Tryz.underlying115 t3 w3 (λa b z _ e f=>CL e f);simp only[List.getElem_cons_succ,List.getElem_cons_zero,List.cons.injEq,Em]at hnm hac h2 h3;subst hnm hac h2 h3;exact⟨⟨nm,ac,xs,xs2⟩,A,m,c,A2,m2,c2,rfl,hs,hs2,hc,hc2⟩
theorem Dg{x:DataW H×List MemPlace}(h:DataW.trod enc Tryz.prog w 0 spare held fuel 48 cs=some x)(hw:Wt 48 x.1):∃d,kAd.rd w (λb=>b<w.heap.size) d cs:=by
 obtain⟨n,rfl,hl,hf⟩:=eM Tryz.underlying48 h hw;have hl7:cs.length=7:=hl.trans (by kernel_rfl)
 match cs,hl7 with
 |[v0,v1,v2,v3,v4,v5,v6],_=>
  obtain⟨y0,t0,_⟩:=aU (o:=0) (hf 0 _ rfl);obtain⟨y1,t1,_⟩:=aU (o:=1) (hf 1 _ rfl);obtain⟨y2,t2,_⟩:=aU (o:=2) (hf 2 _ rfl);obtain⟨y3,t3,_⟩:=aU (o:=3) (hf 3 _ rfl);obtain⟨y4,t4,_⟩:=aU (o:=4) (hf 4 _ rfl);obtain⟨y5,t5,w5⟩:=aU (o:=5) (hf 5 _ rfl);obtain⟨y6,t6,w6⟩:=aU (o:=6) (hf 6 _ rfl);obtain⟨k,hk,_,_⟩:=DataW.trod_int Tryz.underlying3 t0;obtain⟨a,ha,_,_⟩:=DataW.trod_int Tryz.underlying3 t1;obtain⟨b,hb,_,_⟩:=DataW.trod_int Tryz.underlying3 t2;obtain⟨nm,hnm,_,_⟩:=DataW.trod_string Tryz.underlying9 t3;obtain⟨mt,hmt,_,_⟩:=DataW.trod_string Tryz.underlying9 t4;obtain⟨A,m,c,xs,h5,hs,hc,_⟩:=gT lv Tryz.underlying45 t5 w5 (λa b z _ e _=>xI Tryz.underlying2 e);obtain⟨A2,m2,c2,xs2,h6,hs2,hc2,_⟩:=gT lv Tryz.underlying46 t6 w6 (λa b z _ e _=>xI Tryz.underlying3 e);simp only[List.getElem_cons_succ,List.getElem_cons_zero,List.cons.injEq,Em]at hk ha hb hnm hmt h5 h6;subst hk ha hb hnm hmt h5 h6;exact⟨⟨k,a,b,nm,mt,xs,xs2⟩,A,m,c,A2,m2,c2,rfl,hs,hs2⟩
end
theorem oJ{enc:TypeId×Value->H}{a:Assume}{C:Checked}{os:Os}{f:FuncId}{fn:Func}{s:ChangeSpec}{conds:List PathCond}{apart fresh handsOn again:Bool}{X:World->Array Value->Prop}
 (hX:∀(w w':World) (args:Array Value),w.heap=w'.heap->X w args->X w' args)
 (own:ownKnob C.prog.godebug=none) (started:os.Started) (noInit:C.prog.inits.idxOf? f=none) (hfn:C.prog.funcs[f]?=some fn)
 (witness:∃(w:World) (tape:Tape) (i:Input),w.os=os/\(w.forCall tape i).Shaped C.prog/\i.vars=[]/\Input.okWide C.prog (w.forCall tape i) .any w.heap.size f i/\
   ((s.pre enc C.prog fn conds apart (w.forCall tape i).memory i.args/\X (w.forCall tape i).memory i.args)/\sizedMet enc C.prog fn (OpenSpec.ofChange s) apart (w.forCall tape i).memory i.args)/\a.holds C.prog (lone (Frame.enter C.prog f i.args .normal) [] (w.forCall tape i)))
 (contract:∀(W:World) (base:Nat) (args:Array Value) (ds gs:List (DataW H)) (before:List MemPlace),
   (∀(j:Nat) t v,fn.params[j]?=some t->args[j]?=some v->Value.okWide C.prog W .any base t v)->
   DataW.Whole enc C.prog fn.params.toList s.vars apart W args.toList ds gs before->X W args->W.ShapedOpen C.prog->(DataW.weightsEach C.prog (fn.params.toList++(OpenSpec.ofChange s).bare.plain.varTypes C.prog) (ds++gs)).all (·<=reachBytes)=true->
   Calls C.prog f args W λe W'=>∃v,e= .returned v/\s.post enc C.prog fn apart fresh handsOn again W args v W'):
 ReturnsInHanded a C os f .any (λw args=>(s.pre enc C.prog fn conds apart w args/\X w args)/\sizedMet enc C.prog fn (OpenSpec.ofChange s) apart w args) (s.post enc C.prog fn apart fresh handsOn again):=by
 refine returnsInHanded_of_calls own started noInit witness ?_;intro w tape i _ hsh _ hok hpre _;obtain⟨_,_,_,fn',hfn',_,_,_,_,hval⟩:=hok;obtain rfl:fn'=fn:=Option.some.inj (hfn'.symm.trans hfn);obtain⟨⟨⟨ds,gs,before,hw,_⟩,hx⟩,hsz⟩:=hpre;refine(contract (w.forCall tape i) w.heap.size i.args ds gs before hval (DataW.Whole.of_heap (w':=w.forCall tape i) (by rfl) hw) (hX _ _ _ (by rfl) hx) hsh (hsz.weights hw)).mono λe W' ⟨v,he,hp⟩=>?_;subst he;exact ChangeSpec.post_blind hp
def ce:List (String×DataW Unit):=Rows.scriptFormatsRow.laid
theorem BP(hL:laidMetH Tryz.prog ce W)(hsh:W.ShapedOpen Tryz.prog):Gl W:=by
 rw[MakeChecks.laidMetH_plain _ _ _ (by kernel_rfl)]at hL;have r3:=Lib.laidMet.reads hL (show("internal/strconv.uint64pow10",Rows.laid_internal_strconv_uint64pow10)∈ce from by unfold ce Rows.scriptFormatsRow;simp);have r4:=Lib.laidMet.reads hL (show("strconv.ErrSyntax",Rows.laid_strconv_ErrSyntax)∈ce from by unfold ce Rows.scriptFormatsRow;simp);have r5:=Lib.laidMet.reads hL (show("strconv.ErrRange",Rows.laid_strconv_ErrRange)∈ce from by unfold ce Rows.scriptFormatsRow;simp);have r6:=Lib.laidMet.reads hL (show("refmesh/lexer.symbols",Rows.laid_refmesh_lexer_symbols)∈ce from by unfold ce Rows.scriptFormatsRow;simp);have r7:=Lib.laidMet.reads hL (show("refmesh/lexer.keywords",Rows.laid_refmesh_lexer_keywords)∈ce from by unfold ce Rows.scriptFormatsRow;simp)
 have h9:11<W.heap.size:=by
  obtain⟨⟨z,t⟩,h⟩:=Cm;obtain⟨cs,hh,_⟩:=hsh.1 11 z t (by rw[kC];decide) h;exact(Ef.1 hh).1
 have k7:=iQ (ss:=kwN) (n:=23) (g:=11) (t:=67) (by kernel_rfl) (by kernel_rfl) (by kernel_rfl) (by kernel_rfl) (show Lib.VarReads Tryz.prog W "refmesh/lexer.keywords" (.slice (kwN.map λs=> .lit (.string s)) [])from r7);have k6:=iQ (ss:=syN) (n:=18) (g:=9) (t:=67) (by kernel_rfl) (by kernel_rfl) (by kernel_rfl) (by kernel_rfl) (show Lib.VarReads Tryz.prog W "refmesh/lexer.symbols" (.slice (syN.map λs=> .lit (.string s)) [])from r6)
 exact⟨cell_of_shapedOpen_int hsh (by rw[kC];decide) Cn rfl (by kernel_rfl) (by kernel_rfl) Tryz.underlying3,
  lV (g:=2) (t:=221) (e:=23) (n:=20) (by kernel_rfl) (by kernel_rfl) (by kernel_rfl) (by kernel_rfl) (by kernel_rfl) (by kernel_rfl) (show Lib.VarReads Tryz.prog W "internal/strconv.uint64pow10" (Lib.tabData .u64 Lib.pow10Tab)from r3),
  ip (g:=3) (t:=78) (by kernel_rfl) (by kernel_rfl) Tryz.underlying78 r4,ip (g:=4) (t:=78) (by kernel_rfl) (by kernel_rfl) Tryz.underlying78 r5,k7,k6,by omega,DK _⟩
def wH{H:Type}:DataW H->List (DataW H)
 | .agg ps=>ps
 |_=>[]
theorem nc{enc:TypeId×Value->H}{t e N:Nat}(ht:Tryz.prog.underlying t=some (.array N e))(he:Tryz.prog.underlying e=some (.struct fs))(hce:Tryz.prog.cellsOf e=K)
 {ds:List (DataW H)} {p:List MemPlace} (h:DataW.trod enc Tryz.prog w 0 spare held fuel t cs=some (.agg ds,p)) {j:Nat} {parts:List (DataW H)} {d:DataW H} (hi:ds[i]?=some (.agg parts)) (hj:parts[j]?=some d)
 (hf:fs[j]?=some f) (hcf:Tryz.prog.cellsOf f.type=1) (ho:f.offset<K):∃n v p',cs[i*K+f.offset]?=some v/\DataW.trod enc Tryz.prog w 0 spare held n f.type [v]=some (d,p'):=by
 obtain⟨xs,m,_,hx,hl,hxl,hel⟩:=DataW.trod_array ht h;simp only[Prod.mk.injEq,DataW.agg.injEq]at hx;obtain⟨rfl,_⟩:=hx;rw[Eu]at hi;obtain⟨y,hy,hyp⟩:=Ev.1 hi;have hiN:i<N:=by rw[<-hxl];exact(DQ.1 hy).1
 have h1:=hel i hiN;rw[hy]at h1;obtain⟨ys,m2,_,hx2,hl2,_,hf2⟩:=DataW.trod_struct he h1;rw[hx2]at hyp;simp only[DataW.agg.injEq]at hyp;subst hyp;rw[Eu]at hj;obtain⟨z,hz,hzd⟩:=Ev.1 hj;have h3:=hf2 j f hf;rw[hz,hcf]at h3;rw[hce]at h3 hl2;have hlt:f.offset<((cs.drop (i*K)).take K).length:=by rw[hl2];exact ho
 rw[qK hlt]at h3;refine⟨m2,_,z.2,?_,by rw[h3,<-hzd]⟩;rw[<-DT hlt,List.getElem?_take_of_lt ho,List.getElem?_drop]
theorem yj{enc:TypeId×Value->H}{n:Nat}{bs:List UInt8}{p:List MemPlace}(h:DataW.trod enc Tryz.prog w 0 spare held n 9 [v]=some (.lit (.string bs),p)):v= .string ⟨bs.toArray⟩:=by
 obtain⟨s,hs,hx,_⟩:=DataW.trod_string Tryz.underlying9 h;simp only[Prod.mk.injEq,DataW.lit.injEq,Lit.string.injEq]at hx;simp only[List.cons.injEq,Em]at hs;rw[hs,hx.1]
theorem mX{enc:TypeId×Value->H}{n:Nat}{z:Int}{p:List MemPlace}(h:DataW.trod enc Tryz.prog w 0 spare held n 3 [v]=some (.lit (.int .i64 z),p)):v= .int .i64 z:=by
 obtain⟨s,hs,hx,_⟩:=DataW.trod_int Tryz.underlying3 h;simp only[Prod.mk.injEq,DataW.lit.injEq,Lit.int.injEq]at hx;simp only[List.cons.injEq,Em]at hs;rw[hs,hx.1.2]
theorem kK{enc:TypeId×Value->H}{n:Nat}{z:Bool}{p:List MemPlace}(h:DataW.trod enc Tryz.prog w 0 spare held n 4 [v]=some (.lit (.bool z),p)):v= .bool z:=by
 obtain⟨s,hs,hx⟩:=DataW.trod_bool Tryz.underlying4 h;simp only[Prod.mk.injEq,DataW.lit.injEq,Lit.bool.injEq]at hx;simp only[List.cons.injEq,Em]at hs;rw[hs,hx.1]
theorem Bj(h:Lib.VarReads Tryz.prog W "refmesh/syntax.operators" Rows.laid_refmesh_syntax_operators)(o:Nat)(ho:o<=12):W.cell? ⟨10,o*2,none⟩=some (.string (bH o))/\W.cell? ⟨10,o*2+1,none⟩=some (.int .i64 (ap (o:Int):Nat)):=by
 obtain⟨g,t,cs,fuel,p,h1,h2,h3,h4⟩:=h;obtain rfl:g=10:=(Option.some.inj ((show Tryz.prog.globalNamed "refmesh/syntax.operators"=some 10 by kernel_rfl).symm.trans h1)).symm;obtain rfl:t=310:=(Option.some.inj ((show(Tryz.prog.globals[10]?).map (·.type)=some 310 by kernel_rfl).symm.trans h2)).symm;have hcell:∀i v,cs.toList[i]?=some v->W.cell? ⟨10,i,none⟩=some v:=λi v hv=>(World.var?_cell (show Tryz.prog.globalNamed "refmesh/syntax.operators"=some 10 by kernel_rfl) h3 i).trans (by simpa using hv);obtain⟨ds,hds⟩:∃ds,ds=wH (Rows.laid_refmesh_syntax_operators:DataW Unit):=⟨_,rfl⟩
 have hd:ds[o]?=some (.agg [.lit (.string (bH o).data.toList),.lit (.int .i64 (ap (o:Int):Nat))]):=by
  subst hds;have ho':o=0\/o=1\/o=2\/o=3\/o=4\/o=5\/o=6\/o=7\/o=8\/o=9\/o=10\/o=11\/o=12:=by omega
  rcases ho' with rfl|rfl|rfl|rfl|rfl|rfl|rfl|rfl|rfl|rfl|rfl|rfl|rfl<;>rfl
 have h5:DataW.trod (λ_=>()) Tryz.prog W 0 (λ_=>true) false fuel 310 cs.toList=some (.agg ds,p):=by rw[hds];exact h4
 obtain⟨n0,v0,p0,c0,t0⟩:=nc (K:=2) Tryz.underlying310 Tryz.underlying309 (by kernel_rfl) h5 (i:=o) (j:=0) hd rfl rfl (by kernel_rfl) (by decide);obtain⟨n1,v1,p1,c1,t1⟩:=nc (K:=2) Tryz.underlying310 Tryz.underlying309 (by kernel_rfl) h5 (i:=o) (j:=1) hd rfl rfl (by kernel_rfl) (by decide);exact⟨(hcell _ _ c0).trans (by rw[yj t0]),(hcell _ _ c1).trans (by rw[mX t1])⟩
theorem se(h:Lib.VarReads Tryz.prog W "refmesh/syntax.forms" Rows.laid_refmesh_syntax_forms)(k:Nat)(hk:k<=9):∃(a b:Int) (x y z:Bool),[(1,1,true,false,false),(1,1,true,false,false),(2,2,true,false,false),(1,1,false,true,true),(1,1,false,true,false),(1,4611686018427387904,true,false,false),(1,1,false,false,false),(2,2,false,false,false),(2,2,true,false,false),((0:Int),(0:Int),false,false,false)][k]?=some (a,b,x,y,z)/\
 W.cell? ⟨1,k*5,none⟩=some (.int .i64 a)/\W.cell? ⟨1,k*5+1,none⟩=some (.int .i64 b)/\W.cell? ⟨1,k*5+2,none⟩=some (.bool x)/\W.cell? ⟨1,k*5+3,none⟩=some (.bool y)/\W.cell? ⟨1,k*5+4,none⟩=some (.bool z):=by
 obtain⟨g,t,cs,fuel,p,h1,h2,h3,h4⟩:=h;obtain rfl:g=1:=(Option.some.inj ((show Tryz.prog.globalNamed "refmesh/syntax.forms"=some 1 by kernel_rfl).symm.trans h1)).symm;obtain rfl:t=216:=(Option.some.inj ((show(Tryz.prog.globals[1]?).map (·.type)=some 216 by kernel_rfl).symm.trans h2)).symm;have hcell:∀i v,cs.toList[i]?=some v->W.cell? ⟨1,i,none⟩=some v:=λi v hv=>(World.var?_cell (show Tryz.prog.globalNamed "refmesh/syntax.forms"=some 1 by kernel_rfl) h3 i).trans (by simpa using hv);obtain⟨ds,hds⟩:∃ds,ds=wH (Rows.laid_refmesh_syntax_forms:DataW Unit):=⟨_,rfl⟩
 have hd:∃(a b:Int) (x y z:Bool),[(1,1,true,false,false),(1,1,true,false,false),(2,2,true,false,false),(1,1,false,true,true),(1,1,false,true,false),(1,4611686018427387904,true,false,false),(1,1,false,false,false),(2,2,false,false,false),(2,2,true,false,false),((0:Int),(0:Int),false,false,false)][k]?=some (a,b,x,y,z)/\
  ds[k]?=some (.agg [.lit (.int .i64 a),.lit (.int .i64 b),.lit (.bool x),.lit (.bool y),.lit (.bool z)]):=by
  subst hds;have hk':k=0\/k=1\/k=2\/k=3\/k=4\/k=5\/k=6\/k=7\/k=8\/k=9:=by omega
  rcases hk' with rfl|rfl|rfl|rfl|rfl|rfl|rfl|rfl|rfl|rfl<;>exact⟨_,_,_,_,_,rfl,rfl⟩
 obtain⟨a,b,x,y,z,he,hd⟩:=hd;have h5:DataW.trod (λ_=>()) Tryz.prog W 0 (λ_=>true) false fuel 216 cs.toList=some (.agg ds,p):=by rw[hds];exact h4
 obtain⟨n0,v0,p0,c0,t0⟩:=nc (K:=5) Tryz.underlying216 Tryz.underlying215 (by kernel_rfl) h5 (i:=k) (j:=0) hd rfl rfl (by kernel_rfl) (by decide);obtain⟨n1,v1,p1,c1,t1⟩:=nc (K:=5) Tryz.underlying216 Tryz.underlying215 (by kernel_rfl) h5 (i:=k) (j:=1) hd rfl rfl (by kernel_rfl) (by decide);obtain⟨n2,v2,p2,c2,t2⟩:=nc (K:=5) Tryz.underlying216 Tryz.underlying215 (by kernel_rfl) h5 (i:=k) (j:=2) hd rfl rfl (by kernel_rfl) (by decide);obtain⟨n3,v3,p3,c3,t3⟩:=nc (K:=5) Tryz.underlying216 Tryz.underlying215 (by kernel_rfl) h5 (i:=k) (j:=3) hd rfl rfl (by kernel_rfl) (by decide);obtain⟨n4,v4,p4,c4,t4⟩:=nc (K:=5) Tryz.underlying216 Tryz.underlying215 (by kernel_rfl) h5 (i:=k) (j:=4) hd rfl rfl (by kernel_rfl) (by decide);exact⟨a,b,x,y,z,he,(hcell _ _ c0).trans (by rw[mX t0]),(hcell _ _ c1).trans (by rw[mX t1]),(hcell _ _ c2).trans (by rw[kK t2]),(hcell _ _ c3).trans (by rw[kK t3]),(hcell _ _ c4).trans (by rw[kK t4])⟩
theorem BO(hL:laidMetH Tryz.prog ce W):GlF W:=by
 rw[MakeChecks.laidMetH_plain _ _ _ (by kernel_rfl)]at hL;have r1:=Lib.laidMet.reads hL (show("refmesh/syntax.operators",Rows.laid_refmesh_syntax_operators)∈ce from by unfold ce Rows.scriptFormatsRow;simp);have r2:=Lib.laidMet.reads hL (show("refmesh/syntax.forms",Rows.laid_refmesh_syntax_forms)∈ce from by unfold ce Rows.scriptFormatsRow;simp);exact⟨Bj r1,se r2⟩
theorem vZ{enc:TypeId×Value->H}{n:Nat}(hc:Tryz.prog.cellsOf t'=K)(h:∃y,DataW.trod enc Tryz.prog w 0 spare held n t' ((cs.drop o).take (Tryz.prog.cellsOf t'))=some y/\Wt t' y.1):
 ∃y,DataW.trod enc Tryz.prog w 0 spare held n t' ((cs.drop o).take K)=some y/\Wt t' y.1:=by
 rwa[hc]at h
theorem AW{enc:TypeId×Value->H}{v0:Value}(hs:∃cs,v0= .agg cs){x:DataW H×List MemPlace}(h:DataW.trod enc Tryz.prog w 0 spare held fuel 35 v0.cells.toList=some x)(hw:Wt 35 x.1):
 ∃(s:Sc) (A:Option Addr) (n c:Nat) (A2:Option Addr) (n2 c2:Nat),v0= .agg #[.int .i64 s.m,.int .u64 s.sd,.int .i64 s.y,.slice A n c,.slice A2 n2 c2]/\Sl fh w (λb=>b<w.heap.size) s.cs A n/\Sl kAd w (λb=>b<w.heap.size) s.ac A2 n2/\
  0<=s.sd/\s.sd<=18446744073709551615/\n2<=140737488355328/\n2<=c2:=by
 obtain⟨cs,rfl⟩:=hs;obtain⟨L,hcs⟩:=nm_ (cs.toList);change DataW.trod enc Tryz.prog w 0 spare held fuel 35 cs.toList=some x at h;rw[hcs]at h;obtain⟨f1,rfl,hl,hf⟩:=eM Tryz.underlying35 h hw;have hl5:L.length=5:=hl.trans (by kernel_rfl)
 match L,hl5 with
 |[v0,v1,v2,v3,v4],_=>
  obtain⟨y0,t0,w0⟩:=vZ (t':=25) (o:=0) (K:=3) (by kernel_rfl) (hf 0 _ rfl);obtain⟨y1,t1,w1⟩:=vZ (t':=28) (o:=3) (K:=1) (by kernel_rfl) (hf 1 _ rfl);change DataW.trod enc Tryz.prog w 0 spare held f1 25 [v0,v1,v2]=some y0 at t0;change DataW.trod enc Tryz.prog w 0 spare held f1 28 [v3]=some y1 at t1;obtain⟨f2,rfl,hl2,hf2⟩:=eM Tryz.underlying25 t0 w0;obtain⟨f3,hf3',hl3,hf3⟩:=eM Tryz.underlying28 t1 w1;obtain⟨y2,t2,w2⟩:=aU (o:=4) (hf 2 _ rfl);obtain⟨z0,s0,_⟩:=aU (o:=0) (hf2 0 _ rfl);obtain⟨z1,s1,_⟩:=aU (o:=1) (hf2 1 _ rfl);obtain⟨z2,s2,_⟩:=aU (o:=2) (hf2 2 _ rfl);obtain⟨z3,s3,w3⟩:=aU (o:=0) (hf3 0 _ rfl);obtain⟨m,hm,_,_⟩:=DataW.trod_int Tryz.underlying3 s0;obtain⟨sd,hsd,_,hwf⟩:=DataW.trod_int Tryz.underlying23 s1;obtain⟨y,hy,_,_⟩:=DataW.trod_int Tryz.underlying3 s2;obtain⟨A,n,c,xs,h3,hs3,_,_⟩:=gT fh Tryz.underlying26 s3 w3 (λa b z _ e f=>D8 e f);obtain⟨A2,n2,c2,ds,h4,hs4,hnc,hb⟩:=gT kAd Tryz.underlying29 t2 w2 (λa b z _ e f=>Dg e f);simp only[List.getElem_cons_succ,List.getElem_cons_zero,List.cons.injEq,Em]at hm hsd hy h3 h4;subst hm hsd hy h3 h4;have hb2:0<=sd/\sd<=18446744073709551615:=by simpa[Lit.wf,IntKind.min,IntKind.max,IntKind.signed,IntKind.bits]using hwf
  refine⟨⟨m,sd,y,xs,ds⟩,A,n,c,A2,n2,c2,?_,hs3,hs4,hb2.1,hb2.2,hb,hnc⟩
  congr 1
  exact Array.toList_inj.1 hcs
end
end Go.Proofs.YtjpbckbpeblibaaGreatDoor
