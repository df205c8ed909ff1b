/- part of a proof -/
import Derived.Test.YtjpbckbpeblibaaGreatDoorK04
import Derived.Maps.AppendAt
namespace Go.Proofs.YtjpbckbpeblibaaGreatDoor
set_option linter.unusedVariables false
set_option linter.unusedSimpArgs false
set_option maxRecDepth 100000
set_option maxHeartbeats 64000000
section
open Go.RowKit
variable{A:Option Addr}{B M g i j k m n q:Nat}{Q:Ending->World->Prop}{W w w':World}{a d:Ad}{args x:Array Value}{c:Value}{e:Ending}{f fd:FD}{hi lo:Int}{kvs:List (Value×Value)}{p pd:PD}{pds:List PD}{rest ss ws:List ByteArray}{s z:ByteArray}{v:Av}{zs:List Int}{α β:Type}
theorem AZ:type_of% @List.length_cons:=@List.length_cons
theorem BG:type_of% @List.map_cons:=@List.map_cons
theorem C8:type_of% @World.cell?_of_block:=@World.cell?_of_block
theorem Cj:type_of% @List.drop_eq_getElem_cons:=@List.drop_eq_getElem_cons
theorem Cm:type_of% @List.map_toArray:=@List.map_toArray
theorem Ct:type_of% @List.map_nil:=@List.map_nil
theorem Cw:type_of% @List.drop_eq_nil_of_le:=@List.drop_eq_nil_of_le
theorem CG:type_of% @List.getElem?_cons_succ:=@List.getElem?_cons_succ
theorem CJ:type_of% @Bool.or_eq_true:=@Bool.or_eq_true
theorem D9:type_of% @Nat.lt_of_le_of_lt:=@Nat.lt_of_le_of_lt
theorem Dd:type_of% @Nat.not_lt_zero:=@Nat.not_lt_zero
theorem fG(hi:i<16):∃fd,ax[i]?=some fd/\fd.k=(i:Int):=by
 obtain rfl|rfl|rfl|rfl|rfl|rfl|rfl|rfl|rfl|rfl|rfl|rfl|rfl|rfl|rfl|rfl:i=0\/i=1\/i=2\/i=3\/i=4\/i=5\/i=6\/i=7\/i=8\/i=9\/i=10\/i=11\/i=12\/i=13\/i=14\/i=15:=by omega
 all_goals exact⟨_,rfl,rfl⟩
theorem Forms.at_{b:Nat}(h:Forms W B b ax)(hi:i<16):
 ∃fd g,ax[i]?=some fd/\fd.k=(i:Int)/\Parts W B g fd.pds/\W.cell? ⟨b,i*3,none⟩=some (.int .i64 i)/\W.cell? ⟨b,i*3+1,none⟩=some (.string fd.word)/\W.cell? ⟨b,i*3+2,none⟩=some (.slice (some ⟨g,0,none⟩) fd.pds.length fd.pds.length):=by
 obtain⟨fd,h1,h2⟩:=fG hi;obtain⟨g,h3,h4⟩:=h.2 i fd h1;refine⟨fd,g,h1,h2,h3,?_,h4 1 _ rfl,h4 2 _ rfl⟩;have:=h4 0 _ rfl;rw[h2]at this;exact this
theorem zm(k ka:Int)(wd:ByteArray)(A:Option Addr)(n c a:Nat)(w:World)(h:w.cell? ⟨a,0,none⟩=some (.int .i64 ka))(ha:a<w.heap.size):
 Calls Tryz.prog 80 #[.agg #[.int .i64 k,.string wd,.slice A n c],.pointer (some ⟨a,0,none⟩)] w λe w'=>e= .returned (.bool (k==ka))/\Below w.heap.size w w':=by
 have hbel:Below w.heap.size w (w.alloc (.cells #[.int .i64 k,.string wd,.slice A n c] 92)):=(AC _ _).alloc (AB _) _;have c0:=(a8 hbel ha 0).trans h;have HB:=H_ hbel;clear h hbel;go_enter Tryz.func80,Tryz.ntmps80;go_wp2_with fail;go_ret;exact⟨rfl,HB.out⟩
def nU(k:Int):Int:=if 0<=k/\k<=15 then k else-1
theorem Ae(b a:Nat)(ka:Int)(w:World)(h:Forms w w.heap.size b ax)(hc:w.cell? ⟨a,0,none⟩=some (.int .i64 ka))(ha:a<w.heap.size):
 Calls Tryz.prog 79 #[.slice (some ⟨b,0,none⟩) 16 16,.func (.func 80) #[] #[.pointer (some ⟨a,0,none⟩)]] w λe w'=>e= .returned (.int .i64 (nU ka))/\Below w.heap.size w w':=by
 have HF:=H_ h;have HC:=H_ hc;clear h hc;go_enter Tryz.func79,Tryz.ntmps79;go_wp2_with fail;go_loopw [8] (λi wr=>∃k:Nat,k<=16/\i= .int .i64 k/\Hid (Below w.heap.size w wr)/\Hid (∀j:Nat,j<k->(j:Int)≠ka)) (λi _=>16-(intOf i).toNat)
 case atStart=>exact⟨0,AM _,rfl,H_ (AC _ _),H_ λj hj=>absurd hj (Dd _)⟩
 case round=>
  obtain⟨k,hk,rfl,HB,HN⟩:=hrel;by_cases hlt:k<16
  ·obtain⟨fd,g,h1,h2,h3,c0,c1,c2⟩:=(HF.out.below HB.out).at_ hlt;have hk0:0<=(k:Int):=by omega
   have hk1:(k:Int)<16:=by omega
   have HK:=H_ (zm k ka fd.word (some ⟨g,0,none⟩) fd.pds.length fd.pds.length a wr ((a8 HB.out ha 0).trans HC.out) (by have:=HB.out.size;omega));clear h1 h2 h3;generalize fd.pds.length=n at*
   generalize fd.word=wd at*
   by_cases hka:(k:Int)=ka
   ·subst hka;have hidx:nU (k:Int)=k:=by unfold nU;rw[AP (by omega)]
    go_wp2_with fail;refine HK.out.mono ?_;rintro e w1 ⟨rfl,b1⟩;rw[Ch];have HB1:=htr HB b1;clear b1;go_wp2_with fail;go_ret;exact⟨rt hidx.symm,HB1.out⟩
   ·go_wp2_with fail;refine HK.out.mono ?_;rintro e w1 ⟨rfl,b1⟩;rw[AD.2 hka];have HB1:=htr HB b1;clear b1;have HKA:=H_ hka;clear hka;go_wp2_with fail;go_roundw
    case rel=>exact⟨k+1,by omega,by go_num,HB1,H_ λj hj=>by
     rcases BI j k with h|h
     ·exact HN.out j h
     ·obtain rfl:j=k:=by omega
      exact HKA.out⟩
    case measure=>simp[intOf];omega
  ·obtain rfl:k=16:=by omega
   have hidx:nU ka= -1:=by
    unfold nU;rw[AL];intro h;obtain⟨q,rfl⟩:=Bh h.1;exact HN.out q (by omega) rfl
   go_wp2_with fail;go_ret;exact⟨rt hidx.symm,HB.out⟩
def dE(d:Ad):PD->List ByteArray
 | .numA _ _=>[bM d.a]
 | .numB _ _=>[bM d.b]
 | .nam _=>[d.nm]
 | .met _=>[d.mt]
 | .surv=>d.surv.map bM
 | .rest _=>d.args.map bM
def dp(d:Ad)(f:FD):List ByteArray:=f.word::f.pds.flatMap (dE d)
def be(ws:List ByteArray):List (List UInt8):=ws.map (·.data.toList)
theorem eC(r:List (List UInt8)):Lib.joinTail [32] r=aq r:=by
 unfold Lib.joinTail aq;rw[List.flatMap_def];rfl
theorem dy(h:q<=15):cP (q:Int)=ax[q]?:=by
 obtain rfl|rfl|rfl|rfl|rfl|rfl|rfl|rfl|rfl|rfl|rfl|rfl|rfl|rfl|rfl|rfl:q=0\/q=1\/q=2\/q=3\/q=4\/q=5\/q=6\/q=7\/q=8\/q=9\/q=10\/q=11\/q=12\/q=13\/q=14\/q=15:=by omega
 all_goals rfl
theorem gI(h:cP d.k=some f):∃q:Nat,q<=15/\d.k=(q:Int):=by
 obtain⟨h0,h1⟩:=ev h;obtain⟨q,hq⟩:=Bh h0;exact⟨q,by omega,hq⟩
theorem qV(h:z.toList=[]):z.data.toList=[]:=by rw[<-Bf];exact h
theorem kU(d:Ad)(f:FD)(hf:cP d.k=some f)(h:iX d f=true):Lib.join (be (dp d f)) [32]=dc d:=by
 have hv:aR d=true:=by rw[<-dY];unfold okD;rw[hf];exact h
 obtain⟨q,hq,hk⟩:=gI hf;unfold dc;rw[AP hv,hk,BZ];unfold dp be;rw[BG,Lib.join_cons,eC]
 have he:f.word.data.toList=dT q/\be (f.pds.flatMap (dE d))=jW d:=by
  obtain⟨k,a,b,nm,mt,zs,ys⟩:=d;dsimp only at hk;subst hk;clear h;dsimp only at hf;rw[dy hq]at hf;obtain rfl|rfl|rfl|rfl|rfl|rfl|rfl|rfl|rfl|rfl|rfl|rfl|rfl|rfl|rfl|rfl:q=0\/q=1\/q=2\/q=3\/q=4\/q=5\/q=6\/q=7\/q=8\/q=9\/q=10\/q=11\/q=12\/q=13\/q=14\/q=15:=by omega
  all_goals
   simp only[ax,CG,Bt,Option.some.injEq]at hf;subst hf;refine⟨rfl,?_⟩;simp only[aR,bZ,cF,BZ,Ba,Bk,CJ,Bool.false_or,Bool.true_or,CR,CH]at hv;simp[jW,kv,dE,be,gO,bM,Function.comp_def,hv]
 rw[he.1];exact CU (dT q++aq ·) he.2
def bB(b:UInt8)(ws:List (List UInt8)):List UInt8:=ws.flatMap λx=>b::x
theorem jf(b:UInt8)(w r:List UInt8)(h:∀c∈w,c≠b):Lib.index (w++b::r) [b]=(w.length:Int):=by
 rw[Lib.index_one];induction w with
 |nil=>simp[Lib.indexByte]
 |cons c w ih=>
  have hc:=h c (by simp);have:=ih (λx hx=>h x (by simp[hx]));simp only[BN,Lib.indexByte];rw[this];simp[hc]
theorem gv(b:UInt8):∀(ws:List (List UInt8)) (w:List UInt8),(∀x∈w::ws,∀c∈x,c≠b)->Lib.splitK [b] 0 ws.length (w++bB b ws)=w::ws
 |[],w,h=>by simp[Lib.splitK,bB]
 |y::ys,w,h=>by
  have hi:=jf b w (y++bB b ys) (h w (by simp));have hs:bB b (y::ys)=b::(y++bB b ys):=by simp[bB]
  rw[hs,AZ,Lib.splitK,hi,AL (by simp),BZ];have ih:=gv b ys y (λx hx=>h x (by simp only[AV]at hx⊢;exact .inr hx));have hd:List.drop (w.length+1) w=[]:=Cw (by omega);rw[List.drop_append,List.take_append];simp[hd,ih]
theorem gL(b:UInt8):∀(ws:List (List UInt8)) (w:List UInt8),(∀x∈w::ws,∀c∈x,c≠b)->Lib.count (w++bB b ws) [b]=ws.length
 |[],w,h=>by
  rw[Lib.count_one];simp only[bB,List.flatMap_nil,Da,BS];exact List.count_eq_zero.2 λhm=>h w (by simp) b hm rfl
 |y::ys,w,h=>by
  have ih:=gL b ys y (λx hx=>h x (by simp only[AV]at hx⊢;exact .inr hx));rw[Lib.count_one]at ih⊢;have hs:bB b (y::ys)=b::(y++bB b ys):=by simp[bB]
  have hw:=List.count_eq_zero.2 λhm=>h w (by simp) b hm rfl;rw[hs,List.count_append,List.count_cons,ih,hw];simp
theorem pV(ws:List (List UInt8))(w:List UInt8)(h:∀x∈w::ws,∀c∈x,c≠32):Lib.splitK [32] 0 ws.length (w++aq ws)=w::ws:=gv 32 ws w h
theorem qY(ws:List (List UInt8))(w:List UInt8)(h:∀x∈w::ws,∀c∈x,c≠32):Lib.count (w++aq ws) [32]=ws.length:=gL 32 ws w h
theorem ly:∀(k:Nat) (s:List UInt8),∃x r,Lib.splitK [32] 0 k s=x::r/\x++aq r=s
 |0,s=>⟨s,[],rfl,by simp[aq]⟩
 |k+1,s=>by
  rw[Lib.splitK];by_cases hi:Lib.index s [32]= -1
  ·rw[AP (by simpa using hi)];exact⟨s,[],rfl,by simp[aq]⟩
  ·rw[AL (by simpa using hi)];obtain⟨x,r,h1,h2⟩:=ly k (s.drop ((Lib.index s [32]).toNat+[(32:UInt8)].length));refine⟨_,_,rfl,?_⟩;rw[h1];rw[Lib.index_one]at hi h2⊢;have hge:=Lib.indexByte_ge s 32;obtain⟨j,hj⟩:∃j:Nat,Lib.indexByte s 32=(j:Int):=⟨(Lib.indexByte s 32).toNat,by omega⟩;obtain⟨h3,_⟩:=Lib.indexByte_some hj;rw[hj]at h2⊢;simp only[BZ,AZ,BS,By,Nat.add_zero]at h2⊢;obtain⟨h4,h5⟩:=AH.1 h3
   have hs:aq (x::r)=32::s.drop (j+1):=by
    rw[<-h2];simp[aq]
   rw[hs,<-h5,<-Cj h4,Bu]
def cU(a:Ad)(ws:List ByteArray):PD->Option (Ad×List ByteArray)
 | .numA _ _=>match ws with|[]=>none|w::r=>if bG w=true then some ({a with a:=cC w},r)else none
 | .numB _ _=>match ws with|[]=>none|w::r=>if bG w=true then some ({a with b:=cC w},r)else none
 | .nam _=>match ws with|[]=>none|w::r=>some ({a with nm:=w},r)
 | .met _=>match ws with|[]=>none|w::r=>some ({a with mt:=w},r)
 | .surv=>if ws.all bG=true then some ({a with surv:=ws.map cC},[])else none
 | .rest _=>if ws.all bG=true then some ({a with args:=ws.map cC},[])else none
def dh(a:Ad)(ws:List ByteArray):List PD->Option (Ad×List ByteArray)
 |[]=>some (a,ws)
 |p::ps=>match cU a ws p with|none=>none|some (a',ws')=>dh a' ws' ps
def eS(w:ByteArray):Option FD:=ax.find? λf=>f.word.data.toList==w.data.toList
theorem eb(h:q<=15)(hf:ax[q]?=some f):eS f.word=some f:=by
 obtain rfl|rfl|rfl|rfl|rfl|rfl|rfl|rfl|rfl|rfl|rfl|rfl|rfl|rfl|rfl|rfl:q=0\/q=1\/q=2\/q=3\/q=4\/q=5\/q=6\/q=7\/q=8\/q=9\/q=10\/q=11\/q=12\/q=13\/q=14\/q=15:=by omega
 all_goals
  simp only[ax,CG,Bt,Option.some.injEq]at hf;subst hf;kernel_rfl
def bc(k:Int):Ad:=⟨k,0,0,⟨#[]⟩,⟨#[]⟩,[],[]⟩
def bE(ws:List ByteArray):Option Ad:=
 match ws with
 |[]=>none
 |w::r=>
  match eS w with
  |none=>none
  |some f=>match dh (bc f.k) r f.pds with
   |none=>none
   |some (a,rest)=>if okD a=true/\rest=[]then some a else none
theorem pK(h:∀z∈zs,I64 z):(zs.map bM).all bG=true:=by
 rw[Bb];intro x hx;obtain⟨z,hz,rfl⟩:=Cq.1 hx;exact iq (h z hz)
theorem oZ(h:∀z∈zs,I64 z):(zs.map bM).map cC=zs:=by
 rw[List.map_map]
 conv=>rhs;rw[<-List.map_id zs]
 exact List.map_congr_left λz hz=>jK (h z hz)
theorem vg(h:ss.all bG=true):(ss.map cC).map bM=ss:=by
 rw[List.map_map]
 conv=>rhs;rw[<-List.map_id ss]
 exact List.map_congr_left λs hs=>mT (Bb.1 h s hs)
theorem fH(h:z.toList=[]):z=⟨#[]⟩:=AN (qV h)
theorem vu{X:Ad}(h:X=d)(ho:okD d=true):(if okD X=true/\True then some X else none)=some d:=by
 subst h;rw[AP ⟨ho,trivial⟩]
theorem qx(d:Ad)(f:FD)(hw:WfA d)(hf:cP d.k=some f)(h:iX d f=true):bE (dp d f)=some d:=by
 have ho:okD d=true:=by unfold okD;rw[hf];exact h
 have hv:aR d=true:=by rw[<-dY];exact ho
 obtain⟨q,hq,hk⟩:=gI hf;obtain⟨k,a,b,nm,mt,zs,ys⟩:=d;obtain⟨w1,w2,w3,w4⟩:=hw;dsimp only at hk w1 w2 w3 w4;subst hk;clear h;dsimp only at hf;rw[dy hq]at hf;have n1:=iq w1;have n2:=iq w2;have n3:=jK w1;have n4:=jK w2;have n5:=pK w3;have n6:=pK w4;have n7:=oZ w3;have n8:=oZ w4;have hby:=eb hq hf;obtain rfl|rfl|rfl|rfl|rfl|rfl|rfl|rfl|rfl|rfl|rfl|rfl|rfl|rfl|rfl|rfl:q=0\/q=1\/q=2\/q=3\/q=4\/q=5\/q=6\/q=7\/q=8\/q=9\/q=10\/q=11\/q=12\/q=13\/q=14\/q=15:=by omega
 all_goals
  simp only[ax,CG,Bt,Option.some.injEq]at hf;subst hf;simp only[aR,bZ,cF,BZ,Ba,Bk,CJ,Bool.false_or,Bool.true_or,CR,CH]at hv;unfold dp bE;dsimp only at hby⊢;rw[hby];dsimp only;simp only[CI,List.flatMap_nil,dE,BN,CC,Da,dh,cU,n1,n2,n3,n4,n5,n6,n7,n8,if_true,bc];refine vu ?_ ho;have e1:nm.toList=[]->nm=⟨#[]⟩:=fH;have e2:mt.toList=[]->mt=⟨#[]⟩:=fH;rw[Ad.mk.injEq];clear ho hby n1 n2 n3 n4 n5 n6 n7 n8 w1 w2 w3 w4
  grind
theorem qj{ps:List PD}{x:Ad×List ByteArray}(h:dh a ws (p::ps)=some x):∃a' ws',cU a ws p=some (a',ws')/\dh a' ws' ps=some x:=by
 unfold dh at h;cases hp:cU a ws p with
 |none=>rw[hp]at h;cases h
 |some y=>
  obtain⟨a',ws'⟩:=y;rw[hp]at h;exact⟨a',ws',rfl,h⟩
theorem sM{b:Ad}(h:dh a ws []=some (b,rest)):b=a/\ws=rest:=by
 simp only[dh,Option.some.injEq,Prod.mk.injEq]at h;exact⟨h.1.symm,h.2⟩
theorem rz{b:Ad}(h:cU a ws (.numA lo hi)=some (b,rest)):∃w,ws=w::rest/\bG w=true/\b={a with a:=cC w}:=by
 unfold cU at h;cases ws with
 |nil=>cases h
 |cons w r=>
  dsimp only at h;split at h
  ·simp only[Option.some.injEq,Prod.mk.injEq]at h;exact⟨w,by rw[h.2],by assumption,h.1.symm⟩
  ·cases h
theorem ry{b:Ad}(h:cU a ws (.numB lo hi)=some (b,rest)):∃w,ws=w::rest/\bG w=true/\b={a with b:=cC w}:=by
 unfold cU at h;cases ws with
 |nil=>cases h
 |cons w r=>
  dsimp only at h;split at h
  ·simp only[Option.some.injEq,Prod.mk.injEq]at h;exact⟨w,by rw[h.2],by assumption,h.1.symm⟩
  ·cases h
theorem uu{b:Ad}{k:Int}(h:cU a ws (.nam k)=some (b,rest)):∃w,ws=w::rest/\b={a with nm:=w}:=by
 unfold cU at h;cases ws with
 |nil=>cases h
 |cons w r=>
  simp only[Option.some.injEq,Prod.mk.injEq]at h;exact⟨w,by rw[h.2],h.1.symm⟩
theorem uv{b:Ad}{k:Int}(h:cU a ws (.met k)=some (b,rest)):∃w,ws=w::rest/\b={a with mt:=w}:=by
 unfold cU at h;cases ws with
 |nil=>cases h
 |cons w r=>
  simp only[Option.some.injEq,Prod.mk.injEq]at h;exact⟨w,by rw[h.2],h.1.symm⟩
theorem ru{b:Ad}(h:cU a ws .surv=some (b,rest)):ws.all bG=true/\b={a with surv:=ws.map cC}/\rest=[]:=by
 unfold cU at h;dsimp only at h;split at h
 ·simp only[Option.some.injEq,Prod.mk.injEq]at h;exact⟨by assumption,h.1.symm,h.2.symm⟩
 ·cases h
theorem rx{b:Ad}{m:Int}(h:cU a ws (.rest m)=some (b,rest)):ws.all bG=true/\b={a with args:=ws.map cC}/\rest=[]:=by
 unfold cU at h;dsimp only at h;split at h
 ·simp only[Option.some.injEq,Prod.mk.injEq]at h;exact⟨by assumption,h.1.symm,h.2.symm⟩
 ·cases h
theorem ma(h:ss.all bG=true):ss.map (λs=>bM (cC s))=ss:=by
 have:=vg h;rwa[List.map_map]at this
theorem oN(w:ByteArray)(r:List ByteArray)(a:Ad)(h:bE (w::r)=some a):∃f,cP a.k=some f/\iX a f=true/\dp a f=w::r:=by
 unfold bE at h;dsimp only at h;cases hf:eS w with
 |none=>rw[hf]at h;cases h
 |some f=>
  rw[hf]at h;dsimp only at h;have h1:=List.mem_of_find?_eq_some hf;have h2:=List.find?_some hf;have h3:=AN (by simpa using h2);subst h3;clear hf h2;cases hr:dh (bc f.k) r f.pds with
  |none=>rw[hr]at h;cases h
  |some y=>
   obtain⟨a',rest⟩:=y;rw[hr]at h;dsimp only at h;split at h
   ·rename_i hok;obtain⟨ho,rfl⟩:=hok;simp only[Option.some.injEq]at h;subst h;unfold ax at h1;simp only[AV,AX,BU]at h1;rcases h1 with rfl|rfl|rfl|rfl|rfl|rfl|rfl|rfl|rfl|rfl|rfl|rfl|rfl|rfl|rfl|rfl
    all_goals
     dsimp only at hr
     repeat (
      obtain⟨_,_,h1,hr⟩:=qj hr
      first
       |obtain⟨_,rfl,hn,rfl⟩:=rz h1
       |obtain⟨_,rfl,hn,rfl⟩:=ry h1
       |obtain⟨_,rfl,rfl⟩:=uu h1
       |obtain⟨_,rfl,rfl⟩:=uv h1
       |obtain⟨hn,rfl,rfl⟩:=ru h1
       |obtain⟨hn,rfl,rfl⟩:=rx h1
      clear h1)
     obtain⟨rfl,hx⟩:=sM hr;try subst hx
     refine⟨_,rfl,ho,?_⟩;clear ho hr;simp_all [dp,dE,bc,mT,Function.comp_def,ma]
   ·cases h
def zN(n:Nat):Prop:=∀(ar:Array Value) (w:World),(callFunc n ar).run Tryz.prog w= .ok (.enter n ar) w
def RunsOn(fv:Value)(args:Array Value)(w:World)(Q:Ending->World->Prop):Prop:=∃n fvs,fv= .func (.func n) #[] fvs/\zN n/\Calls Tryz.prog n (args++fvs) w Q
def PD.good:PD->Prop
 | .nam k=>k=2\/k=3
 | .met k=>k=2\/k=3
 |_=>True
theorem s9(p:Int->Bool):(!(zs.any λz=> !p z))=zs.all p:=by
 rw[List.any_eq_not_all_not,Bool.not_not]
 congr 1
 funext z
 exact Bool.not_not _
theorem qt{a b d:Value}(h:PartV w B pd [a,b,c,d])(hp:pd.good)(v:Av)(dd:Ad)(hr:Reads w w.heap.size v dd)(hg:Gl w)(hn:v.n<=1000000)(hn2:v.n2<=1000000):
 RunsOn c #[.agg v.cells] w λe w'=>e= .returned (.bool (jJ dd pd))/\Below w.heap.size w w':=by
 cases pd with
 |numA lo hi=>
  obtain⟨b0,b1,b2,e,h0,h1,h2,k0,k1,k2⟩:=h;simp only[List.cons.injEq,Bn]at e;obtain⟨_,_,rfl,_⟩:=e;exact⟨178,_,rfl,λ_ _=>by kernel_rfl,(uJ v b0 b1 b2 lo hi w k0 k1 k2).mono λe w' q=>⟨by rw[q.1];exact ae (by unfold jJ;rw[hr.a]),q.2⟩⟩
 |numB lo hi=>
  obtain⟨b0,b1,b2,e,h0,h1,h2,k0,k1,k2⟩:=h;simp only[List.cons.injEq,Bn]at e;obtain⟨_,_,rfl,_⟩:=e;exact⟨178,_,rfl,λ_ _=>by kernel_rfl,(uI v b0 b1 b2 lo hi w k0 k1 k2).mono λe w' q=>⟨by rw[q.1];exact ae (by unfold jJ;rw[hr.b]),q.2⟩⟩
 |nam k=>
  obtain⟨b0,b1,e,h0,h1,k0,k1⟩:=h;simp only[List.cons.injEq,Bn]at e;obtain⟨_,_,rfl,_⟩:=e;exact⟨182,_,rfl,λ_ _=>by kernel_rfl,(uZ v b0 b1 k hp w hg k0 k1).mono λe w' q=>⟨by rw[q.1];exact ae (by unfold jJ;rw[hr.nm]),q.2⟩⟩
 |met k=>
  obtain⟨b0,b1,e,h0,h1,k0,k1⟩:=h;simp only[List.cons.injEq,Bn]at e;obtain⟨_,_,rfl,_⟩:=e;exact⟨182,_,rfl,λ_ _=>by kernel_rfl,(uY v b0 b1 k hp w hg k0 k1).mono λe w' q=>⟨by rw[q.1];exact ae (by unfold jJ;rw[hr.mt]),q.2⟩⟩
 |surv=>
  have e:[a,b,c,d]=[fnv 185,fnv 186,fnv 187,fnv 190]:=h;simp only[List.cons.injEq,Bn]at e;obtain⟨_,_,rfl,_⟩:=e;exact⟨187,_,rfl,λ_ _=>by kernel_rfl,(zd v dd.surv w hr.surv hn2).mono λe w' q=>⟨by rw[q.1];exact ae (by unfold jJ;rw[s9];congr 1;exact Cu.2 (by omega)),q.2⟩⟩
 |rest m=>
  obtain⟨b0,e,h0,k0⟩:=h;simp only[List.cons.injEq,Bn]at e;obtain⟨_,_,rfl,_⟩:=e;exact⟨194,_,rfl,λ_ _=>by kernel_rfl,(zc v dd.args w hr.args hn b0 m k0).mono λe w' q=>⟨by rw[q.1];exact ae (by unfold jJ;rw[s9];rfl),q.2⟩⟩
def PD.cell:PD->Nat
 | .numA _ _=>1
 | .numB _ _=>2
 | .nam _=>3
 | .met _=>4
 | .surv=>6
 | .rest _=>5
def PD.zero:PD->Value
 | .numA _ _=> .int .i64 0
 | .numB _ _=> .int .i64 0
 | .nam _=> .string ⟨#[]⟩
 | .met _=> .string ⟨#[]⟩
 | .surv=> .slice none 0 0
 | .rest _=> .slice none 0 0
theorem qu{a b d:Value}(h:PartV w B pd [a,b,c,d])(L:Nat)(cs:Array Value)(hL:Blk w L 48 cs)(hx:cs.size=7):
 RunsOn d #[.pointer (some ⟨L,0,none⟩)] w λe w'=>e= .returned (.tuple #[])/\w.setCell ⟨L,pd.cell,none⟩ pd.zero=w':=by
 cases pd with
 |numA lo hi=>
  obtain⟨b0,b1,b2,e,h0,h1,h2,k0,k1,k2⟩:=h;simp only[List.cons.injEq,Bn]at e;obtain⟨_,_,_,rfl⟩:=e;exact⟨179,_,rfl,λ_ _=>by kernel_rfl,uH L cs b0 w k0 hL (by omega)⟩
 |numB lo hi=>
  obtain⟨b0,b1,b2,e,h0,h1,h2,k0,k1,k2⟩:=h;simp only[List.cons.injEq,Bn]at e;obtain⟨_,_,_,rfl⟩:=e;exact⟨179,_,rfl,λ_ _=>by kernel_rfl,uG L cs b0 w k0 hL (by omega)⟩
 |nam k=>
  obtain⟨b0,b1,e,h0,h1,k0,k1⟩:=h;simp only[List.cons.injEq,Bn]at e;obtain⟨_,_,_,rfl⟩:=e;exact⟨184,_,rfl,λ_ _=>by kernel_rfl,uX L cs b0 w k0 hL (by omega)⟩
 |met k=>
  obtain⟨b0,b1,e,h0,h1,k0,k1⟩:=h;simp only[List.cons.injEq,Bn]at e;obtain⟨_,_,_,rfl⟩:=e;exact⟨184,_,rfl,λ_ _=>by kernel_rfl,uW L cs b0 w k0 hL (by omega)⟩
 |surv=>
  have e:[a,b,c,d]=[fnv 185,fnv 186,fnv 187,fnv 190]:=h;simp only[List.cons.injEq,Bn]at e;obtain⟨_,_,_,rfl⟩:=e;exact⟨190,_,rfl,λ_ _=>by kernel_rfl,xX L cs w hL (by omega)⟩
 |rest m=>
  obtain⟨b0,e,h0,k0⟩:=h;simp only[List.cons.injEq,Bn]at e;obtain⟨_,_,_,rfl⟩:=e;exact⟨197,_,rfl,λ_ _=>by kernel_rfl,xW L cs w hL (by omega)⟩
theorem iW(h:∃g,e= .returned (.slice (some ⟨g,0,none⟩) 1 1)/\Strs w' w'.heap.size (some ⟨g,0,none⟩) 1 [s]/\Below w.heap.size w w'):sc w [s] e w':=by
 obtain⟨g,h1,h2,h3⟩:=h;exact⟨_,1,h1,h2,h3⟩
theorem qp{a b d:Value}(h:PartV w B pd [a,b,c,d])(v:Av)(dd:Ad)(hr:Reads w w.heap.size v dd)(hw:WfA dd)(hg:Gl w)(hn:v.n<=1000000)(hn2:v.n2<=1000000):
 RunsOn b #[.agg v.cells] w (sc w (dE dd pd)):=by
 cases pd with
 |numA lo hi=>
  obtain⟨b0,b1,b2,e,h0,h1,h2,k0,k1,k2⟩:=h;simp only[List.cons.injEq,Bn]at e;obtain⟨_,rfl,_,_⟩:=e;exact⟨177,_,rfl,λ_ _=>by kernel_rfl,(uL v b0 w hg (by rw[hr.a];exact hw.a) k0).mono λe w' q=>by rw[hr.a]at q;exact iW q⟩
 |numB lo hi=>
  obtain⟨b0,b1,b2,e,h0,h1,h2,k0,k1,k2⟩:=h;simp only[List.cons.injEq,Bn]at e;obtain⟨_,rfl,_,_⟩:=e;exact⟨177,_,rfl,λ_ _=>by kernel_rfl,(uK v b0 w hg (by rw[hr.b];exact hw.b) k0).mono λe w' q=>by rw[hr.b]at q;exact iW q⟩
 |nam k=>
  obtain⟨b0,b1,e,h0,h1,k0,k1⟩:=h;simp only[List.cons.injEq,Bn]at e;obtain⟨_,rfl,_,_⟩:=e;exact⟨181,_,rfl,λ_ _=>by kernel_rfl,(vb v b0 w k0).mono λe w' q=>by rw[hr.nm]at q;exact iW q⟩
 |met k=>
  obtain⟨b0,b1,e,h0,h1,k0,k1⟩:=h;simp only[List.cons.injEq,Bn]at e;obtain⟨_,rfl,_,_⟩:=e;exact⟨181,_,rfl,λ_ _=>by kernel_rfl,(va v b0 w k0).mono λe w' q=>by rw[hr.mt]at q;exact iW q⟩
 |surv=>
  have e:[a,b,c,d]=[fnv 185,fnv 186,fnv 187,fnv 190]:=h;simp only[List.cons.injEq,Bn]at e;obtain⟨_,rfl,_,_⟩:=e;exact⟨186,_,rfl,λ_ _=>by kernel_rfl,wE v dd.surv w hg hr.surv hn2 hw.surv⟩
 |rest m=>
  obtain⟨b0,e,h0,k0⟩:=h;simp only[List.cons.injEq,Bn]at e;obtain⟨_,rfl,_,_⟩:=e;exact⟨192,_,rfl,λ_ _=>by kernel_rfl,wD v dd.args w hg hr.args hn hw.args⟩
def tB(v:Av):PD->Av
 | .numA _ _=>{v with a:=0}
 | .numB _ _=>{v with b:=0}
 | .nam _=>{v with nm:=⟨#[]⟩}
 | .met _=>{v with mt:=⟨#[]⟩}
 | .surv=>{v with A2:=none,n2:=0,c2:=0}
 | .rest _=>{v with A:=none,n:=0,c:=0}
theorem rb(v:Av)(p:PD):v.cells.setIfInBounds p.cell p.zero=(tB v p).cells:=by
 cases p<;>rfl
theorem Ints.none(w:World)(B:Nat):Ints w B none 0 []:=⟨rfl,λh=>absurd h (Ci 0)⟩
theorem r9(h:Reads w B v d)(p:PD):Reads w B (tB v p) (clr d p):=by
 cases p
 ·exact⟨h.k,rfl,h.b,h.nm,h.mt,h.args,h.surv⟩
 ·exact⟨h.k,h.a,rfl,h.nm,h.mt,h.args,h.surv⟩
 ·exact⟨h.k,h.a,h.b,rfl,h.mt,h.args,h.surv⟩
 ·exact⟨h.k,h.a,h.b,h.nm,rfl,h.args,h.surv⟩
 ·exact⟨h.k,h.a,h.b,h.nm,h.mt,h.args,Ints.none w B⟩
 ·exact⟨h.k,h.a,h.b,h.nm,h.mt,Ints.none w B,h.surv⟩
theorem lE{w:World}{B:Nat}:∀(ps:List PD) {v:Av} {d:Ad},Reads w B v d->Reads w B (ps.foldl tB v) (ps.foldl clr d)
 |[],_,_,h=>h
 |p::ps,_,_,h=>lE ps (r9 h p)
theorem tq(f:β->α->β){l:List α}{x:α}(b:β)(h:l[k]?=some x):(l.take (k+1)).foldl f b=f ((l.take k).foldl f b) x:=by
 rw[BT,h,List.foldl_append];rfl
theorem qU(h:ax[i]?=some fd)(hp:p∈fd.pds):p.good:=by
 have hm:=AJ h;unfold ax at hm;simp only[AV,AX,BU]at hm;rcases hm with rfl|rfl|rfl|rfl|rfl|rfl|rfl|rfl|rfl|rfl|rfl|rfl|rfl|rfl|rfl|rfl<;>(simp only[AV,AX,BU]at hp;rcases hp with rfl|rfl|rfl|rfl)<;>simp[PD.good]
theorem gT(h:ax[i]?=some fd):fd.pds.length<=4:=by
 have hm:=AJ h;unfold ax at hm;simp only[AV,AX,BU]at hm;rcases hm with rfl|rfl|rfl|rfl|rfl|rfl|rfl|rfl|rfl|rfl|rfl|rfl|rfl|rfl|rfl|rfl<;>decide
theorem Parts.at_(h:Parts W B g pds)(hk:k<pds.length):
 ∃pd a b c d,pds[k]?=some pd/\PartV W B pd [a,b,c,d]/\W.cell? ⟨g,k*4,none⟩=some a/\W.cell? ⟨g,k*4+1,none⟩=some b/\W.cell? ⟨g,k*4+2,none⟩=some c/\W.cell? ⟨g,k*4+3,none⟩=some d:=by
 obtain⟨vs,h1,h2⟩:=h.2 k _ (AI hk);obtain⟨a,b,c,d,rfl⟩:=h1.four;exact⟨_,a,b,c,d,AI hk,h1,h2 0 a rfl,h2 1 b rfl,h2 2 c rfl,h2 3 d rfl⟩
theorem PartV.funcs{a b d:Value}(h:PartV W B pd [a,b,c,d]):
 ∃n1 x1 n2 x2 n3 x3 n4 x4,a= .func (.func n1) #[] x1/\b= .func (.func n2) #[] x2/\c= .func (.func n3) #[] x3/\d= .func (.func n4) #[] x4:=by
 cases pd with
 |numA lo hi=>obtain⟨b0,b1,b2,e,_⟩:=h;simp only[List.cons.injEq,Bn]at e;exact⟨_,_,_,_,_,_,_,_,e.1,e.2.1,e.2.2.1,e.2.2.2⟩
 |numB lo hi=>obtain⟨b0,b1,b2,e,_⟩:=h;simp only[List.cons.injEq,Bn]at e;exact⟨_,_,_,_,_,_,_,_,e.1,e.2.1,e.2.2.1,e.2.2.2⟩
 |nam k=>obtain⟨b0,b1,e,_⟩:=h;simp only[List.cons.injEq,Bn]at e;exact⟨_,_,_,_,_,_,_,_,e.1,e.2.1,e.2.2.1,e.2.2.2⟩
 |met k=>obtain⟨b0,b1,e,_⟩:=h;simp only[List.cons.injEq,Bn]at e;exact⟨_,_,_,_,_,_,_,_,e.1,e.2.1,e.2.2.1,e.2.2.2⟩
 |surv=>
  have e:[a,b,c,d]=[fnv 185,fnv 186,fnv 187,fnv 190]:=h;simp only[List.cons.injEq,Bn]at e;exact⟨_,_,_,_,_,_,_,_,e.1,e.2.1,e.2.2.1,e.2.2.2⟩
 |rest m=>obtain⟨b0,e,_⟩:=h;simp only[List.cons.injEq,Bn]at e;exact⟨_,_,_,_,_,_,_,_,e.1,e.2.1,e.2.2.1,e.2.2.2⟩
theorem RunsOn.calls(h:RunsOn (.func (.func n) #[] x) args w Q):Calls Tryz.prog n (args++x) w Q:=by
 obtain⟨m,y,e,_,h⟩:=h;simp only[Value.func.injEq,Fn.func.injEq]at e;obtain⟨rfl,_,rfl⟩:=e;exact h
theorem RunsOn.enters(h:RunsOn (.func (.func n) #[] x) args w Q):∀(ar:Array Value) (w:World),(callFunc n ar).run Tryz.prog w= .ok (.enter n ar) w:=by
 obtain⟨m,y,e,h,_⟩:=h;simp only[Value.func.injEq,Fn.func.injEq]at e;obtain⟨rfl,_,rfl⟩:=e;exact h
theorem PartV.aA{W':World}{vs:List Value}(hk:∀b t cs,t≠92->Blk W b t cs->Blk W' b t cs)(h:PartV W B pd vs):PartV W' B pd vs:=by
 cases pd with
 |numA lo hi=>obtain⟨b0,b1,b2,e,h0,h1,h2,k0,k1,k2⟩:=h;exact⟨b0,b1,b2,e,h0,h1,h2,hk _ _ _ (by decide) k0,hk _ _ _ (by decide) k1,hk _ _ _ (by decide) k2⟩
 |numB lo hi=>obtain⟨b0,b1,b2,e,h0,h1,h2,k0,k1,k2⟩:=h;exact⟨b0,b1,b2,e,h0,h1,h2,hk _ _ _ (by decide) k0,hk _ _ _ (by decide) k1,hk _ _ _ (by decide) k2⟩
 |nam k=>obtain⟨b0,b1,e,h0,h1,k0,k1⟩:=h;exact⟨b0,b1,e,h0,h1,hk _ _ _ (by decide) k0,hk _ _ _ (by decide) k1⟩
 |met k=>obtain⟨b0,b1,e,h0,h1,k0,k1⟩:=h;exact⟨b0,b1,e,h0,h1,hk _ _ _ (by decide) k0,hk _ _ _ (by decide) k1⟩
 |surv=>exact h
 |rest m=>obtain⟨b0,e,h0,k0⟩:=h;exact⟨b0,e,h0,hk _ _ _ (by decide) k0⟩
theorem Parts.other{R:Nat}{z:Int}{c:Nat}(h:Parts W B g pds)(hR:Blk W R 92 #[.int .i64 z,.string s,.slice A n c])(x0 x1 x2:Value):
 Parts (((W.setCell ⟨R,0,none⟩ x0).setCell ⟨R,1,none⟩ x1).setCell ⟨R,2,none⟩ x2) B g pds:=by
 have aA:∀b t cs,b≠R->Blk W b t cs->Blk (((W.setCell ⟨R,0,none⟩ x0).setCell ⟨R,1,none⟩ x1).setCell ⟨R,2,none⟩ x2) b t cs:=λb t cs hne hb=>
  ((hb.other ⟨R,0,none⟩ x0 hne).other ⟨R,1,none⟩ x1 hne).other ⟨R,2,none⟩ x2 hne
 refine⟨h.1,λi pd hp=>?_⟩;obtain⟨vs,h1,h2⟩:=h.2 i pd hp;refine⟨vs,h1.aA λb t cs ht hb=>aA b t cs (λe=>?_) hb,λj v hv=>?_⟩
 ·subst e;unfold Blk at hR hb;rw[hR]at hb;simp only[Option.some.injEq,Obj.cells.injEq]at hb;exact ht hb.2.1.symm
 ·have hne:g≠R:=λe=>by
   subst e;obtain⟨a,b,c',d,rfl⟩:=h1.four;obtain⟨n1,x1,_,_,_,_,_,_,rfl,_⟩:=h1.funcs;have h3:=h2 0 _ rfl;rw[hR.cell]at h3
   match i with
   |0=>simp at h3
   |i+1=>
    rw[Array.getElem?_eq_none (by show 3<=_;omega)]at h3;cases h3
  have:(((W.setCell ⟨R,0,none⟩ x0).setCell ⟨R,1,none⟩ x1).setCell ⟨R,2,none⟩ x2).heap[g]?=W.heap[g]?:=
   ((AG _ _ _ g hne).trans (AG _ _ _ g hne)).trans (AG _ _ _ g hne)
  rw[<-h2 j v hv];exact C8 this
def lD(d:Ad)(w:World)(e:Ending)(w':World):Prop:=
 ∃k wd A n c,e= .returned (.tuple #[.agg #[.int .i64 k,.string wd,.slice A n c],.bool (okD d)])/\Below w.heap.size w w'/\
  (okD d=true->∃f g,cP d.k=some f/\k=f.k/\wd=f.word/\A=some ⟨g,0,none⟩/\n=f.pds.length/\c=f.pds.length/\Parts w' w'.heap.size g f.pds)
theorem Blk.aO{t:TypeId}{a b a' b' c':Value}(h:Blk w g t #[a,b,c]):
 Blk (((w.setCell ⟨g,0,none⟩ a').setCell ⟨g,1,none⟩ b').setCell ⟨g,2,none⟩ c') g t #[a',b',c']:=
 ((h.set 0 a').set 1 b').set 2 c'
theorem fX{a:World}(h:Below B a w)(hg:B<=g)(a' b' c':Value):
 Below B a (((w.setCell ⟨g,0,none⟩ a').setCell ⟨g,1,none⟩ b').setCell ⟨g,2,none⟩ c'):=
 ((h.setCell (p:=⟨g,0,none⟩) hg a').setCell (p:=⟨g,1,none⟩) hg b').setCell (p:=⟨g,2,none⟩) hg c'
theorem px(v:Av)(d:Ad)(w:World)(h:Reads w w.heap.size v d)(hg:Gl w)(hn:v.n<=1000000)(hn2:v.n2<=1000000):Calls Tryz.prog 43 #[.agg v.cells] w (lD d w):=by
 have hq0:=Blk.new w 48 v.cells;have hb0:Below w.heap.size w (w.alloc (.cells v.cells 48)):=(AC _ _).alloc (AB _) _;have hq1:=hq0.alloc (.cells #[.int .i64 0,.string ⟨#[]⟩,.slice none 0 0] 92);have hr1:=Blk.new (w.alloc (.cells v.cells 48)) 92 #[.int .i64 0,.string ⟨#[]⟩,.slice none 0 0];have hb1:=hb0.alloc hb0.size (.cells #[.int .i64 0,.string ⟨#[]⟩,.slice none 0 0] 92);rw[AR]at hr1;unfold Av.cells at*
 have HR:=H_ h;have HG:=H_ hg;clear h hg hq0 hb0;go_enter Tryz.func43,Tryz.ntmps43;go_upto_region 1 with fail;generalize(w.alloc (.cells #[.int .i64 v.k,.int .i64 v.a,.int .i64 v.b,.string v.nm,.string v.mt,.slice v.A v.n v.c,.slice v.A2 v.n2 v.c2] 48)).alloc (.cells #[.int .i64 0,.string ⟨#[]⟩,.slice none 0 0] 92)=W0 at hq1 hr1 hb1⊢;obtain⟨L,hL⟩:=nm_ (w.heap.size);obtain⟨R,hR⟩:=nm_ (w.heap.size+1);rw[hL]at hq1;rw[hR]at hr1⊢;rw[hL];have HL:=H_ (And.intro hL hR);have hLR:L≠R:=by omega
 have hLR2:L<=R:=by omega
 have hRw:=hr1.lt;have QL:=H_ hq1;have QR:=H_ hr1;have B1:=H_ hb1;clear hL hR hq1 hr1 hb1;go_wp2_with fail;refine(rR _).mono ?_;rintro e w1 ⟨g,rfl,hf1,b1⟩;have QL1:=hbl QL b1;have QR1:=hbl QR b1;have B2:=htr B1 b1;have HF1:=H_ hf1;have z1:=b1.size;clear QL QR B1 b1 hf1;go_wp2_with fail;refine(Ae g L d.k w1 HF1.out (by rw[<-HR.out.k];exact QL1.out.cell 0) QL1.out.lt).mono ?_;rintro e w2 ⟨rfl,b2⟩;have QL2:=hbl QL1 b2;have QR2:=hbl QR1 b2;have B3:=htr B2 b2;have HF2:=H_ ((HF1.out.below b2).more b2.size);have z2:=b2.size;have z3:=HF1.out.1;clear QL1 QR1 B2 HF1 b2;obtain⟨c0,c1,c2,c3,c4,c5,c6⟩:=QL2.out.c7;obtain⟨r0,r1,r2⟩:=QR2.out.c3;obtain⟨f0,f1,f2⟩:=QR2.out.f3;by_cases hk:0<=d.k/\d.k<=15
 ·obtain⟨q,hq⟩:=Bh hk.1;have hidx:nU d.k=(q:Int):=by unfold nU;rw[AP hk,hq]
  have hq16:q<16:=by omega
  obtain⟨fd,g2,h1,h2,h3,a0,a1,a2⟩:=HF2.out.at_ hq16;have HFD:=H_ (And.intro h1 (And.intro h2 hq));rw[hidx];have hqz:((q:Int)<0)=False:=by simp
  have hqd:decide ((q:Int)<0)=false:=by simp
  have hq0:0<=(q:Int):=by omega
  have hqi:(q:Int)<16:=by omega
  have HP:=H_ h3;clear hk hidx h1 h2 h3 hq;go_upto_region 6 with fail;obtain⟨w3,hw3⟩:=nm_ (w2.alloc (.cells #[.int .i64 (q:Int),.string fd.word,.slice (some ⟨g2,0,none⟩) fd.pds.length fd.pds.length] 92));have b3:=bal hw3;have hs3:w3.heap.size=w2.heap.size+1:=by rw[<-hw3];simp
  have hqf:=hw3▸Blk.new w2 92 #[.int .i64 (q:Int),.string fd.word,.slice (some ⟨g2,0,none⟩) fd.pds.length fd.pds.length];rw[hw3];have QL3:=hbl QL2 b3;have QR3:=hbl QR2 b3;have HP3:=H_ ((HP.out.below b3).more b3.size);have B4:=htr B3 b3;have QF3:=H_ hqf;have l2:=QL2.out.lt;have r2':=QR2.out.lt;obtain⟨F,hF⟩:=nm_ (w2.heap.size);rw[hF]at hs3 QF3 l2 r2'⊢;clear a0 a1 a2 c0 c1 c2 c3 c4 c5 c6 r0 r1 r2 f0 f1 f2 hw3 hqf b3 QL2 QR2 HP B3 HF2 hF;obtain⟨c0,c1,c2,c3,c4,c5,c6⟩:=QL3.out.c7;go_upto_region 7 with fail;have hm:=Blk.new w3 48 v.cells;have b4:Below w3.heap.size w3 (w3.alloc (.cells v.cells 48)):=(AC _ _).alloc (AB _) _;rw[hs3]at hm;have QM:=H_ hm;unfold Av.cells at b4;have QF4:=hbl QF3 b4;have B5:=H_ b4;have e2:=QF4.out.k2;unfold Av.cells at QM;generalize w3.alloc (.cells #[.int .i64 v.k,.int .i64 v.a,.int .i64 v.b,.string v.nm,.string v.mt,.slice v.A v.n v.c,.slice v.A2 v.n2 v.c2] 48)=w4 at QM QF4 B5 e2⊢;obtain⟨M,hM⟩:=nm_ (F+1);rw[hM]at hs3 QM⊢;clear c0 c1 c2 c3 c4 c5 c6 hm b4;have hLm:L<M:=by omega
  have hRm:R<M:=by omega
  have hFm:F<M:=by omega
  have hlen:=gT HFD.out.1;go_wp2_with fail;go_loopw [26] (λi wr=>∃k:Nat,k<=fd.pds.length/\i= .int .i64 k/\Hid (Blk wr M 48 ((fd.pds.take k).foldl tB v).cells)/\Hid (Below w3.heap.size w3 wr)/\Hid ((fd.pds.take k).all (jJ d)=true)) (λi _=>fd.pds.length-(intOf i).toNat)
  case atStart=>exact⟨0,AM _,rfl,QM,B5,H_ rfl⟩
  case round=>
   clear e2 QM QF4 B5;obtain⟨k,hk,rfl,HM,HB,HA⟩:=hrel;by_cases hlt:k<fd.pds.length
   ·obtain⟨pd,a,b,c,dd,hpd,hpv,a0,a1,a2,a3⟩:=(HP3.out.below HB.out).at_ hlt;have hk0:0<=(k:Int):=by omega
    have hk1:(k:Int)<(fd.pds.length:Int):=by omega
    obtain⟨n1,x1,n2,x2,n3,x3,n4,x4,rfl,rfl,rfl,rfl⟩:=hpv.funcs;have HPD:=H_ hpd;have HPV:=H_ hpv;clear hpd hpv;go_upto_region 10 with fail;have b5:Below wr.heap.size wr (wr.alloc (.cells #[.func (.func n1) #[] x1,.func (.func n2) #[] x2,.func (.func n3) #[] x3,.func (.func n4) #[] x4] 99)):=(AC _ _).alloc (AB _) _;have hn5:=Blk.new wr 99 #[.func (.func n1) #[] x1,.func (.func n2) #[] x2,.func (.func n3) #[] x3,.func (.func n4) #[] x4];generalize wr.alloc (.cells #[.func (.func n1) #[] x1,.func (.func n2) #[] x2,.func (.func n3) #[] x3,.func (.func n4) #[] x4] 99)=w5 at b5 hn5⊢;have HB5:=htr HB b5;have HM5:=hbl HM b5;have HPV5:=H_ (HPV.out.below (b5.mono HB.out.size));have HN5:=H_ hn5;have hN5:=hn5.lt;have hMN:M≠wr.heap.size:=by have:=HM.out.lt;omega
    have zr:=HB.out.size;generalize wr.heap.size=N at hn5 hN5 hMN HN5 zr⊢;have QL5:=H_ (QL3.out.below HB5.out QL3.out.lt);have B45:=H_ (B4.out.trans (HB5.out.mono B4.out.size));clear a0 a1 a2 a3 b5 HM HB;obtain⟨c0,c1,c2,c3,c4,c5,c6⟩:=QL5.out.c7;have a2:=hn5.k2;clear hn5;have hrun:=qt HPV5.out (qU HFD.out.1 (AJ HPD.out)) v d ((HR.out.below B45.out).more B45.out.size) (HG.out.below B45.out) hn hn2;have hent:=hrun.enters;have HC:=H_ hrun.calls;clear hrun;go_wp2_with fail;refine HC.out.mono ?_;rintro e w6 ⟨rfl,b6⟩;have HM6:=hbl HM5 b6;have HN6:=hbl HN5 b6;have QR6:=H_ ((QR3.out.below HB5.out QR3.out.lt).below b6 (by have:=HB5.out.size;omega));have HB6:=htr HB5 b6;have zz:=b6.size;have HPV6:=H_ (HPV5.out.below (b6.mono HB5.out.size));clear HM5 HN5 HB5 b6 c0 c1 c2 c3 c4 c5 c6 a2 QL5 B45 HC hent;by_cases hok:jJ d pd=true
    ·rw[hok];have HOK:=H_ hok;have a3:=HN6.out.k3;have hrun:=qu HPV6.out M _ HM6.out rfl;have hent:=hrun.enters;have HC:=H_ hrun.calls;clear hrun hok;go_wp2_with fail;refine HC.out.mono ?_;rintro e w7 ⟨rfl,rfl⟩;go_wp2_with fail;go_roundw
     case rel=>
      refine⟨k+1,by omega,by go_num,?_,?_,?_⟩
      ·rw[tq tB v HPD.out,<-rb];exact H_ (HM6.out.set _ _)
      ·exact H_ (HB6.out.setCell (p:=⟨M,_,none⟩) (show w3.heap.size<=M by omega) _)
      ·exact H_ (by rw[fK HPD.out,HA.out,HOK.out];rfl)
     case measure=>simp[intOf];omega
    ·have hok':jJ d pd=false:=by simpa using hok
     have hokd:okD d=false:=by
      unfold okD;rw[HFD.out.2.2,dy (by omega),HFD.out.1];show iX d fd=false;unfold iX;rw[fL HPD.out hok'];rfl
     rw[hok'];have HOK:=H_ hokd;obtain⟨r0,r1,r2⟩:=QR6.out.c3;obtain⟨f0,f1,f2⟩:=QR6.out.f3;clear hok hok' hokd;go_wp2_with fail
     (try simp only[Exit.inBlock,Exit.then])
     refine AO (ab rfl _ _ R 92 _ _ rfl QR6.out.aO Tryz.underlying92 rfl (by kernel_rfl)) rfl ?_;exact⟨0,⟨#[]⟩,none,0,0,by rw[HOK.out];rfl,fX (B4.out.trans (HB6.out.mono B4.out.size)) (by have:=HL.out.1;omega) _ _ _,λe=>by rw[HOK.out]at e;cases e⟩
   ·obtain rfl:k=fd.pds.length:=by omega
    rw[AK (AB _)]at HM HA;obtain⟨vl,hvl⟩:=nm_ (fd.pds.foldl tB v);obtain⟨dl,hdl⟩:=nm_ (fd.pds.foldl clr d);have hrl:Reads w w.heap.size vl dl:=hvl▸hdl▸lE fd.pds HR.out
    have hokd:okD d=jF dl:=by
     unfold okD;rw[HFD.out.2.2,dy (by omega),HFD.out.1];show iX d fd=_;unfold iX;rw[HA.out,hdl];rfl
    rw[hvl]at HM;have QF5:=H_ (QF3.out.below HB.out (by omega));have QR5:=H_ (QR3.out.below HB.out QR3.out.lt);have HRL:=H_ hrl;have HOK:=H_ hokd;clear hvl hdl hrl hokd HA;have c1:=HM.out.k1;have c2:=HM.out.k2;have c3:=HM.out.k3;have c4:=HM.out.k4;have c5:=HM.out.k5;have c6:=HM.out.k6;obtain⟨e0,e1,e2⟩:=QF5.out.c3;obtain⟨r0,r1,r2⟩:=QR5.out.c3;obtain⟨f0,f1,f2⟩:=QR5.out.f3
    have HE:=H_ (show∀x:Bool,jF dl=x->lD d w (.returned (.tuple #[.agg #[.int .i64 (q:Int),.string fd.word,.slice (some ⟨g2,0,none⟩) fd.pds.length fd.pds.length],.bool x]))
     (((wr.setCell ⟨R,0,none⟩ (.int .i64 (q:Int))).setCell ⟨R,1,none⟩ (.string fd.word)).setCell ⟨R,2,none⟩ (.slice (some ⟨g2,0,none⟩) fd.pds.length fd.pds.length))from λx hx=>by
     refine⟨_,_,_,_,_,by rw[HOK.out,hx],fX (B4.out.trans (HB.out.mono B4.out.size)) (by have:=HL.out.1;omega) _ _ _,λ_=>⟨fd,g2,by rw[HFD.out.2.2,dy (by omega),HFD.out.1],HFD.out.2.1.symm,rfl,rfl,rfl,rfl,?_⟩⟩;have hp:=((HP3.out.below HB.out).more HB.out.size).other QR5.out (.int .i64 (q:Int)) (.string fd.word) (.slice (some ⟨g2,0,none⟩) fd.pds.length fd.pds.length);simpa using hp)
    have HV:=H_ (show jF dl=((vl.a==0)&&(vl.b==0)&&vl.nm.toList.isEmpty&&vl.mt.toList.isEmpty&&((vl.n:Int)==0)&&((vl.n2:Int)==0))from by
     unfold jF cF;rw[<-HRL.out.a,<-HRL.out.b,<-HRL.out.nm,<-HRL.out.mt,HRL.out.args.len,HRL.out.surv.len];simp only[Bool.false_or]
     grind)
    clear hq0;by_cases g1:vl.a=0
    ·have g1':=CE.2 g1;by_cases g2:vl.b=0
     ·have g2':=CE.2 g2;cases g3:vl.nm.toList.isEmpty with
      |true=>
       cases g4:vl.mt.toList.isEmpty with
       |true=>
        by_cases g5:(vl.n:Int)=0
        ·have g5':=CE.2 g5;cases g6:((vl.n2:Int)==0)with
         |true=>
          have HT:=H_ (HE.out true (by rw[HV.out,g1',g2',g3,g4,g5',g6];rfl));clear HE HV;go_wp2_with fail
          (try simp only[Exit.inBlock,Exit.then])
          refine AO (ab rfl _ _ R 92 _ _ rfl QR5.out.aO Tryz.underlying92 rfl (by kernel_rfl)) rfl ?_;exact HT.out
         |false=>
          have HT:=H_ (HE.out false (by rw[HV.out,g1',g2',g3,g4,g5',g6];rfl));clear HE HV;go_wp2_with fail
          (try simp only[Exit.inBlock,Exit.then])
          refine AO (ab rfl _ _ R 92 _ _ rfl QR5.out.aO Tryz.underlying92 rfl (by kernel_rfl)) rfl ?_;exact HT.out
        ·have g5':=AD.2 g5;have HT:=H_ (HE.out false (by rw[HV.out,g1',g2',g3,g4,g5'];rfl));clear HE HV;go_wp2_with fail
         (try simp only[Exit.inBlock,Exit.then])
         refine AO (ab rfl _ _ R 92 _ _ rfl QR5.out.aO Tryz.underlying92 rfl (by kernel_rfl)) rfl ?_;exact HT.out
       |false=>
        have HT:=H_ (HE.out false (by rw[HV.out,g1',g2',g3,g4];rfl));clear HE HV;go_wp2_with fail
        (try simp only[Exit.inBlock,Exit.then])
        refine AO (ab rfl _ _ R 92 _ _ rfl QR5.out.aO Tryz.underlying92 rfl (by kernel_rfl)) rfl ?_;exact HT.out
      |false=>
       have HT:=H_ (HE.out false (by rw[HV.out,g1',g2',g3];rfl));clear HE HV;go_wp2_with fail
       (try simp only[Exit.inBlock,Exit.then])
       refine AO (ab rfl _ _ R 92 _ _ rfl QR5.out.aO Tryz.underlying92 rfl (by kernel_rfl)) rfl ?_;exact HT.out
     ·have g2':=AD.2 g2;have HT:=H_ (HE.out false (by rw[HV.out,g1',g2'];rfl));clear HE HV;go_wp2_with fail
      (try simp only[Exit.inBlock,Exit.then])
      refine AO (ab rfl _ _ R 92 _ _ rfl QR5.out.aO Tryz.underlying92 rfl (by kernel_rfl)) rfl ?_;exact HT.out
    ·have g1':=AD.2 g1;have HT:=H_ (HE.out false (by rw[HV.out,g1'];rfl));clear HE HV;go_wp2_with fail
     (try simp only[Exit.inBlock,Exit.then])
     refine AO (ab rfl _ _ R 92 _ _ rfl QR5.out.aO Tryz.underlying92 rfl (by kernel_rfl)) rfl ?_;exact HT.out
 ·have hidx:nU d.k= -1:=by unfold nU;rw[AL hk]
  have hok:okD d=false:=by
   unfold okD;cases hf:cP d.k with
   |none=>rfl
   |some f=>exact absurd (ev hf) hk
  have HOK:=H_ hok;rw[hidx];clear hk hidx hok;go_wp2_with fail
  (try simp only[Exit.inBlock,Exit.then])
  refine AO (ab rfl _ _ R 92 _ _ rfl QR2.out.aO Tryz.underlying92 rfl (by kernel_rfl)) rfl ?_;exact⟨0,⟨#[]⟩,none,0,0,by rw[HOK.out];rfl,fX B3.out (by have:=HL.out.1;omega) _ _ _,λe=>by rw[HOK.out]at e;cases e⟩
theorem ku(w:World)(ty:TypeId)(B:Nat)(v:Value)(n:Nat)(xs:List Value)(hown:w.ownsRow B 9 1 v n xs)(A:Option Addr)(m c B2:Nat)(ss:List ByteArray)(hsl:Strs w B2 A m ss)(hn:n<=1000000)(hm:m<=1000000)(hB:B<=w.heap.size):
 ∃v' w',(Builtin.append_ #[67,67] ty #[v,.slice A m c]).run Tryz.prog w= .ok v' w'/\w'.ownsRow B 9 1 v' (n+m) (xs++ss.map Value.string)/\w.grownBy w' v.ownBlock:=by
 obtain⟨i0,hi,hz0,hz1,hz2⟩:=CZ pm;have hlen:=hsl.len;cases A with
 |none=>
  obtain rfl:m=0:=by
   rcases Nat.eq_zero_or_pos m with h|h
   ·exact h
   ·obtain⟨_,_,h1,_⟩:=hsl.2 h;cases h1
  obtain rfl:ss=[]:=Bc hlen;refine⟨v,w,?_,by simpa using hown,World.grownBy.refl w _⟩;rcases hown.2 with⟨rfl,rfl⟩|⟨g,cap,cur,rfl,_,_,hnc,_⟩
  ·simp[Builtin.append_,run_underlying Tryz.underlying67,sizeOf,typeInfo,hi,Builtin.lenOf,Builtin.firstCells]
  ·simp[Builtin.append_,run_underlying Tryz.underlying67,sizeOf,typeInfo,hi,Builtin.lenOf,Builtin.firstCells,hnc,storeCells]
 |some ad=>
  have hnews:∀j u,(ss.map Value.string)[j]?=some u->w.cell? (ad.add j)=some u:=by
   intro j u hu;have hj:=(AH.1 hu).1;rw[Cf,hlen]at hj;obtain⟨b,off,h1,_,h3⟩:=hsl.2 (by omega);simp only[Option.some.injEq]at h1;subst h1;rw[bY];exact h3 j u hu
  obtain⟨v',w',h1,h2,h3,_,h5⟩:=run_append_own_at (P:=Tryz.prog) w B 67 ty 9 i0 _ 1 16 Tryz.underlying67 hi hz0 hz1 hz2 rfl (by decide) v n xs hown ad m c (ss.map Value.string) (by rw[Cf,hlen];omega) hnews
   (by intro u hu;obtain⟨x,_,rfl⟩:=Cq.1 hu;rfl) (by unfold maxLen;omega) (by omega) hB
  exact⟨v',w',h1,h2,h3⟩
theorem ic{ops:Array Oper}{rest:List Oper}{o:Oper}{a:Act}{Q:Exit->Act->World->Prop}(hgd:o.guard=none)(s x:Operand)(ho:o.op= .call {callee:= .builtin .append,args:= #[s,x],argTypes:= #[67,67]})
 (B:Nat) (v:Value) (n:Nat) (xs:List Value) (hs:a.eval s=v) (hown:w.ownsRow B 9 1 v n xs) (A:Option Addr) (m c B2:Nat) (ss:List ByteArray) (hx:a.eval x= .slice A m c) (hsl:Strs w B2 A m ss) (hn:n<=1000000) (hm:m<=1000000) (hB:B<=w.heap.size)
 (h:∀v' w',w'.ownsRow B 9 1 v' (n+m) (xs++ss.map Value.string)->w.grownBy w' v.ownBlock->wpList Tryz.prog ops Q rest (a.put o.dst v') w'):wpList Tryz.prog ops Q (o::rest) a w:=by
 refine wpList_plain hgd λK hK=>?_;obtain⟨v',w',hr,h2,h3⟩:=ku w o.type B v n xs hown A m c B2 ss hsl hn hm hB;unfold Oper.wp execOp;simp only[ho,resolve,invoke,builtin,BC,Bv,Bi,Cm,BG,Ct,hs,hx,hr];exact hK _ _ (h v' w' h2 h3)
theorem tr(f:α->List β){l:List α}{x:α}(h:l[k]?=some x):(l.take (k+1)).flatMap f=(l.take k).flatMap f++f x:=by
 rw[BT,h,Cx];simp
theorem tL(h1:d.args.length<=1000)(h2:d.surv.length<=1000)(p:PD):(dE d p).length<=1000:=by
 cases p<;>simp[dE]<;>omega
theorem lG{d:Ad}(h1:d.args.length<=1000)(h2:d.surv.length<=1000):∀ps:List PD,(ps.flatMap (dE d)).length<=1000*ps.length
 |[]=>by simp
 |p::ps=>by
  have:=lG h1 h2 ps;have:=tL h1 h2 p;simp only[CI,AT,AZ];omega
theorem tK(hw:WfA d)(h1:d.nm.size<=1000)(h2:d.mt.size<=1000)(p:PD):∀x∈dE d p,x.data.toList.length<=1000:=by
 have hI:∀z,I64 z->(bM z).data.toList.length<=1000:=λz hz=>by
  have:=dP hz;show(Lib.itoa z).length<=1000;omega
 intro x hx;cases p with
 |numA=>simp only[dE,AV,AX,BU]at hx;subst hx;exact hI _ hw.a
 |numB=>simp only[dE,AV,AX,BU]at hx;subst hx;exact hI _ hw.b
 |nam=>simp only[dE,AV,AX,BU]at hx;subst hx;exact h1
 |met=>simp only[dE,AV,AX,BU]at hx;subst hx;exact h2
 |surv=>
  obtain⟨z,hz,rfl⟩:=Cq.1 hx;exact hI _ (hw.surv z hz)
 |rest=>
  obtain⟨z,hz,rfl⟩:=Cq.1 hx;exact hI _ (hw.args z hz)
theorem rH:∀ws:List (List UInt8),(∀x∈ws,x.length<=1000)->Lib.lens ws<=1000*ws.length
 |[],_=>by simp[Lib.lens]
 |x::ws,h=>by
  have h1:=rH ws λy hy=>h y (by simp[hy]);have h2:=h x (by simp);simp only[Lib.lens,BG,List.sum_cons,AZ]at h1⊢;omega
theorem qR(h:ax[i]?=some fd):fd.word.data.toList.length<=1000:=by
 have hm:=AJ h;unfold ax at hm;simp only[AV,AX,BU]at hm;rcases hm with rfl|rfl|rfl|rfl|rfl|rfl|rfl|rfl|rfl|rfl|rfl|rfl|rfl|rfl|rfl|rfl<;>decide
theorem pT(hf:ax[i]?=some f)(hw:WfA d)(h1:d.nm.size<=1000)(h2:d.mt.size<=1000)(h3:d.args.length<=1000)(h4:d.surv.length<=1000):
 (Lib.join (be (dp d f)) [32]).length<=100000000:=by
 have h5:=lG h3 h4 f.pds;have h6:=gT hf;unfold be dp;rw[BG,Lib.join_length]
 have h7:=rH (f.word.data.toList::(f.pds.flatMap (dE d)).map (·.data.toList)) (by
  intro x hx;rcases AV.1 hx with rfl|hx
  ·exact qR hf
  ·obtain⟨y,hy,rfl⟩:=Cq.1 hx;obtain⟨p,_,hp⟩:=List.mem_flatMap.1 hy;exact tK hw h1 h2 p y hp)
 simp only[AZ,Cf,BS]at h7⊢;omega
def kV(d:Ad)(f:FD)(k:Nat):List ByteArray:=f.word::(f.pds.take k).flatMap (dE d)
theorem mv(h1:d.args.length<=1000)(h2:d.surv.length<=1000)(f:FD)(k:Nat)(hk:k<=4):(kV d f k).length<=10000:=by
 have:=lG h1 h2 (f.pds.take k);have h3:=List.length_take_le k f.pds;unfold kV;rw[AZ];omega
theorem fg{k:Int}(h:cP k=some f):ax[k.toNat]?=some f:=by
 obtain⟨h0,h1⟩:=ev h;obtain⟨q,rfl⟩:=Bh h0;rw[dy (by omega)]at h;exact h
theorem xJ(v:Av)(d:Ad)(w:World)(h:Reads w w.heap.size v d)(hg:Gl w)(hn:v.n<=1000)(hn2:v.n2<=1000)(hnm:v.nm.size<=1000)(hmt:v.mt.size<=1000)(hw:WfA d):
 Calls Tryz.prog 17 #[.agg v.cells] w λe w'=>e= .returned (.string ⟨(dc d).toArray⟩)/\Below w.heap.size w w':=by
 have hq0:=Blk.new w 48 v.cells;have hb0:Below w.heap.size w (w.alloc (.cells v.cells 48)):=(AC _ _).alloc (AB _) _;unfold Av.cells at hq0 hb0⊢;have HR:=H_ h;have HG:=H_ hg;have HW:=H_ hw;clear h hg hw;go_enter Tryz.func17,Tryz.ntmps17;go_upto_region 1 with fail;generalize w.alloc (.cells #[.int .i64 v.k,.int .i64 v.a,.int .i64 v.b,.string v.nm,.string v.mt,.slice v.A v.n v.c,.slice v.A2 v.n2 v.c2] 48)=W0 at hq0 hb0⊢;have hlt0:=hq0.lt;have zb0:=hb0.size;obtain⟨L,hL⟩:=nm_ (w.heap.size);rw[hL]at hq0 hlt0⊢;have HL:=H_ hL;have QL:=H_ hq0;have B0:=H_ hb0;clear hL hq0 hb0;obtain⟨c0,c1,c2,c3,c4,c5,c6⟩:=QL.out.c7;have HR0:=H_ ((HR.out.below B0.out).more B0.out.size);have HC:=H_ (px v d W0 HR0.out (HG.out.below B0.out) (by omega) (by omega));go_wp2_with fail;refine HC.out.mono ?_;rintro e w1 ⟨fk,fw,fA,fn,fc,rfl,b1,hf⟩;have QL1:=H_ (QL.out.below b1 hlt0);have B1:=H_ (B0.out.trans (b1.mono zb0));have hs1:=b1.size;clear HC QL B0 b1 c0 c1 c2 c3 c4 c5 c6;cases hok:okD d with
 |false=>
  have HF:Hid ((dc d)=[]):=H_ (by unfold dc;rw[<-dY,hok];rfl);clear hf hok;go_wp2_with fail;go_ret;exact⟨by rw[HF.out];rfl,B1.out.alloc B1.out.size _⟩
 |true=>
  obtain⟨f,g,hf1,rfl,rfl,rfl,rfl,rfl,hp⟩:=hf hok;have HF:=H_ hf1;have HP:=H_ hp;have HOK:=H_ hok;clear hf hf1 hp hok;go_upto_region 5 with fail;obtain⟨w2,hw2⟩:=nm_ (w1.alloc (.cells #[.int .i64 f.k,.string f.word,.slice (some ⟨g,0,none⟩) f.pds.length f.pds.length] 92));have b2:=bal hw2;have hs2:w2.heap.size=w1.heap.size+1:=by rw[<-hw2];simp
  have hqf:=hw2▸Blk.new w1 92 #[.int .i64 f.k,.string f.word,.slice (some ⟨g,0,none⟩) f.pds.length f.pds.length];rw[hw2]
  have hown:(w2.alloc (.cells #[.string f.word] 9)).ownsRow w2.heap.size 9 1 (.slice (some ⟨w2.heap.size,0,none⟩) 1 1) 1 [.string f.word]:=
   ⟨rfl,.inr ⟨w2.heap.size,1,#[.string f.word],rfl,AB _,Blk.new w2 9 _,AB _,by unfold maxLen;omega,rfl,rfl⟩⟩
  have b3:Below w2.heap.size w2 (w2.alloc (.cells #[.string f.word] 9)):=(AC _ _).alloc (AB _) _;rw[<-hs2];generalize w2.alloc (.cells #[.string f.word] 9)=w3 at hown b3⊢;have QF:=H_ (Blk.below hqf b3 (by omega));have e2:=QF.out.k2;have OWN:=H_ hown;have B3:=H_ b3;have B2:=htm B1 b2;have HP2:=H_ ((HP.out.below b2).more b2.size);have QL2:=hbl QL1 b2;have hfew:=gT (fg HF.out);have HS2:=H_ hs2;clear hw2 hqf hown b2 b3 QL1 HP hs2;go_wp2_with fail;go_loopw [5,21] (λu i wr=>∃k:Nat,k<=f.pds.length/\i= .int .i64 k/\Hid (wr.ownsRow w2.heap.size 9 1 u (kV d f k).length ((kV d f k).map Value.string))/\Hid (Below w2.heap.size w2 wr)) (λ_ i _=>f.pds.length-(intOf i).toNat)
  case atStart=>exact⟨0,AM _,rfl,OWN,B3⟩
  case round=>
   clear e2 OWN B3;obtain⟨k,hk,rfl,HO,HB⟩:=hrel;by_cases hlt:k<f.pds.length
   ·obtain⟨pd,a,b,c,dd,hpd,hpv,a0,a1,a2,a3⟩:=(HP2.out.below HB.out).at_ hlt;obtain⟨n1,x1,n2,x2,n3,x3,n4,x4,rfl,rfl,rfl,rfl⟩:=hpv.funcs;have hk0:0<=(k:Int):=by omega
    have hk1:(k:Int)<(f.pds.length:Int):=by omega
    have HPD:=H_ hpd;have HPV:=H_ hpv;clear hpd hpv;go_upto_region 8 with fail;have b5:Below wr.heap.size wr (wr.alloc (.cells #[.func (.func n1) #[] x1,.func (.func n2) #[] x2,.func (.func n3) #[] x3,.func (.func n4) #[] x4] 99)):=(AC _ _).alloc (AB _) _;have hn5:=Blk.new wr 99 #[.func (.func n1) #[] x1,.func (.func n2) #[] x2,.func (.func n3) #[] x3,.func (.func n4) #[] x4];generalize wr.alloc (.cells #[.func (.func n1) #[] x1,.func (.func n2) #[] x2,.func (.func n3) #[] x3,.func (.func n4) #[] x4] 99)=w5 at b5 hn5⊢;have HB5:=htr HB b5;have HO5:=H_ (bI HO.out b5);have HPV5:=H_ (HPV.out.below (b5.mono HB.out.size));have QL5:=H_ (QL2.out.below HB5.out QL2.out.lt);have B25:=H_ (B2.out.trans (HB5.out.mono B2.out.size));have hN5:=hn5.lt;generalize wr.heap.size=N at hn5 hN5⊢;clear a0 a1 a2 a3 b5 HB HO HPV;obtain⟨c0,c1,c2,c3,c4,c5,c6⟩:=QL5.out.c7;have a1:=hn5.k1;clear hn5;have hrun:=qp HPV5.out v d ((HR.out.below B25.out).more B25.out.size) HW.out (HG.out.below B25.out) (by omega) (by omega);have hent:=hrun.enters;have HC:=H_ hrun.calls;clear hrun;have hal:d.args.length<=1000:=by rw[HR.out.args.len];exact hn
    have hsl:d.surv.length<=1000:=by rw[HR.out.surv.len];exact hn2
    have hz2:=HB5.out.size;go_wp2_with fail;refine HC.out.mono ?_;rintro e w6 ⟨A,c,rfl,hws,b6⟩;have hz3:=b6.size;have HO6:=H_ (bI HO5.out b6);have HB6:=htr HB5 b6;have HWS:=H_ hws;have hft:=mv hal hsl f k (by omega);have hwf:=tL hal hsl pd;clear b6 hws HO5 HB5 c0 c1 c2 c3 c4 c5 c6 a1 HC hent QL5 B25;go_wp2_with (at_builtin;refine ic rfl (.tmp 25) (.tmp 29) rfl w2.heap.size _ _ _ rfl HO6.out A (dE d pd).length c _ (dE d pd) rfl HWS.out (by omega) (by omega) (by omega) ?_);intro u' w7 hown7 hgrow;have HO7:=H_ hown7;have HB7:=H_ (HB6.out.grown hgrow (by omega) (λr hr=>(HO6.out.lt r hr).1));clear hown7 hgrow HO6 HB6;go_wp2_with fail;go_roundw
    case rel=>
     refine⟨k+1,by omega,by go_num,?_,HB7⟩;have:=HO7.out;unfold kV at this⊢;rw[tr (dE d) HPD.out,<-BN,AT,Cg];exact H_ this
    case measure=>simp[intOf];omega
   ·obtain rfl:k=f.pds.length:=by omega
    have htx:kV d f f.pds.length=dp d f:=by unfold kV dp;rw[AK (AB _)]
    rw[htx]at HO
    obtain⟨bk,cap,hu,hcap,hbk,hcells⟩:∃bk cap,u5= .slice (some ⟨bk,0,none⟩) (dp d f).length cap/\(dp d f).length<=cap/\bk<wr.heap.size/\∀(j:Nat) x,(dp d f)[j]?=some x->wr.cell? ⟨bk,0+j,none⟩=some (.string x):=by
     rcases HO.out.2 with⟨_,h0⟩|⟨bk,cap,cur,hu,_,_,hcap,_⟩
     ·exact absurd h0 (by unfold dp;simp)
     ·subst hu;refine⟨bk,cap,rfl,hcap,(HO.out.lt bk rfl).2,λj x hx=>?_⟩;have:=HO.out.cells (g:=bk) rfl j (.string x) (by rw[Bp,hx];rfl);rwa[bY]at this
    subst hu;have hjl:=pT (fg HF.out) HW.out (by rw[<-HR.out.nm];exact hnm) (by rw[<-HR.out.mt];exact hmt) (by rw[HR.out.args.len];exact hn) (by rw[HR.out.surv.len];exact hn2);have hft:=mv (d:=d) (by rw[HR.out.args.len];exact hn) (by rw[HR.out.surv.len];exact hn2) f f.pds.length (by omega);rw[htx]at hft;have hjoin:=Tryz.strings_Join bk 0 cap (dp d f) ⟨#[32]⟩ wr hcells hbk (by omega) hcap (by exact AW hjl (by decide))
    have hres:Lib.join ((dp d f).map (·.data.toList)) [32]=dc d:=kU d f HF.out (by
     have:=HOK.out;unfold okD at this;rw[HF.out]at this;exact this)
    have hjoin':Calls Tryz.prog 44 #[.slice (some ⟨bk,0,none⟩) (dp d f).length cap,.string ⟨#[32]⟩] wr λe w'=>e= .returned (.string ⟨(dc d).toArray⟩)/\Below wr.heap.size wr w':=by
     rw[<-hres];exact hjoin
    have HJ:=H_ hjoin';clear hjoin hjoin' hres hcells hjl htx hft;generalize(dp d f).length=tl at*
    go_wp2_with fail;refine HJ.out.mono ?_;rintro e w8 ⟨rfl,b8⟩;have HB8:=H_ (B2.out.trans ((HB.out.trans (b8.mono HB.out.size)).mono B2.out.size));clear b8;go_wp2_with fail;go_ret;exact⟨rfl,HB8.out⟩
theorem tR(w:World):(underlying 102).run Tryz.prog w= .ok (.map 9 92) w:=by kernel_rfl
theorem oH(a b:ByteArray):Instr.sameNow .string (.string a) (.string b)=some (a==b):=rfl
theorem gw{a b:ByteArray}(h:a≠b):Instr.sameNow .string (.string a) (.string b)=some false:=by
 rw[oH]
 congr 1
 obtain⟨a⟩:=a;obtain⟨b⟩:=b;show(a==b)=false;exact AD.2 λe=>h (by rw[e])
theorem oG(a:ByteArray):Instr.sameNow .string (.string a) (.string a)=some true:=by
 rw[oH]
 congr 1
 obtain⟨a⟩:=a;show(a==a)=true;exact Ch a
theorem fb{g:FD}(hf:ax[i]?=some f)(hg:ax[j]?=some g)(h:i<j):f.word≠g.word:=by
 have hj:j<16:=(AH.1 hg).1;intro e;have h1:=eb (by omega:i<=15) hf;have h2:=eb (by omega:j<=15) hg;rw[e,h2]at h1;simp only[Option.some.injEq]at h1;subst h1;obtain⟨_,h3,h4⟩:=fG (by omega:i<16);obtain⟨_,h5,h6⟩:=fG hj;rw[hf]at h3;rw[hg]at h5;simp only[Option.some.injEq]at h3 h5;subst h3 h5;omega
def fS(fd:FD)(g:Nat):Value:= .agg #[.int .i64 fd.k,.string fd.word,.slice (some ⟨g,0,none⟩) fd.pds.length fd.pds.length]
def WordMap(W:World)(B k:Nat)(kvs:List (Value×Value)):Prop:=
 kvs.length=k/\∀i fd,i<k->ax[i]?=some fd->∃g,kvs[i]?=some (.string fd.word,fS fd g)/\Parts W B g fd.pds
theorem fW{b o:Nat}{v:Value}(hm:KMap w m kvs)(hg:w.grownBy w' (some m))(h:w.cell? ⟨b,o,none⟩=some v):w'.cell? ⟨b,o,none⟩=some v:=by
 rw[<-h];refine C8 (hg.block b ?_ ?_)
 ·rcases BI b w.heap.size with h1|h1
  ·exact h1
  ·unfold World.cell? at h;rw[show w.heap[b]?=none from Array.getElem?_eq_none h1]at h;simp at h
 ·intro e;simp only[Option.some.injEq]at e;subst e;unfold World.cell? at h;rw[show w.heap[b]?=_ from hm]at h;simp at h
theorem tD{b:Nat}{t:TypeId}{cs:Array Value}(hm:KMap w m kvs)(hg:w.grownBy w' (some m))(h:Blk w b t cs):Blk w' b t cs:=by
 refine(hg.block b h.lt λe=>?_).trans h;simp only[Option.some.injEq]at e;subst e;unfold Blk at h;rw[show w.heap[b]?=_ from hm]at h;cases h
theorem Parts.grown(hm:KMap w m kvs)(hg:w.grownBy w' (some m))(h:Parts w B g pds):Parts w' B g pds:=
 ⟨h.1,λi pd hp=>by
  obtain⟨vs,h1,h2⟩:=h.2 i pd hp;exact⟨vs,h1.aA λb t cs _ hb=>tD hm hg hb,λj v hv=>fW hm hg (h2 j v hv)⟩⟩
theorem WordMap.grown{kvs':List (Value×Value)}(hm:KMap w m kvs')(hg:w.grownBy w' (some m))(h:WordMap w B k kvs):WordMap w' B k kvs:=
 ⟨h.1,λi fd hi hf=>by
  obtain⟨g,h1,h2⟩:=h.2 i fd hi hf;exact⟨g,h1,h2.grown hm hg⟩⟩
theorem WordMap.more{B':Nat}(h:WordMap w B k kvs)(hB:B<=B'):WordMap w B' k kvs:=
 ⟨h.1,λi fd hi hf=>by
  obtain⟨g,h1,h2⟩:=h.2 i fd hi hf;exact⟨g,h1,h2.more hB⟩⟩
theorem WordMap.below(h:WordMap w B k kvs)(hb:Below B w w'):WordMap w' B k kvs:=
 ⟨h.1,λi fd hi hf=>by
  obtain⟨g,h1,h2⟩:=h.2 i fd hi hf;exact⟨g,h1,h2.below hb⟩⟩
theorem WordMap.snoc(h:WordMap w B k kvs)(hf:ax[k]?=some fd)(hp:Parts w B g fd.pds):WordMap w B (k+1) (kvs++[(.string fd.word,fS fd g)]):=
 ⟨by rw[AT,h.1];rfl,λi f hi hfi=>by
  rcases BI i k with h1|h1
  ·obtain⟨g',h2,h3⟩:=h.2 i f h1 hfi;exact⟨g',by rw[BH (by rw[h.1];exact h1)];exact h2,h3⟩
  ·obtain rfl:i=k:=by omega
   rw[hf]at hfi;simp only[Option.some.injEq]at hfi;subst hfi;exact⟨g,by rw[BX (by rw[h.1];exact AB _),h.1,Nat.sub_self];rfl,hp⟩⟩
theorem we(w:World):Calls Tryz.prog 46 #[] w λe w'=>∃m kvs,e= .returned (.map (some m))/\KMap w' m kvs/\WordMap w' w'.heap.size 16 kvs/\m<w'.heap.size/\Below w.heap.size w w':=by
 have hmk:∀w:World,(Instr.makeMap 102 none).run Tryz.prog w= .ok (.map (some w.heap.size)) (w.alloc (.map #[] 0)):=λw=>by kernel_rfl
 go_enter Tryz.func46,Tryz.ntmps46;go_upto_region 2 with(fail);have hm0:KMap (w.alloc (.map #[] 0)) w.heap.size []:=heap_alloc_new w _;have bel0:Below w.heap.size w (w.alloc (.map #[] 0)):=(AC _ _).alloc (AB _) _;generalize w.alloc (.map #[] 0)=w0 at hm0 bel0⊢;obtain⟨m,hm⟩:=nm_ (w.heap.size);rw[hm]at hm0⊢;have HS:=H_ hm;have HM0:=H_ hm0;have B0:=H_ bel0;clear hm hm0 bel0 hmk;go_wp2_with fail;refine(rR _).mono ?_;rintro e w1 ⟨g,rfl,hf1,b1⟩;have HF1:=H_ hf1;have HM1:=H_ (HM0.out.below b1 HM0.out.lt);have B1:=htr B0 b1;have hm1:=HM1.out.lt;clear HM0 B0 b1 hf1;go_wp2_with fail;go_loopw [7] (λi wr=>∃(k:Nat) (kvs:List (Value×Value)),k<=16/\i= .int .i64 k/\Hid (KMap wr m kvs)/\Hid (w1.grownBy wr (some m))/\Hid (WordMap wr wr.heap.size k kvs)/\Hid (∀(t:Nat) (o:Value×Value),kvs[t]?=some o->∃(fd:FD) (v:Value),ax[t]?=some fd/\o=(Value.string fd.word,v))) (λi _=>16-(intOf i).toNat)
 case atStart=>exact⟨0,[],AM _,rfl,HM1,H_ (World.grownBy.refl _ _),H_ ⟨rfl,λi fd hi=>absurd hi (Dd _)⟩,H_ λt o h=>by simp at h⟩
 case round=>
  obtain⟨k,kvs,hk,rfl,HM,HG,HW,HK⟩:=hrel;by_cases hlt:k<16
  ·obtain⟨fd,g2,h1,h2,h3,a0,a1,a2⟩:=HF1.out.at_ hlt;have a0':=fW HM1.out HG.out a0;have a1':=fW HM1.out HG.out a1;have a2':=fW HM1.out HG.out a2;have hk0:0<=(k:Int):=by omega
   have hk1:(k:Int)<16:=by omega
   have HFD:=H_ (And.intro h1 h2);have HP:=H_ (h3.grown HM1.out HG.out);clear a0 a1 a2 h1 h2 h3;go_upto_region 5 with fail;obtain⟨w3,hw3⟩:=nm_ (wr.alloc (.cells #[.int .i64 (k:Int),.string fd.word,.slice (some ⟨g2,0,none⟩) fd.pds.length fd.pds.length] 92));have hb3:=bal hw3;have hq3:=hw3▸Blk.new wr 92 #[.int .i64 (k:Int),.string fd.word,.slice (some ⟨g2,0,none⟩) fd.pds.length fd.pds.length];have hm3:=HM.out.below hb3 HM.out.lt;rw[hw3]
   obtain⟨w4,hup,hm4,hg4⟩:=cH tR yC hm3 (.string fd.word) (.agg #[.int .i64 (k:Int),.string fd.word,.slice (some ⟨g2,0,none⟩) fd.pds.length fd.pds.length]) (λem w=>re em _ w) (λo ho=>by
    obtain⟨t,ht⟩:=List.mem_iff_getElem?.1 ho;obtain⟨f2,v2,h1,rfl⟩:=HK.out t o ht;have hl:=(AH.1 ht).1;rw[HW.out.1]at hl;exact gw (fb h1 HFD.out.1 hl).symm)
   have HM4:=H_ hm4;have HG4:=H_ ((HG.out.trans ⟨hb3.os,hb3.tape,hb3.output,hb3.size,λb hb _=>hb3.block b hb⟩).trans hg4);have HW4:=H_ ((((HW.out.below hb3).more (AW hb3.size hg4.size)).grown hm3 hg4).snoc HFD.out.1 ((((HP.out.below (hb3.mono HG.out.size)).grown hm3 hg4)).more (AW HG.out.size (AW hb3.size hg4.size))));obtain⟨n0,n1,n2⟩:=hq3.c3;clear hw3 hb3 hq3 hm3 hm4 hg4;go_wp2_with fail;go_roundw
   case rel=>
    refine⟨k+1,kvs++[(.string fd.word,fS fd g2)],by omega,by go_num,?_,HG4,HW4,?_⟩
    ·unfold fS;rw[HFD.out.2];exact HM4
    ·refine H_ λt o ht=>?_;rcases BI t kvs.length with h1|h1
     ·rw[BH h1]at ht;exact HK.out t o ht
     ·rw[BX h1]at ht;have h2:=(AH.1 ht).1;simp only[BV]at h2;have h3:t=k:=by have:=HW.out.1;omega
      rw[show t-kvs.length=0 by omega]at ht;simp only[Bt,Option.some.injEq]at ht;exact⟨fd,_,by rw[h3];exact HFD.out.1,ht.symm⟩
   case measure=>simp[intOf];omega
  ·obtain rfl:k=16:=by omega
   go_wp2_with fail;go_ret;have hz:=HG.out.size;have hm:=HM.out.lt;exact⟨m,kvs,rfl,HM.out,HW.out,HM.out.lt,B1.out.grown HG.out B1.out.size (λr hr=>by cases hr;exact Dc HS.out)⟩
def vOf(a:Ad):Av:=⟨a.k,a.a,a.b,a.nm,a.mt,none,0,0,none,0,0⟩
theorem Blk.z7{t:TypeId}(h:Blk w g t (vOf (bc 0)).cells):w.cell? ⟨g,0,none⟩=some (.int .i64 0)/\w.cell? ⟨g,1,none⟩=some (.int .i64 0)/\w.cell? ⟨g,2,none⟩=some (.int .i64 0)/\w.cell? ⟨g,3,none⟩=some (.string ⟨#[]⟩)/\w.cell? ⟨g,4,none⟩=some (.string ⟨#[]⟩)/\w.cell? ⟨g,5,none⟩=some (.slice none 0 0)/\w.cell? ⟨g,6,none⟩=some (.slice none 0 0):=h.v7
theorem gP(h1:a.args=[])(h2:a.surv=[]):Reads w B (vOf a) a:=
 ⟨rfl,rfl,rfl,rfl,rfl,by rw[h1];exact Ints.none w B,by rw[h2];exact Ints.none w B⟩
def PD.list:PD->Bool
 | .surv=>true
 | .rest _=>true
 |_=>false
def Av.apart(v:Av)(M:Nat):Prop:=(∀b o,v.A=some ⟨b,o,none⟩->M<b)/\∀b o,v.A2=some ⟨b,o,none⟩->M<b
theorem Av.apart.less{L:Nat}(h:v.apart M)(hL:L<=M):v.apart L:=⟨λb o e=>D9 hL (h.1 b o e),λb o e=>D9 hL (h.2 b o e)⟩
theorem gQ(a:Ad)(M:Nat):(vOf a).apart M:=⟨λb o h=>(by cases h),λb o h=>(by cases h)⟩
def oi(w:World)(M:Nat)(ad:Ad)(ws:List ByteArray)(pd:PD)(e:Ending)(w':World):Prop:=
 Below M w w'/\w.heap.size<=w'.heap.size/\
 match cU ad ws pd with
 |none=>∃A n c,e= .returned (.tuple #[.slice A n c,.bool false])
 |some (ad',ws')=>∃v A c,e= .returned (.tuple #[.slice A ws'.length c,.bool true])/\Blk w' M 48 v.cells/\Reads w' w'.heap.size v ad'/\Strs w' M A ws'.length ws'/\ws'.length<=c/\v.n<=1000000/\v.n2<=1000000/\v.apart M/\
   (pd.list=false->v=vOf ad'/\ad'.args=[]/\ad'.surv=[])
theorem dA(h:Strs w B A n (s::ss)):∃b off,A=some ⟨b,off,none⟩/\n=ss.length+1:=by
 have hl:=h.len;simp only[AZ]at hl;obtain⟨b,off,h1,_⟩:=h.2 (by omega);exact⟨b,off,h1,hl.symm⟩
theorem kM{w1:World}{b off c:Nat}{ad ad':Ad}{x:Value}(hL:Blk w M 48 (vOf ad).cells)(hs:Strs w M (some ⟨b,off,none⟩) (ss.length+1) (s::ss))(hc:ss.length+1<=c)
 (ha:ad'.args=[]) (hsv:ad'.surv=[]) (hcell:(vOf ad).cells.setIfInBounds j x=(vOf ad').cells) (b1:Below w.heap.size w w1) (hw:w1.setCell ⟨M,j,none⟩ x=w') (ok:Bool)
 (he:e= .returned (.tuple #[.slice (jo b off c) ss.length (c-1),.bool ok])) (hr:cU ad (s::ss) pd=if ok=true then some (ad',ss)else none):oi w M ad (s::ss) pd e w':=by
 have hlt:=hL.lt;have hb:Below M w w':=hw▸(b1.mono (Be hlt)).setCell (p:=⟨M,j,none⟩) (AB M) x;have hsz:w'.heap.size=w1.heap.size:=by rw[<-hw];simp
 refine⟨hb,by rw[hsz];exact b1.size,?_⟩;rw[hr];cases ok with
 |false=>exact⟨_,_,_,he⟩
 |true=>
  refine⟨vOf ad',jo b off c,c-1,he,?_,gP ha hsv,(hs.cut hc).below hb,by omega,AM _,AM _,gQ _ _,λ_=>⟨rfl,ha,hsv⟩⟩;rw[<-hw,<-hcell];exact(hL.below b1 hlt).set j x
theorem kN{ad:Ad}(h:e= .returned (.tuple #[.slice none 0 0,.bool false])/\w=w')(hr:cU ad [] pd=none):oi w M ad [] pd e w':=by
 obtain⟨rfl,rfl⟩:=h;refine⟨AC _ _,AB _,?_⟩;rw[hr];exact⟨_,_,_,rfl⟩
theorem sR{a b d:Value}(h:PartV w B pd [a,b,c,d])(M:Nat)(ad:Ad)(ha:ad.args=[])(hsv:ad.surv=[])(hL:Blk w M 48 (vOf ad).cells)(hg:GlB w M)
 (A:Option Addr) (ws:List ByteArray) (n cap:Nat) (hs:Strs w M A n ws) (hcap:n<=cap) (hn:n<=1000000) (hsz:∀s∈ws,s.size<=1000000):
 RunsOn a #[.pointer (some ⟨M,0,none⟩),.slice A n cap] w (oi w M ad ws pd):=by
 have hlen:=hs.len;have hM:=hL.lt;cases pd with
 |numA lo hi=>
  obtain⟨b0,b1,b2,e,h0,h1,h2,k0,k1,k2⟩:=h;simp only[List.cons.injEq,Bn]at e;obtain⟨rfl,_,_,_⟩:=e;refine⟨175,_,rfl,λ_ _=>by kernel_rfl,?_⟩;cases ws with
  |nil=>
   simp only[BS]at hlen;subst hlen;exact(rD M b0 A cap w).mono λe w' q=>kN q rfl
  |cons s ss=>
   obtain⟨b',off,rfl,rfl⟩:=dA hs
   exact(uN M _ b0 b' off ss.length cap M s ss w hg.gl (hsz s (by simp)) k0 hL (by show _<7;decide) hs hcap (by omega)).mono λe w' ⟨q1,w1,q2,q3⟩=>
    kM (ad':={ad with a:=cC s}) hL hs hcap ha hsv rfl q2 q3 (bG s) q1 rfl
 |numB lo hi=>
  obtain⟨b0,b1,b2,e,h0,h1,h2,k0,k1,k2⟩:=h;simp only[List.cons.injEq,Bn]at e;obtain⟨rfl,_,_,_⟩:=e;refine⟨175,_,rfl,λ_ _=>by kernel_rfl,?_⟩;cases ws with
  |nil=>
   simp only[BS]at hlen;subst hlen;exact(rD M b0 A cap w).mono λe w' q=>kN q rfl
  |cons s ss=>
   obtain⟨b',off,rfl,rfl⟩:=dA hs
   exact(uM M _ b0 b' off ss.length cap M s ss w hg.gl (hsz s (by simp)) k0 hL (by show _<7;decide) hs hcap (by omega)).mono λe w' ⟨q1,w1,q2,q3⟩=>
    kM (ad':={ad with b:=cC s}) hL hs hcap ha hsv rfl q2 q3 (bG s) q1 rfl
 |nam k=>
  obtain⟨b0,b1,e,h0,h1,k0,k1⟩:=h;simp only[List.cons.injEq,Bn]at e;obtain⟨rfl,_,_,_⟩:=e;refine⟨180,_,rfl,λ_ _=>by kernel_rfl,?_⟩;cases ws with
  |nil=>
   simp only[BS]at hlen;subst hlen;exact(rE M b0 A cap w).mono λe w' q=>kN q rfl
  |cons s ss=>
   obtain⟨b',off,rfl,rfl⟩:=dA hs
   exact(vd M _ b0 b' off ss.length cap M s ss w k0 hL (by show _<7;decide) hs hcap (by omega)).mono λe w' ⟨q1,w1,q2,q3⟩=>
    kM (ad':={ad with nm:=s}) hL hs hcap ha hsv rfl q2 q3 true q1 rfl
 |met k=>
  obtain⟨b0,b1,e,h0,h1,k0,k1⟩:=h;simp only[List.cons.injEq,Bn]at e;obtain⟨rfl,_,_,_⟩:=e;refine⟨180,_,rfl,λ_ _=>by kernel_rfl,?_⟩;cases ws with
  |nil=>
   simp only[BS]at hlen;subst hlen;exact(rE M b0 A cap w).mono λe w' q=>kN q rfl
  |cons s ss=>
   obtain⟨b',off,rfl,rfl⟩:=dA hs
   exact(vc M _ b0 b' off ss.length cap M s ss w k0 hL (by show _<7;decide) hs hcap (by omega)).mono λe w' ⟨q1,w1,q2,q3⟩=>
    kM (ad':={ad with mt:=s}) hL hs hcap ha hsv rfl q2 q3 true q1 rfl
 |surv=>
  have e:[a,b,c,d]=[fnv 185,fnv 186,fnv 187,fnv 190]:=h;simp only[List.cons.injEq,Bn]at e;obtain⟨rfl,_,_,_⟩:=e;refine⟨185,_,rfl,λ_ _=>by kernel_rfl,?_⟩;cases hall:ws.all bG with
  |false=>
   refine(sL M _ A n cap ws w hg hs hn hsz hL rfl hall).mono λe w' ⟨q1,q2⟩=>⟨q2,?_,?_⟩
   ·exact q2.size
   ·rw[show cU ad ws .surv=none from by unfold cU;dsimp only;rw[hall];rfl];exact⟨_,_,_,q1⟩
  |true=>
   refine(qi M _ A n cap ws w hg hs hn hsz hL rfl hall).mono λe w' ⟨A',c',q1,q2,q3,q4,q5,q6⟩=>⟨q4,q5,?_⟩;rw[show cU ad ws .surv=some ({ad with surv:=ws.map cC},[])from by unfold cU;dsimp only;rw[hall];rfl];exact⟨{vOf ad with A2:=A',n2:=ws.length,c2:=c'},none,0,q1,q3,⟨rfl,rfl,rfl,rfl,rfl,by rw[show({ad with surv:=ws.map cC}:Ad).args=[]from ha];exact Ints.none _ _,q2⟩,⟨rfl,λh0=>absurd h0 (Ci 0)⟩,AB _,AM _,by show ws.length<=_;omega,⟨λb o h=>(by cases h),q6⟩,λh=>by cases h⟩
 |rest m=>
  obtain⟨b0,e,h0,k0⟩:=h;simp only[List.cons.injEq,Bn]at e;obtain⟨rfl,_,_,_⟩:=e;refine⟨191,_,rfl,λ_ _=>by kernel_rfl,?_⟩;cases hall:ws.all bG with
  |false=>
   refine(sK M _ A n cap ws w hg hs hn hsz hL rfl hall).mono λe w' ⟨q1,q2⟩=>⟨q2,?_,?_⟩
   ·exact q2.size
   ·rw[show cU ad ws (.rest m)=none from by unfold cU;dsimp only;rw[hall];rfl];exact⟨_,_,_,q1⟩
  |true=>
   refine(qh M _ A n cap ws w hg hs hn hsz hL rfl hall).mono λe w' ⟨A',c',q1,q2,q3,q4,q5,q6⟩=>⟨q4,q5,?_⟩;rw[show cU ad ws (.rest m)=some ({ad with args:=ws.map cC},[])from by unfold cU;dsimp only;rw[hall];rfl];exact⟨{vOf ad with A:=A',n:=ws.length,c:=c'},none,0,q1,q3,⟨rfl,rfl,rfl,rfl,rfl,q2,by rw[show({ad with args:=ws.map cC}:Ad).surv=[]from hsv];exact Ints.none _ _⟩,⟨rfl,λh0=>absurd h0 (Ci 0)⟩,AB _,by show ws.length<=_;omega,AM _,⟨q6,λb o h=>(by cases h)⟩,λh=>by cases h⟩
end
end Go.Proofs.YtjpbckbpeblibaaGreatDoor
