/- part of a proof -/
import Derived.Test.YtjpbckbpeblibaaGreatDoorK13
import Derived.RangeFuncNested
import Derived.RangeFuncBound
import Derived.RangeFuncCalls
import Derived.RangeFuncLeaves
namespace Go.Proofs.YtjpbckbpeblibaaGreatDoor
set_option linter.unusedVariables false
set_option linter.unusedSimpArgs false
set_option maxRecDepth 100000
set_option maxHeartbeats 64000000
section
open Go.RowKit
variable{B L k n:Nat}{a:List UInt8}{e:Int}{l:ByteArray}{ls:List ByteArray}{u:Value}{w w':World}
theorem Db:type_of% @Nat.add_comm:=@Nat.add_comm
def nb(l:List ByteArray):List ByteArray:=if l.getLast?=some ⟨#[]⟩then l.dropLast else l
def ag(s:ByteArray):List ByteArray:=nb (cS 10 s)
def fJ:Nat->ByteArray
 |0=>⟨#[109,97,99,104,105,110,101,115]⟩
 |1=>⟨#[115,101,101,100]⟩
 |_=>⟨#[121,111,117,110,103]⟩
def fV(k n:Nat):Prop:=(k=0->1<=n/\n<=8)/\(k=2->n<=1099511627776)
def IsConf(k:Nat)(l:ByteArray)(n:Nat):Prop:=U64 n/\l.data.toList=(fJ k).data.toList++32::Lib.decDigits n/\fV k n
open Classical in
noncomputable def bU(k:Nat)(l:ByteArray):Option Nat:=if h:∃n,IsConf k l n then some h.choose else none
theorem IsConf.one{m:Nat}(h:IsConf k l n)(h':IsConf k l m):n=m:=by
 have h1:=h.2.1.symm.trans h'.2.1;have h2:=List.append_cancel_left h1;rw[List.cons.injEq]at h2;rw[<-gr n,<-gr m,h2.2]
theorem qZ(h:IsConf k l n):bU k l=some n:=by
 have hx:∃n,IsConf k l n:=⟨n,h⟩;unfold bU;rw[dif_pos hx,IsConf.one hx.choose_spec h]
theorem cv(h:∀n,¬IsConf k l n):bU k l=none:=by
 unfold bU;exact dif_neg λ⟨n,hn⟩=>h n hn
structure Sc where
 m:Int
 sd:Int
 y:Int
 cs:List Cl
 ac:List Ad
def zSc:Sc:=⟨0,0,0,[],[]⟩
def Sc.set(x:Sc)(k n:Nat):Sc:=match k with
 |0=>{x with m:=n}
 |1=>{x with sd:=n}
 |_=>{x with y:=n}
inductive Ph where
 |conf (k:Nat):Ph
 |src (a:List UInt8) (f:Nat):Ph
 |acts:Ph
inductive SR where
 |err (n:Nat) (e:Int):SR
 |ok (x:Sc):SR
inductive Nx where
 |err (n:Nat) (e:Int):Nx
 |go (p:Ph) (x:Sc):Nx
def dI(l:ByteArray):Bool:=match l.data.toList with
 |[]=>true
 |c::_=>c==35
def gJ:ByteArray:=⟨#[101,110,100]⟩
def lk:ByteArray:=⟨#[112,114,111,103,114,97,109]⟩
def ig(a:List UInt8)(f:Nat)(x:Sc):Nx:=match ca a with
 | .err q e=> .err (f+(a.take q.toNat).count 10) e
 | .ok cs=> .go .acts {x with cs:=cs}
noncomputable def bm(n:Nat)(l:ByteArray)(p:Ph)(x:Sc):Nx:=match p with
 | .src a f=>if l=gJ then ig a f x else .go (.src (a++l.data.toList++[10]) f) x
 | .conf k=>if dI l=true then .go p x else if k=3 then(if l=lk then .go (.src [] (n+1)) x else .err n 3)else match bU k l with
   |none=> .err n 3
   |some v=> .go (.conf (k+1)) (x.set k v)
 | .acts=>if dI l=true then .go p x else match bE (aw l)with
   |none=> .err n 3
   |some a=> .go p {x with ac:=x.ac++[a]}
def zx(n:Nat)(p:Ph)(x:Sc):SR:=match p with
 | .conf _=> .err (n+1) 3
 | .src a f=>match ig a f x with
   | .err q e=> .err q e
   | .go _ _=> .err (n+1) 3
 | .acts=> .ok x
noncomputable def cg:List ByteArray->Nat->Ph->Sc->SR
 |[],n,p,x=>zx n p x
 |l::ls,n,p,x=>match bm (n+1) l p x with
  | .err q e=> .err q e
  | .go p' x'=>cg ls (n+1) p' x'
noncomputable def bn(s:ByteArray):SR:=cg (ag s) 0 (.conf 0) zSc
theorem eQ{p p':Ph}{x x':Sc}(h:bm (n+1) l p x= .go p' x'):cg (l::ls) n p x=cg ls (n+1) p' x':=by
 rw[cg,h]
theorem fx{q:Nat}{p:Ph}{x:Sc}(h:bm (n+1) l p x= .err q e):cg (l::ls) n p x= .err q e:=by
 rw[cg,h]
theorem mB:∀(pre ls:List ByteArray) (n:Nat) (a:List UInt8) (f:Nat) (x:Sc),(∀l∈pre,l≠gJ)->cg (pre++ls) n (.src a f) x=cg ls (n+pre.length) (.src (a++pre.flatMap λl=>l.data.toList++[10]) f) x
 |[],ls,n,a,f,x,_=>by simp
 |l::pre,ls,n,a,f,x,h=>by
  have h1:bm (n+1) l (.src a f) x= .go (.src (a++l.data.toList++[10]) f) x:=by
   unfold bm;exact AL (h l (by simp))
  rw[BN,eQ h1,mB pre ls (n+1) _ f x (λy hy=>h y (by simp[hy]))];simp only[AZ,CI,Cp,Df,Db 1]
theorem yF{N:Nat}{T:List Tk}(h:Tks N T)(i:Nat):0<=(tk T i).2.2.2/\(tk T i).2.2.2<=(N:Int):=by
 unfold tk;rw[Bo];cases hi:T[i]? with
 |none=>simp
 |some x=>exact h x (AJ hi)
theorem ln{q:Int}(h:ca a= .err q e):0<=q/\q<=(a.length:Int):=by
 unfold ca at h;cases hs:ce a with
 |err p e'=>
  rw[hs]at h;cases h;have:=sF hs;omega
 |toks T=>
  rw[hs]at h;have ht:=(ik hs).2.2.2.2;simp only at h;cases hp:cn T with
  |bad j=>
   rw[hp]at h;cases h;exact yF ht j
  |ok cs j=>
   rw[hp]at h;simp only at h;split at h
   ·cases h;omega
   ·cases h
def Cel(w:World)(b:Nat):Prop:=∃o:Obj,w.heap[b]?=some o/\o.isCells=true
theorem Cel.same{b:Nat}(h:Cel w b)(hb:w'.heap[b]?=w.heap[b]?):Cel w' b:=by
 obtain⟨o,h1,h2⟩:=h;exact⟨o,hb.trans h1,h2⟩
theorem At.cel{b off:Nat}{cs:List Value}(h:At w b off cs)(h0:0<cs.length):Cel w b:=cells_of_cell (h 0 cs[0] (AI h0))
def ml{α:Type}(K:Kd α):Prop:=∀{w:World} {G:Nat->Prop} {x:α} {cs:List Value},K.rd w G x cs->K.rd w (λb=>G b/\Cel w b) x cs
section
variable{α:Type}{K:Kd α}{w w':World}{G G':Nat->Prop}{xs:List α}{A:Option Addr}{n:Nat}
theorem Sl.cel(hK:ml K)(h:Sl K w G xs A n):Sl K w (λb=>G b/\Cel w b) xs A n:=by
 refine⟨h.1,h.2.1,λh0=>?_⟩;obtain⟨b,off,h1,h2,h3⟩:=h.2.2 h0;refine⟨b,off,h1,⟨h2,?_⟩,λj x hx=>?_⟩
 ·have hl:0<xs.length:=by rw[h.1];exact h0
  obtain⟨cs,h4,h5⟩:=h3 0 xs[0] (AI hl);exact h5.cel (by rw[K.len h4];exact K.pos)
 ·obtain⟨cs,h4,h5⟩:=h3 j x hx;exact⟨cs,hK h4,h5⟩
theorem Sl.aN(hK:ml K)(hk:∀b,G b->Cel w b->G' b/\w'.heap[b]?=w.heap[b]?)(h:Sl K w G xs A n):Sl K w' G' xs A n:=(h.cel hK).aA λb hb=>hk b hb.1 hb.2
theorem Vec.aN{E:TypeId}{base:Nat}{Z:Nat->Prop}(hK:ml K)(h:Vec K E base Z w u xs)(hs:w.heap.size<=w'.heap.size)(hb:∀k,NG base Z w k->Cel w k->w'.heap[k]?=w.heap[k]?):Vec K E base Z w' u xs:=by
 obtain⟨hp,css,h1,h2,h3⟩:=h;refine⟨hp,css,⟨h1.1,?_⟩,h2,λj x cs hx hc=>K.aA (λb hG=>⟨⟨hG.1.1.mono hs,hG.1.2⟩,hb b hG.1.1 hG.2⟩) (hK (h3 j x cs hx hc))⟩;rcases h1.2 with hn|⟨g,cap,cur,rfl,hbg,hgg,rest⟩
 ·exact .inl hn
 ·exact .inr ⟨g,cap,cur,rfl,hbg,(hb g ⟨(h1.lt g rfl).1,(h1.lt g rfl).2,hp g rfl⟩ ⟨_,hgg,rfl⟩).trans hgg,rest⟩
end
theorem pa:ml ea:=λh=>h
theorem xE:ml kEx:=λ{w G x cs} h=>by
 show ExC w _ x cs;induction (show ExC w G x cs from h)with
 |mk k op z nm at_ args A n c f hn hb hA hr ih=>
  refine .mk k op z nm at_ args A n c f hn hb (λh0=>?_) (λj x hx=>ih j x hx (hr j x hx));obtain⟨b,off,h1,h2,h3⟩:=hA h0;exact⟨b,off,h1,⟨h2,(h3 0 h0).cel (by rw[kEx.len (hr 0 _ (AI (by omega)))];decide)⟩,h3⟩
theorem xC:ml kSt:=λ{w G x cs} h=>by
 show StC w _ x cs;induction (show StC w G x cs from h)with
 |mk k nm ex body els A n c A2 n2 c2 A3 n3 c3 f g hx hn hb hA hr hn3 hb3 hA3 hr3 ih ih3=>
  refine .mk k nm ex body els A n c A2 n2 c2 A3 n3 c3 f g (hx.cel xE) hn hb (λh0=>?_) (λj x hx=>ih j x hx (hr j x hx)) hn3 hb3 (λh0=>?_) (λj x hx=>ih3 j x hx (hr3 j x hx))
  ·obtain⟨b,off,h1,h2,h3⟩:=hA h0;exact⟨b,off,h1,⟨h2,(h3 0 h0).cel (by rw[kSt.len (hr 0 _ (AI (by omega)))];decide)⟩,h3⟩
  ·obtain⟨b,off,h1,h2,h3⟩:=hA3 h0;exact⟨b,off,h1,⟨h2,(h3 0 h0).cel (by rw[kSt.len (hr3 0 _ (AI (by omega)))];decide)⟩,h3⟩
theorem xD:ml kMe:=λh=>by
 obtain⟨A,n,c,A2,n2,c2,rfl,h1,h2⟩:=h;exact⟨A,n,c,A2,n2,c2,rfl,h1.cel pa,h2.cel xC⟩
theorem rK:ml kCl:=λh=>by
 obtain⟨A,n,c,A2,n2,c2,rfl,h1,h2⟩:=h;exact⟨A,n,c,A2,n2,c2,rfl,h1.cel pa,h2.cel xD⟩
def qN:Kd Int where
 sz:=1
 pos:=by decide
 rd:=λ_ _ z cs=>cs=[.int .i64 z]
 len:=λh=>by rw[h];rfl
 one:=λh u hu=>by rw[h]at hu;simp at hu;rw[hu];rfl
 aA:=λ_ h=>h
def AdC(w:World)(G:Nat->Prop)(d:Ad)(cs:List Value):Prop:=∃A n c A2 n2 c2,cs=[.int .i64 d.k,.int .i64 d.a,.int .i64 d.b,.string d.nm,.string d.mt,.slice A n c,.slice A2 n2 c2]/\Sl qN w G d.args A n/\Sl qN w G d.surv A2 n2
def kAd:Kd Ad where
 sz:=7
 pos:=by decide
 rd:=AdC
 len:=λh=>by obtain⟨_,_,_,_,_,_,rfl,_⟩:=h;rfl
 one:=λh u hu=>by obtain⟨_,_,_,_,_,_,rfl,_⟩:=h;simp only[AV,AX,BU]at hu;rcases hu with rfl|rfl|rfl|rfl|rfl|rfl|rfl<;>rfl
 aA:=λhk h=>by obtain⟨A,n,c,A2,n2,c2,rfl,h1,h2⟩:=h;exact⟨A,n,c,A2,n2,c2,rfl,h1.aA hk,h2.aA hk⟩
theorem pb:ml qN:=λh=>h
theorem rL:ml kAd:=λh=>by
 obtain⟨A,n,c,A2,n2,c2,rfl,h1,h2⟩:=h;exact⟨A,n,c,A2,n2,c2,rfl,h1.cel pb,h2.cel pb⟩
theorem Sl.ints{A:Option Addr}{zs:List Int}(h:Ints w B A n zs)(hn:n<=1000000)(hL:∀b o,A=some ⟨b,o,none⟩->L<b):Sl qN w (λb=>L<=b/\b<B) zs A n:=by
 refine⟨h.len,AW hn (by decide),λh0=>?_⟩;obtain⟨b,off,h1,h2,h3⟩:=h.2 h0;refine⟨b,off,h1,⟨Be (hL b off h1),h2⟩,λj x hx=>⟨[.int .i64 x],rfl,λi v hv=>?_⟩⟩;cases i with
 |zero=>
  simp at hv;subst hv;have:=h3 j (.int .i64 x) (by rw[Bp,hx];rfl);simpa[qN]using this
 |succ i=>simp at hv
theorem Reads.ad{v:Av}{d:Ad}(h:Reads w B v d)(hn:v.n<=1000000)(hn2:v.n2<=1000000)(hap:v.apart L):kAd.rd w (λb=>L<=b/\b<B) d v.cells.toList:=by
 obtain⟨k,a,b,nm,mt,A,n,c,A2,n2,c2⟩:=v;obtain⟨h1,h2,h3,h4,h5,ha,hs⟩:=h;dsimp only at h1 h2 h3 h4 h5 ha hs hn hn2;subst h1 h2 h3 h4 h5;exact⟨A,n,c,A2,n2,c2,rfl,Sl.ints ha hn hap.1,Sl.ints hs hn2 hap.2⟩
structure Lk(B b:Nat)(w w':World):Prop where
 os:w'.os=w.os
 tape:w'.tape=w.tape
 output:w'.output=w.output
 size:w.heap.size<=w'.heap.size
 block:∀k,k<w.heap.size->k≠b->(B<=k->∀cs fz,w.heap[k]?≠some (.cells cs 48 fz)/\w.heap[k]?≠some (.cells cs 5 fz))->w'.heap[k]?=w.heap[k]?
section
variable{B b:Nat}{w w' w'':World}
theorem Lk.refl(B b:Nat)(w:World):Lk B b w w:=⟨rfl,rfl,rfl,AB _,λ_ _ _ _=>rfl⟩
theorem Lk.trans(h:Lk B b w w')(k:Lk B b w' w''):Lk B b w w'':=
 ⟨k.os.trans h.os,k.tape.trans h.tape,k.output.trans h.output,AW h.size k.size,λi hi hb ht=>by
  have h1:=h.block i hi hb ht;exact(k.block i (AF hi h.size) hb (by rw[h1];exact ht)).trans h1⟩
theorem Lk.of{S:Nat}(h:Below S w w')(hS:w.heap.size<=S):Lk B b w w':=⟨h.os,h.tape,h.output,h.size,λk hk _ _=>h.block k (by omega)⟩
theorem Lk.set(h:Lk B b w w')(i:Nat)(u:Value):Lk B b w (w'.setCell ⟨b,i,none⟩ u):=
 h.trans ⟨rfl,rfl,rfl,by simp[World.setCell],λk hk hp _=>AG _ _ _ _ hp⟩
theorem Lk.grown{row:Option Nat}(h:Lk B b w w')(hg:w'.grownBy w'' row)(hr:∀k,row=some k->B<=k/\∃cs fz,w'.heap[k]?=some (.cells cs 48 fz)\/w'.heap[k]?=some (.cells cs 5 fz)):Lk B b w w'':=
 h.trans ⟨hg.os,hg.tape,hg.output,hg.size,λk hk hp ht=>hg.block k hk (λe=>by
  obtain⟨h1,cs,fz,h2⟩:=hr k e.symm;rcases h2 with h2|h2
  ·exact(ht h1 cs fz).1 h2
  ·exact(ht h1 cs fz).2 h2)⟩
theorem Lk.below{S:Nat}(h:Lk B b w w')(hS:S<=B)(hb:S<=b)(hw:S<=w.heap.size):Below S w w':=⟨h.os,h.tape,h.output,h.size,λk hk=>h.block k (by omega) (by omega) (by omega)⟩
end
theorem iN{sz:Nat}{E:TypeId}{bs:List Value}(h:w.ownsRow B E sz u n bs)(hb:∀k,B<=k->k<w.heap.size->Cel w k->w'.heap[k]?=w.heap[k]?):w'.ownsRow B E sz u n bs:=by
 refine⟨h.1,?_⟩;rcases h.2 with hn|⟨g,cap,cur,rfl,hbg,hgg,rest⟩
 ·exact .inl hn
 ·exact .inr ⟨g,cap,cur,rfl,hbg,(hb g hbg (h.lt g rfl).2 ⟨_,hgg,rfl⟩).trans hgg,rest⟩
def RdP(w:World)(B b:Nat)(x:Sc):Ph->Prop
 | .conf k=>Blk w b 60 #[.int .i64 x.m,.int .u64 x.sd,.int .i64 x.y,.slice none 0 0,.slice none 0 0,.int .i64 (k:Int),.pointer none,.slice none 0 0,.int .i64 0]/\x.cs=[]/\x.ac=[]/\k<=3
 | .src a f=>∃sa sv,Blk w b 60 #[.int .i64 x.m,.int .u64 x.sd,.int .i64 x.y,.slice none 0 0,.slice none 0 0,.int .i64 4,sa,sv,.int .i64 (f:Int)]/\(sa= .pointer none\/sa= .pointer (some ⟨b,6,none⟩))/\w.ownsRow B 5 1 sv a.length (Lib.byteCells a)/\(a=[]->sv= .slice none 0 0)/\x.cs=[]/\x.ac=[]
 | .acts=>∃A n c u sa sv f,Blk w b 60 #[.int .i64 x.m,.int .u64 x.sd,.int .i64 x.y,.slice A n c,u,.int .i64 5,sa,sv,.int .i64 f]/\Sl kCl w (λg=>NG B noZ w g/\u.ownBlock≠some g) x.cs A n/\Vec kAd 48 B noZ w u x.ac
theorem RdP.aN{b:Nat}{x:Sc}{p:Ph}(h:RdP w B b x p)(hs:w.heap.size<=w'.heap.size)(hb:∀k,k=b\/B<=k->k<w.heap.size->Cel w k->w'.heap[k]?=w.heap[k]?):RdP w' B b x p:=by
 have hblk:∀{cs:Array Value},Blk w b 60 cs->Blk w' b 60 cs:=λhq=>(hb b (.inl rfl) hq.lt ⟨_,hq,rfl⟩).trans hq;cases p with
 |conf k=>exact⟨hblk h.1,h.2⟩
 |src a f=>
  obtain⟨sa,sv,h1,h2,h3,h4⟩:=h;exact⟨sa,sv,hblk h1,h2,iN h3 (λk hk hl hc=>hb k (.inr hk) hl hc),h4⟩
 |acts=>
  obtain⟨A,n,c,u,sa,sv,f,h1,h2,h3⟩:=h;exact⟨A,n,c,u,sa,sv,f,hblk h1,h2.aN rK (λg hg hc=>⟨⟨hg.1.mono hs,hg.2⟩,hb g (.inr hg.1.1) hg.1.2.1 hc⟩),h3.aN rL hs (λg hg hc=>hb g (.inr hg.1) hg.2.1 hc)⟩
theorem RdP.below{b S:Nat}{x:Sc}{p:Ph}(h:RdP w B b x p)(hb:Below S w w')(hS:w.heap.size<=S):RdP w' B b x p:=h.aN hb.size λk _ hk _=>hb.block k (by omega)
theorem za{u:Nat}(h1:1<=u)(h:U64 u):Lib.nDigits u<=20:=by
 have:=Lib.numDigits_eq u h1 h;split at this<;>omega
theorem vC(u:Nat)(hu:U64 u)(w:World)(hg:Gl w):Calls Tryz.prog 65 #[.int .u64 u,.int .i64 10] w λe w'=>e= .returned (.string (cr u))/\Below w.heap.size w w':=by
 have htab:=GlB.tab hg;clear hg;by_cases hs:u<100
 ·have hcv:IntKind.i64.wrap (u:Int)=u:=AY _ (by omega);have hsz:(u:Int)<100:=by omega
  have HC:=H_ (show∀W,Calls Tryz.prog 108 #[.int .i64 u] W λe w'=>e= .returned (.string (cr u))/\w'=W from λW=>Any.internal_strconv_small {Tryz.laysM173 with} u hs W);clear htab hu;go_enter Tryz.func65,Tryz.ntmps65;go_wp2_with (go_at_call 108;refine(HC.out _).mono ?_;rintro e w' ⟨rfl,rfl⟩);go_ret;exact⟨rfl,AC _ _⟩
 ·have hu1:1<=u:=by omega
  have hnd20:=za hu1 hu;have hsz:¬((u:Int)<100):=by omega
  have hal:Tryz.prog.arrayLen 183=24:=by kernel_rfl
  have hsl1:∀W,(Instr.sliceAt 183 (.pointer (some ⟨w.heap.size,0,none⟩)) none (some (.int .i64 (Lib.nDigits u:Int))) none).run Tryz.prog W= .ok (.slice (some ⟨w.heap.size,0,none⟩) (Lib.nDigits u) 24) W:=λW=>by
   rw[run_sliceAt_array_h W 183 ⟨w.heap.size,0,none⟩ (by kernel_rfl) .i64 (Lib.nDigits u:Int) (by omega) (by rw[hal];omega)];go_simp
  have hH0:=Lib.holds_zero0 w 183 (Lib.nDigits u) (by omega);have HD:=H_ (show∀W,Lib.TabIs Tryz.prog W "internal/strconv.uint64pow10" .u64 Lib.pow10Tab->Calls Tryz.prog 109 #[.int .u64 u] W λe w'=>e= .returned (.int .i64 (Lib.nDigits u))/\w'=W from λW hW=>Any.internal_strconv_numDigits {Tryz.laysM173 with} u hu1 hu W hW);have hfmt:=(show Calls Tryz.prog 110 #[.slice (some ⟨w.heap.size,0,none⟩) (Array.replicate (Lib.nDigits u) (0:UInt8)).size 24,.int .u64 u] (w.alloc (.cells Lib.zeros24 183)) _ from Any.internal_strconv_formatBase10 {Tryz.laysM173 with} w.heap.size 0 24 u (Array.replicate (Lib.nDigits u) 0) (w.alloc (.cells Lib.zeros24 183)) hH0 (by rw[Array.size_replicate];exact Lib.lt_pow_nDigits u) hu (by rw[Array.size_replicate];omega));rw[Array.size_replicate]at hfmt;have HH0:=H_ hH0;have HF:=H_ hfmt;have HT:=H_ (Lib.tabIs_alloc htab (.cells Lib.zeros24 183));clear hH0 hal hfmt htab;go_enter Tryz.func65,Tryz.ntmps65;go_wp2_with (go_at_call 109;refine(HD.out _ HT.out).mono ?_;rintro e w' ⟨rfl,rfl⟩);refine HF.out.mono ?_;rintro e w' ⟨rfl,k,v',dk,rfl,hF⟩
  have hcv:(convert 51 9 (.slice (some ⟨w.heap.size,0,none⟩) (Lib.nDigits u) 24)).run Tryz.prog ((Go.Sort.putRow (λ(b:UInt8)=>Value.int .u8 (b.toNat:Int)) (w.alloc (.cells Lib.zeros24 183)) w.heap.size 0 dk).drewN k)= .ok (.string (cr u)) ((Go.Sort.putRow (λ(b:UInt8)=>Value.int .u8 (b.toNat:Int)) (w.alloc (.cells Lib.zeros24 183)) w.heap.size 0 dk).drewN k):=by
   have h:=run_convert_bytes_back (P:=Tryz.prog) ((Go.Sort.putRow (λ(b:UInt8)=>Value.int .u8 (b.toNat:Int)) (w.alloc (.cells Lib.zeros24 183)) w.heap.size 0 dk).drewN k) 51 9 5 ⟨w.heap.size,0,none⟩ 24 (Lib.decDigits u) Tryz.underlying51 Tryz.underlying5 Tryz.underlying9 (λj hj=>by
    rw[Lib.row_is_numeral hF j hj,Lib.add_plain,World.cell?_drewN];exact Go.Sort.cell?_putRow (λ(b:UInt8)=>Value.int .u8 (b.toNat:Int)) _ w.heap.size 0 _ dk HH0.out (by rw[hF.size,Array.size_replicate]) j (by rw[hF.size];rw[Lib.decDigits_length]at hj;exact hj))
   rw[Lib.decDigits_length]at h;exact h
  go_wp2_with fail;go_ret;obtain⟨os,eo⟩:=Lib.fin_at w (.cells Lib.zeros24 183) dk k 0;exact⟨rfl,by rw[eo];exact Lib.below_grow _ w (AB _) k os⟩
theorem vD(u:Nat)(hu:U64 u)(w:World)(hg:Gl w):Calls Tryz.prog 33 #[.int .u64 u,.int .i64 10] w λe w'=>e= .returned (.string (cr u))/\Below w.heap.size w w':=by
 have H:=H_ (vC u hu w hg);clear hg;go_enter Tryz.func33,Tryz.ntmps33;go_wp2_with fail;refine H.out.mono ?_;rintro e w' ⟨rfl,b1⟩;go_wp2_with fail;go_ret;exact⟨rfl,b1⟩
theorem oP(s:ByteArray)(u:Nat)(w:World)(hs:s.size<=1000000)(h:Lib.parseUintB 64 s.data.toList= .ok u):
 Calls Tryz.prog 84 #[.string s,.int .i64 10,.int .i64 64] w λe w'=>e= .returned (.tuple #[.int .u64 u,.nilIface])/\Below w.heap.size w w':=
 (Tryz.strconv_ParseUint_10_at64_ok s (by omega) u h w).mono λe w' ⟨h1,h2⟩=>⟨h1,by
   rcases h2 with rfl|rfl
   ·exact AC _ _
   ·exact Lib.bytesWorld_below w 5 s⟩
theorem kh(s:ByteArray)(w:World)(hg:Gl w)(hs:s.size<=1000000)(h:∀v,Lib.parseUintB 64 s.data.toList≠ .ok v):
 Calls Tryz.prog 84 #[.string s,.int .i64 10,.int .i64 64] w λe w'=>∃(z:Int) (N:Nat),e= .returned (.tuple #[.int .u64 z,.iface 241 (.pointer (some ⟨N,0,none⟩))])/\Below w.heap.size w w':=by
 rcases hp:Lib.parseUintB 64 s.data.toList with v|_|_
 ·exact absurd hp (h v)
 ·obtain⟨tp,p,e1⟩:=GlB.syn hg;exact(Tryz.strconv_ParseUint_10_at64_syntax_var s (by omega) (hp.trans rfl) tp p w e1).mono λe w' ⟨N,h1,_,_,h2⟩=>⟨_,N,h1,h2⟩
 ·obtain⟨tp,p,e1⟩:=GlB.rng hg;exact(Tryz.strconv_ParseUint_10_at64_range_var s (by omega) hp tp p w e1).mono λe w' ⟨N,h1,_,_,h2⟩=>⟨_,N,h1,h2⟩
theorem qQ{l:List UInt8}(h:32∉l):Lib.index l [32]= -1:=by
 rw[Lib.index_one];induction l with
 |nil=>rfl
 |cons c l ih=>
  rw[AV,not_or]at h;simp only[Lib.indexByte,ih h.2];rw[AL (by simpa using Ne.symm h.1)];rfl
theorem zF(l:List UInt8):(Lib.cut l [32]=(l,[],false)/\32∉l)\/∃a b,l=a++32::b/\32∉a/\Lib.cut l [32]=(a,b,true):=by
 by_cases h:32∈l
 ·obtain⟨a,b,rfl,ha⟩:=List.eq_append_cons_of_mem h;refine .inr ⟨a,b,rfl,ha,?_⟩;unfold Lib.cut;rw[jf 32 a b (λc hc e=>ha (e▸hc)),AP (by simp)];simp
 ·refine .inl ⟨?_,h⟩;unfold Lib.cut;rw[qQ h];rfl
theorem jA{b c d:List UInt8}(ha:32∉a)(hc:32∉c)(h:a++32::b=c++32::d):a=c/\b=d:=by
 have h1:=jf 32 a b (λx hx e=>ha (e▸hx));have h2:=jf 32 c d (λx hx e=>hc (e▸hx));rw[h,h2]at h1;have hl:=Int.ofNat.inj h1;obtain⟨h3,h4⟩:=List.append_inj h hl.symm;exact⟨h3,(List.cons.inj h4).2⟩
theorem fI:∀k:Nat,32∉(fJ k).data.toList
 |0=>by decide
 |1=>by decide
 |_+2=>(by decide:32∉([121,111,117,110,103]:List UInt8))
theorem vW{b:List UInt8}(hl:l.data.toList=a++32::b)(ha:32∉a)(h:IsConf k l n):a=(fJ k).data.toList/\b=Lib.decDigits n:=
 jA ha (fI k) (hl.symm.trans h.2.1)
theorem xU(h:IsConf k l n):32∈l.data.toList:=by rw[h.2.1];simp
theorem iC(m sd y:Int)(w:World):Calls Tryz.prog 61 #[.agg #[.int .i64 m,.int .u64 sd,.int .i64 y]] w λe w'=>e= .returned (.bool (decide (1<=m/\m<=8/\0<=y/\y<=1099511627776)))/\Below w.heap.size w w':=by
 have hq:=Blk.new w 25 #[.int .i64 m,.int .u64 sd,.int .i64 y];have q0:=hq.cell 0;have q2:=hq.cell 2;have hb:=H_ ((AC w.heap.size w).alloc (AB _) (.cells #[.int .i64 m,.int .u64 sd,.int .i64 y] 25));clear hq;by_cases h1:1<=m
 ·by_cases h2:m<=8
  ·by_cases h3:0<=y
   ·by_cases h4:y<=1099511627776
    ·have hd:decide (1<=m/\m<=8/\0<=y/\y<=1099511627776)=true:=BJ ⟨h1,h2,h3,h4⟩;rw[hd];clear hd;go_enter Tryz.func61,Tryz.ntmps61;go_wp2_with fail;go_ret;exact⟨rfl,hb.out⟩
    ·have hd:decide (1<=m/\m<=8/\0<=y/\y<=1099511627776)=false:=Bg λh=>h4 h.2.2.2;rw[hd];clear hd;go_enter Tryz.func61,Tryz.ntmps61;go_wp2_with fail;go_ret;exact⟨rfl,hb.out⟩
   ·have hd:decide (1<=m/\m<=8/\0<=y/\y<=1099511627776)=false:=Bg λh=>h3 h.2.2.1;rw[hd];clear hd;go_enter Tryz.func61,Tryz.ntmps61;go_wp2_with fail;go_ret;exact⟨rfl,hb.out⟩
  ·have hd:decide (1<=m/\m<=8/\0<=y/\y<=1099511627776)=false:=Bg λh=>h2 h.2.1;rw[hd];clear hd;go_enter Tryz.func61,Tryz.ntmps61;go_wp2_with fail;go_ret;exact⟨rfl,hb.out⟩
 ·have hd:decide (1<=m/\m<=8/\0<=y/\y<=1099511627776)=false:=Bg λh=>h1 h.1;rw[hd];clear hd;go_enter Tryz.func61,Tryz.ntmps61;go_wp2_with fail;go_ret;exact⟨rfl,hb.out⟩
def An(k:Nat)(l:ByteArray)(B b:Nat)(x:Sc)(w:World)(e:Ending)(w':World):Prop:=Lk B b w w'/\
 ((bU k l=none/\e= .returned (.bool false)/\∃x',RdP w' B b x' (.conf k))\/∃v,bU k l=some v/\e= .returned (.bool true)/\RdP w' B b (x.set k v) (.conf k))
--walk of configuration
theorem y8(p:ByteArray):(⟨p.data.toList.toArray⟩:ByteArray)=p:=by rw[Array.toArray_toList]
theorem yu(l p q:ByteArray)(ok:Bool)(w:World)(hg:Gl w)(hl:l.size<=100000)(h:Lib.cut l.data.toList [32]=(p.data.toList,q.data.toList,ok)):
 Calls Tryz.prog 83 #[.string l,.string ⟨#[32]⟩] w λe w'=>e= .returned (.tuple #[.string p,.string q,.bool ok])/\Below w.heap.size w w':=by
 obtain⟨m,hm⟩:=hg.mx;refine(Tryz.strings_Cut l ⟨#[32]⟩ m w (by omega) hm).mono ?_;rintro e w' ⟨rfl,n,rfl⟩;rw[show((⟨#[32]⟩:ByteArray).data.toList)=[32]from rfl,h];exact⟨by simp only[y8],aZ (AC _ _) n⟩
theorem gX{u:Nat}{q:ByteArray}(hu:U64 u)(hl:l.data.toList=(fJ k).data.toList++32::q.data.toList)(hq:cr u=q):(fV k u->bU k l=some u)/\(¬fV k u->bU k l=none):=by
 have hq':q.data.toList=Lib.decDigits u:=by rw[<-hq];rfl
 refine⟨λh=>qZ ⟨hu,by rw[hl,hq'],h⟩,λh=>cv λn hn=>h ?_⟩;have h1:=(jA (fI k) (fI k) (hl.symm.trans hn.2.1)).2;rw[hq']at h1;have h2:u=n:=by rw[<-gr u,<-gr n,h1]
 rw[h2];exact hn.2.2
theorem Lk.far{b:Nat}{p:Addr}(h:Lk B b w w')(hp:w.heap.size<=p.block)(u:Value):Lk B b w (w'.setCell p u):=
 ⟨h.os,h.tape,h.output,by simp[World.setCell];exact h.size,λk hk hb ht=>(AG _ _ _ _ (by omega)).trans (h.block k hk hb ht)⟩
theorem vU(k:Nat)(hk:k<3)(l:ByteArray)(w:World)(B b:Nat)(x:Sc)(hg:Gl w)(hr:RdP w B b x (.conf k))(hbB:b<B)(hBw:B<=w.heap.size)(hl:l.size<=100000):
 Calls Tryz.prog 48 #[.pointer (some ⟨b,0,none⟩),.string l] w (An k l B b x w):=by
 have HR:=H_ hr;have HG:=H_ hg;rcases zF l.data.toList with⟨hc,hno⟩|⟨a,t,hlt,ha,hc⟩
 ·have HC:=H_ (yu l l ⟨#[]⟩ false w hg hl hc);have HN:=H_ (show bU k l=none from cv λn h=>hno (xU h));have HP:=H_ (λW (hW:Gl W)=>kh ⟨#[]⟩ W hW (by decide) (λv h=>by cases h));clear hc hno hr hg;go_enter Tryz.func48,Tryz.ntmps48;go_wp2_with fail;refine HC.out.mono ?_;rintro e w1 ⟨rfl,b1⟩;go_wp2_with fail;refine(HP.out w1 (HG.out.below b1)).mono ?_;rintro e w2 ⟨z,N,rfl,b2⟩;go_wp2_with fail;go_ret;have hb:=b1.trans (b2.mono b1.size);exact⟨Lk.of hb (AB _),.inl ⟨HN.out,rfl,x,HR.out.below hb (AB _)⟩⟩
 obtain⟨p,hp⟩:∃p:ByteArray,p.data.toList=a:=⟨⟨a.toArray⟩,rfl⟩;obtain⟨q,hq⟩:∃q:ByteArray,q.data.toList=t:=⟨⟨t.toArray⟩,rfl⟩;subst hp hq
 have hqs:q.size<=100000:=by
  have h1:l.size=l.data.toList.length:=rfl;have h2:q.size=q.data.toList.length:=rfl;rw[hlt,AT,AZ]at h1;omega
 have HC:=H_ (yu l p q true w hg hl hc);have HU:=H_ (λn (h:IsConf k l n)=>vW hlt ha h);have HL:=H_ hlt;clear hc ha hlt hg;by_cases hu:∃u,Lib.parseUintB 64 q.data.toList= .ok u
 rotate_left
 ·have HN:=H_ (cv λn h=>hu ⟨n,by rw[(HU.out n h).2];exact kI n h.1⟩);have HP:=H_ (λW (hW:Gl W)=>kh q W hW (by omega) (λv h=>hu ⟨v,h⟩));clear hr hu;go_enter Tryz.func48,Tryz.ntmps48;go_wp2_with fail;refine HC.out.mono ?_;rintro e w1 ⟨rfl,b1⟩;go_wp2_with fail;refine(HP.out w1 (HG.out.below b1)).mono ?_;rintro e w2 ⟨z,N,rfl,b2⟩;go_wp2_with fail;go_ret;have hb:=b1.trans (b2.mono b1.size);exact⟨Lk.of hb (AB _),.inl ⟨HN.out,rfl,x,HR.out.below hb (AB _)⟩⟩
 obtain⟨u,hu⟩:=hu;have hu64:U64 u:=Lib.parseMag_lt (by rw[<-Lib.parseUintB_64];exact hu);have HP:=H_ (λW=>oP q u W (by omega) hu);have HF:=H_ (λW (hW:Gl W)=>vD u hu64 W hW);have HQ:=H_ hu;have HV:=H_ hu64;clear hu;by_cases hf:cr u=q
 rotate_left
 ·have HN:=H_ (show bU k l=none from cv λn h=>hf (by
   have h1:=(HU.out n h).2;have h2:=HQ.out;rw[h1,kI n h.1]at h2;cases h2;exact AN h1.symm))
  have hne:=AD.2 λe=>hf (cQ e);clear hr hf;go_enter Tryz.func48,Tryz.ntmps48;go_wp2_with fail;refine HC.out.mono ?_;rintro e w1 ⟨rfl,b1⟩;go_wp2_with fail;refine(HP.out w1).mono ?_;rintro e w2 ⟨rfl,b2⟩;go_wp2_with fail;have hb2:=b1.trans (b2.mono b1.size);refine(HF.out w2 (HG.out.below hb2)).mono ?_;rintro e w3 ⟨rfl,b3⟩;go_wp2_with fail;go_ret;have hb:=hb2.trans (b3.mono hb2.size);exact⟨Lk.of hb (AB _),.inl ⟨HN.out,rfl,x,HR.out.below hb (AB _)⟩⟩
 have heq:((cr u).toList==q.toList)=true:=CE.2 (by rw[hf]);have HT:=H_ hf;clear hf HQ;obtain⟨hbk,hcs,has,_⟩:=hr;have HB:=H_ hbk;have HX:=H_ (And.intro hcs has);clear hbk hcs has;obtain rfl|rfl|rfl:k=0\/k=1\/k=2:=by omega
 ·by_cases hw:p=⟨#[109,97,99,104,105,110,101,115]⟩
  rotate_left
  ·have HN:=H_ (cv λn h=>hw (AN (HU.out n h).1));have hne:(p.toList==[109,97,99,104,105,110,101,115])=false:=AD.2 λe=>hw (cQ (e.trans (Bf (⟨#[109,97,99,104,105,110,101,115]⟩:ByteArray)).symm));clear hw;go_enter Tryz.func48,Tryz.ntmps48;go_wp2_with fail;refine HC.out.mono ?_;rintro e w1 ⟨rfl,b1⟩;go_wp2_with fail;refine(HP.out w1).mono ?_;rintro e w2 ⟨rfl,b2⟩;go_wp2_with fail;have hb2:=b1.trans (b2.mono b1.size);refine(HF.out w2 (HG.out.below hb2)).mono ?_;rintro e w3 ⟨rfl,b3⟩;have hb3:=hb2.trans (b3.mono hb2.size);clear b1 b2 b3 hb2;have hr3:w3.cell? ⟨b,5,none⟩=some (.int .i64 0):=(a8 hb3 (HB.out.lt) 5).trans (HB.out.cell 5);have qn:=Blk.new w3 9 #[.string ⟨#[109,97,99,104,105,110,101,115]⟩,.string ⟨#[115,101,101,100]⟩,.string ⟨#[121,111,117,110,103]⟩];have qk:=qn.cell 0;have hb4:=H_ (hb3.alloc hb3.size (.cells #[.string ⟨#[109,97,99,104,105,110,101,115]⟩,.string ⟨#[115,101,101,100]⟩,.string ⟨#[121,111,117,110,103]⟩] 9));have hr4:(w3.alloc (.cells #[.string ⟨#[109,97,99,104,105,110,101,115]⟩,.string ⟨#[115,101,101,100]⟩,.string ⟨#[121,111,117,110,103]⟩] 9)).cell? ⟨b,5,none⟩=some (.int .i64 0):=(a8 hb4.out HB.out.lt 5).trans (HB.out.cell 5);clear qn hb3;go_wp2_with fail;go_ret;exact⟨Lk.of hb4.out (AB _),.inl ⟨HN.out,rfl,x,HR.out.below hb4.out (AB _)⟩⟩
  subst hw;have heqw:((⟨#[109,97,99,104,105,110,101,115]⟩:ByteArray).toList==[109,97,99,104,105,110,101,115])=true:=by rw[Bf];rfl
  go_enter Tryz.func48,Tryz.ntmps48;go_wp2_with fail;refine HC.out.mono ?_;rintro e w1 ⟨rfl,b1⟩;go_wp2_with fail;refine(HP.out w1).mono ?_;rintro e w2 ⟨rfl,b2⟩;go_wp2_with fail;have hb2:=b1.trans (b2.mono b1.size);refine(HF.out w2 (HG.out.below hb2)).mono ?_;rintro e w3 ⟨rfl,b3⟩;have hb3:=hb2.trans (b3.mono hb2.size);clear b1 b2 b3 hb2;have hr3:w3.cell? ⟨b,5,none⟩=some (.int .i64 0):=(a8 hb3 (HB.out.lt) 5).trans (HB.out.cell 5);have qn:=Blk.new w3 9 #[.string ⟨#[109,97,99,104,105,110,101,115]⟩,.string ⟨#[115,101,101,100]⟩,.string ⟨#[121,111,117,110,103]⟩];have qk:=qn.cell 0;have hb4:=H_ (hb3.alloc hb3.size (.cells #[.string ⟨#[109,97,99,104,105,110,101,115]⟩,.string ⟨#[115,101,101,100]⟩,.string ⟨#[121,111,117,110,103]⟩] 9));have hr4:(w3.alloc (.cells #[.string ⟨#[109,97,99,104,105,110,101,115]⟩,.string ⟨#[115,101,101,100]⟩,.string ⟨#[121,111,117,110,103]⟩] 9)).cell? ⟨b,5,none⟩=some (.int .i64 0):=(a8 hb4.out HB.out.lt 5).trans (HB.out.cell 5);clear qn hb3;have hq4:=hb4.out.size;obtain⟨w4,hw4⟩:=nm_ (w3.alloc (.cells #[.string ⟨#[109,97,99,104,105,110,101,115]⟩,.string ⟨#[115,101,101,100]⟩,.string ⟨#[121,111,117,110,103]⟩] 9));rw[hw4]at hb4 hr4 hq4 qk;go_upto_region 6 with fail;obtain⟨c,hcz⟩:=nm_ (w4.heap.size);obtain⟨w5,hw5⟩:=nm_ (w4.alloc (.cells #[.int .i64 1,.int .u64 0,.int .i64 0] 25));have hcs:w3.heap.size+1=c:=by rw[<-hcz,<-hw4];simp
  have HC5:=hng hw5 hcz;have HB5:=H_ (show Below w.heap.size w w5 from hw5▸hb4.out.alloc hb4.out.size _);rw[hw5]
  (try rw[hcz])
  (try rw[hcs])
  have hbc:b<c:=by have:=HB.out.lt;omega
  have HQ5:=H_ (HB.out.below HB5.out HB.out.lt);clear hw4 hw5 hb4 hr4 qk hr3;have q0:=HQ5.out.cell 0;have q1:=HQ5.out.cell 1;have q2:=HQ5.out.cell 2;have q5:=HQ5.out.cell 5;obtain⟨f0,f1,f2⟩:=HQ5.out.f3;have d0:=HC5.out.cell 0;have d1:=HC5.out.cell 1;have d2:=HC5.out.cell 2;have e0:=HC5.out.frozen 0;have e2:=HC5.out.frozen 2;go_wp2_with fail;by_cases hv:1<=u/\u<=8
  ·refine(iC _ _ _ _).mono ?_;rintro e w6 ⟨he,b6⟩;rw[BJ (by omega)]at he;subst he;have HL6:=H_ ((((Lk.of HB5.out (AB _)).set 0 (.int .i64 (min (u:Int) 1099511627776))).far (p:=⟨c,0,none⟩) (by show w.heap.size<=c;omega) (.int .i64 (min (u:Int) 1099511627776))).trans (Lk.of (B:=B) (b:=b) b6 (AB _)));have hq6:=((HQ5.out.set 0 (.int .i64 (min (u:Int) 1099511627776))).other ⟨c,0,none⟩ (.int .i64 (min (u:Int) 1099511627776)) (by show b≠c;omega)).below b6 (by have:=HQ5.out.lt;simp[World.setCell];omega);simp only[Bw,Cc,Cb]at hq6;have HR6:=H_ (show RdP w6 B b {x with m:=(min (u:Int) 1099511627776)} (.conf 0)from⟨hq6,HX.out.1,HX.out.2,by omega⟩);clear b6 hq6 q0 q1 q2 q5 f0 f1 f2 d0 d1 d2 e0 e2;go_wp2_with fail;go_ret;have hok:fV 0 u:=⟨λ_=>hv,λh=>absurd h (by decide)⟩;have hmin:(min (u:Int) 1099511627776)=(u:Int):=by omega
   have hr6:=HR6.out;rw[hmin]at hr6;exact⟨HL6.out,.inr ⟨u,(gX (k:=0) HV.out HL.out HT.out).1 hok,rfl,hr6⟩⟩
  ·refine(iC _ _ _ _).mono ?_;rintro e w6 ⟨he,b6⟩;rw[Bg (by omega)]at he;subst he;have HL6:=H_ ((((Lk.of HB5.out (AB _)).set 0 (.int .i64 (min (u:Int) 1099511627776))).far (p:=⟨c,0,none⟩) (by show w.heap.size<=c;omega) (.int .i64 (min (u:Int) 1099511627776))).trans (Lk.of (B:=B) (b:=b) b6 (AB _)));have hq6:=((HQ5.out.set 0 (.int .i64 (min (u:Int) 1099511627776))).other ⟨c,0,none⟩ (.int .i64 (min (u:Int) 1099511627776)) (by show b≠c;omega)).below b6 (by have:=HQ5.out.lt;simp[World.setCell];omega);simp only[Bw,Cc,Cb]at hq6;have HR6:=H_ (show RdP w6 B b {x with m:=(min (u:Int) 1099511627776)} (.conf 0)from⟨hq6,HX.out.1,HX.out.2,by omega⟩);clear b6 hq6 q0 q1 q2 q5 f0 f1 f2 d0 d1 d2 e0 e2;go_wp2_with fail;go_ret;exact⟨HL6.out,.inl ⟨(gX (k:=0) HV.out HL.out HT.out).2 λh=>hv (h.1 rfl),rfl,_,HR6.out⟩⟩
 ·by_cases hw:p=⟨#[115,101,101,100]⟩
  rotate_left
  ·have HN:=H_ (cv λn h=>hw (AN (HU.out n h).1));have hne:(p.toList==[115,101,101,100])=false:=AD.2 λe=>hw (cQ (e.trans (Bf (⟨#[115,101,101,100]⟩:ByteArray)).symm));clear hw;go_enter Tryz.func48,Tryz.ntmps48;go_wp2_with fail;refine HC.out.mono ?_;rintro e w1 ⟨rfl,b1⟩;go_wp2_with fail;refine(HP.out w1).mono ?_;rintro e w2 ⟨rfl,b2⟩;go_wp2_with fail;have hb2:=b1.trans (b2.mono b1.size);refine(HF.out w2 (HG.out.below hb2)).mono ?_;rintro e w3 ⟨rfl,b3⟩;have hb3:=hb2.trans (b3.mono hb2.size);clear b1 b2 b3 hb2;have hr3:w3.cell? ⟨b,5,none⟩=some (.int .i64 1):=(a8 hb3 (HB.out.lt) 5).trans (HB.out.cell 5);have qn:=Blk.new w3 9 #[.string ⟨#[109,97,99,104,105,110,101,115]⟩,.string ⟨#[115,101,101,100]⟩,.string ⟨#[121,111,117,110,103]⟩];have qk:=qn.cell 1;have hb4:=H_ (hb3.alloc hb3.size (.cells #[.string ⟨#[109,97,99,104,105,110,101,115]⟩,.string ⟨#[115,101,101,100]⟩,.string ⟨#[121,111,117,110,103]⟩] 9));have hr4:(w3.alloc (.cells #[.string ⟨#[109,97,99,104,105,110,101,115]⟩,.string ⟨#[115,101,101,100]⟩,.string ⟨#[121,111,117,110,103]⟩] 9)).cell? ⟨b,5,none⟩=some (.int .i64 1):=(a8 hb4.out HB.out.lt 5).trans (HB.out.cell 5);clear qn hb3;go_wp2_with fail;go_ret;exact⟨Lk.of hb4.out (AB _),.inl ⟨HN.out,rfl,x,HR.out.below hb4.out (AB _)⟩⟩
  subst hw;have heqw:((⟨#[115,101,101,100]⟩:ByteArray).toList==[115,101,101,100])=true:=by rw[Bf];rfl
  go_enter Tryz.func48,Tryz.ntmps48;go_wp2_with fail;refine HC.out.mono ?_;rintro e w1 ⟨rfl,b1⟩;go_wp2_with fail;refine(HP.out w1).mono ?_;rintro e w2 ⟨rfl,b2⟩;go_wp2_with fail;have hb2:=b1.trans (b2.mono b1.size);refine(HF.out w2 (HG.out.below hb2)).mono ?_;rintro e w3 ⟨rfl,b3⟩;have hb3:=hb2.trans (b3.mono hb2.size);clear b1 b2 b3 hb2;have hr3:w3.cell? ⟨b,5,none⟩=some (.int .i64 1):=(a8 hb3 (HB.out.lt) 5).trans (HB.out.cell 5);have qn:=Blk.new w3 9 #[.string ⟨#[109,97,99,104,105,110,101,115]⟩,.string ⟨#[115,101,101,100]⟩,.string ⟨#[121,111,117,110,103]⟩];have qk:=qn.cell 1;have hb4:=H_ (hb3.alloc hb3.size (.cells #[.string ⟨#[109,97,99,104,105,110,101,115]⟩,.string ⟨#[115,101,101,100]⟩,.string ⟨#[121,111,117,110,103]⟩] 9));have hr4:(w3.alloc (.cells #[.string ⟨#[109,97,99,104,105,110,101,115]⟩,.string ⟨#[115,101,101,100]⟩,.string ⟨#[121,111,117,110,103]⟩] 9)).cell? ⟨b,5,none⟩=some (.int .i64 1):=(a8 hb4.out HB.out.lt 5).trans (HB.out.cell 5);clear qn hb3;have hq4:=hb4.out.size;obtain⟨w4,hw4⟩:=nm_ (w3.alloc (.cells #[.string ⟨#[109,97,99,104,105,110,101,115]⟩,.string ⟨#[115,101,101,100]⟩,.string ⟨#[121,111,117,110,103]⟩] 9));rw[hw4]at hb4 hr4 hq4 qk;go_upto_region 6 with fail;obtain⟨c,hcz⟩:=nm_ (w4.heap.size);obtain⟨w5,hw5⟩:=nm_ (w4.alloc (.cells #[.int .i64 1,.int .u64 0,.int .i64 0] 25));have hcs:w3.heap.size+1=c:=by rw[<-hcz,<-hw4];simp
  have HC5:=hng hw5 hcz;have HB5:=H_ (show Below w.heap.size w w5 from hw5▸hb4.out.alloc hb4.out.size _);rw[hw5]
  (try rw[hcz])
  (try rw[hcs])
  have hbc:b<c:=by have:=HB.out.lt;omega
  have HQ5:=H_ (HB.out.below HB5.out HB.out.lt);clear hw4 hw5 hb4 hr4 qk hr3;have q0:=HQ5.out.cell 0;have q1:=HQ5.out.cell 1;have q2:=HQ5.out.cell 2;have q5:=HQ5.out.cell 5;obtain⟨f0,f1,f2⟩:=HQ5.out.f3;have d0:=HC5.out.cell 0;have d1:=HC5.out.cell 1;have d2:=HC5.out.cell 2;have e0:=HC5.out.frozen 0;have e2:=HC5.out.frozen 2;go_wp2_with fail;refine(iC _ _ _ _).mono ?_;rintro e w6 ⟨rfl,b6⟩;have HL6:=H_ (((Lk.of HB5.out (AB _)).set 1 (.int .u64 (u:Int))).trans (Lk.of (B:=B) (b:=b) b6 (AB _)));have hq6:=(HQ5.out.set 1 (.int .u64 (u:Int))).below b6 (by have:=HQ5.out.lt;simp[World.setCell];omega);simp only[Bw,Cc,Cb]at hq6;have HR6:=H_ (show RdP w6 B b {x with sd:=u} (.conf 1)from⟨hq6,HX.out.1,HX.out.2,by omega⟩);clear b6 hq6 q0 q1 q2 q5 f0 f1 f2 d0 d1 d2 e0 e2;go_wp2_with fail;go_ret;have hok:fV 1 u:=⟨λh=>absurd h (by decide),λh=>absurd h (by decide)⟩;exact⟨HL6.out,.inr ⟨u,(gX (k:=1) HV.out HL.out HT.out).1 hok,rfl,HR6.out⟩⟩
 ·by_cases hw:p=⟨#[121,111,117,110,103]⟩
  rotate_left
  ·have HN:=H_ (cv λn h=>hw (AN (HU.out n h).1));have hne:(p.toList==[121,111,117,110,103])=false:=AD.2 λe=>hw (cQ (e.trans (Bf (⟨#[121,111,117,110,103]⟩:ByteArray)).symm));clear hw;go_enter Tryz.func48,Tryz.ntmps48;go_wp2_with fail;refine HC.out.mono ?_;rintro e w1 ⟨rfl,b1⟩;go_wp2_with fail;refine(HP.out w1).mono ?_;rintro e w2 ⟨rfl,b2⟩;go_wp2_with fail;have hb2:=b1.trans (b2.mono b1.size);refine(HF.out w2 (HG.out.below hb2)).mono ?_;rintro e w3 ⟨rfl,b3⟩;have hb3:=hb2.trans (b3.mono hb2.size);clear b1 b2 b3 hb2;have hr3:w3.cell? ⟨b,5,none⟩=some (.int .i64 2):=(a8 hb3 (HB.out.lt) 5).trans (HB.out.cell 5);have qn:=Blk.new w3 9 #[.string ⟨#[109,97,99,104,105,110,101,115]⟩,.string ⟨#[115,101,101,100]⟩,.string ⟨#[121,111,117,110,103]⟩];have qk:=qn.cell 2;have hb4:=H_ (hb3.alloc hb3.size (.cells #[.string ⟨#[109,97,99,104,105,110,101,115]⟩,.string ⟨#[115,101,101,100]⟩,.string ⟨#[121,111,117,110,103]⟩] 9));have hr4:(w3.alloc (.cells #[.string ⟨#[109,97,99,104,105,110,101,115]⟩,.string ⟨#[115,101,101,100]⟩,.string ⟨#[121,111,117,110,103]⟩] 9)).cell? ⟨b,5,none⟩=some (.int .i64 2):=(a8 hb4.out HB.out.lt 5).trans (HB.out.cell 5);clear qn hb3;go_wp2_with fail;go_ret;exact⟨Lk.of hb4.out (AB _),.inl ⟨HN.out,rfl,x,HR.out.below hb4.out (AB _)⟩⟩
  subst hw;have heqw:((⟨#[121,111,117,110,103]⟩:ByteArray).toList==[121,111,117,110,103])=true:=by rw[Bf];rfl
  go_enter Tryz.func48,Tryz.ntmps48;go_wp2_with fail;refine HC.out.mono ?_;rintro e w1 ⟨rfl,b1⟩;go_wp2_with fail;refine(HP.out w1).mono ?_;rintro e w2 ⟨rfl,b2⟩;go_wp2_with fail;have hb2:=b1.trans (b2.mono b1.size);refine(HF.out w2 (HG.out.below hb2)).mono ?_;rintro e w3 ⟨rfl,b3⟩;have hb3:=hb2.trans (b3.mono hb2.size);clear b1 b2 b3 hb2;have hr3:w3.cell? ⟨b,5,none⟩=some (.int .i64 2):=(a8 hb3 (HB.out.lt) 5).trans (HB.out.cell 5);have qn:=Blk.new w3 9 #[.string ⟨#[109,97,99,104,105,110,101,115]⟩,.string ⟨#[115,101,101,100]⟩,.string ⟨#[121,111,117,110,103]⟩];have qk:=qn.cell 2;have hb4:=H_ (hb3.alloc hb3.size (.cells #[.string ⟨#[109,97,99,104,105,110,101,115]⟩,.string ⟨#[115,101,101,100]⟩,.string ⟨#[121,111,117,110,103]⟩] 9));have hr4:(w3.alloc (.cells #[.string ⟨#[109,97,99,104,105,110,101,115]⟩,.string ⟨#[115,101,101,100]⟩,.string ⟨#[121,111,117,110,103]⟩] 9)).cell? ⟨b,5,none⟩=some (.int .i64 2):=(a8 hb4.out HB.out.lt 5).trans (HB.out.cell 5);clear qn hb3;have hq4:=hb4.out.size;obtain⟨w4,hw4⟩:=nm_ (w3.alloc (.cells #[.string ⟨#[109,97,99,104,105,110,101,115]⟩,.string ⟨#[115,101,101,100]⟩,.string ⟨#[121,111,117,110,103]⟩] 9));rw[hw4]at hb4 hr4 hq4 qk;go_upto_region 6 with fail;obtain⟨c,hcz⟩:=nm_ (w4.heap.size);obtain⟨w5,hw5⟩:=nm_ (w4.alloc (.cells #[.int .i64 1,.int .u64 0,.int .i64 0] 25));have hcs:w3.heap.size+1=c:=by rw[<-hcz,<-hw4];simp
  have HC5:=hng hw5 hcz;have HB5:=H_ (show Below w.heap.size w w5 from hw5▸hb4.out.alloc hb4.out.size _);rw[hw5]
  (try rw[hcz])
  (try rw[hcs])
  have hbc:b<c:=by have:=HB.out.lt;omega
  have HQ5:=H_ (HB.out.below HB5.out HB.out.lt);clear hw4 hw5 hb4 hr4 qk hr3;have q0:=HQ5.out.cell 0;have q1:=HQ5.out.cell 1;have q2:=HQ5.out.cell 2;have q5:=HQ5.out.cell 5;obtain⟨f0,f1,f2⟩:=HQ5.out.f3;have d0:=HC5.out.cell 0;have d1:=HC5.out.cell 1;have d2:=HC5.out.cell 2;have e0:=HC5.out.frozen 0;have e2:=HC5.out.frozen 2;go_wp2_with fail;by_cases hv:u<=1099511627776
  ·refine(iC _ _ _ _).mono ?_;rintro e w6 ⟨he,b6⟩;rw[BJ (by omega)]at he;subst he;have HL6:=H_ ((((Lk.of HB5.out (AB _)).set 2 (.int .i64 (min (u:Int) 1099511627777))).far (p:=⟨c,2,none⟩) (by show w.heap.size<=c;omega) (.int .i64 (min (u:Int) 1099511627777))).trans (Lk.of (B:=B) (b:=b) b6 (AB _)));have hq6:=((HQ5.out.set 2 (.int .i64 (min (u:Int) 1099511627777))).other ⟨c,2,none⟩ (.int .i64 (min (u:Int) 1099511627777)) (by show b≠c;omega)).below b6 (by have:=HQ5.out.lt;simp[World.setCell];omega);simp only[Bw,Cc,Cb]at hq6;have HR6:=H_ (show RdP w6 B b {x with y:=(min (u:Int) 1099511627777)} (.conf 2)from⟨hq6,HX.out.1,HX.out.2,by omega⟩);clear b6 hq6 q0 q1 q2 q5 f0 f1 f2 d0 d1 d2 e0 e2;go_wp2_with fail;go_ret;have hok:fV 2 u:=⟨λh=>absurd h (by decide),λ_=>hv⟩;have hmin:(min (u:Int) 1099511627777)=(u:Int):=by omega
   have hr6:=HR6.out;rw[hmin]at hr6;exact⟨HL6.out,.inr ⟨u,(gX (k:=2) HV.out HL.out HT.out).1 hok,rfl,hr6⟩⟩
  ·refine(iC _ _ _ _).mono ?_;rintro e w6 ⟨he,b6⟩;rw[Bg (by omega)]at he;subst he;have HL6:=H_ ((((Lk.of HB5.out (AB _)).set 2 (.int .i64 (min (u:Int) 1099511627777))).far (p:=⟨c,2,none⟩) (by show w.heap.size<=c;omega) (.int .i64 (min (u:Int) 1099511627777))).trans (Lk.of (B:=B) (b:=b) b6 (AB _)));have hq6:=((HQ5.out.set 2 (.int .i64 (min (u:Int) 1099511627777))).other ⟨c,2,none⟩ (.int .i64 (min (u:Int) 1099511627777)) (by show b≠c;omega)).below b6 (by have:=HQ5.out.lt;simp[World.setCell];omega);simp only[Bw,Cc,Cb]at hq6;have HR6:=H_ (show RdP w6 B b {x with y:=(min (u:Int) 1099511627777)} (.conf 2)from⟨hq6,HX.out.1,HX.out.2,by omega⟩);clear b6 hq6 q0 q1 q2 q5 f0 f1 f2 d0 d1 d2 e0 e2;go_wp2_with fail;go_ret;exact⟨HL6.out,.inl ⟨(gX (k:=2) HV.out HL.out HT.out).2 λh=>hv (h.2 rfl),rfl,_,HR6.out⟩⟩
end
section
open Go.RowKit Go.Shelf
theorem vw:(Tryz.prog.info? 58).map (·.size)=some 2:=by kernel_rfl
theorem zg:liesAt Tryz.prog Tryz.prog.depth 60 (9/Tryz.prog.cellsOf 60) 6 58 1=true:=by kernel_rfl
theorem zo:(Tryz.prog.info? 5).map (λi=>(i.zero,i.size,i.bytes))=some (some (.int .u8 0),1,1):=by kernel_rfl
theorem oc(b:Nat)(w:World)(h0:w.cell? ⟨b,6,none⟩=some (.pointer (some ⟨b,6,none⟩))):
 Calls Tryz.prog 63 #[.pointer (some ⟨b,6,none⟩)] w λe w'=>e= .returned (.tuple #[])/\w'=w:=by
 obtain⟨j,hj,_⟩:=BP.1 vw;go_enter Tryz.func63,Tryz.ntmps63;go_wp2;rw[Lib.run_neq_ptr_same w _ Tryz.underlying56 hj];go_wp2;go_end0;exact⟨rfl,rfl⟩
theorem mg(b:Nat)(w:World)(h0:w.cell? ⟨b,6,none⟩=some (.pointer none))(hsh:w.shape? b=some (60,9))(hfz:w.frozen? ⟨b,6,none⟩=false):
 Calls Tryz.prog 63 #[.pointer (some ⟨b,6,none⟩)] w λe w'=>e= .returned (.tuple #[])/\w'=w.setCell ⟨b,6,none⟩ (.pointer (some ⟨b,6,none⟩)):=by
 obtain⟨j,hj,hjs⟩:=BP.1 vw;go_enter Tryz.func63,Tryz.ntmps63;go_wp2;rw[Lib.run_to_unsafe w ⟨b,6,none⟩ Tryz.underlying56 Tryz.underlying180 hj (by rw[hjs];decide) hsh (by show 6<9;decide)];simp only[Result.andThen];rw[Oper.upon_value];go_wp2;rw[run_callFunc_extern Tryz.func106 (by kernel_rfl) (by kernel_rfl) (by kernel_rfl) (e:=Extern.AbiNoEscape.same) (by kernel_rfl)];rw[Lib.run_noEscape];simp only[Result.andThen];rw[Oper.upon_value];go_wp2;rw[Lib.run_from_unsafe w ⟨b,6,none⟩ Tryz.underlying180 Tryz.underlying56 hj hsh zg];simp only[Result.andThen];rw[Oper.upon_value];go_wp2;go_end0;exact⟨rfl,rfl⟩
section
variable{b B n:Nat}{sa sv c0 c1 c2 c3 c4 c5 c8:Value}
theorem xZ(w:World)(hb:Blk w b 60 #[c0,c1,c2,c3,c4,c5,sa,sv,c8])(hsa:sa= .pointer none\/sa= .pointer (some ⟨b,6,none⟩)):
 Calls Tryz.prog 63 #[.pointer (some ⟨b,6,none⟩)] w λe w'=>e= .returned (.tuple #[])/\Blk w' b 60 #[c0,c1,c2,c3,c4,c5,.pointer (some ⟨b,6,none⟩),sv,c8]/\(∀k,k≠b->w'.heap[k]?=w.heap[k]?)/\Lk B b w w'/\w'.heap.size=w.heap.size:=by
 rcases hsa with rfl|rfl
 ·refine(mg b w (hb.cell 6) (by unfold Blk at hb;simp[World.shape?,hb]) (hb.frozen 6)).mono ?_;rintro e w' ⟨rfl,rfl⟩;exact⟨rfl,hb.set 6 _,λk hk=>AG _ _ _ _ hk,(Lk.refl _ _ _).set 6 _,by simp[World.setCell]⟩
 ·refine(oc b w (hb.cell 6)).mono ?_;rintro e w' ⟨rfl,rfl⟩;exact⟨rfl,hb,λ_ _=>rfl,Lk.refl _ _ _,rfl⟩
theorem wG(bs:List Value)(s:ByteArray)(w:World)(hb:Blk w b 60 #[c0,c1,c2,c3,c4,c5,sa,sv,c8])(hsa:sa= .pointer none\/sa= .pointer (some ⟨b,6,none⟩))(hown:w.ownsRow B 5 1 sv n bs)(hbB:b<B)(hBw:B<=w.heap.size)(hlen:n+s.size<=1000000000):
 Calls Tryz.prog 31 #[.pointer (some ⟨b,6,none⟩),.string s] w λe w'=>e= .returned (.tuple #[.int .i64 s.size,.nilIface])/\Lk B b w w'/\
  ∃sv',Blk w' b 60 #[c0,c1,c2,c3,c4,c5,.pointer (some ⟨b,6,none⟩),sv',c8]/\w'.ownsRow B 5 1 sv' (n+s.size) (bs++Lib.strCells s):=by
 obtain⟨i0,hi,hz0,hz1,hz2⟩:=CZ zo;have HC:=H_ (xZ (B:=B) w hb hsa);have HO:=H_ hown;clear hb hsa hown;go_enter Tryz.func31,Tryz.ntmps31;go_wp2_with fail;refine HC.out.mono ?_;rintro e w1 ⟨rfl,q1,hk1,l1,hs1⟩;have hown1:=iN HO.out (w':=w1) (λk hk _ _=>hk1 k (by omega));have d1:=q1.k7;have HQ:=H_ q1;have HL:=H_ l1;have HO1:=H_ hown1;clear q1 hk1 l1 hown1 HC HO;go_wp2_with (at_builtin;refine Lib.wpList_append_own_string _ rfl _ _ 51 9 rfl B 5 i0 Tryz.underlying51 Tryz.underlying9 hi hz0 hz1 hz2 _ _ _ rfl HO1.out s rfl (by unfold maxLen;omega) (by omega) (by omega) ?_);intro v' w2 hown' hgrow _;have hlt:=HQ.out.lt;have hnb:some b≠sv.ownBlock:=λe=>by have:=(HO1.out.lt b e.symm).1;omega
 have q2:Blk w2 b 60 #[c0,c1,c2,c3,c4,c5,.pointer (some ⟨b,6,none⟩),sv,c8]:=(hgrow.block b hlt hnb).trans HQ.out;have d2:=q2.k7;have f2:=q2.frozen 7
 have HL2:=H_ (show Lk B b w w2 from HL.out.grown hgrow λk hk=>⟨(HO1.out.lt k hk).1,by
  rcases HO1.out.2 with⟨hv,_⟩|⟨g,cap,cur,hv,_,hg,_⟩
  ·rw[hv]at hk;cases hk
  ·rw[hv]at hk;cases hk;exact⟨cur,(0,0),.inr hg⟩⟩)
 have HQ2:=H_ q2;have HO2:=H_ hown'
 obtain⟨ao,n',cap,rfl⟩:∃ao n' cap,v'= .slice ao n' cap:=by
  rcases hown'.2 with⟨hv,_⟩|⟨g,cap,cur,hv,_⟩
  ·exact⟨_,_,_,hv⟩
  ·exact⟨_,_,_,hv⟩
 clear q2 hgrow hown' HQ HL HO1 d1;go_wp2_with fail;go_ret2;exact⟨rfl,HL2.out.set 7 _,_,HQ2.out.set 7 _,iN HO2.out λk hk _ _=>AG _ _ _ _ (show k≠b by omega)⟩
theorem tY(l:List UInt8)(w:World)(hb:Blk w b 60 #[c0,c1,c2,c3,c4,c5,sa,sv,c8])(hown:w.ownsRow B 5 1 sv l.length (Lib.byteCells l))(h0:l=[]->sv= .slice none 0 0)(hbB:b<B)(hl:l.length<=1000000000):
 Calls Tryz.prog 35 #[.pointer (some ⟨b,6,none⟩)] w λe w'=>e= .returned (.string ⟨l.toArray⟩)/\Lk B b w w'/\Blk w' b 60 #[c0,c1,c2,c3,c4,c5,sa,sv,c8]:=by
 have mixed:Tryz.prog.follows .mixedOrders=true:=by kernel_rfl
 by_cases hl0:l=[]
 ·subst hl0;obtain rfl:=h0 rfl;have hUS:∀W,(Builtin.unsafeString_ #[130,3] 9 #[.pointer none,.int .i64 0]).run Tryz.prog W= .ok (.string .empty) W:=λW=>Lib.run_unsafeString_none W _ _ _ none;have d1:=hb.drew.k7;have hSD:(Builtin.unsafeSliceData_ #[51] 130 #[.slice none 0 0]).run Tryz.prog w.drew= .ok (.pointer none) w.drew:=rfl;have HB:=H_ hb;clear hb hown h0;go_enter Tryz.func35,Tryz.ntmps35;go_wp2;go_region_o;all_goals(go_wp2;go_ret;exact⟨rfl,Lk.of (Below.drew (AC w.heap.size w)) (AB _),HB.out.drew⟩)
 ·obtain⟨g,cap,cur,rfl,hbg,hg,hnc,hcm,hcs,htake⟩:∃g cap cur,sv= .slice (some ⟨g,0,none⟩) l.length cap/\B<=g/\w.heap[g]?=some (.cells cur 5 (0,0))/\l.length<=cap/\cap<=maxLen/\cur.size=cap*1/\cur.toList.take (l.length*1)=Lib.byteCells l:=by
   rcases hown.2 with⟨_,hz⟩|⟨g,cap,cur,hv,r⟩
   ·exact absurd (Bc hz) hl0
   ·exact⟨g,cap,cur,hv,r⟩
  have hlz:l.length≠0:=λe=>hl0 (Bc e);have d1:=hb.drew.k7
  have hSD:(Builtin.unsafeSliceData_ #[51] 130 #[.slice (some ⟨g,0,none⟩) l.length cap]).run Tryz.prog w.drew= .ok (.pointer (some ⟨g,0,none⟩)) w.drew:=
   Lib.run_unsafeSliceData_row _ _ _ _ _ _ (by omega)
  have hUS:(Builtin.unsafeString_ #[130,3] 9 #[.pointer (some ⟨g,0,none⟩),.int .i64 l.length]).run Tryz.prog w.drew= .ok (.string ⟨l.toArray⟩) (w.drew.freeze ⟨g,0,none⟩ l.length):=by
   refine Lib.run_unsafeString_row w.drew 130 3 9 5 Tryz.underlying130 (by kernel_rfl) g cur.size (by have hg':w.drew.heap[g]?=some (.cells cur 5 (0,0)):=hg;simp[World.shape?,hg']) l hl0 (by omega) (by omega) ?_;intro j x hx;have:=hown.cells (g:=g) rfl j (.int .u8 x.toNat) (by simp[Lib.byteCells,hx]);exact this
  have hfr:∀k,k≠g->(w.drew.freeze ⟨g,0,none⟩ l.length).heap[k]?=w.heap[k]?:=λk hk=>by
   unfold World.freeze;split
   ·rfl
   ·simp only[Array.getElem?_modify];rw[AL (Ne.symm hk)];rfl
  have hfin:Lk B b w (w.drew.freeze ⟨g,0,none⟩ l.length)/\Blk (w.drew.freeze ⟨g,0,none⟩ l.length) b 60 #[c0,c1,c2,c3,c4,c5,sa,.slice (some ⟨g,0,none⟩) l.length cap,c8]:=by
   have hq:=Lib.below_freeze (Below.drew (AC B w)) (p:=⟨g,0,none⟩) hbg l.length;refine⟨⟨hq.os,hq.tape,hq.output,hq.size,λk hk hkb ht=>hfr k λe=>?_⟩,(hfr b (by omega)).trans hb⟩;subst e;exact(ht hbg cur (0,0)).2 hg
  have HF:=H_ hfin
  clear hfin hfr hb hown h0 hg htake;go_enter Tryz.func35,Tryz.ntmps35;go_wp2;go_region_o;all_goals(go_wp2;go_ret;exact⟨rfl,HF.out.1,HF.out.2⟩)
end
end
section
open Go.RowKit
theorem xT(s:ByteArray)(w:World):Calls Tryz.prog 50 #[.string s,.string ⟨#[10]⟩] w λe w'=>e= .returned (.int .i64 (s.data.toList.count 10:Nat))/\w'=w:=Any.strings_Count_one Tryz.lays138 s 10 w
def Ax(B b f:Nat)(sa sv:Value)(m sd y pt:Int)(a:List UInt8)(w:World)(e:Ending)(w':World):Prop:=Lk B b w w'/\match ca a with
 | .err q er=>e= .returned (.tuple #[.int .i64 ((f+(a.take q.toNat).count 10:Nat):Int),.int .i64 er])/\er≠0
 | .ok cs=>e= .returned (.tuple #[.int .i64 0,.int .i64 0])/\∃A n c,Blk w' b 60 #[.int .i64 m,.int .u64 sd,.int .i64 y,.slice A n c,.slice none 0 0,.int .i64 pt,sa,sv,.int .i64 (f:Int)]/\Sl kCl w' (λg=>B<=g/\g<w'.heap.size) cs A n
theorem mG{b B f:Nat}{sa sv:Value}{m sd y pt:Int}(a:List UInt8)(w:World)(hb:Blk w b 60 #[.int .i64 m,.int .u64 sd,.int .i64 y,.slice none 0 0,.slice none 0 0,.int .i64 pt,sa,sv,.int .i64 (f:Int)])
 (hown:w.ownsRow B 5 1 sv a.length (Lib.byteCells a)) (h0:a=[]->sv= .slice none 0 0) (hgB:GlB w b) (hbB:b<B) (hBw:B<=w.heap.size) (hl:a.length<=100000000) (hf:f<=1000000):
 Calls Tryz.prog 21 #[.pointer (some ⟨b,0,none⟩)] w (Ax B b f sa sv m sd y pt a w):=by
 have HS:=H_ (tY a w hb hown h0 hbB (by omega));have HG:=H_ hgB;have hlt:=hb.lt;clear hb hown h0 hgB;go_enter Tryz.func21,Tryz.ntmps21;go_wp2_with fail;refine HS.out.mono ?_;rintro e w1 ⟨rfl,l1,q1⟩;have HL1:=H_ l1;have HQ1:=H_ q1;have hs1:=l1.size;have hg1:=(GlB.below HG.out (l1.below (by omega) (AB _) (by omega))).gl;have HP:=H_ (sP ⟨a.toArray⟩ w1 hg1);clear l1 q1 hg1 HS;go_wp2_with fail;refine HP.out.mono ?_;rintro e w2 ⟨b2,v,p,er,rfl,hcase⟩;have hs2:=b2.size;have HL2:=H_ (HL1.out.trans (Lk.of b2 (AB _)));have HQ2:=H_ (HQ1.out.below b2 (by omega));have HB2:=H_ b2;have HC:=H_ (show(match ca a with| .err q e=>p=q/\er=e/\v= .agg #[.slice none 0 0]/\er≠0| .ok cs=>p=0/\er=0/\rvP w2 (Fr w1 w2) cs v)from hcase);clear hcase b2 HL1 HQ1 HP;cases hp:ca a with
 |err q e'=>
  have hc:=HC.out;rw[hp]at hc;obtain⟨rfl,rfl,rfl,hne⟩:=hc;obtain⟨hq0,hq1⟩:=ln hp;obtain⟨j,rfl⟩:=Bh hq0;have hjl:j<=a.length:=by omega
  clear hq0 hq1 HC;have hne2:(er==0)=false:=by simpa using hne
  obtain⟨w3,hw3⟩:=nm_ (w2.alloc (.cells #[.slice none 0 0] 28));have b3:=bal hw3;have HL3:=H_ (HL2.out.trans (Lk.of b3 (AB _)));have Q3:=HQ2.out.below b3 HQ2.out.lt;have hs3:=b3.size;obtain⟨TT,F,_,hF,hcov⟩:=aX w3.heap.size w3;have d8:=λz=>(Q3.below (hF z) Q3.lt).k8;have hsz:(⟨a.toArray⟩:ByteArray).size=a.length:=by simp[ByteArray.size]
  have hcnt:((⟨a.toArray⟩:ByteArray).extract 0 j).data.toList.count 10=(a.take j).count 10:=by rw[eH];rfl
  have hcl:(a.take j).count 10<=100000000:=AW List.count_le_length (by rw[Ck];omega)
  have C50:=H_ (show∀z,Calls Tryz.prog 50 #[.string ((⟨a.toArray⟩:ByteArray).extract 0 j),.string ⟨#[10]⟩] (F z) (λe w''=>e= .returned (.int .i64 ((a.take j).count 10:Nat))/\∃z',w''=F z')from λz=>
   (xT _ (F z)).mono λe w'' ⟨h1,h2⟩=>⟨by rw[h1,hcnt],z,h2⟩)
  have hj0:(0:Int)<=(j:Int):=by omega
  have hj1:(j:Int)<=((⟨a.toArray⟩:ByteArray).size:Int):=by rw[hsz];omega
  have hwr:IntKind.i64.wrap ((f:Int)+((a.take j).count 10:Nat))=(((f+(a.take j).count 10:Nat)):Int):=by rw[AY _ (by omega)];omega
  have HCOV:=H_ hcov;have HFB:=H_ hF;obtain⟨N,hN⟩:=nm_ ((a.take j).count 10);rw[hN]at C50 hwr hcl;have HNN:=H_ hN;have HW3:=H_ hw3;clear hcov hF b3 Q3 hcnt hN hs3 hw3;go_upto_region 4 with fail;rw[HW3.out];refine ah F (by kernel_rfl) (by kernel_rfl) (HCOV.out _ (AC _ _).drew) ?_;repeat (go_big_quiet_step (fail))
  go_big_quiet_step ((go_at_call 50;exact C50.out _));repeat (go_big_quiet_step (fail))
  refine BL ?_;rintro _ ⟨z,rfl⟩;go_wp2_with fail;go_ret2;refine⟨HL3.out.trans (Lk.of (HFB.out z) (AB _)),?_⟩;rw[hp];exact⟨by rw[BZ,HNN.out,Ce];rfl,hne⟩
 |ok cs=>
  have hc:=HC.out;rw[hp]at hc;obtain⟨rfl,rfl,A,n,c,rfl,hsl⟩:=hc;clear HC;obtain⟨w3,hw3⟩:=nm_ (w2.alloc (.cells #[.slice A n c] 28));obtain⟨g,hgz⟩:=nm_ (w2.heap.size);have b3:=bal hw3;have HL3:=H_ (HL2.out.trans (Lk.of b3 (AB _)));have HQ3:=hbl HQ2 b3;have hg3:=Blk.ng hw3 hgz;have d0:=hg3.cell 0;have d3:=HQ3.out.cell 3;have f3:=HQ3.out.frozen 3;have hs3:=b3.size;have hlt3:=HQ3.out.lt;have HSL:=H_ (hsl.aA (G':=λg=>B<=g/\g<w3.heap.size/\g≠b) (w':=w3) (λk hk=>⟨⟨by have:=hk.1;omega,by have:=hk.2;omega,by have:=hk.1;omega⟩,b3.block k hk.2⟩));have HW3:=H_ hw3;clear b3 hsl hg3 hw3;go_upto_region 5 with fail;rw[HW3.out];go_wp2_with fail;go_ret2;refine⟨HL3.out.set 3 _,?_⟩;rw[hp];refine⟨rfl,A,n,c,HQ3.out.set 3 _,HSL.out.aA (λk hk=>⟨⟨hk.1,by simp[World.setCell];exact hk.2.1⟩,AG _ _ _ _ hk.2.2⟩)⟩
end
end Go.Proofs.YtjpbckbpeblibaaGreatDoor
