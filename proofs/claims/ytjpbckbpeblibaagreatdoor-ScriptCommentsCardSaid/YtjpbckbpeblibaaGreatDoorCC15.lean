/- part of a proof -/
import Derived.Test.YtjpbckbpeblibaaGreatDoorCC14
import Derived.StillTailTactics
namespace Go.Proofs.YtjpbckbpeblibaaGreatDoor
set_option linter.unusedVariables false
set_option linter.unusedSimpArgs false
set_option maxRecDepth 100000
set_option maxHeartbeats 64000000
section
open Go.RowKit
variable{A:Option Addr}{B N d:Nat}{G:Nat->Prop}{T:Type}{W0 w w':World}{a e x:Ex}{cs:List Value}{l:List Pc}{xs:List Ex}
def tE(e:Ex):List UInt8:=ah (plE e)
def tIn(r:Nat)(e:Ex):List UInt8:=ah (exP r e)
def cp:List Ex->List UInt8
 |[]=>[]
 |a::l=>tE a++l.flatMap λb=>44::32::tE b
theorem gQ(p:Pc)(l:List Pc):ah (p::l)=p.pre++(p.t.2.1.data.toList++p.post)++ah l:=rfl
theorem bm(h:l≠[]):ah (sp l)=32::ah l:=by
 cases l with
 |nil=>exact absurd rfl h
 |cons p l=>rfl
theorem bT(r:Nat)(e:Ex):ah (sp (exP r e))=32::tIn r e:=bm (eH (cE e))
theorem aQ(s:ByteArray)(l:List Pc):ah (py s::l)=s.data.toList++ah l:=by rw[gQ];simp[py]
theorem bW(s:ByteArray)(l:List Pc):ah (pk s::l)=s.data.toList++ah l:=by rw[gQ];simp[pk]
theorem eu(s:ByteArray)(l:List Pc):ah (pn s::l)=s.data.toList++ah l:=by rw[gQ];simp[pn]
theorem oY(s:ByteArray)(l:List Pc):ah (pc s::l)=s.data.toList++ah l:=by rw[gQ];simp[pc]
theorem aX:ah []=[]:=rfl
theorem lW(r:Nat)(e:Ex):tIn r e=if lvl e<r then 40::(tE e++[41])else tE e:=by
 unfold tIn exP inP tE;split
 ·rw[aQ,ag];rfl
 ·rfl
theorem am(e:Ex):tIn 1 e=tE e:=by rw[lW,DS (by have:=tg e;omega)]
theorem na:∀l:List Ex,ah (dA (plL l))=(l.flatMap λb=>44::32::tE b)++[41]
 |[]=>rfl
 |a::l=>by
  rw[plL,dA,aQ,ag,bm (cE a),na l];simp[tE,iw]
theorem gP(l:List Ex):ah (aq (plL l))=40::(cp l++[41]):=by
 cases l with
 |nil=>rfl
 |cons a l=>
  rw[plL,aq,aQ,ag,na];simp[tE,cp,cG]
def lm:List UInt8:=[110,101,119,32]
def sAt:List UInt8:=[32,97,116,32]
section
variable(s:ByteArray)(z:Int)(a b:Ex)(l:List Ex)
theorem vQ:tE (ge z)=Lib.itoa z:=by show ah [pz z]=_;simp[ah,pz]
theorem vN:tE (fb 1 ⟨#[]⟩)=[110,105,108]:=rfl
theorem sS:tE (fb 2 ⟨#[]⟩)=[116,104,105,115]:=rfl
theorem sT:tE (fb 3 s)=s.data.toList:=by show ah [pn s]=_;rw[eu];simp[aX]
theorem pI:tE (aR s a)=tIn 8 a++46::s.data.toList:=by
 show ah (exP 8 a++[py DOT,pn s])=_;rw[ag,aQ,eu];simp[tIn,aX,DOT]
theorem vO:tE (.mk 5 0 0 s false l)=lm++s.data.toList++40::(cp l++[41]):=by
 show ah (pk dx::(sp [pc s]++aq (plL l)))=_;rw[bW,ag,bm (by simp),oY,gP];simp[aX,lm,dx]
theorem pH:tE (.mk 5 0 0 s true (l++[a]))=lm++s.data.toList++40::(cp l++41::(sAt++tIn 7 a)):=by
 have hP:plE (.mk 5 0 0 s true (l++[a]))=pk dx::(sp [pc s]++(aq (plL l)++(sp [pk kAt]++sp (exP 7 a)))):=by
  rw[plE,ox];show pk dx::(sp [pc s]++(aq (plL l++[(lvl a,plE a)]).dropLast++(sp [pk kAt]++sp (inP 7 ((plL l++[(lvl a,plE a)]).getLastD dX)))))=_;rw[List.dropLast_concat];simp[exP]
 unfold tE;rw[hP,bW,ag,bm (by simp),oY,ag,gP,ag,bm (by simp),bW,bT _ a];simp[aX,lm,dx,sAt,kAt,tIn]
theorem sR:tE (eUn 6 a)=[119,101,97,107,32]++tIn 7 a:=by
 show ah (pk ca::sp (exP 7 a))=_;rw[bW,bT _ a];simp[ca,tIn]
theorem vR:tE (eUn 7 a)=[103,101,116,32]++tIn 7 a:=by
 show ah (pk dT::sp (exP 7 a))=_;rw[bW,bT _ a];simp[dT,tIn]
theorem vP:tE (eUn 8 a)=45::tIn 7 a:=by
 show ah (py bK::exP 7 a)=_;rw[aQ];simp[bK,tIn]
theorem vM:tE (eUn 9 a)=[110,111,116,32]++tIn 3 a:=by
 show ah (pk dE::sp (exP 3 a))=_;rw[bW,bT _ a];simp[dE,tIn]
theorem ym(o:Int)(r:List Pc):ah (opP o::r)=(bH o.toNat).data.toList++ah r:=by
 unfold opP;split
 ·exact bW _ _
 ·exact aQ _ _
theorem vT(o:Nat):tE (cx o a b)=tIn (if ap (o:Int)=4 then 5 else ap o) a++32::((bH o).data.toList++32::tIn (ap (o:Int)+1) b):=by
 show ah (exP (if ap (o:Int)=4 then 5 else ap o) a++(sp [opP o]++sp (exP (ap (o:Int)+1) b)))=_;rw[ag,ag,bm (by simp),bT _ b,ym];simp[aX,tIn]
end
def tS(s:St)(d:Nat):List UInt8:=ah (plS s d)
def tSs(l:List St)(d:Nat):List UInt8:=ah (bX l d)
theorem jt(d:Nat):tSs [] d=[]:=rfl
theorem i6(s:St)(l:List St)(d:Nat):tSs (s::l) d=tS s d++tSs l d:=by unfold tSs tS;rw[bX,ag]
theorem ju(d:Nat):∀l:List St,tSs l d=l.flatMap λs=>tS s d
 |[]=>rfl
 |s::l=>by rw[i6,ju d l];rfl
def tLn(d:Nat)(b:List UInt8):List UInt8:=bi d++b++[10]
theorem bS(d:Nat)(h:l≠[]):ah (ln d l)=tLn d (ah l):=by
 unfold ln tLn;rw[nW (by cases l with|nil=>exact absurd rfl h|cons p l=>cases l<;>simp[eP]),jn h,Eb]
def cY:List UInt8:=[108,101,116,32]
def sEq:List UInt8:=[32,61,32]
def sIf:List UInt8:=[105,102,32]
def sBr:List UInt8:=[32,123]
def iT:List UInt8:=[125,32,101,108,115,101,32,123]
def mc:List UInt8:=[119,104,105,108,101,32]
def bQ:List UInt8:=[115,101,110,100,32]
def aZ:List UInt8:=[112,114,105,110,116,32]
def bR:List UInt8:=[109,111,118,101,32]
def sTo:List UInt8:=[32,116,111,32]
def aY:List UInt8:=[119,97,116,99,104,32]
def sBy:List UInt8:=[32,98,121,32]
def ax:List UInt8:=[114,101,116,117,114,110]
section
variable(nm:ByteArray)(x y:Ex)(l:List Ex)(b e:List St)(d:Nat)
theorem vI:tS (stE 0 nm [x]) d=tLn d (cY++nm.data.toList++sEq++tE x++[59]):=by
 show ah (ln d (pk gW::(sp [pn nm]++(sp [py bL]++(sp (exP 1 x)++[py aN])))))=_;rw[bS d (by simp),bW,ag,ag,ag,bm (by simp),bm (by simp),bT _ x,eu,aQ,aQ,<-am x];simp[aX,tIn,gW,cY,sEq,bL,aN]
theorem nB:tS (stE 1 nm [x]) d=tLn d (nm.data.toList++sEq++tE x++[59]):=by
 show ah (ln d (pn nm::(sp [py bL]++(sp (exP 1 x)++[py aN]))))=_;rw[bS d (by simp),eu,ag,ag,bm (by simp),bT _ x,aQ,aQ,<-am x];simp[aX,tIn,sEq,bL,aN]
theorem pE:tS (stE 2 nm [x,y]) d=tLn d (tIn 9 x++[46]++nm.data.toList++sEq++tE y++[59]):=by
 show ah (ln d (exP 9 x++(py DOT::pn nm::(sp [py bL]++(sp (exP 1 y)++[py aN])))))=_;rw[bS d (by simp),ag,aQ,eu,ag,ag,bm (by simp),bT _ y,aQ,aQ,<-am y];simp[aX,tIn,sEq,bL,aN,DOT]
theorem Ap:tS (.mk 3 ⟨#[]⟩ [x] b e) d=tLn d (sIf++tE x++sBr)++(tSs b (d+1)++((if e.isEmpty=true then[]else tLn d iT++tSs e (d+1))++tLn d [125])):=by
 have hP:plS (.mk 3 ⟨#[]⟩ [x] b e) d=ln d (pk kIf::(sp (exP 1 x)++sp [py cu]))++(bX b (d+1)++((if e.isEmpty=true then[]else ln d (py ci::(sp [pk ey]++sp [py cu]))++bX e (d+1))++ln d [py ci])):=by rw[plS];rfl
 unfold tS;rw[hP,ag,bS d (by simp),bW,ag,bT _ x,bm (by simp),aQ,ag,ag,bS d (by simp),aQ,<-am x]
 have h2:ah (if e.isEmpty=true then[]else ln d (py ci::(sp [pk ey]++sp [py cu]))++bX e (d+1))=if e.isEmpty=true then[]else tLn d iT++tSs e (d+1):=by
  split
  ·rfl
  ·rw[ag,bS d (by simp),aQ,ag,bm (by simp),bm (by simp),bW,aQ];simp[aX,tSs,iT,ci,ey,cu]
 rw[h2];simp[aX,tIn,tSs,sIf,kIf,sBr,cu,ci]
theorem pC:tS (.mk 4 ⟨#[]⟩ [x] b []) d=tLn d (mc++tE x++sBr)++(tSs b (d+1)++tLn d [125]):=by
 have hP:plS (.mk 4 ⟨#[]⟩ [x] b []) d=ln d (pk dD::(sp (exP 1 x)++sp [py cu]))++(bX b (d+1)++ln d [py ci]):=by rw[plS];rfl
 unfold tS;rw[hP,ag,bS d (by simp),bW,ag,bT _ x,bm (by simp),aQ,ag,bS d (by simp),aQ,<-am x];simp[aX,tIn,tSs,mc,dD,sBr,cu,ci]
theorem sO:tS (stE 5 nm (x::l)) d=tLn d (bQ++tIn 8 x++[46]++nm.data.toList++40::(cp l++[41])++[59]):=by
 show ah (ln d (pk fa::(sp (exP 8 x)++(py DOT::pn nm::(aq (plL l)++[py aN])))))=_;rw[bS d (by simp),bW,ag,bT _ x,aQ,eu,ag,gP,aQ];simp[aX,tIn,bQ,fa,DOT,aN]
theorem pF:tS (stE 6 ⟨#[]⟩ [x]) d=tLn d (aZ++tE x++[59]):=by
 show ah (ln d (pk dS::(sp (exP 1 x)++[py aN])))=_;rw[bS d (by simp),bW,ag,bT _ x,aQ,<-am x];simp[aX,tIn,aZ,dS,aN]
theorem sP:tS (stE 7 ⟨#[]⟩ [x,y]) d=tLn d (bR++tE x++sTo++tE y++[59]):=by
 show ah (ln d (pk fM::(sp (exP 1 x)++(sp [pk kTo]++(sp (exP 1 y)++[py aN])))))=_;rw[bS d (by simp),bW,ag,bT _ x,ag,bm (by simp),bW,ag,bT _ y,aQ,<-am x,<-am y];simp[aX,tIn,bR,fM,sTo,kTo,aN]
theorem pD:tS (stE 8 nm [x,y]) d=tLn d (aY++tE x++sBy++nm.data.toList++40::(tE y++[41])++[59]):=by
 show ah (ln d (pk eE::(sp (exP 1 x)++(sp [pk kBy]++(sp [pn nm]++(aq (plL [y])++[py aN]))))))=_;rw[bS d (by simp),bW,ag,bT _ x,ag,bm (by simp),bW,ag,bm (by simp),eu,ag,gP,aQ,<-am x];simp[aX,tIn,aY,eE,sBy,kBy,aN,cp]
theorem nA:tS (stE 9 ⟨#[]⟩ []) d=tLn d (ax++[59]):=by
 show ah (ln d [pk dQ,py aN])=_;rw[bS d (by simp),bW,aQ];simp[aX,ax,dQ,aN]
end
def cO:List ByteArray->List UInt8
 |[]=>[]
 |a::l=>a.data.toList++l.flatMap λb=>44::32::b.data.toList
theorem lj:∀l:List ByteArray,ah (dA (l.map nmX))=(l.flatMap λb=>44::32::b.data.toList)++[41]
 |[]=>rfl
 |a::l=>by
  rw[EE,dA,aQ,ag,bm (by simp[nmX]),lj l];show _++(32::ah [pn a]++_)=_;rw[eu];simp[aX,iw]
theorem qN(l:List ByteArray):ah (aq (l.map nmX))=40::(cO l++[41]):=by
 cases l with
 |nil=>rfl
 |cons a l=>
  rw[EE,aq,aQ,ag,lj];show _++(ah [pn a]++_)=_;rw[eu];simp[aX,cO,cG]
def wu:List UInt8:=[118,97,114,32]
def sOn:List UInt8:=[111,110,32]
def mf:List UInt8:=[97,99,116,111,114,32]
def jB:List UInt8:=[114,101,99,111,114,100,32]
def tFd(f:ByteArray):List UInt8:=tLn 1 (wu++f.data.toList++[59])
def tMe(m:Me):List UInt8:=tLn 1 (sOn++m.nm.data.toList++[40]++cO m.params++[41,32,123])++tSs m.body 2++tLn 1 [125]
def tCl(c:Cl):List UInt8:=tLn 0 ((if c.actor=true then mf else jB)++c.nm.data.toList++sBr)++c.fields.flatMap tFd++c.methods.flatMap tMe++tLn 0 [125]
theorem nY:∀l:List ByteArray,ah (gy l)=l.flatMap tFd
 |[]=>rfl
 |f::l=>by
  rw[gy,ag,nY l,fdP,bS 1 (by simp),bW,ag,bm (by simp),eu,aQ];simp[aX,tFd,wu,ql,aN]
theorem yp(m:Me):ah (meP m)=tMe m:=by
 rw[meP,ag,bS 1 (by simp),bW,ag,bm (by simp),eu,ag,qN,bm (by simp),aQ,ag,bS 1 (by simp),aQ];simp[aX,tMe,sOn,kOn,cu,ci,tSs]
theorem nX:∀l:List Me,ah (fY l)=l.flatMap tMe
 |[]=>rfl
 |m::l=>by rw[fY,ag,nX l,yp];rfl
theorem yq(c:Cl):ah (clP c)=tCl c:=by
 rw[clP,ag,bS 0 (by simp),bW,ag,bm (by simp),oY,bm (by simp),aQ,ag,nY,ag,nX,bS 0 (by simp),aQ];unfold tCl;cases c.actor<;>simp[aX,sBr,eF,et,mf,jB,cu,ci]
def tPr(l:List Cl):List UInt8:=l.flatMap tCl
theorem mZ:∀l:List Cl,ah (prP l)=tPr l
 |[]=>rfl
 |c::l=>by rw[prP,ag,mZ l,yq];rfl
def Pr(B p d:Nat)(s t:List UInt8)(w:World)(e:Ending)(w':World):Prop:=e= .returned (.tuple #[])/\Lk B p w w'/\PW w' B p d (s++t)
def TB:Nat:=1000000000
def GB(B p N b:Nat):Prop:=b<B/\b≠p/\b<N
theorem Lk.gb{p b:Nat}(h:Lk B p w w')(hB:B<=w.heap.size)(hb:GB B p N b):w'.heap[b]?=w.heap[b]?:=h.block b (by have:=hb.1;omega) hb.2.1 λh'=>absurd h' (by have:=hb.1;omega)
def eb(ss:List ByteArray):List UInt8:=ss.flatMap λx=>x.data.toList
theorem qL:∀(ss:List ByteArray) (k:Nat),(eb (ss.take k)).length<=(eb ss).length
 |[],k=>by simp[eb]
 |a::l,0=>by simp[eb]
 |a::l,k+1=>by
  have:=qL l k;simp only[eb,List.take_succ_cons,Ez,DJ]at*
  omega
theorem uT{ss:List ByteArray}{k:Nat}{x:ByteArray}(h:ss[k]?=some x):eb (ss.take (k+1))=eb (ss.take k)++x.data.toList:=by
 rw[EQ,h];simp[eb]
theorem sH{p:Nat}{s:List UInt8}(ss:List ByteArray)(g c:Nat)(h:PW w B p d s)(hb:Blk w g 9 (ss.map Value.string).toArray)(hgp:g≠p)(hlen:s.length+(eb ss).length<=TB)(hn0:ss.length<=1000000):
 Calls Tryz.prog 166 #[.pointer (some ⟨p,0,none⟩),.slice (some ⟨g,0,none⟩) ss.length c] w (Pr B p d s (eb ss) w):=by
 have HP:=H_ h;have HB:=H_ hb;obtain⟨n,hn⟩:=nm_ (ss.length);rw[hn];rw[hn]at hn0;clear h hb;go_enter Tryz.func166,Tryz.ntmps166;go_wp2_with fail;go_loopw [8] (λi wr=>∃k:Nat,k<=n/\i= .int .i64 k/\Hid (Lk B p w wr)/\Hid (PW wr B p d (s++eb (ss.take k)))) (λi _=>n-(intOf i).toNat)
 case atStart=>exact⟨0,Ea _,rfl,H_ (Lk.refl _ _ _),H_ (by simpa[eb]using HP.out)⟩
 case round=>
  obtain⟨k,hk,rfl,HL,HP2⟩:=hrel;by_cases hkm:k<n
  ·have hkz:(k:Int)<(n:Int):=by omega
   have hx:ss[k]?=some ss[k]:=DT (by omega);have hcell:=(HB.out.lk HL.out hgp).cell k;rw[show(ss.map Value.string).toArray[k]?=some (.string ss[k]) by simp[hx]]at hcell;have hle:=qL ss (k+1);have htk:=uT hx;rw[htk,DJ]at hle;have HC:=H_ (HP2.out.write ss[k] (by rw[DJ];have h1:ss[k].data.toList.length=ss[k].size:=rfl;unfold TB at hlen;omega));have HTK:=H_ htk;generalize ss[k]=x at*
   clear hx hle htk HP2;go_wp2_with fail;refine HC.out.mono ?_;rintro e w1 ⟨rfl,l1,p1⟩;rw[Eb,<-HTK.out]at p1;have HL1:=H_ (HL.out.trans l1);have HP1:=H_ p1;clear l1 p1 HC HL;go_wp2_with fail;go_roundw
   case rel=>exact⟨k+1,by omega,by go_num,HL1,HP1⟩
   case measure=>simp[intOf];omega
  ·obtain rfl:k=n:=by omega
   rw[DP (by omega)]at HP2;go_wp2_with fail;go_end0;exact⟨rfl,HL.out,HP2.out⟩
structure GlF(w:World):Prop where
 op:∀o:Nat,o<=12->w.cell? ⟨10,o*2,none⟩=some (.string (bH o))/\w.cell? ⟨10,o*2+1,none⟩=some (.int .i64 (ap (o:Int):Nat))
 fm:∀k:Nat,k<=9->∃(a b:Int) (x y z:Bool),[(1,1,true,false,false),(1,1,true,false,false),(2,2,true,false,false),(1,1,false,true,true),(1,1,false,true,false),(1,4611686018427387904,true,false,false),(1,1,false,false,false),(2,2,false,false,false),(2,2,true,false,false),((0:Int),(0:Int),false,false,false)][k]?=some (a,b,x,y,z)/\
  w.cell? ⟨1,k*5,none⟩=some (.int .i64 a)/\w.cell? ⟨1,k*5+1,none⟩=some (.int .i64 b)/\w.cell? ⟨1,k*5+2,none⟩=some (.bool x)/\w.cell? ⟨1,k*5+3,none⟩=some (.bool y)/\w.cell? ⟨1,k*5+4,none⟩=some (.bool z)
theorem GlF.aA(h:GlF w)(hk:∀k,k<12->w'.heap[k]?=w.heap[k]?):GlF w':=by
 have h10:∀i,w'.cell? ⟨10,i,none⟩=w.cell? ⟨10,i,none⟩:=λi=>F1 (hk 10 (by decide));have h1:∀i,w'.cell? ⟨1,i,none⟩=w.cell? ⟨1,i,none⟩:=λi=>F1 (hk 1 (by decide));refine⟨λo ho=>?_,λk hk'=>?_⟩
 ·rw[h10,h10];exact h.op o ho
 ·obtain⟨a,b,x,y,z,e,c⟩:=h.fm k hk';refine⟨a,b,x,y,z,e,?_⟩;rw[h1,h1,h1,h1,h1];exact c
theorem GlF.below(h:GlF w)(hb:Below B w w')(hB:12<=B):GlF w':=h.aA λk hk=>hb.block k (by omega)
def Cap(w:World)(N:Nat):Prop:=True
theorem Cap.aA(h:Cap w N)(hk:∀b,b<N->w'.heap[b]?=w.heap[b]?):Cap w' N:=trivial
structure GP(w:World)(p N:Nat):Prop where
 g:GlB w p
 f:GlF w
 le:N<=p
 cap:Cap w N
theorem GP.below{p:Nat}(h:GP w p N)(hb:Below p w w'):GP w' p N:=⟨GlB.below h.g hb,h.f.below hb h.g.big,h.le,h.cap.aA λb hbN=>hb.block b (by have:=h.le;omega)⟩
theorem GP.lk{p:Nat}(h:GP w p N)(l:Lk B p w w')(hp:p<B):GP w' p N:=h.below (l.below (by omega) (DK _) h.g.le)
theorem GP.new{p:Nat}(h:GP w p N)(hb:Below w.heap.size w w'):GP w' p N:=h.below (hb.mono h.g.le)
theorem xC(e:Ex)(cs:List Value)(w:World)(G:Nat->Prop)(hv:vE e=true)(hr:ExK w G e cs)(hf:GlF w)(hw:12<=w.heap.size):
 Calls Tryz.prog 263 #[.agg cs.toArray] w λr w'=>r= .returned (.int .i64 (lvl e:Nat))/\Below w.heap.size w w':=by
 obtain⟨xk,xo,xz,xn,xa,args⟩:=e;obtain⟨A,n,c,rfl,hs⟩:=ExK.inv hr;obtain⟨g,hz⟩:=nm_ (w.heap.size);obtain⟨W0,hW0⟩:=nm_ (w.alloc (.cells #[.int .i64 xk,.int .i64 xo,.int .i64 xz,.string xn,.bool xa,.slice A n c] 172));have HQ:=hng hW0 hz;have HB0:=hba hW0;have HF:=H_ (hf.below HB0.out hw);have HW:=H_ hW0;have q0:=HQ.out.k0;have q1:=HQ.out.k1;have q4:=HQ.out.k4;have HV:=H_ hv;clear hr hs hf hW0 hv;go_enter Tryz.func263,Tryz.ntmps263;rw[hz];go_upto_region 1 with fail;rw[HW.out];rcases dc HV.out with⟨z,e,_,_⟩|e|e|⟨s,e,_⟩|⟨s,a,e,_,_⟩|⟨s,xs,e,_,_⟩|⟨s,xs,a,e,_,_,_⟩|⟨k,a,hk,e,_⟩|⟨o,a,b,ho,e,_,_⟩
 case inr.inr.inr.inr.inr.inr.inr.inl=>
  simp only[eUn,Ex.mk.injEq]at e;obtain⟨rfl,rfl,rfl,rfl,rfl,rfl⟩:=e;clear HQ HF;rcases hk with rfl|rfl|rfl|rfl<;>(go_wp2_with fail;go_ret;exact⟨rfl,hz▸HB0.out⟩)
 case inr.inr.inr.inr.inr.inr.inr.inr=>
  simp only[cx,Ex.mk.injEq]at e;obtain⟨rfl,rfl,rfl,rfl,rfl,rfl⟩:=e;obtain⟨t0,t1⟩:=HF.out.op o ho;have ho0:(0:Int)<=(o:Int):=by omega
  have ho1:(o:Int)<13:=by omega
  clear HQ HF;go_wp2_with fail;go_ret;exact⟨rfl,hz▸HB0.out⟩
 all_goals
  simp only[ge,fb,aR,Ex.mk.injEq]at e;obtain⟨rfl,rfl,rfl,rfl,rfl,rfl⟩:=e;clear HQ HF;go_wp2_with fail;go_ret;exact⟨rfl,hz▸HB0.out⟩
theorem kN(x y:ByteArray)(X Y:List UInt8)(hx:x.data.toList=X:=by rfl)(hy:y.data.toList=Y:=by rfl)(h:X.length+Y.length<=9000000000000000000:=by simp only[DJ,DL,DO];omega):∀W,(Op.stringOp .add x y).run Tryz.prog W= .ok (.string (ba (X++Y))) W:=λW=>by
 have h1:x.size=X.length:=by rw[<-hx];rfl
 have h2:y.size=Y.length:=by rw[<-hy];rfl
 obtain⟨S,s1,s2,s3⟩:=gg x y (by omega);have:S=ba (X++Y):=by rw[<-hx,<-hy,<-s1,jZ]
 rw[s3 W,this]
theorem Bm(o:Nat)(w:World)(ho:o<=12):Calls Tryz.prog 239 #[.int .i64 (o:Int)] w λe w'=>e= .returned (.int .i64 (ap (o:Int):Nat))/\w=w':=by
 have h:o=0\/o=1\/o=2\/o=3\/o=4\/o=5\/o=6\/o=7\/o=8\/o=9\/o=10\/o=11\/o=12:=by omega
 rcases h with rfl|rfl|rfl|rfl|rfl|rfl|rfl|rfl|rfl|rfl|rfl|rfl|rfl
 all_goals
  go_enter Tryz.func239,Tryz.ntmps239;go_wp2_with fail;go_ret;exact⟨rfl,rfl⟩
theorem BA(e:Ex)(cs:List Value)(w:World)(G:Nat->Prop)(hv:vE e=true)(hr:ExK w G e cs):
 Calls Tryz.prog 241 #[.agg cs.toArray] w λr w'=>r= .returned (.int .i64 (lvl e:Nat))/\Below w.heap.size w w':=by
 obtain⟨xk,xo,xz,xn,xa,args⟩:=e;obtain⟨A,n,c,rfl,hs⟩:=ExK.inv hr;obtain⟨g,hz⟩:=nm_ (w.heap.size);obtain⟨W0,hW0⟩:=nm_ (w.alloc (.cells #[.int .i64 xk,.int .i64 xo,.int .i64 xz,.string xn,.bool xa,.slice A n c] 172));have HQ:=hng hW0 hz;have HB0:=hba hW0;have HW:=H_ hW0;have q0:=HQ.out.k0;have q1:=HQ.out.k1;have q4:=HQ.out.k4;have HV:=H_ hv;clear hr hs hW0 hv;go_enter Tryz.func241,Tryz.ntmps241;rw[hz];go_upto_region 1 with fail;rw[HW.out];rcases dc HV.out with⟨z,e,_,_⟩|e|e|⟨s,e,_⟩|⟨s,a,e,_,_⟩|⟨s,xs,e,_,_⟩|⟨s,xs,a,e,_,_,_⟩|⟨k,a,hk,e,_⟩|⟨o,a,b,ho,e,_,_⟩
 case inr.inr.inr.inr.inr.inr.inr.inl=>
  simp only[eUn,Ex.mk.injEq]at e;obtain⟨rfl,rfl,rfl,rfl,rfl,rfl⟩:=e;clear HQ;rcases hk with rfl|rfl|rfl|rfl<;>(go_wp2_with fail;go_ret;exact⟨rfl,hz▸HB0.out⟩)
 case inr.inr.inr.inr.inr.inr.inr.inr=>
  simp only[cx,Ex.mk.injEq]at e;obtain⟨rfl,rfl,rfl,rfl,rfl,rfl⟩:=e;have HC:=H_ (Bm o W0 ho);clear HQ;go_wp2_with fail;refine HC.out.mono ?_;rintro r w1 ⟨rfl,rfl⟩;go_wp2_with fail;go_ret;exact⟨rfl,hz▸HB0.out⟩
 all_goals
  simp only[ge,fb,aR,Ex.mk.injEq]at e;obtain⟨rfl,rfl,rfl,rfl,rfl,rfl⟩:=e;clear HQ;go_wp2_with fail;go_ret;exact⟨rfl,hz▸HB0.out⟩
def CapG(w:World)(G:Nat->Prop):Prop:=True
theorem CapG.aA(h:CapG w G)(hk:∀b,G b->w'.heap[b]?=w.heap[b]?):CapG w' G:=trivial
def Dh(e:Ex):Prop:=∀(cs:List Value) (w:World) (G:Nat->Prop),ExK w G e cs->lw cs->(∀b,G b->b<w.heap.size)->CapG w G->(tE e).length<=TB->
 Calls Tryz.prog 169 #[.agg cs.toArray] w λr w'=>r= .returned (.string (ba (tE e)))/\Below w.heap.size w w'
def DF(e:Ex):Prop:=∀(l:Nat) (cs:List Value) (w:World) (G:Nat->Prop),ExK w G e cs->lw cs->(∀b,G b->b<w.heap.size)->CapG w G->(tIn l e).length<=TB->
 Calls Tryz.prog 170 #[.agg cs.toArray,.int .i64 (l:Int)] w λr w'=>r= .returned (.string (ba (tIn l e)))/\Below w.heap.size w w'
section
variable{w w' w'':World}{B p d N:Nat}{s t t':List UInt8}
theorem Pr.from(l:Lk B p w w')(h:PW w' B p d (s++t)){u:List UInt8}(hu:u=s++t){e:Ending}(k:Pr B p d (s++t) t' w' e w''):Pr B p d s (t++t') w e w'':=
 ⟨k.1,l.trans k.2.1,by rw[<-Eb];exact k.2.2⟩
theorem PW.al(h:PW w B p d s){o:Obj}(e:w.alloc o=w'):PW w' B p d s:=h.below (bal e)
theorem PW.lk(h:PW w B p d s):Lk B p w w:=Lk.refl _ _ _
theorem wr1(h:PW w B p d s)(x:ByteArray)(hlen:s.length+x.size<=TB):
 Calls Tryz.prog 166 #[.pointer (some ⟨p,0,none⟩),.slice (some ⟨w.heap.size,0,none⟩) 1 1] (w.alloc (.cells #[.string x] 9)) (Pr B p d s x.data.toList w):=by
 obtain⟨w1,e⟩:=nm_ (w.alloc (.cells #[.string x] 9));rw[e];have hp:=h.lt;have hle:=h.le;have hx:x.data.toList.length=x.size:=rfl;refine(sH [x] w.heap.size 1 (h.al e) (Blk.nw e) (by omega) (by simp only[eb,Ez,List.flatMap_nil,Eo];omega) (by simp)).mono ?_;rintro r w2 ⟨rfl,l1,p1⟩;exact⟨rfl,(Lk.al (bal e)).trans l1,by simpa[eb]using p1⟩
theorem wr2(h:PW w B p d s)(x y:ByteArray)(hlen:s.length+(x.size+y.size)<=TB):
 Calls Tryz.prog 166 #[.pointer (some ⟨p,0,none⟩),.slice (some ⟨w.heap.size,0,none⟩) 2 2] (w.alloc (.cells #[.string x,.string y] 9)) (Pr B p d s (x.data.toList++y.data.toList) w):=by
 obtain⟨w1,e⟩:=nm_ (w.alloc (.cells #[.string x,.string y] 9));rw[e];have hp:=h.lt;have hle:=h.le;have hx:x.data.toList.length=x.size:=rfl;have hy:y.data.toList.length=y.size:=rfl;refine(sH [x,y] w.heap.size 2 (h.al e) (Blk.nw e) (by omega) (by simp only[eb,Ez,List.flatMap_nil,Eo,DJ];omega) (by simp)).mono ?_;rintro r w2 ⟨rfl,l1,p1⟩;exact⟨rfl,(Lk.al (bal e)).trans l1,by simpa[eb]using p1⟩
theorem wr3(h:PW w B p d s)(x y z:ByteArray)(hlen:s.length+(x.size+y.size+z.size)<=TB):
 Calls Tryz.prog 166 #[.pointer (some ⟨p,0,none⟩),.slice (some ⟨w.heap.size,0,none⟩) 3 3] (w.alloc (.cells #[.string x,.string y,.string z] 9)) (Pr B p d s (x.data.toList++(y.data.toList++z.data.toList)) w):=by
 obtain⟨w1,e⟩:=nm_ (w.alloc (.cells #[.string x,.string y,.string z] 9));rw[e];have hp:=h.lt;have hle:=h.le;have hx:x.data.toList.length=x.size:=rfl;have hy:y.data.toList.length=y.size:=rfl;have hz:z.data.toList.length=z.size:=rfl;refine(sH [x,y,z] w.heap.size 3 (h.al e) (Blk.nw e) (by omega) (by simp only[eb,Ez,List.flatMap_nil,Eo,DJ];omega) (by simp)).mono ?_;rintro r w2 ⟨rfl,l1,p1⟩;exact⟨rfl,(Lk.al (bal e)).trans l1,by simpa[eb]using p1⟩
theorem ExK.lk(h:ExK w (GB B p N) x cs)(l:Lk B p w w')(hB:B<=w.heap.size):ExK w' (GB B p N) x cs:=ExK.aA (λb hb=>⟨hb,l.gb hB hb⟩) h
theorem Sl.lk{α:Type}{K:Kd α}{xs:List α}{n:Nat}(h:Sl K w (GB B p N) xs A n)(l:Lk B p w w')(hB:B<=w.heap.size):Sl K w' (GB B p N) xs A n:=h.aA λb hb=>⟨hb,l.gb hB hb⟩
end
def Cj(B p d N:Nat)(e:Ex):Prop:=∀(cs:List Value) (w:World) (s:List UInt8),ExK w (GB B p N) e cs->lw cs->PW w B p d s->GP w p N->s.length+(tE e).length<=TB->Calls Tryz.prog 264 #[.pointer (some ⟨p,0,none⟩),.agg cs.toArray] w (Pr B p d s (tE e) w)
def sE(B p d N:Nat)(e:Ex):Prop:=∀(r:Nat) (cs:List Value) (w:World) (s:List UInt8),ExK w (GB B p N) e cs->lw cs->PW w B p d s->GP w p N->s.length+(tIn r e).length<=TB->Calls Tryz.prog 236 #[.pointer (some ⟨p,0,none⟩),.agg cs.toArray,.int .i64 (r:Int)] w (Pr B p d s (tIn r e) w)
theorem tG{p:Nat}(hv:vE e=true)(h264:Cj B p d N e):sE B p d N e:=by
 intro r cs w s hr hcl hp hg hlen;obtain⟨xk,xo,xz,xn,xa,args⟩:=e;have hr0:=hr;obtain⟨A,n,c,rfl,hs⟩:=ExK.inv hr;obtain⟨g,hz⟩:=nm_ (w.heap.size);obtain⟨W0,hW0⟩:=nm_ (w.alloc (.cells #[.int .i64 xk,.int .i64 xo,.int .i64 xz,.string xn,.bool xa,.slice A n c] 172));have hlt:=hp.lt;have hle:=hp.le;have hbig:=hg.g.big;have HQ:=hng hW0 hz;have HB0:=hba hW0;have hs0:W0.heap.size=g+1:=by rw[<-hW0,DV,hz]
 have l0:Lk B p w W0:=Lk.al HB0.out;have HC:=H_ (xC _ _ W0 (GB B p N) hv (ExK.lk hr0 l0 hle) (hg.lk l0 hlt).f (by omega));have HL0:=H_ l0;have HP0:=H_ (hp.below HB0.out);have HG0:=H_ (hg.lk l0 hlt);have HX0:=H_ (ExK.lk hr0 l0 hle);have HW:=H_ hW0;have H264:=H_ h264;have HCL:=H_ hcl;obtain⟨q0,q1,q2,q3,q4,q5⟩:=HQ.out.c6;obtain⟨T,hT⟩:=nm_ (tIn r (.mk xk xo xz xn xa args));rw[hT]at hlen⊢;have HT:=H_ hT;clear hr hr0 hT hcl hs hp hg hW0 hv h264 l0;go_enter Tryz.func236,Tryz.ntmps236;go_upto_region 1 with fail;rw[HW.out];go_wp2_with fail;refine HC.out.mono ?_;rintro e' w1 ⟨rfl,b1⟩;have hs1:=b1.size;have HL1:=H_ (HL0.out.trans (Lk.al b1));have HP1:=H_ (HP0.out.below b1);have HG1:=H_ (HG0.out.new b1);have HX1:=H_ (ExK.lk HX0.out (Lk.al b1) (by omega));have HQ1:=H_ (HQ.out.below b1 (by omega));obtain⟨r0,r1,r2,r3,r4,r5⟩:=HQ1.out.c6;clear b1 HC HL0 HP0 HG0 HX0 HQ q0 q1 q2 q3 q4 q5;by_cases hl:lvl (.mk xk xo xz xn xa args)<r
 ·have hT:T=40::(tE (.mk xk xo xz xn xa args)++[41]):=by rw[<-HT.out,lW,Ed hl]
  rw[hT]at hlen;have HT:=H_ hT;clear hT;have hlz:((lvl (.mk xk xo xz xn xa args):Nat):Int)<(r:Int):=by omega
  simp only[DL,DJ,DO]at hlen;have HC1:=H_ (wr1 HP1.out ⟨#[40]⟩ (by show s.length+1<=TB;omega));go_wp2_with fail;refine HC1.out.mono ?_;rintro e' w2 ⟨rfl,l2,p2⟩;have hs2:=l2.size;have HC2:=H_ (H264.out _ w2 _ (ExK.lk HX1.out l2 (by omega)) HCL.out p2 (HG1.out.lk l2 hlt) (by rw[DJ];show s.length+1+_<=TB;omega));obtain⟨t0,t1,t2,t3,t4,t5⟩:=(HQ1.out.lk l2 (by omega)).c6;have HL2:=H_ (HL1.out.trans l2);clear HC1 l2 p2;go_wp2_with fail;refine HC2.out.mono ?_;rintro e' w3 ⟨rfl,l3,p3⟩;have hs3:=l3.size;have HC3:=H_ (wr1 p3 ⟨#[41]⟩ (by simp only[DJ];show s.length+1+_+1<=TB;omega));have HL3:=H_ (HL2.out.trans l3);clear HC2 l3 p3;go_wp2_with fail;refine HC3.out.mono ?_;rintro e' w4 ⟨rfl,l4,p4⟩;have HL4:=H_ (HL3.out.trans l4);have HP4:=H_ p4;clear HC3 l4 p4;go_wp2_with fail;go_end0;exact⟨rfl,HL4.out,by rw[HT.out];simpa using HP4.out⟩
 ·have hT:T=tE (.mk xk xo xz xn xa args):=by rw[<-HT.out,lW,DS hl]
  rw[hT]at hlen;have HT:=H_ hT;clear hT;have hlz:¬((lvl (.mk xk xo xz xn xa args):Nat):Int)<(r:Int):=by omega
  have HC2:=H_ (H264.out _ w1 _ HX1.out HCL.out HP1.out HG1.out hlen);go_wp2_with fail;refine HC2.out.mono ?_;rintro e' w3 ⟨rfl,l3,p3⟩;have HL3:=H_ (HL1.out.trans l3);have HP3:=H_ p3;clear HC2 l3 p3;go_wp2_with fail;go_end0;exact⟨rfl,HL3.out,HT.out▸HP3.out⟩
theorem ml{p:Nat}(h236:sE B p d N a)(x:ByteArray)(r:Nat)(l:List Ex)(A:Option Addr)(n c g1 g2:Nat)(v0 v1 v2 v3 v4:Value)(w:World)(s:List UInt8)(hb1:Blk w g1 126 #[.pointer (some ⟨p,0,none⟩)])
 (hb2:Blk w g2 172 #[v0,v1,v2,v3,v4,.slice A n c]) (hs:Sl gX w (GB B p N) (a::l) A n) (hg1:g1≠p) (hg2:g2≠p) (hp:PW w B p d s) (hg:GP w p N) (hlen:s.length+(x.size+(tIn r a).length)<=TB):
 Calls Tryz.prog 287 #[.string x,.int .i64 (r:Int),.pointer (some ⟨g1,0,none⟩),.pointer (some ⟨g2,0,none⟩)] w (Pr B p d s (x.data.toList++tIn r a) w):=by
 have hlt:=hp.lt;have hle:=hp.le;have hx0:x.data.toList.length=x.size:=rfl;have hn:l.length+1=n:=hs.1;have HC:=H_ (wr1 hp x (by omega));have HS:=H_ hs;have HB1:=H_ hb1;have HB2:=H_ hb2;have HG:=H_ hg;have H236:=H_ h236;have f0:=hb1.k0;obtain⟨T,hT⟩:=nm_ (tIn r a);rw[hT]at hlen⊢;have HT:=H_ hT;clear hs hb1 hb2 hg hp h236 hT;go_enter Tryz.func287,Tryz.ntmps287;go_wp2_with fail;refine HC.out.mono ?_;rintro e w1 ⟨rfl,l1,p1⟩;have hs1:=l1.size;have e0:=(HB1.out.lk l1 hg1).k0;have e5:=(HB2.out.lk l1 hg2).k5;have hS1:=HS.out.lk l1 hle;obtain⟨b,off,a',cs,rfl,hgb,ha,hrd,hat⟩:=hS1.at_ (k:=0) (by omega);obtain rfl:a=a':=by simpa using ha
 have hG1:=HG.out.lk l1 hlt;have HC2:=H_ (H236.out r cs w1.drew _ (ExK.aA (w:=w1) (w':=w1.drew) (G:=GB B p N) (λb hb=>⟨hb,rfl⟩) hrd) (oX hrd) ⟨p1.ex,p1.lt,p1.le⟩ (hG1.new (DN w1.heap.size w1).drew) (by rw[DJ,HT.out];omega));rw[HT.out]at HC2;obtain⟨yk,yo,yz,yn,ya,args2⟩:=a;obtain⟨A2,n2,c2,rfl,hsa⟩:=ExK.inv hrd;obtain⟨d0,d1,d2,d3,d4,d5⟩:=At.e6 (k:=0) hat
 simp only[Nat.zero_mul,FX]at d0 d1 d2 d3 d4 d5;have hnz:(0:Int)<(n:Int):=by omega
 have hn0:0<n:=by omega
 have HL1:=H_ l1;clear hS1 hgb ha hrd hat hsa l1 p1 hG1 HC;go_wp2_with fail;go_still_tail 6,(by kernel_rfl);change wpList _ _ _ _ _ w1.drew;go_wp2_with fail;refine HC2.out.mono ?_;rintro e w2 ⟨rfl,l2,p2⟩;have HL2:=H_ (HL1.out.trans ((Lk.al ((DN w1.heap.size w1).drew)).trans l2));have HP2:=H_ p2;clear HC2 l2 p2;go_wp2_with fail;go_end0;exact⟨rfl,HL2.out,by rw[<-Eb];exact HP2.out⟩
theorem r9(l:List Ex)(x:Ex):cp (l++[x])=if l=[]then tE x else cp l++44::32::tE x:=by
 cases l with
 |nil=>simp[cp]
 |cons a l=>simp[cp]
theorem ja{k:Nat}(h:xs[k]?=some x):cp (xs.take (k+1))=if k=0 then tE x else cp (xs.take k)++44::32::tE x:=by
 rw[EQ,h];show cp (xs.take k++[x])=_;rw[r9];have hk:=(DQ.1 h).1;by_cases h0:k=0
 ·subst h0;simp
 ·rw[DS h0,DS λe=>by have:=Fo List.length e;rw[Fd,DO]at this;omega]
theorem rb:∀(xs:List Ex) (k:Nat),(cp (xs.take k)).length<=(cp xs).length
 |[],k=>by simp
 |a::l,0=>by simp[cp]
 |a::l,k+1=>by
  rw[List.take_succ_cons];simp only[cp,DJ];have:=Fo (λm:List Ex=>(m.flatMap λb=>44::32::tE b).length) (ER k l);simp only[EX,DJ]at this;omega
theorem my{p:Nat}(xs:List Ex)(h:∀a∈xs,sE B p d N a)(A:Option Addr)(n c:Nat)(w:World)(s:List UInt8)(hs:Sl gX w (GB B p N) xs A n)(hp:PW w B p d s)(hg:GP w p N)(hlen:s.length+((cp xs).length+2)<=TB):
 Calls Tryz.prog 266 #[.pointer (some ⟨p,0,none⟩),.slice A n c] w (Pr B p d s (40::(cp xs++[41])) w):=by
 have hlt:=hp.lt;have hle:=hp.le;have hn:=hs.1;have hnb:n<=1152921504606846976:=hs.2.1;have HC:=H_ (wr1 hp ⟨#[40]⟩ (by show s.length+1<=TB;omega));have HS:=H_ hs;have HG:=H_ hg;have HH:=H_ h;clear hs hg hp h;go_enter Tryz.func266,Tryz.ntmps266;go_wp2_with fail;refine HC.out.mono ?_;rintro e w1 ⟨rfl,l1,p1⟩;have HL1:=H_ l1;have HP1:=H_ p1;have hs1:=l1.size;clear l1 p1 HC;go_wp2_with fail;go_loopw [11] (λi wr=>∃k:Nat,k<=n/\i= .int .i64 k/\Hid (Lk B p w wr)/\Hid (PW wr B p d (s++40::cp (xs.take k)))) (λi _=>n-(intOf i).toNat)
 case atStart=>exact⟨0,Ea _,rfl,HL1,H_ (by simpa[cp]using HP1.out)⟩
 case round=>
  obtain⟨k,hk,rfl,HL,HP⟩:=hrel;have hsr:=HL.out.size;by_cases hkm:k<n
  ·have hkz:(k:Int)<(n:Int):=by omega
   obtain⟨b,off,a,cs,rfl,hgb,ha,hrd,hat⟩:=(HS.out.lk HL.out hle).at_ hkm;have HA:=H_ ha;have hmem:=DW ha;have hmono:=rb xs (k+1);rw[ja ha]at hmono;have HR:=H_ hrd;have HCL:=H_ (oX hrd);obtain⟨yk,yo,yz,yn,ya,args2⟩:=a;obtain⟨A2,n2,c2,rfl,hsa⟩:=ExK.inv hrd;obtain⟨d0,d1,d2,d3,d4,d5⟩:=At.e6 hat
   obtain⟨w2,hw2⟩:=nm_ (wr.alloc (.cells #[.int .i64 yk,.int .i64 yo,.int .i64 yz,.string yn,.bool ya,.slice A2 n2 c2] 172));have HW2:=H_ hw2;have HQ:=hnw hw2;have l2:Lk B p wr w2:=Lk.al (bal hw2);have hs2:=l2.size;have HL2:=H_ (HL.out.trans l2);have HP2:=H_ (HP.out.below (bal hw2));have HE:=H_ (HH.out _ hmem);have hpw:p≠wr.heap.size:=by omega
   clear ha hrd hat hsa hmem hgb hw2 l2 HL HP;by_cases hk0:k=0
   ·subst hk0;simp only[Nat.zero_mul,FX]at d0 d1 d2 d3 d4 d5;rw[Ed rfl]at hmono;have htk:=ja HA.out;rw[Ed rfl]at htk;have HTK:=H_ htk;have HC:=H_ (HE.out 1 _ w2 _ (ExK.lk HR.out (Lk.al (bal HW2.out)) (by omega)) HCL.out HP2.out (HG.out.lk HL2.out hlt) (by rw[am];simp only[DJ,DL,List.take_zero];show s.length+(0+1)+_<=TB;omega));obtain⟨q0,q1,q2,q3,q4,q5⟩:=HQ.out.c6;clear htk;go_upto_region 4 with fail;rw[HW2.out];go_wp2_with fail;refine HC.out.mono ?_;rintro e w3 ⟨rfl,l3,p3⟩;have HL3:=H_ (HL2.out.trans l3);have HP3:=H_ p3;clear l3 p3 HC HP2 HL2;go_wp2_with fail;go_roundw
    case rel=>exact⟨1,by omega,by go_num,HL3,H_ (by rw[HTK.out];have:=HP3.out;rw[am]at this;simpa[cp]using this)⟩
    case measure=>simp[intOf];omega
   ·rw[DS hk0]at hmono;have htk:=ja HA.out;rw[DS hk0]at htk;have HTK:=H_ htk;simp only[DJ,DL]at hmono;have hkp:(0:Int)<(k:Int):=by omega
    have HC0:=H_ (wr1 HP2.out ⟨#[44,32]⟩ (by simp only[DJ,DL];show _+2<=TB;omega));obtain⟨q0,q1,q2,q3,q4,q5⟩:=HQ.out.c6;clear htk;go_upto_region 4 with fail;rw[HW2.out];go_wp2_with fail;refine HC0.out.mono ?_;rintro e w4 ⟨rfl,l4,p4⟩;have hs4:=l4.size;have HC:=H_ (HE.out 1 _ w4 _ (ExK.lk HR.out ((Lk.al (bal HW2.out)).trans l4) (by omega)) HCL.out p4 (HG.out.lk (HL2.out.trans l4) hlt) (by rw[am];simp only[DJ,DL];show _+2+_<=TB;omega));obtain⟨r0,r1,r2,r3,r4,r5⟩:=(HQ.out.lk l4 (Ne.symm hpw)).c6;have HL4:=H_ (HL2.out.trans l4);clear l4 p4 HC0 HP2;go_wp2_with fail;refine HC.out.mono ?_;rintro e w3 ⟨rfl,l3,p3⟩;have HL3:=H_ (HL4.out.trans l3);have HP3:=H_ p3;clear l3 p3 HC HL2;go_wp2_with fail;go_roundw
    case rel=>exact⟨k+1,by omega,by go_num,HL3,H_ (by rw[HTK.out];have:=HP3.out;rw[am]at this;simpa using this)⟩
    case measure=>simp[intOf];omega
  ·obtain rfl:k=n:=by omega
   rw[DP (by omega)]at HP;have HC:=H_ (wr1 HP.out ⟨#[41]⟩ (by simp only[DJ,DL];show _+1<=TB;omega));go_wp2_with fail;refine HC.out.mono ?_;rintro e w3 ⟨rfl,l3,p3⟩;have HL3:=H_ (HL.out.trans l3);have HP3:=H_ p3;clear l3 p3 HC;go_wp2_with fail;go_end0;exact⟨rfl,HL3.out,by simpa using HP3.out⟩
theorem yy:TB=1000000000:=rfl
theorem CQ(hv:vE e=true)(h:Dh e):DF e:=by
 intro l cs w G hr hcl hG hcg hlen;obtain⟨xk,xo,xz,xn,xa,args⟩:=e;have hr0:=hr;obtain⟨A,n,c,rfl,hs⟩:=ExK.inv hr;obtain⟨g,hz⟩:=nm_ (w.heap.size);obtain⟨W0,hW0⟩:=nm_ (w.alloc (.cells #[.int .i64 xk,.int .i64 xo,.int .i64 xz,.string xn,.bool xa,.slice A n c] 172));have HQ:=hng hW0 hz;have HB0:Hid (Below g w W0):=H_ (hz▸(hba hW0).out);have hs0:W0.heap.size=g+1:=by rw[<-hW0,DV,hz]
 have HX0:=H_ (ExK.aA (w':=W0) (G':=G) (λq hq=>⟨hq,HB0.out.block q (by have:=hG q hq;omega)⟩) hr0);have HC:=H_ (BA _ _ W0 G hv HX0.out);have HH:=H_ h;have HCL:=H_ hcl;have HG:=H_ hG;have HCG:=H_ (hcg.aA (w':=W0) λq hq=>HB0.out.block q (by have:=hG q hq;omega));have HW:=H_ hW0;obtain⟨q0,q1,q2,q3,q4,q5⟩:=HQ.out.c6;obtain⟨T,hT⟩:=nm_ (tIn l (.mk xk xo xz xn xa args));rw[hT]at hlen⊢;rw[lW]at hT;have HT:=H_ hT;have htb:=yy;clear hr hr0 hs hcl hG hcg hW0 hv h hT;go_enter Tryz.func170,Tryz.ntmps170;rw[hz];go_upto_region 1 with fail;rw[HW.out];go_wp2_with fail;refine HC.out.mono ?_;rintro r w1 ⟨rfl,b1⟩;have hs1:=b1.size;have HB1:=H_ (HB0.out.trans (b1.mono (by omega)));obtain⟨r0,r1,r2,r3,r4,r5⟩:=(HQ.out.below b1 (by omega)).c6
 have HC2:Hid ((tE (.mk xk xo xz xn xa args)).length<=TB->Calls Tryz.prog 169 #[.agg #[.int .i64 xk,.int .i64 xo,.int .i64 xz,.string xn,.bool xa,.slice A n c]] w1 λr w'=>r= .returned (.string (ba (tE (.mk xk xo xz xn xa args))))/\Below w1.heap.size w1 w'):=H_ λhl=>
  HH.out _ w1 G (ExK.aA (λq hq=>⟨hq,b1.block q (by have:=HG.out q hq;omega)⟩) HX0.out) HCL.out (λq hq=>by have:=HG.out q hq;omega) (HCG.out.aA λq hq=>b1.block q (by have:=HG.out q hq;omega)) hl
 generalize tE (.mk xk xo xz xn xa args)=E at*
 clear b1 HC HX0 HH HCL HCG;by_cases hl:lvl (.mk xk xo xz xn xa args)<l
 ·have hT:T=40::(E++[41]):=by rw[<-HT.out,Ed hl]
  rw[hT]at hlen;simp only[DL,DJ,DO]at hlen;have hlz:((lvl (.mk xk xo xz xn xa args):Nat):Int)<(l:Int):=by omega
  have a1:∀W,(Op.stringOp .add ⟨#[40]⟩ (ba E)).run Tryz.prog W= .ok (.string (ba (40::E))) W:=kN ⟨#[40]⟩ (ba E) [40] E;have a2:∀W,(Op.stringOp .add (ba (40::E)) ⟨#[41]⟩).run Tryz.prog W= .ok (.string (ba (40::(E++[41])))) W:=kN (ba (40::E)) ⟨#[41]⟩ (40::E) [41];have HC3:=H_ (HC2.out (by omega));have HTT:=H_ (show ba (40::(E++[41]))=ba T by rw[hT]);clear hT HT HC2;go_wp2_with fail;refine HC3.out.mono ?_;rintro r w2 ⟨rfl,b2⟩;have HB2:=H_ (HB1.out.trans (b2.mono (by omega)));clear b2 HC3;go_wp2_with fail;go_ret;exact⟨by rw[<-HTT.out];rfl,HB2.out⟩
 ·have hT:T=E:=by rw[<-HT.out,DS hl]
  have hlz:¬((lvl (.mk xk xo xz xn xa args):Nat):Int)<(l:Int):=by omega
  have HC3:=H_ (HC2.out (hT▸hlen));have HTT:=H_ hT;clear hT HT HC2;go_wp2_with fail;refine HC3.out.mono ?_;rintro r w2 ⟨rfl,b2⟩;have HB2:=H_ (HB1.out.trans (b2.mono (by omega)));clear b2 HC3;go_wp2_with fail;go_ret;exact⟨by rw[HTT.out];rfl,HB2.out⟩
structure Cls{T:Type}(w:World)(W0:World)(G:Nat->Prop)(f:T->World):Prop where
 cov:∀W,Below W0.heap.size W0 W->∃x,W=f x
 fr:∀y,Below W0.heap.size W0 (f y)
 fr0:∀y,Below w.heap.size w (f y)
 aA:∀y q,G q->G q/\(f y).heap[q]?=w.heap[q]?
 lt:∀y q,G q->q<(f y).heap.size
 cap:∀y,CapG (f y) G
theorem Cls.all{f:T->World}(C:Cls w W0 G f){n:Nat}{vs:Array Value}{s:List UInt8}(h:∀y,Calls Tryz.prog n vs (f y) λe w''=>e= .returned (.string (ba s))/\Below (f y).heap.size (f y) w''):
 Hid (∀y,Calls Tryz.prog n vs (f y) λe w''=>e= .returned (.string (ba s))/\∃z,w''=f z):=
 H_ λy=>(h y).mono λe w'' ⟨h1,h2⟩=>⟨h1,C.cov _ ((C.fr y).trans (h2.mono (C.fr y).size))⟩
theorem Cls.in_{f:T->World}(C:Cls w W0 G f)(hv:vE a=true)(h:Dh a)(l:Nat)(hr:ExK w G a cs)(hc:lw cs)(hlen:(tIn l a).length<=TB):
 Hid (∀y,Calls Tryz.prog 170 #[.agg cs.toArray,.int .i64 (l:Int)] (f y) λe w''=>e= .returned (.string (ba (tIn l a)))/\∃z,w''=f z):=
 C.all λy=>CQ hv h l cs (f y) G (ExK.aA (C.aA y) hr) hc (C.lt y) (C.cap y) hlen
theorem Cls.at_{f:T->World}(C:Cls w W0 G f)(hcg:CapG w G){n:Nat}(hs:Sl gX w G xs A n){k:Nat}(ha:xs[k]?=some a):
 ∃b off yk yo yz yn ya A2 n2 c2,A=some ⟨b,off,none⟩/\ExK w G a [.int .i64 yk,.int .i64 yo,.int .i64 yz,.string yn,.bool ya,.slice A2 n2 c2]/\lw [.int .i64 yk,.int .i64 yo,.int .i64 yz,.string yn,.bool ya,.slice A2 n2 c2]/\
  ∀y,(f y).cell? ⟨b,off+k*6,none⟩=some (.int .i64 yk)/\(f y).cell? ⟨b,off+k*6+1,none⟩=some (.int .i64 yo)/\(f y).cell? ⟨b,off+k*6+2,none⟩=some (.int .i64 yz)/\
   (f y).cell? ⟨b,off+k*6+3,none⟩=some (.string yn)/\(f y).cell? ⟨b,off+k*6+4,none⟩=some (.bool ya)/\(f y).cell? ⟨b,off+k*6+5,none⟩=some (.slice A2 n2 c2):=by
 have hk:k<n:=by rw[<-hs.1];exact(DQ.1 ha).1
 obtain⟨b,off,x,cs,rfl,hgb,hx,hrd,hat⟩:=hs.at_ hk;obtain rfl:x=a:=by rw[ha]at hx;exact(Option.some.inj hx).symm
 have hc:=oX hrd;obtain⟨yk,yo,yz,yn,ya,args2⟩:=x;have hrd':=hrd;obtain⟨A2,n2,c2,rfl,hsa⟩:=ExK.inv hrd;refine⟨b,off,yk,yo,yz,yn,ya,A2,n2,c2,rfl,hrd',hc,λy=>?_⟩;have h2:=At.e6 hat
 have hb:∀i,(f y).cell? ⟨b,i,none⟩=w.cell? ⟨b,i,none⟩:=λi=>F1 (C.aA y b hgb).2;simp only[hb];exact h2
section
variable{T:Type}{w W0:World}{G:Nat->Prop}{f:T->World}
end
theorem Bv(d:Nat)(s:ByteArray)(X:List UInt8)(w:World)(hs:s.data.toList=X)(hd:d<=1000000000)(hlen:(tLn d X).length<=TB):
 Calls Tryz.prog 67 #[.int .i64 (d:Int),.string s] w λe w'=>e= .returned (.string (ba (tLn d X)))/\w'=w:=by
 have htb:=yy
 have hle:∀k,k<=d->(bi k).length+X.length+1<=TB:=λk hk=>by
  unfold tLn bi at*
  simp only[DJ,DL,DO,List.length_replicate]at*
  omega
 have HT:=H_ (show tLn d X=bi d++X++[10]from rfl);have HLE:=H_ hle;have HX:=H_ hs;clear hle hlen;go_enter Tryz.func67,Tryz.ntmps67;go_wp2_with fail;go_loopw [5,6] (λs i wr=>∃k:Nat,k<=d/\i= .int .i64 k/\s= .string (ba (bi k))/\wr=w) (λ_ i _=>d-(intOf i).toNat)
 case atStart=>exact⟨0,Ea _,rfl,rfl,rfl⟩
 case round=>
  obtain⟨k,hk,rfl,rfl,rfl⟩:=hrel;by_cases hkm:k<d
  ·have hkz:(k:Int)<(d:Int):=by omega
   have hl:=HLE.out (k+1) (by omega);have hl0:=HLE.out k (by omega);have a1:=kN (ba (bi k)) ⟨#[32,32]⟩ (bi k) [32,32] rfl rfl (by simp only[DL,DO];omega);have hi:ba (bi k++[32,32])=ba (bi (k+1)):=by unfold bi;rw[show 2*(k+1)=2*k+2 by omega,<-List.replicate_append_replicate];rfl
   rw[hi]at a1;go_wp2_with fail;go_roundw
   case rel=>exact⟨k+1,by omega,by go_num,rfl,trivial⟩
   case measure=>simp[intOf];omega
  ·obtain rfl:k=d:=by omega
   have hl0:=HLE.out k (by omega);have a1:=kN (ba (bi k)) s (bi k) X rfl HX.out (by omega);have a2:=kN (ba (bi k++X)) ⟨#[10]⟩ (bi k++X) [10];clear HX;rw[<-HT.out]at a2;go_wp2_with fail;go_ret;simp
theorem Cb{p:Nat}{b:Ex}(ha:sE B p d N a)(hb:sE B p d N b)(o:Nat)(ho:o<=12)(cs:List Value)(w:World)(s:List UInt8)(hr:ExK w (GB B p N) (cx o a b) cs)(hp:PW w B p d s)(hg:GP w p N)(hlen:s.length+(tE (cx o a b)).length<=TB):
 Calls Tryz.prog 288 #[.pointer (some ⟨p,0,none⟩),.agg cs.toArray] w (Pr B p d s (tE (cx o a b)) w):=by
 obtain⟨A,n,c,rfl,hs⟩:=ExK.inv hr;have hn:2=n:=hs.1;subst hn;obtain⟨g,hz⟩:=nm_ (w.heap.size);obtain⟨W0,hW0⟩:=nm_ (w.alloc (.cells #[.int .i64 10,.int .i64 (o:Int),.int .i64 0,.string ⟨#[]⟩,.bool false,.slice A 2 c] 172));obtain⟨W1,hW1⟩:=nm_ (W0.alloc (.cells #[.string (bH o),.int .i64 (ap (o:Int):Nat)] 309));have hlt:=hp.lt;have hle:=hp.le;have hbig:=hg.g.big;have HQ0:=hng hW0 hz;have hs0:W0.heap.size=g+1:=by rw[<-hW0,DV,hz]
 have HT1:=hng hW1 hs0;have hs1:W1.heap.size=g+2:=by rw[<-hW1,DV,hs0]
 have HQ1:=H_ (HQ0.out.al hW1);have l1:Lk B p w W1:=(Lk.al (bal hW0)).trans (Lk.al (bal hW1));have HL1:=H_ l1;have HP1:=H_ ((hp.below (bal hW0)).below (bal hW1));have HG1:=H_ (hg.lk l1 hlt);have HS1:=H_ (hs.lk l1 hle);have hG0:GlF W0:=(hg.lk (Lk.al (bal hW0)) hlt).f;obtain⟨t0,t1⟩:=hG0.op o ho;have ho0:(0:Int)<=(o:Int):=by omega
 have ho1:(o:Int)<13:=by omega
 obtain⟨T,hT⟩:=nm_ (tE (cx o a b));rw[hT]at hlen⊢;rw[vT]at hT;have HT:=H_ hT;have HA:=H_ ha;have HB:=H_ hb;have HW:=H_ (And.intro hW0 hW1);have hone:=fi o ho;have q1:=HQ0.out.k1;generalize ap (o:Int)=L at*
 generalize bH o=OT at*
 clear hr hs hp hg hW0 hW1 ha hb hT l1 hG0;go_enter Tryz.func288,Tryz.ntmps288;go_upto_region 1 with fail;rw[HW.out.1];go_upto_region 2 with fail;rw[HW.out.2];have e0:=HT1.out.k0;have e1:=HT1.out.k1;go_wp2_with fail;go_quiet (fail);obtain⟨W2,hW2⟩:=nm_ (W1.drewN nq);rw[hW2];have hb2:Below W1.heap.size W1 W2:=hW2▸aT (DN _ _) nq;have hs2:W2.heap.size=g+2:=by rw[<-hW2,<-hs1];rfl
 have hw0:B<=W2.heap.size:=by omega
 have HL2:=H_ (HL1.out.trans (Lk.al hb2));have HP2:=H_ (HP1.out.below hb2);have HG2:=H_ (HG1.out.new hb2);have HS2:=H_ (HS1.out.lk (Lk.al hb2) (by omega));have HQ2:=H_ (HQ1.out.below hb2 (by omega));have HT2:=H_ (HT1.out.below hb2 (by omega))
 obtain⟨lf,rt,hcase⟩:∃lf rt:Nat,(L=4/\lf=5/\rt=5)\/(L≠4/\lf=L/\rt=L+1):=by
  by_cases h4:L=4
  ·exact⟨5,5,.inl ⟨h4,rfl,rfl⟩⟩
  ·exact⟨L,L+1,.inr ⟨h4,rfl,rfl⟩⟩
 have hTT:T=tIn lf a++32::(OT.data.toList++32::tIn rt b):=by
  rw[<-HT.out];rcases hcase with⟨h4,rfl,rfl⟩|⟨h4,rfl,rfl⟩
  ·rw[Ed h4,h4]
  ·rw[DS h4]
 rw[hTT]at hlen;simp only[DJ,DL]at hlen;have HTT:=H_ hTT;have hot:OT.data.toList.length=OT.size:=rfl;obtain⟨b1,off,a',cs,hA1,hgb,ha',hrd,hat⟩:=HS2.out.at_ (k:=0) (by omega);subst hA1;obtain rfl:a=a':=by simpa using ha'
 have HCA:=H_ (HA.out lf cs W2 s hrd (oX hrd) HP2.out HG2.out (by omega));obtain⟨yk,yo,yz,yn,ya,args2⟩:=a;obtain⟨A2,n2,c2,rfl,hsa⟩:=ExK.inv hrd;obtain⟨d0,d1,d2,d3,d4,d5⟩:=At.e6 (k:=0) hat
 simp only[Nat.zero_mul,FX]at d0 d1 d2 d3 d4 d5;have f5:=HQ2.out.k5;have u0:=HT2.out.k0;have u1:=HT2.out.k1;clear hb2 hW2 hTT hgb ha' hrd hat hsa hone q1 t0 t1 e0 e1 HL1 HP1 HG1 HS1 HQ1 HT1 HQ0 HW HT;rcases hcase with⟨rfl,rfl,rfl⟩|⟨h4,rfl,rfl⟩
 case inr=>
  have h4z:((lf:Int)==4)=false:=DM.2 (by omega);go_wp2_with fail;refine HCA.out.mono ?_;rintro e w3 ⟨rfl,l3,p3⟩;have hs3:=l3.size;have HC3:=H_ (wr3 p3 ⟨#[32]⟩ OT ⟨#[32]⟩ (by simp only[DJ];show _+(1+OT.size+1)<=TB;omega));have v0:=(HT2.out.lk l3 (by omega)).k0;have HL3:=H_ (HL2.out.trans l3);have HR3:=H_ l3;have HQ3:=H_ (HQ2.out.lk l3 (by omega));clear l3 p3 HCA;go_wp2_with fail;refine HC3.out.mono ?_;rintro e w4 ⟨rfl,l4,p4⟩;have hs4:=l4.size;have g5:=(HQ3.out.lk l4 (by omega)).k5;have HL4:=H_ (HL3.out.trans l4);obtain⟨b2,off2,a',cs,hA2,hgb,ha',hrd,hat⟩:=(HS2.out.lk (HR3.out.trans l4) hw0).at_ (k:=1) (by omega);simp only[Option.some.injEq,Addr.mk.injEq,Em]at hA2;obtain⟨rfl,rfl⟩:=hA2;obtain rfl:b=a':=by simpa using ha'
  have HCB:=H_ (HB.out (lf+1) cs w4 _ hrd (oX hrd) p4 (HG2.out.lk (HR3.out.trans l4) hlt) (by simp only[DJ];show _+_+(1+(OT.data.toList.length+1))+_<=TB;omega));obtain⟨zk,zo,zz,zn,za,args3⟩:=b;obtain⟨A3,n3,c3,rfl,hsb⟩:=ExK.inv hrd;obtain⟨d0,d1,d2,d3,d4,d5⟩:=At.e6 (k:=1) hat
  simp only[FR]at d0 d1 d2 d3 d4 d5;clear l4 p4 HC3 hgb ha' hrd hat hsb;go_wp2_with fail;refine HCB.out.mono ?_;rintro e w5 ⟨rfl,l5,p5⟩;have HL5:=H_ (HL4.out.trans l5);have HP5:=H_ p5;clear l5 p5 HCB;go_wp2_with fail;go_end0;exact⟨rfl,HL5.out,by rw[HTT.out];simpa using HP5.out⟩
 case inl=>
  go_wp2_with fail;refine HCA.out.mono ?_;rintro e w3 ⟨rfl,l3,p3⟩;have hs3:=l3.size;have HC3:=H_ (wr3 p3 ⟨#[32]⟩ OT ⟨#[32]⟩ (by simp only[DJ];show _+(1+OT.size+1)<=TB;omega));have v0:=(HT2.out.lk l3 (by omega)).k0;have HL3:=H_ (HL2.out.trans l3);have HR3:=H_ l3;have HQ3:=H_ (HQ2.out.lk l3 (by omega));clear l3 p3 HCA;go_wp2_with fail;refine HC3.out.mono ?_;rintro e w4 ⟨rfl,l4,p4⟩;have hs4:=l4.size;have g5:=(HQ3.out.lk l4 (by omega)).k5;have HL4:=H_ (HL3.out.trans l4);obtain⟨b2,off2,a',cs,hA2,hgb,ha',hrd,hat⟩:=(HS2.out.lk (HR3.out.trans l4) hw0).at_ (k:=1) (by omega);simp only[Option.some.injEq,Addr.mk.injEq,Em]at hA2;obtain⟨rfl,rfl⟩:=hA2;obtain rfl:b=a':=by simpa using ha'
  have HCB:=H_ (HB.out 5 cs w4 _ hrd (oX hrd) p4 (HG2.out.lk (HR3.out.trans l4) hlt) (by simp only[DJ];show _+_+(1+(OT.data.toList.length+1))+_<=TB;omega));obtain⟨zk,zo,zz,zn,za,args3⟩:=b;obtain⟨A3,n3,c3,rfl,hsb⟩:=ExK.inv hrd;obtain⟨d0,d1,d2,d3,d4,d5⟩:=At.e6 (k:=1) hat
  simp only[FR]at d0 d1 d2 d3 d4 d5;clear l4 p4 HC3 hgb ha' hrd hat hsb;go_wp2_with fail;refine HCB.out.mono ?_;rintro e w5 ⟨rfl,l5,p5⟩;have HL5:=H_ (HL4.out.trans l5);have HP5:=H_ p5;clear l5 p5 HCB;go_wp2_with fail;go_end0;exact⟨rfl,HL5.out,by rw[HTT.out];simpa using HP5.out⟩
theorem CH{p:Nat}(hv:vE e=true)(ih:∀a,esz a<esz e->vE a=true->sE B p d N a):Cj B p d N e:=by
 intro cs w s hr hcl hp hg hlen;obtain⟨xk,xo,xz,xn,xa,args⟩:=e;have hr0:=hr;obtain⟨A,n,c,rfl,hs⟩:=ExK.inv hr;have hn:=hs.1;have hcap:n<=c:=hcl A n c (by simp);clear hcl;obtain⟨g1,hz⟩:∃g,w.heap.size=g:=⟨_,rfl⟩;obtain⟨W0,hW0⟩:=nm_ (w.alloc (.cells #[.pointer (some ⟨p,0,none⟩)] 126));obtain⟨W1,hW1⟩:=nm_ (W0.alloc (.cells #[.int .i64 xk,.int .i64 xo,.int .i64 xz,.string xn,.bool xa,.slice A n c] 172));have hlt:=hp.lt;have hle:=hp.le;have HF0:=hng hW0 hz;have hs0:W0.heap.size=g1+1:=by rw[<-hW0,DV,hz]
 have HE1:=hng hW1 hs0;have hs1:W1.heap.size=g1+2:=by rw[<-hW1,DV,hs0]
 have HF1:=H_ (HF0.out.al hW1);have l1:Lk B p w W1:=(Lk.al (bal hW0)).trans (Lk.al (bal hW1));have HL1:=H_ l1;have HP1:=H_ ((hp.below (bal hW0)).below (bal hW1));have HG1:=H_ (hg.lk l1 hlt);have HS1:=H_ (hs.lk l1 hle);have HR1:=H_ (ExK.lk hr0 l1 hle);have HV:=H_ hv;have HI:=H_ ih;have HW:=H_ (And.intro hW0 hW1);obtain⟨T,hT⟩:=nm_ (tE (.mk xk xo xz xn xa args));rw[hT]at hlen⊢;have HT:=H_ hT;have f0:=HF1.out.k0;obtain⟨e0,e1,e2,e3,e4,e5⟩:=HE1.out.c6;have hB1:B<=W1.heap.size:=by omega
 clear hr hr0 hs hp hg hW0 hW1 hv ih hT l1 HF0;go_enter Tryz.func264,Tryz.ntmps264;go_upto_region 1 with fail;rw[HW.out.1,HW.out.2];rcases dc HV.out with⟨z,e,hz0,hz1⟩|e|e|⟨x,e,hx⟩|⟨x,a,e,hx,ha⟩|⟨x,xs,e,hx,hxs⟩|⟨x,xs,a,e,hx,hxs,ha⟩|⟨k,a,hk,e,ha⟩|⟨o,a,b,ho,e,ha,hb⟩
 case inl=>
  simp only[ge,Ex.mk.injEq]at e;obtain⟨rfl,rfl,rfl,rfl,rfl,rfl⟩:=e;have hTT:T=Lib.itoa xz:=HT.out.symm.trans (vQ xz);subst hTT;have hI:I64 xz:=⟨by omega,by omega⟩;have hil:(Lib.itoa xz).length=(du xz).size:=(uI xz).symm;have f0':W1.drew.cell? ⟨g1,0,none⟩=some (.pointer (some ⟨p,0,none⟩)):=f0;have e2':W1.drew.cell? ⟨g1+1,2,none⟩=some (.int .i64 xz):=e2;have hbd:Below W1.heap.size W1 W1.drew:=(DN _ _).drew;have HGd:=H_ (HG1.out.new hbd).g.gl;have HPd:=H_ (HP1.out.below hbd);have HLd:=H_ (HL1.out.trans (Lk.al hbd));have hsd:W1.drew.heap.size=g1+2:=hs1;clear hbd;go_wp2_with fail
  go_region_with (first
   |(go_at_call 193
     refine(mK xz _ hI HGd.out).mono ?_;rintro e w2 ⟨rfl,b2⟩;have hb2:=b2.size;have F2:Blk w2 g1 126 #[.pointer (some ⟨p,0,none⟩)]:=HF1.out.drew.below b2 (by omega);have f2:=F2.k0;have f2b:=(F2.alloc (.cells #[.string (du xz)] 9)).k0;have HP2:=H_ (HPd.out.below b2);have HL2:=H_ (HLd.out.trans (Lk.al b2));have HC:=H_ (wr1 HP2.out (du xz) (by omega));clear b2 F2)
   |(go_at_call 166
     refine HC.out.mono ?_;rintro e w3 ⟨rfl,l3,p3⟩;have HL3:=H_ (HL2.out.trans l3);have HP3:=H_ p3;clear l3 p3))
  all_goals
   go_wp2_with fail;go_end0;exact⟨rfl,HL3.out,HP3.out⟩
 case inr.inl=>
  simp only[fb,Ex.mk.injEq]at e;obtain⟨rfl,rfl,rfl,rfl,rfl,rfl⟩:=e;have hTT:T=[110,105,108]:=HT.out.symm.trans vN;subst hTT;have HC:=H_ (wr1 HP1.out ⟨#[110,105,108]⟩ hlen);rw[hs1]at HC;go_wp2_with fail;refine HC.out.mono ?_;rintro e w2 ⟨rfl,l2,p2⟩;have HL2:=H_ (HL1.out.trans l2);have HP2:=H_ p2;clear l2 p2 HC;go_wp2_with fail;go_end0;exact⟨rfl,HL2.out,HP2.out⟩
 case inr.inr.inl=>
  simp only[fb,Ex.mk.injEq]at e;obtain⟨rfl,rfl,rfl,rfl,rfl,rfl⟩:=e;have hTT:T=[116,104,105,115]:=HT.out.symm.trans sS;subst hTT;have HC:=H_ (wr1 HP1.out ⟨#[116,104,105,115]⟩ hlen);rw[hs1]at HC;go_wp2_with fail;refine HC.out.mono ?_;rintro e w2 ⟨rfl,l2,p2⟩;have HL2:=H_ (HL1.out.trans l2);have HP2:=H_ p2;clear l2 p2 HC;go_wp2_with fail;go_end0;exact⟨rfl,HL2.out,HP2.out⟩
 case inr.inr.inr.inl=>
  simp only[fb,Ex.mk.injEq]at e;obtain⟨rfl,rfl,rfl,rfl,rfl,rfl⟩:=e;have hTT:T=xn.data.toList:=HT.out.symm.trans (sT xn);subst hTT;have HC:=H_ (wr1 HP1.out xn hlen);rw[hs1]at HC;go_wp2_with fail;refine HC.out.mono ?_;rintro e w2 ⟨rfl,l2,p2⟩;have HL2:=H_ (HL1.out.trans l2);have HP2:=H_ p2;clear l2 p2 HC;go_wp2_with fail;go_end0;exact⟨rfl,HL2.out,HP2.out⟩
 case inr.inr.inr.inr.inl=>
  simp only[aR,Ex.mk.injEq]at e;obtain⟨rfl,rfl,rfl,rfl,rfl,rfl⟩:=e;have hTT:T=tIn 8 a++46::xn.data.toList:=HT.out.symm.trans (pI xn a);rw[hTT]at hlen;have HTT:=H_ hTT;clear hTT;simp only[DJ,DL]at hlen;have hxl:xn.data.toList.length=xn.size:=rfl;have HC:=H_ (ml (HI.out a (by simp[esz,cm]) ha) ⟨#[]⟩ 8 [] A n c g1 (g1+1) _ _ _ _ _ W1 s HF1.out HE1.out HS1.out (by omega) (by omega) HP1.out HG1.out (by show s.length+(0+_)<=TB;omega));go_wp2_with fail;refine HC.out.mono ?_;rintro e w2 ⟨rfl,l2,p2⟩;have hs2:=l2.size;have HC3:=H_ (wr2 p2 ⟨#[46]⟩ xn (by simp only[DJ];show s.length+(0+_)+(1+_)<=TB;omega));have u0:=(HF1.out.lk l2 (by omega)).k0;have u3:=(HE1.out.lk l2 (by omega)).k3;have HL2:=H_ (HL1.out.trans l2);clear l2 p2 HC;go_wp2_with fail;refine HC3.out.mono ?_;rintro e w3 ⟨rfl,l3,p3⟩;have HL3:=H_ (HL2.out.trans l3);have HP3:=H_ p3;clear l3 p3 HC3;go_wp2_with fail;go_end0;exact⟨rfl,HL3.out,by rw[HTT.out];simpa using HP3.out⟩
 case inr.inr.inr.inr.inr.inl=>
  simp only[Ex.mk.injEq]at e;obtain⟨rfl,rfl,rfl,rfl,rfl,rfl⟩:=e;have hTT:T=lm++xn.data.toList++40::(cp args++[41]):=HT.out.symm.trans (vO xn args);rw[hTT]at hlen;have HTT:=H_ hTT;clear hTT;simp only[DJ,DL,DO]at hlen;have hnl:lm.length=4:=rfl;have hxl:xn.data.toList.length=xn.size:=rfl;have HC:=H_ (wr2 HP1.out ⟨#[110,101,119,32]⟩ xn (by show s.length+(4+_)<=TB;omega));rw[hs1]at HC;have hmz:∀a∈args,esz a<esz (.mk 5 0 0 xn false args):=λa ha=>by have:=iI ha;rw[esz];omega
  have HM:=H_ hmz;clear hmz;go_wp2_with fail;refine HC.out.mono ?_;rintro e w2 ⟨rfl,l2,p2⟩;have hs2:=l2.size;have HC3:=H_ (my args (λa ha=>HI.out a (HM.out a ha) (cI hxs a ha)) A n c w2 _ (HS1.out.lk l2 hB1) p2 (HG1.out.lk l2 hlt) (by simp only[DJ];show s.length+(4+_)+_<=TB;omega));have u0:=(HF1.out.lk l2 (by omega)).k0;have u4:=(HE1.out.lk l2 (by omega)).k4;have u5:=(HE1.out.lk l2 (by omega)).k5;have HL2:=H_ (HL1.out.trans l2);have HR2:=H_ l2;clear l2 p2 HC;go_wp2_with fail;refine HC3.out.mono ?_;rintro e w3 ⟨rfl,l3,p3⟩;have y4:=(HE1.out.lk (HR2.out.trans l3) (by omega)).k4;have HL3:=H_ (HL2.out.trans l3);have HP3:=H_ p3;clear l3 p3 HC3;go_wp2_with fail;go_end0;exact⟨rfl,HL3.out,by rw[HTT.out];simpa[lm]using HP3.out⟩
 case inr.inr.inr.inr.inr.inr.inl=>
  have hL:args=xs++[a]:=by simp only[Ex.mk.injEq]at e;exact e.2.2.2.2.2
  simp only[Ex.mk.injEq]at e;obtain⟨rfl,rfl,rfl,rfl,rfl,_⟩:=e;have hTT:T=lm++xn.data.toList++40::(cp xs++41::(sAt++tIn 7 a)):=HT.out.symm.trans (by rw[hL];exact pH xn a xs);rw[hTT]at hlen;have HTT:=H_ hTT;clear hTT;simp only[DJ,DL,DO]at hlen;have hnl:lm.length=4:=rfl;have hal:sAt.length=4:=rfl;have hxl:xn.data.toList.length=xn.size:=rfl;have HC:=H_ (wr2 HP1.out ⟨#[110,101,119,32]⟩ xn (by show s.length+(4+_)<=TB;omega));rw[hs1]at HC;have hez:esz (.mk 5 0 0 xn true args)=1+(cm xs+esz a):=by rw[hL,esz,mS]
  have hmz:∀b∈xs,esz b<esz (.mk 5 0 0 xn true args):=λb hb=>by have:=iI hb;omega
  have HM:=H_ (And.intro hmz (show esz a<esz (.mk 5 0 0 xn true args) by omega));obtain⟨m,rfl⟩:∃m,n=m+1:=⟨xs.length,by rw[<-hn,hL];simp⟩;have hm:xs.length=m:=by have:=hn;rw[hL]at this;simpa using this
  have hmb:m+1<=1152921504606846976:=HS1.out.2.1;have hcz:(m:Int)<=(c:Int):=by omega
  have hmz1:((m+1:Nat):Int)-1=(m:Int):=by omega
  have HAL:=H_ hL;clear hmz hez hL;go_wp2_with fail;refine HC.out.mono ?_;rintro e w2 ⟨rfl,l2,p2⟩;have hs2:=l2.size
  have hSx:Sl gX w2 (GB B p N) xs A m:=by
   have:=(HS1.out.lk l2 hB1).take (k:=m) (by omega);rwa[HAL.out,List.take_append_of_le_length (by omega),DP (by omega)]at this
  have HC3:=H_ (my xs (λb hb=>HI.out b (HM.out.1 b hb) (cI hxs b hb)) A m c w2 _ hSx p2 (HG1.out.lk l2 hlt) (by simp only[DJ];show s.length+(4+_)+_<=TB;omega));have u0:=(HF1.out.lk l2 (by omega)).k0;have u4:=(HE1.out.lk l2 (by omega)).k4;have u5:=(HE1.out.lk l2 (by omega)).k5;have HL2:=H_ (HL1.out.trans l2);have HR2:=H_ l2;clear l2 p2 HC hSx;go_wp2_with fail;refine HC3.out.mono ?_;rintro e w3 ⟨rfl,l3,p3⟩;have hs3:=l3.size;have y0:=(HF1.out.lk (HR2.out.trans l3) (by omega)).k0;have y4:=(HE1.out.lk (HR2.out.trans l3) (by omega)).k4;have HC4:=H_ (wr1 p3 ⟨#[32,97,116,32]⟩ (by simp only[DJ,DL,DO];show s.length+(4+_)+(_+(0+1)+1)+4<=TB;omega));have HL3:=H_ (HL2.out.trans l3);have HR3:=H_ (HR2.out.trans l3);clear l3 p3 HC3;go_wp2_with fail;refine HC4.out.mono ?_;rintro e w4 ⟨rfl,l4,p4⟩;have hs4:=l4.size;have hR4:=HR3.out.trans l4;have z0:=(HF1.out.lk hR4 (by omega)).k0;have z5:=(HE1.out.lk hR4 (by omega)).k5;obtain⟨b1,off,a',cs,hA1,hgb,ha',hrd,hat⟩:=(HS1.out.lk hR4 hB1).at_ (k:=m) (by omega);obtain rfl:a=a':=by rw[HAL.out,EU (by omega),hm,Nat.sub_self]at ha';simpa using ha'
  subst hA1;have hbd:Below w4.heap.size w4 w4.drew:=(DN _ _).drew;have HC5:=H_ (HI.out a HM.out.2 ha 7 cs w4.drew _ (ExK.lk hrd (Lk.al hbd) (by omega)) (oX hrd) (p4.below hbd) ((HG1.out.lk hR4 hlt).new hbd) (by simp only[DJ,DL,DO];show s.length+(4+_)+(_+(0+1)+1)+4+_<=TB;omega));obtain⟨yk,yo,yz,yn,ya,args2⟩:=a;obtain⟨A2,n2,c2,rfl,hsa⟩:=ExK.inv hrd;obtain⟨d0,d1,d2,d3,d4,d5⟩:=At.e6 (k:=m) hat
  have hm0:(m:Int)<((m:Int)+1):=by omega
  have HL4:=H_ (HL3.out.trans (l4.trans (Lk.al hbd)));clear hgb ha' hrd hat hsa l4 p4 hR4 hbd HC4;go_wp2_with fail;go_still_tail 7,(by kernel_rfl);change wpList _ _ _ _ _ w4.drew;go_wp2_with fail;refine HC5.out.mono ?_;rintro e w5 ⟨rfl,l5,p5⟩;have HL5:=H_ (HL4.out.trans l5);have HP5:=H_ p5;clear l5 p5 HC5;go_wp2_with fail;go_end0;exact⟨rfl,HL5.out,by rw[HTT.out];simpa[lm,sAt]using HP5.out⟩
 case inr.inr.inr.inr.inr.inr.inr.inl=>
  simp only[eUn,Ex.mk.injEq]at e;obtain⟨rfl,rfl,rfl,rfl,rfl,rfl⟩:=e;rcases hk with rfl|rfl|rfl|rfl
  ·have hTT:T=[119,101,97,107,32]++tIn 7 a:=HT.out.symm.trans (sR a);rw[hTT]at hlen;have HTT:=H_ hTT;clear hTT;simp only[DJ]at hlen;have HC:=H_ (ml (HI.out a (by simp[esz,cm]) ha) ⟨#[119,101,97,107,32]⟩ 7 [] A n c g1 (g1+1) _ _ _ _ _ W1 s HF1.out HE1.out HS1.out (by omega) (by omega) HP1.out HG1.out hlen);go_wp2_with fail;refine HC.out.mono ?_;rintro e w2 ⟨rfl,l2,p2⟩;have HL2:=H_ (HL1.out.trans l2);have HP2:=H_ p2;clear l2 p2 HC;go_wp2_with fail;go_end0;exact⟨rfl,HL2.out,by rw[HTT.out];exact HP2.out⟩
  ·have hTT:T=[103,101,116,32]++tIn 7 a:=HT.out.symm.trans (vR a);rw[hTT]at hlen;have HTT:=H_ hTT;clear hTT;simp only[DJ]at hlen;have HC:=H_ (ml (HI.out a (by simp[esz,cm]) ha) ⟨#[103,101,116,32]⟩ 7 [] A n c g1 (g1+1) _ _ _ _ _ W1 s HF1.out HE1.out HS1.out (by omega) (by omega) HP1.out HG1.out hlen);go_wp2_with fail;refine HC.out.mono ?_;rintro e w2 ⟨rfl,l2,p2⟩;have HL2:=H_ (HL1.out.trans l2);have HP2:=H_ p2;clear l2 p2 HC;go_wp2_with fail;go_end0;exact⟨rfl,HL2.out,by rw[HTT.out];exact HP2.out⟩
  ·have hTT:T=[45]++tIn 7 a:=HT.out.symm.trans (vP a);rw[hTT]at hlen;have HTT:=H_ hTT;clear hTT;simp only[DJ]at hlen;have HC:=H_ (ml (HI.out a (by simp[esz,cm]) ha) ⟨#[45]⟩ 7 [] A n c g1 (g1+1) _ _ _ _ _ W1 s HF1.out HE1.out HS1.out (by omega) (by omega) HP1.out HG1.out hlen);go_wp2_with fail;refine HC.out.mono ?_;rintro e w2 ⟨rfl,l2,p2⟩;have HL2:=H_ (HL1.out.trans l2);have HP2:=H_ p2;clear l2 p2 HC;go_wp2_with fail;go_end0;exact⟨rfl,HL2.out,by rw[HTT.out];exact HP2.out⟩
  ·have hTT:T=[110,111,116,32]++tIn 3 a:=HT.out.symm.trans (vM a);rw[hTT]at hlen;have HTT:=H_ hTT;clear hTT;simp only[DJ]at hlen;have HC:=H_ (ml (HI.out a (by simp[esz,cm]) ha) ⟨#[110,111,116,32]⟩ 3 [] A n c g1 (g1+1) _ _ _ _ _ W1 s HF1.out HE1.out HS1.out (by omega) (by omega) HP1.out HG1.out hlen);go_wp2_with fail;refine HC.out.mono ?_;rintro e w2 ⟨rfl,l2,p2⟩;have HL2:=H_ (HL1.out.trans l2);have HP2:=H_ p2;clear l2 p2 HC;go_wp2_with fail;go_end0;exact⟨rfl,HL2.out,by rw[HTT.out];exact HP2.out⟩
 case inr.inr.inr.inr.inr.inr.inr.inr=>
  simp only[cx,Ex.mk.injEq]at e;obtain⟨rfl,rfl,rfl,rfl,rfl,rfl⟩:=e;have HC:=H_ (Cb (HI.out a (by simp[esz,cm];omega) ha) (HI.out b (by simp[esz,cm];omega) hb) o ho _ W1 s HR1.out HP1.out HG1.out (by show s.length+(tE (.mk 10 (o:Int) 0 ⟨#[]⟩ false [a,b])).length<=TB;rw[HT.out];exact hlen));rw[show tE (cx o a b)=T from HT.out]at HC;go_wp2_with fail;refine HC.out.mono ?_;rintro e w2 ⟨rfl,l2,p2⟩;have HL2:=H_ (HL1.out.trans l2);have HP2:=H_ p2;clear l2 p2 HC;go_wp2_with fail;go_end0;exact⟨rfl,HL2.out,HP2.out⟩
theorem nN(B p d N:Nat):∀(m:Nat) (e:Ex),esz e<=m->vE e=true->Cj B p d N e
 |0,e,hm,_=>by have:=bE e;omega
 |m+1,e,hm,hv=>CH hv λa ha hva=>tG hva (nN B p d N m a (by omega) hva)
theorem jT{p:Nat}(hv:vE e=true):sE B p d N e:=tG hv (nN B p d N _ e (DK _) hv)
theorem iU:∀d:Nat,Lib.repeatL [32,32] d=bi d
 |0=>rfl
 |d+1=>by
  have ih:=iU d;unfold bi at*
  rw[show 2*(d+1)=(2*d+1)+1 by omega,List.replicate_succ,List.replicate_succ,<-ih];rfl
theorem eG(d:Nat):(bi d).length=2*d:=by simp[bi]
theorem bD(d:Nat)(t:List UInt8):(tLn d t).length=2*d+t.length+1:=by simp[tLn,bi];omega
theorem PW.deep{p:Nat}{s:List UInt8}(h:PW w B p d s):w.cell? ⟨p,2,none⟩=some (.int .i64 (d:Int))/\w.frozen? ⟨p,2,none⟩=false:=by
 obtain⟨sa,sv,h1,h2,h3⟩:=h.ex;exact⟨h1.k2,h1.frozen 2⟩
theorem PW.set{p:Nat}(d':Nat){s:List UInt8}(h:PW w B p d s)(e:w.setCell ⟨p,2,none⟩ (.int .i64 (d':Int))=w'):PW w' B p d' s/\Lk B p w w':=by
 obtain⟨sa,sv,h1,h2,h3⟩:=h.ex;have hlt:=h.lt;refine⟨⟨⟨sa,sv,h1.s2 e,h2,ek h3 λk hk _ _=>e▸DZ _ _ _ _ (show k≠p by omega)⟩,h.lt,?_⟩,e▸(Lk.refl _ _ _).set 2 _⟩;rw[<-e];simpa[World.setCell]using h.le
theorem lI{p:Nat}{s:List UInt8}(t:List UInt8)(nf:Nat)(caps:Array Value)(hen:∀(ar:Array Value) (w:World),(callFunc nf ar).run Tryz.prog w= .ok (.enter nf ar) w)(h:PW w B p d s)(hd:d<=1000000)
 (hF:∀w1,Lk B p w w1->PW w1 B p d (s++bi d)->Calls Tryz.prog nf caps w1 (Pr B p d (s++bi d) t w1)) (hlen:s.length+(tLn d t).length<=TB):
 Calls Tryz.prog 164 #[.pointer (some ⟨p,0,none⟩),.func (.func nf) #[] caps] w (Pr B p d s (tLn d t) w):=by
 rw[bD]at hlen;have HP:=H_ h;have HF:=H_ hF;obtain⟨e0,_⟩:=h.deep;have HR:=H_ (Tryz.strings_Repeat ⟨#[32,32]⟩ d w (by omega) (by show 2*d<=_;omega));have hrl:(⟨(Lib.repeatL (⟨#[32,32]⟩:ByteArray).data.toList d).toArray⟩:ByteArray)=ba (bi d):=by rw[<-iU];rfl
 rw[hrl]at HR;have hil:(ba (bi d)).size=2*d:=by show(bi d).length=_;exact eG d
 have hid':(ba (bi d)).data.toList=bi d:=rfl;generalize ba (bi d)=I at*
 clear h hF hrl;go_enter Tryz.func164,Tryz.ntmps164;go_wp2_with fail;refine HR.out.mono ?_;rintro e w1 ⟨rfl,b1⟩;have HC:=H_ (wr1 (HP.out.below b1) I (by omega));have HL1:=H_ (show Lk B p w w1 from Lk.al b1);clear b1 HR;go_wp2_with fail;refine HC.out.mono ?_;rintro e w2 ⟨rfl,l2,p2⟩;rw[hid']at p2;have hL2:=HL1.out.trans l2;have HCF:=H_ (HF.out w2 hL2 p2);have HL2:=H_ hL2;clear l2 p2 HC hL2;go_wp2_with fail;refine HCF.out.mono ?_;rintro e w3 ⟨rfl,l3,p3⟩;have HC3:=H_ (wr1 p3 ⟨#[10]⟩ (by simp only[DJ];rw[eG];show s.length+2*d+t.length+1<=TB;omega));have HL3:=H_ (HL2.out.trans l3);clear l3 p3 HCF;go_wp2_with fail;refine HC3.out.mono ?_;rintro e w4 ⟨rfl,l4,p4⟩;have HL4:=H_ (HL3.out.trans l4);have HP4:=H_ p4;clear l4 p4 HC3;go_wp2_with fail;go_end0;exact⟨rfl,HL4.out,by unfold tLn;simpa using HP4.out⟩
theorem qO{p:Nat}{s:List UInt8}(t:List UInt8)(nf:Nat)(caps:Array Value)(hen:∀(ar:Array Value) (w:World),(callFunc nf ar).run Tryz.prog w= .ok (.enter nf ar) w)(h:PW w B p d s)(hd:d<=1000000)
 (hF:∀w1,Lk B p w w1->PW w1 B p (d+1) s->Calls Tryz.prog nf caps w1 (Pr B p (d+1) s t w1)):
 Calls Tryz.prog 113 #[.pointer (some ⟨p,0,none⟩),.func (.func nf) #[] caps] w (Pr B p d s t w):=by
 obtain⟨e0,f0⟩:=h.deep;obtain⟨w1,hw1⟩:=nm_ (w.setCell ⟨p,2,none⟩ (.int .i64 ((d:Int)+1)));obtain⟨p1,l1⟩:=h.set (d+1) (show w.setCell ⟨p,2,none⟩ (.int .i64 ((d+1:Nat):Int))=w1 from hw1);have HCF:=H_ (hF w1 l1 p1);have HL1:=H_ l1;have HW:=H_ hw1;clear h hF p1 l1 hw1;go_enter Tryz.func113,Tryz.ntmps113;go_upto_region 1 with fail;rw[HW.out];go_wp2_with fail;refine HCF.out.mono ?_;rintro e w2 ⟨rfl,l2,p2⟩;obtain⟨e2,f2⟩:=p2.deep;have e2':w2.cell? ⟨p,2,none⟩=some (.int .i64 ((d:Int)+1)):=e2;have hd1:((d:Int)+1)-1=(d:Int):=by omega
 have HL2:=H_ (HL1.out.trans l2);have HP2:=H_ p2;clear l2 p2 HCF e2 e0 f0;go_wp2_with fail;go_end0;obtain⟨p3,l3⟩:=HP2.out.set (w':=w2.setCell ⟨p,2,none⟩ (.int .i64 (d:Int))) d rfl;exact⟨rfl,HL2.out.trans l3,p3⟩
theorem oc{p:Nat}{s:List UInt8}(ss:List ByteArray)(g c:Nat)(h:PW w B p d s)(hb:Blk w g 9 (ss.map Value.string).toArray)(hgp:g≠p)(hn0:ss.length<=1000000)(hd:d<=1000000)(hlen:s.length+(tLn d (eb ss)).length<=TB):
 Calls Tryz.prog 112 #[.pointer (some ⟨p,0,none⟩),.slice (some ⟨g,0,none⟩) ss.length c] w (Pr B p d s (tLn d (eb ss)) w):=by
 obtain⟨n,hn⟩:=nm_ (ss.length);obtain⟨g1,hz⟩:∃g,w.heap.size=g:=⟨_,rfl⟩;obtain⟨W0,hW0⟩:=nm_ (w.alloc (.cells #[.pointer (some ⟨p,0,none⟩)] 126));obtain⟨W1,hW1⟩:=nm_ (W0.alloc (.cells #[.slice (some ⟨g,0,none⟩) n c] 67));have hlt:=h.lt;have hle:=h.le;have HF0:=hng hW0 hz;have hs0:W0.heap.size=g1+1:=by rw[<-hW0,DV,hz]
 have HE1:=hng hW1 hs0;have HF1:=H_ (HF0.out.al hW1);have l1:Lk B p w W1:=(Lk.al (bal hW0)).trans (Lk.al (bal hW1));have hb1:=(hb.al hW0).al hW1;have hp1:=(h.below (bal hW0)).below (bal hW1);have hlen':=hlen;rw[bD]at hlen'
 have HCL:Hid (Calls Tryz.prog 164 #[.pointer (some ⟨p,0,none⟩),.func (.func 165) #[] #[.pointer (some ⟨g1,0,none⟩),.pointer (some ⟨g1+1,0,none⟩)]] W1 (Pr B p d s (tLn d (eb ss)) W1)):=H_ (lI (eb ss) 165 _ (λ_ _=>by kernel_rfl) hp1 hd (λw2 l2 p2=>by
  have HC:=H_ (sH ss g c p2 (hb1.lk l2 hgp) hgp (by rw[DJ,eG];omega) hn0);rw[hn]at HC;have f0:=(HF1.out.lk l2 (by omega)).k0;have f1:=(HE1.out.lk l2 (by omega)).k0;clear l2 p2 hp1 hb1 hb h l1;go_enter Tryz.func165,Tryz.ntmps165;go_wp2_with fail;refine HC.out.mono ?_;rintro e w3 ⟨rfl,l3,p3⟩;have HL3:=H_ l3;have HP3:=H_ p3;clear l3 p3 HC;go_wp2_with fail;go_end0;exact⟨rfl,HL3.out,HP3.out⟩) hlen)
 rw[hn];have HL1:=H_ l1;have HW:=H_ (And.intro hW0 hW1);have f0:=HF1.out.k0;clear h hb hW0 hW1 l1 hb1 hp1 HF0;go_enter Tryz.func112,Tryz.ntmps112;go_upto_region 1 with fail;rw[HW.out.1,HW.out.2];go_wp2_with fail;refine HCL.out.mono ?_;rintro e w3 ⟨rfl,l3,p3⟩;have HL3:=H_ (HL1.out.trans l3);have HP3:=H_ p3;clear l3 p3 HCL;go_wp2_with fail;go_end0;exact⟨rfl,HL3.out,HP3.out⟩
end
end Go.Proofs.YtjpbckbpeblibaaGreatDoor
