/- part of a proof -/
import Derived.Test.YtjpbckbpeblibaaGreatDoorJJ14
import Derived.StillTailTactics
namespace Go.Proofs.YtjpbckbpeblibaaGreatDoor
set_option linter.unusedVariables false
set_option linter.unusedSimpArgs false
set_option maxRecDepth 100000
set_option maxHeartbeats 64000000
section
open Go.RowKit
variable{A:Option Addr}{B N d:Nat}{G:Nat->Prop}{T:Type}{W0 w w':World}{a e x:Ex}{cs:List Value}{l:List Pc}{xs:List Ex}
def tE(e:Ex):List UInt8:=ag (plE e)
def tIn(r:Nat)(e:Ex):List UInt8:=ag (exP r e)
def cm:List Ex->List UInt8
 |[]=>[]
 |a::l=>tE a++l.flatMap λb=>44::32::tE b
theorem gG(p:Pc)(l:List Pc):ag (p::l)=p.pre++(p.t.2.1.data.toList++p.post)++ag l:=rfl
theorem bi(h:l≠[]):ag (sp l)=32::ag l:=by
 cases l with
 |nil=>exact absurd rfl h
 |cons p l=>rfl
theorem bP(r:Nat)(e:Ex):ag (sp (exP r e))=32::tIn r e:=bi (eC (cD e))
theorem aO(s:ByteArray)(l:List Pc):ag (py s::l)=s.data.toList++ag l:=by rw[gG];simp[py]
theorem bT(s:ByteArray)(l:List Pc):ag (pk s::l)=s.data.toList++ag l:=by rw[gG];simp[pk]
theorem ek(s:ByteArray)(l:List Pc):ag (pn s::l)=s.data.toList++ag l:=by rw[gG];simp[pn]
theorem oG(s:ByteArray)(l:List Pc):ag (pc s::l)=s.data.toList++ag l:=by rw[gG];simp[pc]
theorem aW:ag []=[]:=rfl
theorem lK(r:Nat)(e:Ex):tIn r e=if lvl e<r then 40::(tE e++[41])else tE e:=by
 unfold tIn exP inP tE;split
 ·rw[aO,ab];rfl
 ·rfl
theorem am(e:Ex):tIn 1 e=tE e:=by rw[lK,Dg (by have:=sJ e;omega)]
theorem mN:∀l:List Ex,ag (dw (plL l))=(l.flatMap λb=>44::32::tE b)++[41]
 |[]=>rfl
 |a::l=>by
  rw[plL,dw,aO,ab,bi (cD a),mN l];simp[tE,il]
theorem gF(l:List Ex):ag (aq (plL l))=40::(cm l++[41]):=by
 cases l with
 |nil=>rfl
 |cons a l=>
  rw[plL,aq,aO,ab,mN];simp[tE,cm,cE]
def kX:List UInt8:=[110,101,119,32]
def sAt:List UInt8:=[32,97,116,32]
section
variable(s:ByteArray)(z:Int)(a b:Ex)(l:List Ex)
theorem vh:tE (fS z)=Lib.itoa z:=by show ag [pz z]=_;simp[ag,pz]
theorem va:tE (eV 1 ⟨#[]⟩)=[110,105,108]:=rfl
theorem sk:tE (eV 2 ⟨#[]⟩)=[116,104,105,115]:=rfl
theorem sm:tE (eV 3 s)=s.data.toList:=by show ag [pn s]=_;rw[ek];simp[aW]
theorem pi:tE (aP s a)=tIn 8 a++46::s.data.toList:=by
 show ag (exP 8 a++[py DOT,pn s])=_;rw[ab,aO,ek];simp[tIn,aW,DOT]
theorem ve:tE (.mk 5 0 0 s false l)=kX++s.data.toList++40::(cm l++[41]):=by
 show ag (pk du::(sp [pc s]++aq (plL l)))=_;rw[bT,ab,bi (by simp),oG,gF];simp[aW,kX,du]
theorem ph:tE (.mk 5 0 0 s true (l++[a]))=kX++s.data.toList++40::(cm l++41::(sAt++tIn 7 a)):=by
 have hP:plE (.mk 5 0 0 s true (l++[a]))=pk du::(sp [pc s]++(aq (plL l)++(sp [pk kAt]++sp (exP 7 a)))):=by
  rw[plE,o9];show pk du::(sp [pc s]++(aq (plL l++[(lvl a,plE a)]).dropLast++(sp [pk kAt]++sp (inP 7 ((plL l++[(lvl a,plE a)]).getLastD dX)))))=_;rw[List.dropLast_concat];simp[exP]
 unfold tE;rw[hP,bT,ab,bi (by simp),oG,ab,gF,ab,bi (by simp),bT,bP _ a];simp[aW,kX,du,sAt,kAt,tIn]
theorem sj:tE (eUn 6 a)=[119,101,97,107,32]++tIn 7 a:=by
 show ag (pk bX::sp (exP 7 a))=_;rw[bT,bP _ a];simp[bX,tIn]
theorem vi:tE (eUn 7 a)=[103,101,116,32]++tIn 7 a:=by
 show ag (pk dO::sp (exP 7 a))=_;rw[bT,bP _ a];simp[dO,tIn]
theorem vg:tE (eUn 8 a)=45::tIn 7 a:=by
 show ag (py bG::exP 7 a)=_;rw[aO];simp[bG,tIn]
theorem uZ:tE (eUn 9 a)=[110,111,116,32]++tIn 3 a:=by
 show ag (pk dA::sp (exP 3 a))=_;rw[bT,bP _ a];simp[dA,tIn]
theorem xH(o:Int)(r:List Pc):ag (opP o::r)=(bD o.toNat).data.toList++ag r:=by
 unfold opP;split
 ·exact bT _ _
 ·exact aO _ _
theorem vj(o:Nat):tE (cv o a b)=tIn (if ap (o:Int)=4 then 5 else ap o) a++32::((bD o).data.toList++32::tIn (ap (o:Int)+1) b):=by
 show ag (exP (if ap (o:Int)=4 then 5 else ap o) a++(sp [opP o]++sp (exP (ap (o:Int)+1) b)))=_;rw[ab,ab,bi (by simp),bP _ b,xH];simp[aW,tIn]
end
def tS(s:St)(d:Nat):List UInt8:=ag (plS s d)
def tSs(l:List St)(d:Nat):List UInt8:=ag (bU l d)
theorem jp(d:Nat):tSs [] d=[]:=rfl
theorem gU(s:St)(l:List St)(d:Nat):tSs (s::l) d=tS s d++tSs l d:=by unfold tSs tS;rw[bU,ab]
theorem jq(d:Nat):∀l:List St,tSs l d=l.flatMap λs=>tS s d
 |[]=>rfl
 |s::l=>by rw[gU,jq d l];rfl
def tLn(d:Nat)(b:List UInt8):List UInt8:=bg d++b++[10]
theorem bO(d:Nat)(h:l≠[]):ag (ln d l)=tLn d (ag l):=by
 unfold ln tLn;rw[nH (by cases l with|nil=>exact absurd rfl h|cons p l=>cases l<;>simp[eK]),ji h,Dp]
def cW:List UInt8:=[108,101,116,32]
def sEq:List UInt8:=[32,61,32]
def sIf:List UInt8:=[105,102,32]
def sBr:List UInt8:=[32,123]
def iO:List UInt8:=[125,32,101,108,115,101,32,123]
def lT:List UInt8:=[119,104,105,108,101,32]
def bM:List UInt8:=[115,101,110,100,32]
def aY:List UInt8:=[112,114,105,110,116,32]
def bN:List UInt8:=[109,111,118,101,32]
def sTo:List UInt8:=[32,116,111,32]
def aX:List UInt8:=[119,97,116,99,104,32]
def sBy:List UInt8:=[32,98,121,32]
def aw:List UInt8:=[114,101,116,117,114,110]
section
variable(nm:ByteArray)(x y:Ex)(l:List Ex)(b e:List St)(d:Nat)
theorem uV:tS (stE 0 nm [x]) d=tLn d (cW++nm.data.toList++sEq++tE x++[59]):=by
 show ag (ln d (pk gP::(sp [pn nm]++(sp [py bH]++(sp (exP 1 x)++[py ay])))))=_;rw[bO d (by simp),bT,ab,ab,ab,bi (by simp),bi (by simp),bP _ x,ek,aO,aO,<-am x];simp[aW,tIn,gP,cW,sEq,bH,ay]
theorem nh:tS (stE 1 nm [x]) d=tLn d (nm.data.toList++sEq++tE x++[59]):=by
 show ag (ln d (pn nm::(sp [py bH]++(sp (exP 1 x)++[py ay]))))=_;rw[bO d (by simp),ek,ab,ab,bi (by simp),bP _ x,aO,aO,<-am x];simp[aW,tIn,sEq,bH,ay]
theorem pb:tS (stE 2 nm [x,y]) d=tLn d (tIn 9 x++[46]++nm.data.toList++sEq++tE y++[59]):=by
 show ag (ln d (exP 9 x++(py DOT::pn nm::(sp [py bH]++(sp (exP 1 y)++[py ay])))))=_;rw[bO d (by simp),ab,aO,ek,ab,ab,bi (by simp),bP _ y,aO,aO,<-am y];simp[aW,tIn,sEq,bH,ay,DOT]
theorem zJ:tS (.mk 3 ⟨#[]⟩ [x] b e) d=tLn d (sIf++tE x++sBr)++(tSs b (d+1)++((if e.isEmpty=true then[]else tLn d iO++tSs e (d+1))++tLn d [125])):=by
 have hP:plS (.mk 3 ⟨#[]⟩ [x] b e) d=ln d (pk kIf::(sp (exP 1 x)++sp [py cq]))++(bU b (d+1)++((if e.isEmpty=true then[]else ln d (py cd::(sp [pk eu]++sp [py cq]))++bU e (d+1))++ln d [py cd])):=by rw[plS];rfl
 unfold tS;rw[hP,ab,bO d (by simp),bT,ab,bP _ x,bi (by simp),aO,ab,ab,bO d (by simp),aO,<-am x]
 have h2:ag (if e.isEmpty=true then[]else ln d (py cd::(sp [pk eu]++sp [py cq]))++bU e (d+1))=if e.isEmpty=true then[]else tLn d iO++tSs e (d+1):=by
  split
  ·rfl
  ·rw[ab,bO d (by simp),aO,ab,bi (by simp),bi (by simp),bT,aO];simp[aW,tSs,iO,cd,eu,cq]
 rw[h2];simp[aW,tIn,tSs,sIf,kIf,sBr,cq,cd]
theorem oZ:tS (.mk 4 ⟨#[]⟩ [x] b []) d=tLn d (lT++tE x++sBr)++(tSs b (d+1)++tLn d [125]):=by
 have hP:plS (.mk 4 ⟨#[]⟩ [x] b []) d=ln d (pk dz::(sp (exP 1 x)++sp [py cq]))++(bU b (d+1)++ln d [py cd]):=by rw[plS];rfl
 unfold tS;rw[hP,ab,bO d (by simp),bT,ab,bP _ x,bi (by simp),aO,ab,bO d (by simp),aO,<-am x];simp[aW,tIn,tSs,lT,dz,sBr,cq,cd]
theorem sg:tS (stE 5 nm (x::l)) d=tLn d (bM++tIn 8 x++[46]++nm.data.toList++40::(cm l++[41])++[59]):=by
 show ag (ln d (pk eU::(sp (exP 8 x)++(py DOT::pn nm::(aq (plL l)++[py ay])))))=_;rw[bO d (by simp),bT,ab,bP _ x,aO,ek,ab,gF,aO];simp[aW,tIn,bM,eU,DOT,ay]
theorem pe:tS (stE 6 ⟨#[]⟩ [x]) d=tLn d (aY++tE x++[59]):=by
 show ag (ln d (pk dN::(sp (exP 1 x)++[py ay])))=_;rw[bO d (by simp),bT,ab,bP _ x,aO,<-am x];simp[aW,tIn,aY,dN,ay]
theorem sh:tS (stE 7 ⟨#[]⟩ [x,y]) d=tLn d (bN++tE x++sTo++tE y++[59]):=by
 show ag (ln d (pk fG::(sp (exP 1 x)++(sp [pk kTo]++(sp (exP 1 y)++[py ay])))))=_;rw[bO d (by simp),bT,ab,bP _ x,ab,bi (by simp),bT,ab,bP _ y,aO,<-am x,<-am y];simp[aW,tIn,bN,fG,sTo,kTo,ay]
theorem pa:tS (stE 8 nm [x,y]) d=tLn d (aX++tE x++sBy++nm.data.toList++40::(tE y++[41])++[59]):=by
 show ag (ln d (pk ez::(sp (exP 1 x)++(sp [pk kBy]++(sp [pn nm]++(aq (plL [y])++[py ay]))))))=_;rw[bO d (by simp),bT,ab,bP _ x,ab,bi (by simp),bT,ab,bi (by simp),ek,ab,gF,aO,<-am x];simp[aW,tIn,aX,ez,sBy,kBy,ay,cm]
theorem nd:tS (stE 9 ⟨#[]⟩ []) d=tLn d (aw++[59]):=by
 show ag (ln d [pk dL,py ay])=_;rw[bO d (by simp),bT,aO];simp[aW,aw,dL,ay]
end
def cM:List ByteArray->List UInt8
 |[]=>[]
 |a::l=>a.data.toList++l.flatMap λb=>44::32::b.data.toList
theorem kU:∀l:List ByteArray,ag (dw (l.map nmX))=(l.flatMap λb=>44::32::b.data.toList)++[41]
 |[]=>rfl
 |a::l=>by
  rw[DS,dw,aO,ab,bi (by simp[nmX]),kU l];show _++(32::ag [pn a]++_)=_;rw[ek];simp[aW,il]
theorem qr(l:List ByteArray):ag (aq (l.map nmX))=40::(cM l++[41]):=by
 cases l with
 |nil=>rfl
 |cons a l=>
  rw[DS,aq,aO,ab,kU];show _++(ag [pn a]++_)=_;rw[ek];simp[aW,cM,cE]
def vC:List UInt8:=[118,97,114,32]
def sOn:List UInt8:=[111,110,32]
def lU:List UInt8:=[97,99,116,111,114,32]
def jv:List UInt8:=[114,101,99,111,114,100,32]
def tFd(f:ByteArray):List UInt8:=tLn 1 (vC++f.data.toList++[59])
def tMe(m:Me):List UInt8:=tLn 1 (sOn++m.nm.data.toList++[40]++cM m.params++[41,32,123])++tSs m.body 2++tLn 1 [125]
def tCl(c:Cl):List UInt8:=tLn 0 ((if c.actor=true then lU else jv)++c.nm.data.toList++sBr)++c.fields.flatMap tFd++c.methods.flatMap tMe++tLn 0 [125]
theorem nJ:∀l:List ByteArray,ag (gj l)=l.flatMap tFd
 |[]=>rfl
 |f::l=>by
  rw[gj,ab,nJ l,fdP,bO 1 (by simp),bT,ab,bi (by simp),ek,aO];simp[aW,tFd,vC,pR,ay]
theorem xI(m:Me):ag (meP m)=tMe m:=by
 rw[meP,ab,bO 1 (by simp),bT,ab,bi (by simp),ek,ab,qr,bi (by simp),aO,ab,bO 1 (by simp),aO];simp[aW,tMe,sOn,kOn,cq,cd,tSs]
theorem nI:∀l:List Me,ag (fQ l)=l.flatMap tMe
 |[]=>rfl
 |m::l=>by rw[fQ,ab,nI l,xI];rfl
theorem xJ(c:Cl):ag (clP c)=tCl c:=by
 rw[clP,ab,bO 0 (by simp),bT,ab,bi (by simp),oG,bi (by simp),aO,ab,nJ,ab,nI,bO 0 (by simp),aO];unfold tCl;cases c.actor<;>simp[aW,sBr,eA,ei,lU,jv,cq,cd]
def tPr(l:List Cl):List UInt8:=l.flatMap tCl
theorem mM:∀l:List Cl,ag (prP l)=tPr l
 |[]=>rfl
 |c::l=>by rw[prP,ab,mM l,xJ];rfl
def Pr(B p d:Nat)(s t:List UInt8)(w:World)(e:Ending)(w':World):Prop:=e= .returned (.tuple #[])/\Lk B p w w'/\PW w' B p d (s++t)
def TB:Nat:=1000000000
def GB(B p N b:Nat):Prop:=b<B/\b≠p/\b<N
theorem Lk.gb{p b:Nat}(h:Lk B p w w')(hB:B<=w.heap.size)(hb:GB B p N b):w'.heap[b]?=w.heap[b]?:=h.block b (by have:=hb.1;omega) hb.2.1 λh'=>absurd h' (by have:=hb.1;omega)
def dW(ss:List ByteArray):List UInt8:=ss.flatMap λx=>x.data.toList
theorem qp:∀(ss:List ByteArray) (k:Nat),(dW (ss.take k)).length<=(dW ss).length
 |[],k=>by simp[dW]
 |a::l,0=>by simp[dW]
 |a::l,k+1=>by
  have:=qp l k;simp only[dW,List.take_succ_cons,DL,D7]at*
  omega
theorem us{ss:List ByteArray}{k:Nat}{x:ByteArray}(h:ss[k]?=some x):dW (ss.take (k+1))=dW (ss.take k)++x.data.toList:=by
 rw[DW,h];simp[dW]
theorem rY{p:Nat}{s:List UInt8}(ss:List ByteArray)(g c:Nat)(h:PW w B p d s)(hb:Blk w g 9 (ss.map Value.string).toArray)(hgp:g≠p)(hlen:s.length+(dW ss).length<=TB)(hn0:ss.length<=1000000):
 Calls Tryz.prog 166 #[.pointer (some ⟨p,0,none⟩),.slice (some ⟨g,0,none⟩) ss.length c] w (Pr B p d s (dW ss) w):=by
 have HP:=H_ h;have HB:=H_ hb;obtain⟨n,hn⟩:=nm_ (ss.length);rw[hn];rw[hn]at hn0;clear h hb;go_enter Tryz.func166,Tryz.ntmps166;go_wp2_with fail;go_loopw [8] (λi wr=>∃k:Nat,k<=n/\i= .int .i64 k/\Hid (Lk B p w wr)/\Hid (PW wr B p d (s++dW (ss.take k)))) (λi _=>n-(intOf i).toNat)
 case atStart=>exact⟨0,Do _,rfl,H_ (Lk.refl _ _ _),H_ (by simpa[dW]using HP.out)⟩
 case round=>
  obtain⟨k,hk,rfl,HL,HP2⟩:=hrel;by_cases hkm:k<n
  ·have hkz:(k:Int)<(n:Int):=by omega
   have hx:ss[k]?=some ss[k]:=Df (by omega);have hcell:=(HB.out.lk HL.out hgp).cell k;rw[show(ss.map Value.string).toArray[k]?=some (.string ss[k]) by simp[hx]]at hcell;have hle:=qp ss (k+1);have htk:=us hx;rw[htk,D7]at hle;have HC:=H_ (HP2.out.write ss[k] (by rw[D7];have h1:ss[k].data.toList.length=ss[k].size:=rfl;unfold TB at hlen;omega));have HTK:=H_ htk;generalize ss[k]=x at*
   clear hx hle htk HP2;go_wp2_with fail;refine HC.out.mono ?_;rintro e w1 ⟨rfl,l1,p1⟩;rw[Dp,<-HTK.out]at p1;have HL1:=H_ (HL.out.trans l1);have HP1:=H_ p1;clear l1 p1 HC HL;go_wp2_with fail;go_roundw
   case rel=>exact⟨k+1,by omega,by go_num,HL1,HP1⟩
   case measure=>simp[intOf];omega
  ·obtain rfl:k=n:=by omega
   rw[Dd (by omega)]at HP2;go_wp2_with fail;go_end0;exact⟨rfl,HL.out,HP2.out⟩
structure GlF(w:World):Prop where
 op:∀o:Nat,o<=12->w.cell? ⟨10,o*2,none⟩=some (.string (bD o))/\w.cell? ⟨10,o*2+1,none⟩=some (.int .i64 (ap (o:Int):Nat))
 fm:∀k:Nat,k<=9->∃(a b:Int) (x y z:Bool),[(1,1,true,false,false),(1,1,true,false,false),(2,2,true,false,false),(1,1,false,true,true),(1,1,false,true,false),(1,4611686018427387904,true,false,false),(1,1,false,false,false),(2,2,false,false,false),(2,2,true,false,false),((0:Int),(0:Int),false,false,false)][k]?=some (a,b,x,y,z)/\
  w.cell? ⟨1,k*5,none⟩=some (.int .i64 a)/\w.cell? ⟨1,k*5+1,none⟩=some (.int .i64 b)/\w.cell? ⟨1,k*5+2,none⟩=some (.bool x)/\w.cell? ⟨1,k*5+3,none⟩=some (.bool y)/\w.cell? ⟨1,k*5+4,none⟩=some (.bool z)
theorem GlF.aA(h:GlF w)(hk:∀k,k<12->w'.heap[k]?=w.heap[k]?):GlF w':=by
 have h10:∀i,w'.cell? ⟨10,i,none⟩=w.cell? ⟨10,i,none⟩:=λi=>Ej (hk 10 (by decide));have h1:∀i,w'.cell? ⟨1,i,none⟩=w.cell? ⟨1,i,none⟩:=λi=>Ej (hk 1 (by decide));refine⟨λo ho=>?_,λk hk'=>?_⟩
 ·rw[h10,h10];exact h.op o ho
 ·obtain⟨a,b,x,y,z,e,c⟩:=h.fm k hk';refine⟨a,b,x,y,z,e,?_⟩;rw[h1,h1,h1,h1,h1];exact c
theorem GlF.below(h:GlF w)(hb:Below B w w')(hB:12<=B):GlF w':=h.aA λk hk=>hb.block k (by omega)
def Cap(w:World)(N:Nat):Prop:=True
theorem Cap.aA(h:Cap w N)(hk:∀b,b<N->w'.heap[b]?=w.heap[b]?):Cap w' N:=trivial
structure GP(w:World)(p N:Nat):Prop where
 g:GlB w p
 f:GlF w
 le:N<=p
 cap:Cap w N
theorem GP.below{p:Nat}(h:GP w p N)(hb:Below p w w'):GP w' p N:=⟨GlB.below h.g hb,h.f.below hb h.g.big,h.le,h.cap.aA λb hbN=>hb.block b (by have:=h.le;omega)⟩
theorem GP.lk{p:Nat}(h:GP w p N)(l:Lk B p w w')(hp:p<B):GP w' p N:=h.below (l.below (by omega) (D8 _) h.g.le)
theorem GP.new{p:Nat}(h:GP w p N)(hb:Below w.heap.size w w'):GP w' p N:=h.below (hb.mono h.g.le)
theorem wQ(e:Ex)(cs:List Value)(w:World)(G:Nat->Prop)(hv:vE e=true)(hr:ExK w G e cs)(hf:GlF w)(hw:12<=w.heap.size):
 Calls Tryz.prog 263 #[.agg cs.toArray] w λr w'=>r= .returned (.int .i64 (lvl e:Nat))/\Below w.heap.size w w':=by
 obtain⟨xk,xo,xz,xn,xa,args⟩:=e;obtain⟨A,n,c,rfl,hs⟩:=ExK.inv hr;obtain⟨g,hz⟩:=nm_ (w.heap.size);obtain⟨W0,hW0⟩:=nm_ (w.alloc (.cells #[.int .i64 xk,.int .i64 xo,.int .i64 xz,.string xn,.bool xa,.slice A n c] 172));have HQ:=hng hW0 hz;have HB0:=hba hW0;have HF:=H_ (hf.below HB0.out hw);have HW:=H_ hW0;have q0:=HQ.out.k0;have q1:=HQ.out.k1;have q4:=HQ.out.k4;have HV:=H_ hv;clear hr hs hf hW0 hv;go_enter Tryz.func263,Tryz.ntmps263;rw[hz];go_upto_region 1 with fail;rw[HW.out];rcases da HV.out with⟨z,e,_,_⟩|e|e|⟨s,e,_⟩|⟨s,a,e,_,_⟩|⟨s,xs,e,_,_⟩|⟨s,xs,a,e,_,_,_⟩|⟨k,a,hk,e,_⟩|⟨o,a,b,ho,e,_,_⟩
 case inr.inr.inr.inr.inr.inr.inr.inl=>
  simp only[eUn,Ex.mk.injEq]at e;obtain⟨rfl,rfl,rfl,rfl,rfl,rfl⟩:=e;clear HQ HF;rcases hk with rfl|rfl|rfl|rfl<;>(go_wp2_with fail;go_ret;exact⟨rfl,hz▸HB0.out⟩)
 case inr.inr.inr.inr.inr.inr.inr.inr=>
  simp only[cv,Ex.mk.injEq]at e;obtain⟨rfl,rfl,rfl,rfl,rfl,rfl⟩:=e;obtain⟨t0,t1⟩:=HF.out.op o ho;have ho0:(0:Int)<=(o:Int):=by omega
  have ho1:(o:Int)<13:=by omega
  clear HQ HF;go_wp2_with fail;go_ret;exact⟨rfl,hz▸HB0.out⟩
 all_goals
  simp only[fS,eV,aP,Ex.mk.injEq]at e;obtain⟨rfl,rfl,rfl,rfl,rfl,rfl⟩:=e;clear HQ HF;go_wp2_with fail;go_ret;exact⟨rfl,hz▸HB0.out⟩
theorem iJ(x y:ByteArray)(X Y:List UInt8)(hx:x.data.toList=X:=by rfl)(hy:y.data.toList=Y:=by rfl)(h:X.length+Y.length<=9000000000000000000:=by simp only[D7,Da,Dc];omega):∀W,(Op.stringOp .add x y).run Tryz.prog W= .ok (.string (ba (X++Y))) W:=λW=>by
 have h1:x.size=X.length:=by rw[<-hx];rfl
 have h2:y.size=Y.length:=by rw[<-hy];rfl
 obtain⟨S,s1,s2,s3⟩:=xP x y (by omega);have:S=ba (X++Y):=by rw[<-hx,<-hy,<-s1,lB]
 rw[s3 W,this]
theorem Ax(o:Nat)(w:World)(ho:o<=12):Calls Tryz.prog 239 #[.int .i64 (o:Int)] w λe w'=>e= .returned (.int .i64 (ap (o:Int):Nat))/\w=w':=by
 have h:o=0\/o=1\/o=2\/o=3\/o=4\/o=5\/o=6\/o=7\/o=8\/o=9\/o=10\/o=11\/o=12:=by omega
 rcases h with rfl|rfl|rfl|rfl|rfl|rfl|rfl|rfl|rfl|rfl|rfl|rfl|rfl
 all_goals
  go_enter Tryz.func239,Tryz.ntmps239;go_wp2_with fail;go_ret;exact⟨rfl,rfl⟩
theorem AK(e:Ex)(cs:List Value)(w:World)(G:Nat->Prop)(hv:vE e=true)(hr:ExK w G e cs):
 Calls Tryz.prog 241 #[.agg cs.toArray] w λr w'=>r= .returned (.int .i64 (lvl e:Nat))/\Below w.heap.size w w':=by
 obtain⟨xk,xo,xz,xn,xa,args⟩:=e;obtain⟨A,n,c,rfl,hs⟩:=ExK.inv hr;obtain⟨g,hz⟩:=nm_ (w.heap.size);obtain⟨W0,hW0⟩:=nm_ (w.alloc (.cells #[.int .i64 xk,.int .i64 xo,.int .i64 xz,.string xn,.bool xa,.slice A n c] 172));have HQ:=hng hW0 hz;have HB0:=hba hW0;have HW:=H_ hW0;have q0:=HQ.out.k0;have q1:=HQ.out.k1;have q4:=HQ.out.k4;have HV:=H_ hv;clear hr hs hW0 hv;go_enter Tryz.func241,Tryz.ntmps241;rw[hz];go_upto_region 1 with fail;rw[HW.out];rcases da HV.out with⟨z,e,_,_⟩|e|e|⟨s,e,_⟩|⟨s,a,e,_,_⟩|⟨s,xs,e,_,_⟩|⟨s,xs,a,e,_,_,_⟩|⟨k,a,hk,e,_⟩|⟨o,a,b,ho,e,_,_⟩
 case inr.inr.inr.inr.inr.inr.inr.inl=>
  simp only[eUn,Ex.mk.injEq]at e;obtain⟨rfl,rfl,rfl,rfl,rfl,rfl⟩:=e;clear HQ;rcases hk with rfl|rfl|rfl|rfl<;>(go_wp2_with fail;go_ret;exact⟨rfl,hz▸HB0.out⟩)
 case inr.inr.inr.inr.inr.inr.inr.inr=>
  simp only[cv,Ex.mk.injEq]at e;obtain⟨rfl,rfl,rfl,rfl,rfl,rfl⟩:=e;have HC:=H_ (Ax o W0 ho);clear HQ;go_wp2_with fail;refine HC.out.mono ?_;rintro r w1 ⟨rfl,rfl⟩;go_wp2_with fail;go_ret;exact⟨rfl,hz▸HB0.out⟩
 all_goals
  simp only[fS,eV,aP,Ex.mk.injEq]at e;obtain⟨rfl,rfl,rfl,rfl,rfl,rfl⟩:=e;clear HQ;go_wp2_with fail;go_ret;exact⟨rfl,hz▸HB0.out⟩
def CapG(w:World)(G:Nat->Prop):Prop:=True
theorem CapG.aA(h:CapG w G)(hk:∀b,G b->w'.heap[b]?=w.heap[b]?):CapG w' G:=trivial
def Cv(e:Ex):Prop:=∀(cs:List Value) (w:World) (G:Nat->Prop),ExK w G e cs->ld cs->(∀b,G b->b<w.heap.size)->CapG w G->(tE e).length<=TB->
 Calls Tryz.prog 169 #[.agg cs.toArray] w λr w'=>r= .returned (.string (ba (tE e)))/\Below w.heap.size w w'
def CV(e:Ex):Prop:=∀(l:Nat) (cs:List Value) (w:World) (G:Nat->Prop),ExK w G e cs->ld cs->(∀b,G b->b<w.heap.size)->CapG w G->(tIn l e).length<=TB->
 Calls Tryz.prog 170 #[.agg cs.toArray,.int .i64 (l:Int)] w λr w'=>r= .returned (.string (ba (tIn l e)))/\Below w.heap.size w w'
section
variable{w w' w'':World}{B p d N:Nat}{s t t':List UInt8}
theorem Pr.from(l:Lk B p w w')(h:PW w' B p d (s++t)){u:List UInt8}(hu:u=s++t){e:Ending}(k:Pr B p d (s++t) t' w' e w''):Pr B p d s (t++t') w e w'':=
 ⟨k.1,l.trans k.2.1,by rw[<-Dp];exact k.2.2⟩
theorem PW.al(h:PW w B p d s){o:Obj}(e:w.alloc o=w'):PW w' B p d s:=h.below (bal e)
theorem PW.lk(h:PW w B p d s):Lk B p w w:=Lk.refl _ _ _
theorem wr1(h:PW w B p d s)(x:ByteArray)(hlen:s.length+x.size<=TB):
 Calls Tryz.prog 166 #[.pointer (some ⟨p,0,none⟩),.slice (some ⟨w.heap.size,0,none⟩) 1 1] (w.alloc (.cells #[.string x] 9)) (Pr B p d s x.data.toList w):=by
 obtain⟨w1,e⟩:=nm_ (w.alloc (.cells #[.string x] 9));rw[e];have hp:=h.lt;have hle:=h.le;have hx:x.data.toList.length=x.size:=rfl;refine(rY [x] w.heap.size 1 (h.al e) (Blk.nw e) (by omega) (by simp only[dW,DL,List.flatMap_nil,DC];omega) (by simp)).mono ?_;rintro r w2 ⟨rfl,l1,p1⟩;exact⟨rfl,(Lk.al (bal e)).trans l1,by simpa[dW]using p1⟩
theorem wr2(h:PW w B p d s)(x y:ByteArray)(hlen:s.length+(x.size+y.size)<=TB):
 Calls Tryz.prog 166 #[.pointer (some ⟨p,0,none⟩),.slice (some ⟨w.heap.size,0,none⟩) 2 2] (w.alloc (.cells #[.string x,.string y] 9)) (Pr B p d s (x.data.toList++y.data.toList) w):=by
 obtain⟨w1,e⟩:=nm_ (w.alloc (.cells #[.string x,.string y] 9));rw[e];have hp:=h.lt;have hle:=h.le;have hx:x.data.toList.length=x.size:=rfl;have hy:y.data.toList.length=y.size:=rfl;refine(rY [x,y] w.heap.size 2 (h.al e) (Blk.nw e) (by omega) (by simp only[dW,DL,List.flatMap_nil,DC,D7];omega) (by simp)).mono ?_;rintro r w2 ⟨rfl,l1,p1⟩;exact⟨rfl,(Lk.al (bal e)).trans l1,by simpa[dW]using p1⟩
theorem wr3(h:PW w B p d s)(x y z:ByteArray)(hlen:s.length+(x.size+y.size+z.size)<=TB):
 Calls Tryz.prog 166 #[.pointer (some ⟨p,0,none⟩),.slice (some ⟨w.heap.size,0,none⟩) 3 3] (w.alloc (.cells #[.string x,.string y,.string z] 9)) (Pr B p d s (x.data.toList++(y.data.toList++z.data.toList)) w):=by
 obtain⟨w1,e⟩:=nm_ (w.alloc (.cells #[.string x,.string y,.string z] 9));rw[e];have hp:=h.lt;have hle:=h.le;have hx:x.data.toList.length=x.size:=rfl;have hy:y.data.toList.length=y.size:=rfl;have hz:z.data.toList.length=z.size:=rfl;refine(rY [x,y,z] w.heap.size 3 (h.al e) (Blk.nw e) (by omega) (by simp only[dW,DL,List.flatMap_nil,DC,D7];omega) (by simp)).mono ?_;rintro r w2 ⟨rfl,l1,p1⟩;exact⟨rfl,(Lk.al (bal e)).trans l1,by simpa[dW]using p1⟩
theorem ExK.lk(h:ExK w (GB B p N) x cs)(l:Lk B p w w')(hB:B<=w.heap.size):ExK w' (GB B p N) x cs:=ExK.aA (λb hb=>⟨hb,l.gb hB hb⟩) h
theorem Sl.lk{α:Type}{K:Kd α}{xs:List α}{n:Nat}(h:Sl K w (GB B p N) xs A n)(l:Lk B p w w')(hB:B<=w.heap.size):Sl K w' (GB B p N) xs A n:=h.aA λb hb=>⟨hb,l.gb hB hb⟩
end
def Bt(B p d N:Nat)(e:Ex):Prop:=∀(cs:List Value) (w:World) (s:List UInt8),ExK w (GB B p N) e cs->ld cs->PW w B p d s->GP w p N->s.length+(tE e).length<=TB->Calls Tryz.prog 264 #[.pointer (some ⟨p,0,none⟩),.agg cs.toArray] w (Pr B p d s (tE e) w)
def rW(B p d N:Nat)(e:Ex):Prop:=∀(r:Nat) (cs:List Value) (w:World) (s:List UInt8),ExK w (GB B p N) e cs->ld cs->PW w B p d s->GP w p N->s.length+(tIn r e).length<=TB->Calls Tryz.prog 236 #[.pointer (some ⟨p,0,none⟩),.agg cs.toArray,.int .i64 (r:Int)] w (Pr B p d s (tIn r e) w)
theorem t7{p:Nat}(hv:vE e=true)(h264:Bt B p d N e):rW B p d N e:=by
 intro r cs w s hr hcl hp hg hlen;obtain⟨xk,xo,xz,xn,xa,args⟩:=e;have hr0:=hr;obtain⟨A,n,c,rfl,hs⟩:=ExK.inv hr;obtain⟨g,hz⟩:=nm_ (w.heap.size);obtain⟨W0,hW0⟩:=nm_ (w.alloc (.cells #[.int .i64 xk,.int .i64 xo,.int .i64 xz,.string xn,.bool xa,.slice A n c] 172));have hlt:=hp.lt;have hle:=hp.le;have hbig:=hg.g.big;have HQ:=hng hW0 hz;have HB0:=hba hW0;have hs0:W0.heap.size=g+1:=by rw[<-hW0,Dk,hz]
 have l0:Lk B p w W0:=Lk.al HB0.out;have HC:=H_ (wQ _ _ W0 (GB B p N) hv (ExK.lk hr0 l0 hle) (hg.lk l0 hlt).f (by omega));have HL0:=H_ l0;have HP0:=H_ (hp.below HB0.out);have HG0:=H_ (hg.lk l0 hlt);have HX0:=H_ (ExK.lk hr0 l0 hle);have HW:=H_ hW0;have H264:=H_ h264;have HCL:=H_ hcl;obtain⟨q0,q1,q2,q3,q4,q5⟩:=HQ.out.c6;obtain⟨T,hT⟩:=nm_ (tIn r (.mk xk xo xz xn xa args));rw[hT]at hlen⊢;have HT:=H_ hT;clear hr hr0 hT hcl hs hp hg hW0 hv h264 l0;go_enter Tryz.func236,Tryz.ntmps236;go_upto_region 1 with fail;rw[HW.out];go_wp2_with fail;refine HC.out.mono ?_;rintro e' w1 ⟨rfl,b1⟩;have hs1:=b1.size;have HL1:=H_ (HL0.out.trans (Lk.al b1));have HP1:=H_ (HP0.out.below b1);have HG1:=H_ (HG0.out.new b1);have HX1:=H_ (ExK.lk HX0.out (Lk.al b1) (by omega));have HQ1:=H_ (HQ.out.below b1 (by omega));obtain⟨r0,r1,r2,r3,r4,r5⟩:=HQ1.out.c6;clear b1 HC HL0 HP0 HG0 HX0 HQ q0 q1 q2 q3 q4 q5;by_cases hl:lvl (.mk xk xo xz xn xa args)<r
 ·have hT:T=40::(tE (.mk xk xo xz xn xa args)++[41]):=by rw[<-HT.out,lK,Dq hl]
  rw[hT]at hlen;have HT:=H_ hT;clear hT;have hlz:((lvl (.mk xk xo xz xn xa args):Nat):Int)<(r:Int):=by omega
  simp only[Da,D7,Dc]at hlen;have HC1:=H_ (wr1 HP1.out ⟨#[40]⟩ (by show s.length+1<=TB;omega));go_wp2_with fail;refine HC1.out.mono ?_;rintro e' w2 ⟨rfl,l2,p2⟩;have hs2:=l2.size;have HC2:=H_ (H264.out _ w2 _ (ExK.lk HX1.out l2 (by omega)) HCL.out p2 (HG1.out.lk l2 hlt) (by rw[D7];show s.length+1+_<=TB;omega));obtain⟨t0,t1,t2,t3,t4,t5⟩:=(HQ1.out.lk l2 (by omega)).c6;have HL2:=H_ (HL1.out.trans l2);clear HC1 l2 p2;go_wp2_with fail;refine HC2.out.mono ?_;rintro e' w3 ⟨rfl,l3,p3⟩;have hs3:=l3.size;have HC3:=H_ (wr1 p3 ⟨#[41]⟩ (by simp only[D7];show s.length+1+_+1<=TB;omega));have HL3:=H_ (HL2.out.trans l3);clear HC2 l3 p3;go_wp2_with fail;refine HC3.out.mono ?_;rintro e' w4 ⟨rfl,l4,p4⟩;have HL4:=H_ (HL3.out.trans l4);have HP4:=H_ p4;clear HC3 l4 p4;go_wp2_with fail;go_end0;exact⟨rfl,HL4.out,by rw[HT.out];simpa using HP4.out⟩
 ·have hT:T=tE (.mk xk xo xz xn xa args):=by rw[<-HT.out,lK,Dg hl]
  rw[hT]at hlen;have HT:=H_ hT;clear hT;have hlz:¬((lvl (.mk xk xo xz xn xa args):Nat):Int)<(r:Int):=by omega
  have HC2:=H_ (H264.out _ w1 _ HX1.out HCL.out HP1.out HG1.out hlen);go_wp2_with fail;refine HC2.out.mono ?_;rintro e' w3 ⟨rfl,l3,p3⟩;have HL3:=H_ (HL1.out.trans l3);have HP3:=H_ p3;clear HC2 l3 p3;go_wp2_with fail;go_end0;exact⟨rfl,HL3.out,HT.out▸HP3.out⟩
theorem lZ{p:Nat}(h236:rW B p d N a)(x:ByteArray)(r:Nat)(l:List Ex)(A:Option Addr)(n c g1 g2:Nat)(v0 v1 v2 v3 v4:Value)(w:World)(s:List UInt8)(hb1:Blk w g1 126 #[.pointer (some ⟨p,0,none⟩)])
 (hb2:Blk w g2 172 #[v0,v1,v2,v3,v4,.slice A n c]) (hs:Sl gQ w (GB B p N) (a::l) A n) (hg1:g1≠p) (hg2:g2≠p) (hp:PW w B p d s) (hg:GP w p N) (hlen:s.length+(x.size+(tIn r a).length)<=TB):
 Calls Tryz.prog 287 #[.string x,.int .i64 (r:Int),.pointer (some ⟨g1,0,none⟩),.pointer (some ⟨g2,0,none⟩)] w (Pr B p d s (x.data.toList++tIn r a) w):=by
 have hlt:=hp.lt;have hle:=hp.le;have hx0:x.data.toList.length=x.size:=rfl;have hn:l.length+1=n:=hs.1;have HC:=H_ (wr1 hp x (by omega));have HS:=H_ hs;have HB1:=H_ hb1;have HB2:=H_ hb2;have HG:=H_ hg;have H236:=H_ h236;have f0:=hb1.k0;obtain⟨T,hT⟩:=nm_ (tIn r a);rw[hT]at hlen⊢;have HT:=H_ hT;clear hs hb1 hb2 hg hp h236 hT;go_enter Tryz.func287,Tryz.ntmps287;go_wp2_with fail;refine HC.out.mono ?_;rintro e w1 ⟨rfl,l1,p1⟩;have hs1:=l1.size;have e0:=(HB1.out.lk l1 hg1).k0;have e5:=(HB2.out.lk l1 hg2).k5;have hS1:=HS.out.lk l1 hle;obtain⟨b,off,a',cs,rfl,hgb,ha,hrd,hat⟩:=hS1.at_ (k:=0) (by omega);obtain rfl:a=a':=by simpa using ha
 have hG1:=HG.out.lk l1 hlt;have HC2:=H_ (H236.out r cs w1.drew _ (ExK.aA (w:=w1) (w':=w1.drew) (G:=GB B p N) (λb hb=>⟨hb,rfl⟩) hrd) (oF hrd) ⟨p1.ex,p1.lt,p1.le⟩ (hG1.new (Db w1.heap.size w1).drew) (by rw[D7,HT.out];omega));rw[HT.out]at HC2;obtain⟨yk,yo,yz,yn,ya,args2⟩:=a;obtain⟨A2,n2,c2,rfl,hsa⟩:=ExK.inv hrd;obtain⟨d0,d1,d2,d3,d4,d5⟩:=At.e6 (k:=0) hat
 simp only[Nat.zero_mul,Fc]at d0 d1 d2 d3 d4 d5;have hnz:(0:Int)<(n:Int):=by omega
 have hn0:0<n:=by omega
 have HL1:=H_ l1;clear hS1 hgb ha hrd hat hsa l1 p1 hG1 HC;go_wp2_with fail;go_still_tail 6,(by kernel_rfl);change wpList _ _ _ _ _ w1.drew;go_wp2_with fail;refine HC2.out.mono ?_;rintro e w2 ⟨rfl,l2,p2⟩;have HL2:=H_ (HL1.out.trans ((Lk.al ((Db w1.heap.size w1).drew)).trans l2));have HP2:=H_ p2;clear HC2 l2 p2;go_wp2_with fail;go_end0;exact⟨rfl,HL2.out,by rw[<-Dp];exact HP2.out⟩
theorem qH(l:List Ex)(x:Ex):cm (l++[x])=if l=[]then tE x else cm l++44::32::tE x:=by
 cases l with
 |nil=>simp[cm]
 |cons a l=>simp[cm]
theorem iV{k:Nat}(h:xs[k]?=some x):cm (xs.take (k+1))=if k=0 then tE x else cm (xs.take k)++44::32::tE x:=by
 rw[DW,h];show cm (xs.take k++[x])=_;rw[qH];have hk:=(De.1 h).1;by_cases h0:k=0
 ·subst h0;simp
 ·rw[Dg h0,Dg λe=>by have:=Ev List.length e;rw[EI,Dc]at this;omega]
theorem qI:∀(xs:List Ex) (k:Nat),(cm (xs.take k)).length<=(cm xs).length
 |[],k=>by simp
 |a::l,0=>by simp[cm]
 |a::l,k+1=>by
  rw[List.take_succ_cons];simp only[cm,D7];have:=Ev (λm:List Ex=>(m.flatMap λb=>44::32::tE b).length) (Eo k l);simp only[Eh,D7]at this;omega
theorem mf{p:Nat}(xs:List Ex)(h:∀a∈xs,rW B p d N a)(A:Option Addr)(n c:Nat)(w:World)(s:List UInt8)(hs:Sl gQ w (GB B p N) xs A n)(hp:PW w B p d s)(hg:GP w p N)(hlen:s.length+((cm xs).length+2)<=TB):
 Calls Tryz.prog 266 #[.pointer (some ⟨p,0,none⟩),.slice A n c] w (Pr B p d s (40::(cm xs++[41])) w):=by
 have hlt:=hp.lt;have hle:=hp.le;have hn:=hs.1;have hnb:n<=1152921504606846976:=hs.2.1;have HC:=H_ (wr1 hp ⟨#[40]⟩ (by show s.length+1<=TB;omega));have HS:=H_ hs;have HG:=H_ hg;have HH:=H_ h;clear hs hg hp h;go_enter Tryz.func266,Tryz.ntmps266;go_wp2_with fail;refine HC.out.mono ?_;rintro e w1 ⟨rfl,l1,p1⟩;have HL1:=H_ l1;have HP1:=H_ p1;have hs1:=l1.size;clear l1 p1 HC;go_wp2_with fail;go_loopw [11] (λi wr=>∃k:Nat,k<=n/\i= .int .i64 k/\Hid (Lk B p w wr)/\Hid (PW wr B p d (s++40::cm (xs.take k)))) (λi _=>n-(intOf i).toNat)
 case atStart=>exact⟨0,Do _,rfl,HL1,H_ (by simpa[cm]using HP1.out)⟩
 case round=>
  obtain⟨k,hk,rfl,HL,HP⟩:=hrel;have hsr:=HL.out.size;by_cases hkm:k<n
  ·have hkz:(k:Int)<(n:Int):=by omega
   obtain⟨b,off,a,cs,rfl,hgb,ha,hrd,hat⟩:=(HS.out.lk HL.out hle).at_ hkm;have HA:=H_ ha;have hmem:=Dj ha;have hmono:=qI xs (k+1);rw[iV ha]at hmono;have HR:=H_ hrd;have HCL:=H_ (oF hrd);obtain⟨yk,yo,yz,yn,ya,args2⟩:=a;obtain⟨A2,n2,c2,rfl,hsa⟩:=ExK.inv hrd;obtain⟨d0,d1,d2,d3,d4,d5⟩:=At.e6 hat
   obtain⟨w2,hw2⟩:=nm_ (wr.alloc (.cells #[.int .i64 yk,.int .i64 yo,.int .i64 yz,.string yn,.bool ya,.slice A2 n2 c2] 172));have HW2:=H_ hw2;have HQ:=hnw hw2;have l2:Lk B p wr w2:=Lk.al (bal hw2);have hs2:=l2.size;have HL2:=H_ (HL.out.trans l2);have HP2:=H_ (HP.out.below (bal hw2));have HE:=H_ (HH.out _ hmem);have hpw:p≠wr.heap.size:=by omega
   clear ha hrd hat hsa hmem hgb hw2 l2 HL HP;by_cases hk0:k=0
   ·subst hk0;simp only[Nat.zero_mul,Fc]at d0 d1 d2 d3 d4 d5;rw[Dq rfl]at hmono;have htk:=iV HA.out;rw[Dq rfl]at htk;have HTK:=H_ htk;have HC:=H_ (HE.out 1 _ w2 _ (ExK.lk HR.out (Lk.al (bal HW2.out)) (by omega)) HCL.out HP2.out (HG.out.lk HL2.out hlt) (by rw[am];simp only[D7,Da,List.take_zero];show s.length+(0+1)+_<=TB;omega));obtain⟨q0,q1,q2,q3,q4,q5⟩:=HQ.out.c6;clear htk;go_upto_region 4 with fail;rw[HW2.out];go_wp2_with fail;refine HC.out.mono ?_;rintro e w3 ⟨rfl,l3,p3⟩;have HL3:=H_ (HL2.out.trans l3);have HP3:=H_ p3;clear l3 p3 HC HP2 HL2;go_wp2_with fail;go_roundw
    case rel=>exact⟨1,by omega,by go_num,HL3,H_ (by rw[HTK.out];have:=HP3.out;rw[am]at this;simpa[cm]using this)⟩
    case measure=>simp[intOf];omega
   ·rw[Dg hk0]at hmono;have htk:=iV HA.out;rw[Dg hk0]at htk;have HTK:=H_ htk;simp only[D7,Da]at hmono;have hkp:(0:Int)<(k:Int):=by omega
    have HC0:=H_ (wr1 HP2.out ⟨#[44,32]⟩ (by simp only[D7,Da];show _+2<=TB;omega));obtain⟨q0,q1,q2,q3,q4,q5⟩:=HQ.out.c6;clear htk;go_upto_region 4 with fail;rw[HW2.out];go_wp2_with fail;refine HC0.out.mono ?_;rintro e w4 ⟨rfl,l4,p4⟩;have hs4:=l4.size;have HC:=H_ (HE.out 1 _ w4 _ (ExK.lk HR.out ((Lk.al (bal HW2.out)).trans l4) (by omega)) HCL.out p4 (HG.out.lk (HL2.out.trans l4) hlt) (by rw[am];simp only[D7,Da];show _+2+_<=TB;omega));obtain⟨r0,r1,r2,r3,r4,r5⟩:=(HQ.out.lk l4 (Ne.symm hpw)).c6;have HL4:=H_ (HL2.out.trans l4);clear l4 p4 HC0 HP2;go_wp2_with fail;refine HC.out.mono ?_;rintro e w3 ⟨rfl,l3,p3⟩;have HL3:=H_ (HL4.out.trans l3);have HP3:=H_ p3;clear l3 p3 HC HL2;go_wp2_with fail;go_roundw
    case rel=>exact⟨k+1,by omega,by go_num,HL3,H_ (by rw[HTK.out];have:=HP3.out;rw[am]at this;simpa using this)⟩
    case measure=>simp[intOf];omega
  ·obtain rfl:k=n:=by omega
   rw[Dd (by omega)]at HP;have HC:=H_ (wr1 HP.out ⟨#[41]⟩ (by simp only[D7,Da];show _+1<=TB;omega));go_wp2_with fail;refine HC.out.mono ?_;rintro e w3 ⟨rfl,l3,p3⟩;have HL3:=H_ (HL.out.trans l3);have HP3:=H_ p3;clear l3 p3 HC;go_wp2_with fail;go_end0;exact⟨rfl,HL3.out,by simpa using HP3.out⟩
theorem xQ:TB=1000000000:=rfl
theorem Cb(hv:vE e=true)(h:Cv e):CV e:=by
 intro l cs w G hr hcl hG hcg hlen;obtain⟨xk,xo,xz,xn,xa,args⟩:=e;have hr0:=hr;obtain⟨A,n,c,rfl,hs⟩:=ExK.inv hr;obtain⟨g,hz⟩:=nm_ (w.heap.size);obtain⟨W0,hW0⟩:=nm_ (w.alloc (.cells #[.int .i64 xk,.int .i64 xo,.int .i64 xz,.string xn,.bool xa,.slice A n c] 172));have HQ:=hng hW0 hz;have HB0:Hid (Below g w W0):=H_ (hz▸(hba hW0).out);have hs0:W0.heap.size=g+1:=by rw[<-hW0,Dk,hz]
 have HX0:=H_ (ExK.aA (w':=W0) (G':=G) (λq hq=>⟨hq,HB0.out.block q (by have:=hG q hq;omega)⟩) hr0);have HC:=H_ (AK _ _ W0 G hv HX0.out);have HH:=H_ h;have HCL:=H_ hcl;have HG:=H_ hG;have HCG:=H_ (hcg.aA (w':=W0) λq hq=>HB0.out.block q (by have:=hG q hq;omega));have HW:=H_ hW0;obtain⟨q0,q1,q2,q3,q4,q5⟩:=HQ.out.c6;obtain⟨T,hT⟩:=nm_ (tIn l (.mk xk xo xz xn xa args));rw[hT]at hlen⊢;rw[lK]at hT;have HT:=H_ hT;have htb:=xQ;clear hr hr0 hs hcl hG hcg hW0 hv h hT;go_enter Tryz.func170,Tryz.ntmps170;rw[hz];go_upto_region 1 with fail;rw[HW.out];go_wp2_with fail;refine HC.out.mono ?_;rintro r w1 ⟨rfl,b1⟩;have hs1:=b1.size;have HB1:=H_ (HB0.out.trans (b1.mono (by omega)));obtain⟨r0,r1,r2,r3,r4,r5⟩:=(HQ.out.below b1 (by omega)).c6
 have HC2:Hid ((tE (.mk xk xo xz xn xa args)).length<=TB->Calls Tryz.prog 169 #[.agg #[.int .i64 xk,.int .i64 xo,.int .i64 xz,.string xn,.bool xa,.slice A n c]] w1 λr w'=>r= .returned (.string (ba (tE (.mk xk xo xz xn xa args))))/\Below w1.heap.size w1 w'):=H_ λhl=>
  HH.out _ w1 G (ExK.aA (λq hq=>⟨hq,b1.block q (by have:=HG.out q hq;omega)⟩) HX0.out) HCL.out (λq hq=>by have:=HG.out q hq;omega) (HCG.out.aA λq hq=>b1.block q (by have:=HG.out q hq;omega)) hl
 generalize tE (.mk xk xo xz xn xa args)=E at*
 clear b1 HC HX0 HH HCL HCG;by_cases hl:lvl (.mk xk xo xz xn xa args)<l
 ·have hT:T=40::(E++[41]):=by rw[<-HT.out,Dq hl]
  rw[hT]at hlen;simp only[Da,D7,Dc]at hlen;have hlz:((lvl (.mk xk xo xz xn xa args):Nat):Int)<(l:Int):=by omega
  have a1:∀W,(Op.stringOp .add ⟨#[40]⟩ (ba E)).run Tryz.prog W= .ok (.string (ba (40::E))) W:=iJ ⟨#[40]⟩ (ba E) [40] E;have a2:∀W,(Op.stringOp .add (ba (40::E)) ⟨#[41]⟩).run Tryz.prog W= .ok (.string (ba (40::(E++[41])))) W:=iJ (ba (40::E)) ⟨#[41]⟩ (40::E) [41];have HC3:=H_ (HC2.out (by omega));have HTT:=H_ (show ba (40::(E++[41]))=ba T by rw[hT]);clear hT HT HC2;go_wp2_with fail;refine HC3.out.mono ?_;rintro r w2 ⟨rfl,b2⟩;have HB2:=H_ (HB1.out.trans (b2.mono (by omega)));clear b2 HC3;go_wp2_with fail;go_ret;exact⟨by rw[<-HTT.out];rfl,HB2.out⟩
 ·have hT:T=E:=by rw[<-HT.out,Dg hl]
  have hlz:¬((lvl (.mk xk xo xz xn xa args):Nat):Int)<(l:Int):=by omega
  have HC3:=H_ (HC2.out (hT▸hlen));have HTT:=H_ hT;clear hT HT HC2;go_wp2_with fail;refine HC3.out.mono ?_;rintro r w2 ⟨rfl,b2⟩;have HB2:=H_ (HB1.out.trans (b2.mono (by omega)));clear b2 HC3;go_wp2_with fail;go_ret;exact⟨by rw[HTT.out];rfl,HB2.out⟩
structure Cls{T:Type}(w:World)(W0:World)(G:Nat->Prop)(f:T->World):Prop where
 cov:∀W,Below W0.heap.size W0 W->∃x,W=f x
 fr:∀y,Below W0.heap.size W0 (f y)
 fr0:∀y,Below w.heap.size w (f y)
 aA:∀y q,G q->G q/\(f y).heap[q]?=w.heap[q]?
 lt:∀y q,G q->q<(f y).heap.size
 cap:∀y,CapG (f y) G
theorem Cls.all{f:T->World}(C:Cls w W0 G f){n:Nat}{vs:Array Value}{s:List UInt8}(h:∀y,Calls Tryz.prog n vs (f y) λe w''=>e= .returned (.string (ba s))/\Below (f y).heap.size (f y) w''):
 Hid (∀y,Calls Tryz.prog n vs (f y) λe w''=>e= .returned (.string (ba s))/\∃z,w''=f z):=
 H_ λy=>(h y).mono λe w'' ⟨h1,h2⟩=>⟨h1,C.cov _ ((C.fr y).trans (h2.mono (C.fr y).size))⟩
theorem Cls.in_{f:T->World}(C:Cls w W0 G f)(hv:vE a=true)(h:Cv a)(l:Nat)(hr:ExK w G a cs)(hc:ld cs)(hlen:(tIn l a).length<=TB):
 Hid (∀y,Calls Tryz.prog 170 #[.agg cs.toArray,.int .i64 (l:Int)] (f y) λe w''=>e= .returned (.string (ba (tIn l a)))/\∃z,w''=f z):=
 C.all λy=>Cb hv h l cs (f y) G (ExK.aA (C.aA y) hr) hc (C.lt y) (C.cap y) hlen
theorem Cls.at_{f:T->World}(C:Cls w W0 G f)(hcg:CapG w G){n:Nat}(hs:Sl gQ w G xs A n){k:Nat}(ha:xs[k]?=some a):
 ∃b off yk yo yz yn ya A2 n2 c2,A=some ⟨b,off,none⟩/\ExK w G a [.int .i64 yk,.int .i64 yo,.int .i64 yz,.string yn,.bool ya,.slice A2 n2 c2]/\ld [.int .i64 yk,.int .i64 yo,.int .i64 yz,.string yn,.bool ya,.slice A2 n2 c2]/\
  ∀y,(f y).cell? ⟨b,off+k*6,none⟩=some (.int .i64 yk)/\(f y).cell? ⟨b,off+k*6+1,none⟩=some (.int .i64 yo)/\(f y).cell? ⟨b,off+k*6+2,none⟩=some (.int .i64 yz)/\
   (f y).cell? ⟨b,off+k*6+3,none⟩=some (.string yn)/\(f y).cell? ⟨b,off+k*6+4,none⟩=some (.bool ya)/\(f y).cell? ⟨b,off+k*6+5,none⟩=some (.slice A2 n2 c2):=by
 have hk:k<n:=by rw[<-hs.1];exact(De.1 ha).1
 obtain⟨b,off,x,cs,rfl,hgb,hx,hrd,hat⟩:=hs.at_ hk;obtain rfl:x=a:=by rw[ha]at hx;exact(Option.some.inj hx).symm
 have hc:=oF hrd;obtain⟨yk,yo,yz,yn,ya,args2⟩:=x;have hrd':=hrd;obtain⟨A2,n2,c2,rfl,hsa⟩:=ExK.inv hrd;refine⟨b,off,yk,yo,yz,yn,ya,A2,n2,c2,rfl,hrd',hc,λy=>?_⟩;have h2:=At.e6 hat
 have hb:∀i,(f y).cell? ⟨b,i,none⟩=w.cell? ⟨b,i,none⟩:=λi=>Ej (C.aA y b hgb).2;simp only[hb];exact h2
section
variable{T:Type}{w W0:World}{G:Nat->Prop}{f:T->World}
end
theorem AG(d:Nat)(s:ByteArray)(X:List UInt8)(w:World)(hs:s.data.toList=X)(hd:d<=1000000000)(hlen:(tLn d X).length<=TB):
 Calls Tryz.prog 67 #[.int .i64 (d:Int),.string s] w λe w'=>e= .returned (.string (ba (tLn d X)))/\w'=w:=by
 have htb:=xQ
 have hle:∀k,k<=d->(bg k).length+X.length+1<=TB:=λk hk=>by
  unfold tLn bg at*
  simp only[D7,Da,Dc,List.length_replicate]at*
  omega
 have HT:=H_ (show tLn d X=bg d++X++[10]from rfl);have HLE:=H_ hle;have HX:=H_ hs;clear hle hlen;go_enter Tryz.func67,Tryz.ntmps67;go_wp2_with fail;go_loopw [5,6] (λs i wr=>∃k:Nat,k<=d/\i= .int .i64 k/\s= .string (ba (bg k))/\wr=w) (λ_ i _=>d-(intOf i).toNat)
 case atStart=>exact⟨0,Do _,rfl,rfl,rfl⟩
 case round=>
  obtain⟨k,hk,rfl,rfl,rfl⟩:=hrel;by_cases hkm:k<d
  ·have hkz:(k:Int)<(d:Int):=by omega
   have hl:=HLE.out (k+1) (by omega);have hl0:=HLE.out k (by omega);have a1:=iJ (ba (bg k)) ⟨#[32,32]⟩ (bg k) [32,32] rfl rfl (by simp only[Da,Dc];omega);have hi:ba (bg k++[32,32])=ba (bg (k+1)):=by unfold bg;rw[show 2*(k+1)=2*k+2 by omega,<-List.replicate_append_replicate];rfl
   rw[hi]at a1;go_wp2_with fail;go_roundw
   case rel=>exact⟨k+1,by omega,by go_num,rfl,trivial⟩
   case measure=>simp[intOf];omega
  ·obtain rfl:k=d:=by omega
   have hl0:=HLE.out k (by omega);have a1:=iJ (ba (bg k)) s (bg k) X rfl HX.out (by omega);have a2:=iJ (ba (bg k++X)) ⟨#[10]⟩ (bg k++X) [10];clear HX;rw[<-HT.out]at a2;go_wp2_with fail;go_ret;simp
theorem Bk{p:Nat}{b:Ex}(ha:rW B p d N a)(hb:rW B p d N b)(o:Nat)(ho:o<=12)(cs:List Value)(w:World)(s:List UInt8)(hr:ExK w (GB B p N) (cv o a b) cs)(hp:PW w B p d s)(hg:GP w p N)(hlen:s.length+(tE (cv o a b)).length<=TB):
 Calls Tryz.prog 288 #[.pointer (some ⟨p,0,none⟩),.agg cs.toArray] w (Pr B p d s (tE (cv o a b)) w):=by
 obtain⟨A,n,c,rfl,hs⟩:=ExK.inv hr;have hn:2=n:=hs.1;subst hn;obtain⟨g,hz⟩:=nm_ (w.heap.size);obtain⟨W0,hW0⟩:=nm_ (w.alloc (.cells #[.int .i64 10,.int .i64 (o:Int),.int .i64 0,.string ⟨#[]⟩,.bool false,.slice A 2 c] 172));obtain⟨W1,hW1⟩:=nm_ (W0.alloc (.cells #[.string (bD o),.int .i64 (ap (o:Int):Nat)] 309));have hlt:=hp.lt;have hle:=hp.le;have hbig:=hg.g.big;have HQ0:=hng hW0 hz;have hs0:W0.heap.size=g+1:=by rw[<-hW0,Dk,hz]
 have HT1:=hng hW1 hs0;have hs1:W1.heap.size=g+2:=by rw[<-hW1,Dk,hs0]
 have HQ1:=H_ (HQ0.out.al hW1);have l1:Lk B p w W1:=(Lk.al (bal hW0)).trans (Lk.al (bal hW1));have HL1:=H_ l1;have HP1:=H_ ((hp.below (bal hW0)).below (bal hW1));have HG1:=H_ (hg.lk l1 hlt);have HS1:=H_ (hs.lk l1 hle);have hG0:GlF W0:=(hg.lk (Lk.al (bal hW0)) hlt).f;obtain⟨t0,t1⟩:=hG0.op o ho;have ho0:(0:Int)<=(o:Int):=by omega
 have ho1:(o:Int)<13:=by omega
 obtain⟨T,hT⟩:=nm_ (tE (cv o a b));rw[hT]at hlen⊢;rw[vj]at hT;have HT:=H_ hT;have HA:=H_ ha;have HB:=H_ hb;have HW:=H_ (And.intro hW0 hW1);have hone:=f9 o ho;have q1:=HQ0.out.k1;generalize ap (o:Int)=L at*
 generalize bD o=OT at*
 clear hr hs hp hg hW0 hW1 ha hb hT l1 hG0;go_enter Tryz.func288,Tryz.ntmps288;go_upto_region 1 with fail;rw[HW.out.1];go_upto_region 2 with fail;rw[HW.out.2];have e0:=HT1.out.k0;have e1:=HT1.out.k1;go_wp2_with fail;go_quiet (fail);obtain⟨W2,hW2⟩:=nm_ (W1.drewN nq);rw[hW2];have hb2:Below W1.heap.size W1 W2:=hW2▸co (Db _ _) nq;have hs2:W2.heap.size=g+2:=by rw[<-hW2,<-hs1];rfl
 have hw0:B<=W2.heap.size:=by omega
 have HL2:=H_ (HL1.out.trans (Lk.al hb2));have HP2:=H_ (HP1.out.below hb2);have HG2:=H_ (HG1.out.new hb2);have HS2:=H_ (HS1.out.lk (Lk.al hb2) (by omega));have HQ2:=H_ (HQ1.out.below hb2 (by omega));have HT2:=H_ (HT1.out.below hb2 (by omega))
 obtain⟨lf,rt,hcase⟩:∃lf rt:Nat,(L=4/\lf=5/\rt=5)\/(L≠4/\lf=L/\rt=L+1):=by
  by_cases h4:L=4
  ·exact⟨5,5,.inl ⟨h4,rfl,rfl⟩⟩
  ·exact⟨L,L+1,.inr ⟨h4,rfl,rfl⟩⟩
 have hTT:T=tIn lf a++32::(OT.data.toList++32::tIn rt b):=by
  rw[<-HT.out];rcases hcase with⟨h4,rfl,rfl⟩|⟨h4,rfl,rfl⟩
  ·rw[Dq h4,h4]
  ·rw[Dg h4]
 rw[hTT]at hlen;simp only[D7,Da]at hlen;have HTT:=H_ hTT;have hot:OT.data.toList.length=OT.size:=rfl;obtain⟨b1,off,a',cs,hA1,hgb,ha',hrd,hat⟩:=HS2.out.at_ (k:=0) (by omega);subst hA1;obtain rfl:a=a':=by simpa using ha'
 have HCA:=H_ (HA.out lf cs W2 s hrd (oF hrd) HP2.out HG2.out (by omega));obtain⟨yk,yo,yz,yn,ya,args2⟩:=a;obtain⟨A2,n2,c2,rfl,hsa⟩:=ExK.inv hrd;obtain⟨d0,d1,d2,d3,d4,d5⟩:=At.e6 (k:=0) hat
 simp only[Nat.zero_mul,Fc]at d0 d1 d2 d3 d4 d5;have f5:=HQ2.out.k5;have u0:=HT2.out.k0;have u1:=HT2.out.k1;clear hb2 hW2 hTT hgb ha' hrd hat hsa hone q1 t0 t1 e0 e1 HL1 HP1 HG1 HS1 HQ1 HT1 HQ0 HW HT;rcases hcase with⟨rfl,rfl,rfl⟩|⟨h4,rfl,rfl⟩
 case inr=>
  have h4z:((lf:Int)==4)=false:=D9.2 (by omega);go_wp2_with fail;refine HCA.out.mono ?_;rintro e w3 ⟨rfl,l3,p3⟩;have hs3:=l3.size;have HC3:=H_ (wr3 p3 ⟨#[32]⟩ OT ⟨#[32]⟩ (by simp only[D7];show _+(1+OT.size+1)<=TB;omega));have v0:=(HT2.out.lk l3 (by omega)).k0;have HL3:=H_ (HL2.out.trans l3);have HR3:=H_ l3;have HQ3:=H_ (HQ2.out.lk l3 (by omega));clear l3 p3 HCA;go_wp2_with fail;refine HC3.out.mono ?_;rintro e w4 ⟨rfl,l4,p4⟩;have hs4:=l4.size;have g5:=(HQ3.out.lk l4 (by omega)).k5;have HL4:=H_ (HL3.out.trans l4);obtain⟨b2,off2,a',cs,hA2,hgb,ha',hrd,hat⟩:=(HS2.out.lk (HR3.out.trans l4) hw0).at_ (k:=1) (by omega);simp only[Option.some.injEq,Addr.mk.injEq,DA]at hA2;obtain⟨rfl,rfl⟩:=hA2;obtain rfl:b=a':=by simpa using ha'
  have HCB:=H_ (HB.out (lf+1) cs w4 _ hrd (oF hrd) p4 (HG2.out.lk (HR3.out.trans l4) hlt) (by simp only[D7];show _+_+(1+(OT.data.toList.length+1))+_<=TB;omega));obtain⟨zk,zo,zz,zn,za,args3⟩:=b;obtain⟨A3,n3,c3,rfl,hsb⟩:=ExK.inv hrd;obtain⟨d0,d1,d2,d3,d4,d5⟩:=At.e6 (k:=1) hat
  simp only[Nat.one_mul]at d0 d1 d2 d3 d4 d5;clear l4 p4 HC3 hgb ha' hrd hat hsb;go_wp2_with fail;refine HCB.out.mono ?_;rintro e w5 ⟨rfl,l5,p5⟩;have HL5:=H_ (HL4.out.trans l5);have HP5:=H_ p5;clear l5 p5 HCB;go_wp2_with fail;go_end0;exact⟨rfl,HL5.out,by rw[HTT.out];simpa using HP5.out⟩
 case inl=>
  go_wp2_with fail;refine HCA.out.mono ?_;rintro e w3 ⟨rfl,l3,p3⟩;have hs3:=l3.size;have HC3:=H_ (wr3 p3 ⟨#[32]⟩ OT ⟨#[32]⟩ (by simp only[D7];show _+(1+OT.size+1)<=TB;omega));have v0:=(HT2.out.lk l3 (by omega)).k0;have HL3:=H_ (HL2.out.trans l3);have HR3:=H_ l3;have HQ3:=H_ (HQ2.out.lk l3 (by omega));clear l3 p3 HCA;go_wp2_with fail;refine HC3.out.mono ?_;rintro e w4 ⟨rfl,l4,p4⟩;have hs4:=l4.size;have g5:=(HQ3.out.lk l4 (by omega)).k5;have HL4:=H_ (HL3.out.trans l4);obtain⟨b2,off2,a',cs,hA2,hgb,ha',hrd,hat⟩:=(HS2.out.lk (HR3.out.trans l4) hw0).at_ (k:=1) (by omega);simp only[Option.some.injEq,Addr.mk.injEq,DA]at hA2;obtain⟨rfl,rfl⟩:=hA2;obtain rfl:b=a':=by simpa using ha'
  have HCB:=H_ (HB.out 5 cs w4 _ hrd (oF hrd) p4 (HG2.out.lk (HR3.out.trans l4) hlt) (by simp only[D7];show _+_+(1+(OT.data.toList.length+1))+_<=TB;omega));obtain⟨zk,zo,zz,zn,za,args3⟩:=b;obtain⟨A3,n3,c3,rfl,hsb⟩:=ExK.inv hrd;obtain⟨d0,d1,d2,d3,d4,d5⟩:=At.e6 (k:=1) hat
  simp only[Nat.one_mul]at d0 d1 d2 d3 d4 d5;clear l4 p4 HC3 hgb ha' hrd hat hsb;go_wp2_with fail;refine HCB.out.mono ?_;rintro e w5 ⟨rfl,l5,p5⟩;have HL5:=H_ (HL4.out.trans l5);have HP5:=H_ p5;clear l5 p5 HCB;go_wp2_with fail;go_end0;exact⟨rfl,HL5.out,by rw[HTT.out];simpa using HP5.out⟩
theorem BS{p:Nat}(hv:vE e=true)(ih:∀a,esz a<esz e->vE a=true->rW B p d N a):Bt B p d N e:=by
 intro cs w s hr hcl hp hg hlen;obtain⟨xk,xo,xz,xn,xa,args⟩:=e;have hr0:=hr;obtain⟨A,n,c,rfl,hs⟩:=ExK.inv hr;have hn:=hs.1;have hcap:n<=c:=hcl A n c (by simp);clear hcl;obtain⟨g1,hz⟩:∃g,w.heap.size=g:=⟨_,rfl⟩;obtain⟨W0,hW0⟩:=nm_ (w.alloc (.cells #[.pointer (some ⟨p,0,none⟩)] 126));obtain⟨W1,hW1⟩:=nm_ (W0.alloc (.cells #[.int .i64 xk,.int .i64 xo,.int .i64 xz,.string xn,.bool xa,.slice A n c] 172));have hlt:=hp.lt;have hle:=hp.le;have HF0:=hng hW0 hz;have hs0:W0.heap.size=g1+1:=by rw[<-hW0,Dk,hz]
 have HE1:=hng hW1 hs0;have hs1:W1.heap.size=g1+2:=by rw[<-hW1,Dk,hs0]
 have HF1:=H_ (HF0.out.al hW1);have l1:Lk B p w W1:=(Lk.al (bal hW0)).trans (Lk.al (bal hW1));have HL1:=H_ l1;have HP1:=H_ ((hp.below (bal hW0)).below (bal hW1));have HG1:=H_ (hg.lk l1 hlt);have HS1:=H_ (hs.lk l1 hle);have HR1:=H_ (ExK.lk hr0 l1 hle);have HV:=H_ hv;have HI:=H_ ih;have HW:=H_ (And.intro hW0 hW1);obtain⟨T,hT⟩:=nm_ (tE (.mk xk xo xz xn xa args));rw[hT]at hlen⊢;have HT:=H_ hT;have f0:=HF1.out.k0;obtain⟨e0,e1,e2,e3,e4,e5⟩:=HE1.out.c6;have hB1:B<=W1.heap.size:=by omega
 clear hr hr0 hs hp hg hW0 hW1 hv ih hT l1 HF0;go_enter Tryz.func264,Tryz.ntmps264;go_upto_region 1 with fail;rw[HW.out.1,HW.out.2];rcases da HV.out with⟨z,e,hz0,hz1⟩|e|e|⟨x,e,hx⟩|⟨x,a,e,hx,ha⟩|⟨x,xs,e,hx,hxs⟩|⟨x,xs,a,e,hx,hxs,ha⟩|⟨k,a,hk,e,ha⟩|⟨o,a,b,ho,e,ha,hb⟩
 case inl=>
  simp only[fS,Ex.mk.injEq]at e;obtain⟨rfl,rfl,rfl,rfl,rfl,rfl⟩:=e;have hTT:T=Lib.itoa xz:=HT.out.symm.trans (vh xz);subst hTT;have hI:I64 xz:=⟨by omega,by omega⟩;have hil:(Lib.itoa xz).length=(dr xz).size:=(ug xz).symm;have f0':W1.drew.cell? ⟨g1,0,none⟩=some (.pointer (some ⟨p,0,none⟩)):=f0;have e2':W1.drew.cell? ⟨g1+1,2,none⟩=some (.int .i64 xz):=e2;have hbd:Below W1.heap.size W1 W1.drew:=(Db _ _).drew;have HGd:=H_ (HG1.out.new hbd).g.gl;have HPd:=H_ (HP1.out.below hbd);have HLd:=H_ (HL1.out.trans (Lk.al hbd));have hsd:W1.drew.heap.size=g1+2:=hs1;clear hbd;go_wp2_with fail
  go_region_with (first
   |(go_at_call 193
     refine(mw xz _ hI HGd.out).mono ?_;rintro e w2 ⟨rfl,b2⟩;have hb2:=b2.size;have F2:Blk w2 g1 126 #[.pointer (some ⟨p,0,none⟩)]:=HF1.out.drew.below b2 (by omega);have f2:=F2.k0;have f2b:=(F2.alloc (.cells #[.string (dr xz)] 9)).k0;have HP2:=H_ (HPd.out.below b2);have HL2:=H_ (HLd.out.trans (Lk.al b2));have HC:=H_ (wr1 HP2.out (dr xz) (by omega));clear b2 F2)
   |(go_at_call 166
     refine HC.out.mono ?_;rintro e w3 ⟨rfl,l3,p3⟩;have HL3:=H_ (HL2.out.trans l3);have HP3:=H_ p3;clear l3 p3))
  all_goals
   go_wp2_with fail;go_end0;exact⟨rfl,HL3.out,HP3.out⟩
 case inr.inl=>
  simp only[eV,Ex.mk.injEq]at e;obtain⟨rfl,rfl,rfl,rfl,rfl,rfl⟩:=e;have hTT:T=[110,105,108]:=HT.out.symm.trans va;subst hTT;have HC:=H_ (wr1 HP1.out ⟨#[110,105,108]⟩ hlen);rw[hs1]at HC;go_wp2_with fail;refine HC.out.mono ?_;rintro e w2 ⟨rfl,l2,p2⟩;have HL2:=H_ (HL1.out.trans l2);have HP2:=H_ p2;clear l2 p2 HC;go_wp2_with fail;go_end0;exact⟨rfl,HL2.out,HP2.out⟩
 case inr.inr.inl=>
  simp only[eV,Ex.mk.injEq]at e;obtain⟨rfl,rfl,rfl,rfl,rfl,rfl⟩:=e;have hTT:T=[116,104,105,115]:=HT.out.symm.trans sk;subst hTT;have HC:=H_ (wr1 HP1.out ⟨#[116,104,105,115]⟩ hlen);rw[hs1]at HC;go_wp2_with fail;refine HC.out.mono ?_;rintro e w2 ⟨rfl,l2,p2⟩;have HL2:=H_ (HL1.out.trans l2);have HP2:=H_ p2;clear l2 p2 HC;go_wp2_with fail;go_end0;exact⟨rfl,HL2.out,HP2.out⟩
 case inr.inr.inr.inl=>
  simp only[eV,Ex.mk.injEq]at e;obtain⟨rfl,rfl,rfl,rfl,rfl,rfl⟩:=e;have hTT:T=xn.data.toList:=HT.out.symm.trans (sm xn);subst hTT;have HC:=H_ (wr1 HP1.out xn hlen);rw[hs1]at HC;go_wp2_with fail;refine HC.out.mono ?_;rintro e w2 ⟨rfl,l2,p2⟩;have HL2:=H_ (HL1.out.trans l2);have HP2:=H_ p2;clear l2 p2 HC;go_wp2_with fail;go_end0;exact⟨rfl,HL2.out,HP2.out⟩
 case inr.inr.inr.inr.inl=>
  simp only[aP,Ex.mk.injEq]at e;obtain⟨rfl,rfl,rfl,rfl,rfl,rfl⟩:=e;have hTT:T=tIn 8 a++46::xn.data.toList:=HT.out.symm.trans (pi xn a);rw[hTT]at hlen;have HTT:=H_ hTT;clear hTT;simp only[D7,Da]at hlen;have hxl:xn.data.toList.length=xn.size:=rfl;have HC:=H_ (lZ (HI.out a (by simp[esz,ci]) ha) ⟨#[]⟩ 8 [] A n c g1 (g1+1) _ _ _ _ _ W1 s HF1.out HE1.out HS1.out (by omega) (by omega) HP1.out HG1.out (by show s.length+(0+_)<=TB;omega));go_wp2_with fail;refine HC.out.mono ?_;rintro e w2 ⟨rfl,l2,p2⟩;have hs2:=l2.size;have HC3:=H_ (wr2 p2 ⟨#[46]⟩ xn (by simp only[D7];show s.length+(0+_)+(1+_)<=TB;omega));have u0:=(HF1.out.lk l2 (by omega)).k0;have u3:=(HE1.out.lk l2 (by omega)).k3;have HL2:=H_ (HL1.out.trans l2);clear l2 p2 HC;go_wp2_with fail;refine HC3.out.mono ?_;rintro e w3 ⟨rfl,l3,p3⟩;have HL3:=H_ (HL2.out.trans l3);have HP3:=H_ p3;clear l3 p3 HC3;go_wp2_with fail;go_end0;exact⟨rfl,HL3.out,by rw[HTT.out];simpa using HP3.out⟩
 case inr.inr.inr.inr.inr.inl=>
  simp only[Ex.mk.injEq]at e;obtain⟨rfl,rfl,rfl,rfl,rfl,rfl⟩:=e;have hTT:T=kX++xn.data.toList++40::(cm args++[41]):=HT.out.symm.trans (ve xn args);rw[hTT]at hlen;have HTT:=H_ hTT;clear hTT;simp only[D7,Da,Dc]at hlen;have hnl:kX.length=4:=rfl;have hxl:xn.data.toList.length=xn.size:=rfl;have HC:=H_ (wr2 HP1.out ⟨#[110,101,119,32]⟩ xn (by show s.length+(4+_)<=TB;omega));rw[hs1]at HC;have hmz:∀a∈args,esz a<esz (.mk 5 0 0 xn false args):=λa ha=>by have:=iC ha;rw[esz];omega
  have HM:=H_ hmz;clear hmz;go_wp2_with fail;refine HC.out.mono ?_;rintro e w2 ⟨rfl,l2,p2⟩;have hs2:=l2.size;have HC3:=H_ (mf args (λa ha=>HI.out a (HM.out a ha) (cG hxs a ha)) A n c w2 _ (HS1.out.lk l2 hB1) p2 (HG1.out.lk l2 hlt) (by simp only[D7];show s.length+(4+_)+_<=TB;omega));have u0:=(HF1.out.lk l2 (by omega)).k0;have u4:=(HE1.out.lk l2 (by omega)).k4;have u5:=(HE1.out.lk l2 (by omega)).k5;have HL2:=H_ (HL1.out.trans l2);have HR2:=H_ l2;clear l2 p2 HC;go_wp2_with fail;refine HC3.out.mono ?_;rintro e w3 ⟨rfl,l3,p3⟩;have y4:=(HE1.out.lk (HR2.out.trans l3) (by omega)).k4;have HL3:=H_ (HL2.out.trans l3);have HP3:=H_ p3;clear l3 p3 HC3;go_wp2_with fail;go_end0;exact⟨rfl,HL3.out,by rw[HTT.out];simpa[kX]using HP3.out⟩
 case inr.inr.inr.inr.inr.inr.inl=>
  have hL:args=xs++[a]:=by simp only[Ex.mk.injEq]at e;exact e.2.2.2.2.2
  simp only[Ex.mk.injEq]at e;obtain⟨rfl,rfl,rfl,rfl,rfl,_⟩:=e;have hTT:T=kX++xn.data.toList++40::(cm xs++41::(sAt++tIn 7 a)):=HT.out.symm.trans (by rw[hL];exact ph xn a xs);rw[hTT]at hlen;have HTT:=H_ hTT;clear hTT;simp only[D7,Da,Dc]at hlen;have hnl:kX.length=4:=rfl;have hal:sAt.length=4:=rfl;have hxl:xn.data.toList.length=xn.size:=rfl;have HC:=H_ (wr2 HP1.out ⟨#[110,101,119,32]⟩ xn (by show s.length+(4+_)<=TB;omega));rw[hs1]at HC;have hez:esz (.mk 5 0 0 xn true args)=1+(ci xs+esz a):=by rw[hL,esz,mE]
  have hmz:∀b∈xs,esz b<esz (.mk 5 0 0 xn true args):=λb hb=>by have:=iC hb;omega
  have HM:=H_ (And.intro hmz (show esz a<esz (.mk 5 0 0 xn true args) by omega));obtain⟨m,rfl⟩:∃m,n=m+1:=⟨xs.length,by rw[<-hn,hL];simp⟩;have hm:xs.length=m:=by have:=hn;rw[hL]at this;simpa using this
  have hmb:m+1<=1152921504606846976:=HS1.out.2.1;have hcz:(m:Int)<=(c:Int):=by omega
  have hmz1:((m+1:Nat):Int)-1=(m:Int):=by omega
  have HAL:=H_ hL;clear hmz hez hL;go_wp2_with fail;refine HC.out.mono ?_;rintro e w2 ⟨rfl,l2,p2⟩;have hs2:=l2.size
  have hSx:Sl gQ w2 (GB B p N) xs A m:=by
   have:=(HS1.out.lk l2 hB1).take (k:=m) (by omega);rwa[HAL.out,List.take_append_of_le_length (by omega),Dd (by omega)]at this
  have HC3:=H_ (mf xs (λb hb=>HI.out b (HM.out.1 b hb) (cG hxs b hb)) A m c w2 _ hSx p2 (HG1.out.lk l2 hlt) (by simp only[D7];show s.length+(4+_)+_<=TB;omega));have u0:=(HF1.out.lk l2 (by omega)).k0;have u4:=(HE1.out.lk l2 (by omega)).k4;have u5:=(HE1.out.lk l2 (by omega)).k5;have HL2:=H_ (HL1.out.trans l2);have HR2:=H_ l2;clear l2 p2 HC hSx;go_wp2_with fail;refine HC3.out.mono ?_;rintro e w3 ⟨rfl,l3,p3⟩;have hs3:=l3.size;have y0:=(HF1.out.lk (HR2.out.trans l3) (by omega)).k0;have y4:=(HE1.out.lk (HR2.out.trans l3) (by omega)).k4;have HC4:=H_ (wr1 p3 ⟨#[32,97,116,32]⟩ (by simp only[D7,Da,Dc];show s.length+(4+_)+(_+(0+1)+1)+4<=TB;omega));have HL3:=H_ (HL2.out.trans l3);have HR3:=H_ (HR2.out.trans l3);clear l3 p3 HC3;go_wp2_with fail;refine HC4.out.mono ?_;rintro e w4 ⟨rfl,l4,p4⟩;have hs4:=l4.size;have hR4:=HR3.out.trans l4;have z0:=(HF1.out.lk hR4 (by omega)).k0;have z5:=(HE1.out.lk hR4 (by omega)).k5;obtain⟨b1,off,a',cs,hA1,hgb,ha',hrd,hat⟩:=(HS1.out.lk hR4 hB1).at_ (k:=m) (by omega);obtain rfl:a=a':=by rw[HAL.out,Ef (by omega),hm,Nat.sub_self]at ha';simpa using ha'
  subst hA1;have hbd:Below w4.heap.size w4 w4.drew:=(Db _ _).drew;have HC5:=H_ (HI.out a HM.out.2 ha 7 cs w4.drew _ (ExK.lk hrd (Lk.al hbd) (by omega)) (oF hrd) (p4.below hbd) ((HG1.out.lk hR4 hlt).new hbd) (by simp only[D7,Da,Dc];show s.length+(4+_)+(_+(0+1)+1)+4+_<=TB;omega));obtain⟨yk,yo,yz,yn,ya,args2⟩:=a;obtain⟨A2,n2,c2,rfl,hsa⟩:=ExK.inv hrd;obtain⟨d0,d1,d2,d3,d4,d5⟩:=At.e6 (k:=m) hat
  have hm0:(m:Int)<((m:Int)+1):=by omega
  have HL4:=H_ (HL3.out.trans (l4.trans (Lk.al hbd)));clear hgb ha' hrd hat hsa l4 p4 hR4 hbd HC4;go_wp2_with fail;go_still_tail 7,(by kernel_rfl);change wpList _ _ _ _ _ w4.drew;go_wp2_with fail;refine HC5.out.mono ?_;rintro e w5 ⟨rfl,l5,p5⟩;have HL5:=H_ (HL4.out.trans l5);have HP5:=H_ p5;clear l5 p5 HC5;go_wp2_with fail;go_end0;exact⟨rfl,HL5.out,by rw[HTT.out];simpa[kX,sAt]using HP5.out⟩
 case inr.inr.inr.inr.inr.inr.inr.inl=>
  simp only[eUn,Ex.mk.injEq]at e;obtain⟨rfl,rfl,rfl,rfl,rfl,rfl⟩:=e;rcases hk with rfl|rfl|rfl|rfl
  ·have hTT:T=[119,101,97,107,32]++tIn 7 a:=HT.out.symm.trans (sj a);rw[hTT]at hlen;have HTT:=H_ hTT;clear hTT;simp only[D7]at hlen;have HC:=H_ (lZ (HI.out a (by simp[esz,ci]) ha) ⟨#[119,101,97,107,32]⟩ 7 [] A n c g1 (g1+1) _ _ _ _ _ W1 s HF1.out HE1.out HS1.out (by omega) (by omega) HP1.out HG1.out hlen);go_wp2_with fail;refine HC.out.mono ?_;rintro e w2 ⟨rfl,l2,p2⟩;have HL2:=H_ (HL1.out.trans l2);have HP2:=H_ p2;clear l2 p2 HC;go_wp2_with fail;go_end0;exact⟨rfl,HL2.out,by rw[HTT.out];exact HP2.out⟩
  ·have hTT:T=[103,101,116,32]++tIn 7 a:=HT.out.symm.trans (vi a);rw[hTT]at hlen;have HTT:=H_ hTT;clear hTT;simp only[D7]at hlen;have HC:=H_ (lZ (HI.out a (by simp[esz,ci]) ha) ⟨#[103,101,116,32]⟩ 7 [] A n c g1 (g1+1) _ _ _ _ _ W1 s HF1.out HE1.out HS1.out (by omega) (by omega) HP1.out HG1.out hlen);go_wp2_with fail;refine HC.out.mono ?_;rintro e w2 ⟨rfl,l2,p2⟩;have HL2:=H_ (HL1.out.trans l2);have HP2:=H_ p2;clear l2 p2 HC;go_wp2_with fail;go_end0;exact⟨rfl,HL2.out,by rw[HTT.out];exact HP2.out⟩
  ·have hTT:T=[45]++tIn 7 a:=HT.out.symm.trans (vg a);rw[hTT]at hlen;have HTT:=H_ hTT;clear hTT;simp only[D7]at hlen;have HC:=H_ (lZ (HI.out a (by simp[esz,ci]) ha) ⟨#[45]⟩ 7 [] A n c g1 (g1+1) _ _ _ _ _ W1 s HF1.out HE1.out HS1.out (by omega) (by omega) HP1.out HG1.out hlen);go_wp2_with fail;refine HC.out.mono ?_;rintro e w2 ⟨rfl,l2,p2⟩;have HL2:=H_ (HL1.out.trans l2);have HP2:=H_ p2;clear l2 p2 HC;go_wp2_with fail;go_end0;exact⟨rfl,HL2.out,by rw[HTT.out];exact HP2.out⟩
  ·have hTT:T=[110,111,116,32]++tIn 3 a:=HT.out.symm.trans (uZ a);rw[hTT]at hlen;have HTT:=H_ hTT;clear hTT;simp only[D7]at hlen;have HC:=H_ (lZ (HI.out a (by simp[esz,ci]) ha) ⟨#[110,111,116,32]⟩ 3 [] A n c g1 (g1+1) _ _ _ _ _ W1 s HF1.out HE1.out HS1.out (by omega) (by omega) HP1.out HG1.out hlen);go_wp2_with fail;refine HC.out.mono ?_;rintro e w2 ⟨rfl,l2,p2⟩;have HL2:=H_ (HL1.out.trans l2);have HP2:=H_ p2;clear l2 p2 HC;go_wp2_with fail;go_end0;exact⟨rfl,HL2.out,by rw[HTT.out];exact HP2.out⟩
 case inr.inr.inr.inr.inr.inr.inr.inr=>
  simp only[cv,Ex.mk.injEq]at e;obtain⟨rfl,rfl,rfl,rfl,rfl,rfl⟩:=e;have HC:=H_ (Bk (HI.out a (by simp[esz,ci];omega) ha) (HI.out b (by simp[esz,ci];omega) hb) o ho _ W1 s HR1.out HP1.out HG1.out (by show s.length+(tE (.mk 10 (o:Int) 0 ⟨#[]⟩ false [a,b])).length<=TB;rw[HT.out];exact hlen));rw[show tE (cv o a b)=T from HT.out]at HC;go_wp2_with fail;refine HC.out.mono ?_;rintro e w2 ⟨rfl,l2,p2⟩;have HL2:=H_ (HL1.out.trans l2);have HP2:=H_ p2;clear l2 p2 HC;go_wp2_with fail;go_end0;exact⟨rfl,HL2.out,HP2.out⟩
theorem nx(B p d N:Nat):∀(m:Nat) (e:Ex),esz e<=m->vE e=true->Bt B p d N e
 |0,e,hm,_=>by have:=bS e;omega
 |m+1,e,hm,hv=>BS hv λa ha hva=>t7 hva (nx B p d N m a (by omega) hva)
theorem jO{p:Nat}(hv:vE e=true):rW B p d N e:=t7 hv (nx B p d N _ e (D8 _) hv)
theorem iP:∀d:Nat,Lib.repeatL [32,32] d=bg d
 |0=>rfl
 |d+1=>by
  have ih:=iP d;unfold bg at*
  rw[show 2*(d+1)=(2*d+1)+1 by omega,List.replicate_succ,List.replicate_succ,<-ih];rfl
theorem eB(d:Nat):(bg d).length=2*d:=by simp[bg]
theorem bC(d:Nat)(t:List UInt8):(tLn d t).length=2*d+t.length+1:=by simp[tLn,bg];omega
theorem PW.deep{p:Nat}{s:List UInt8}(h:PW w B p d s):w.cell? ⟨p,2,none⟩=some (.int .i64 (d:Int))/\w.frozen? ⟨p,2,none⟩=false:=by
 obtain⟨sa,sv,h1,h2,h3⟩:=h.ex;exact⟨h1.k2,h1.frozen 2⟩
theorem PW.set{p:Nat}(d':Nat){s:List UInt8}(h:PW w B p d s)(e:w.setCell ⟨p,2,none⟩ (.int .i64 (d':Int))=w'):PW w' B p d' s/\Lk B p w w':=by
 obtain⟨sa,sv,h1,h2,h3⟩:=h.ex;have hlt:=h.lt;refine⟨⟨⟨sa,sv,h1.s2 e,h2,ed h3 λk hk _ _=>e▸Dn _ _ _ _ (show k≠p by omega)⟩,h.lt,?_⟩,e▸(Lk.refl _ _ _).set 2 _⟩;rw[<-e];simpa[World.setCell]using h.le
theorem lu{p:Nat}{s:List UInt8}(t:List UInt8)(nf:Nat)(caps:Array Value)(hen:∀(ar:Array Value) (w:World),(callFunc nf ar).run Tryz.prog w= .ok (.enter nf ar) w)(h:PW w B p d s)(hd:d<=1000000)
 (hF:∀w1,Lk B p w w1->PW w1 B p d (s++bg d)->Calls Tryz.prog nf caps w1 (Pr B p d (s++bg d) t w1)) (hlen:s.length+(tLn d t).length<=TB):
 Calls Tryz.prog 164 #[.pointer (some ⟨p,0,none⟩),.func (.func nf) #[] caps] w (Pr B p d s (tLn d t) w):=by
 rw[bC]at hlen;have HP:=H_ h;have HF:=H_ hF;obtain⟨e0,_⟩:=h.deep;have HR:=H_ (Tryz.strings_Repeat ⟨#[32,32]⟩ d w (by omega) (by show 2*d<=_;omega));have hrl:(⟨(Lib.repeatL (⟨#[32,32]⟩:ByteArray).data.toList d).toArray⟩:ByteArray)=ba (bg d):=by rw[<-iP];rfl
 rw[hrl]at HR;have hil:(ba (bg d)).size=2*d:=by show(bg d).length=_;exact eB d
 have hid':(ba (bg d)).data.toList=bg d:=rfl;generalize ba (bg d)=I at*
 clear h hF hrl;go_enter Tryz.func164,Tryz.ntmps164;go_wp2_with fail;refine HR.out.mono ?_;rintro e w1 ⟨rfl,b1⟩;have HC:=H_ (wr1 (HP.out.below b1) I (by omega));have HL1:=H_ (show Lk B p w w1 from Lk.al b1);clear b1 HR;go_wp2_with fail;refine HC.out.mono ?_;rintro e w2 ⟨rfl,l2,p2⟩;rw[hid']at p2;have hL2:=HL1.out.trans l2;have HCF:=H_ (HF.out w2 hL2 p2);have HL2:=H_ hL2;clear l2 p2 HC hL2;go_wp2_with fail;refine HCF.out.mono ?_;rintro e w3 ⟨rfl,l3,p3⟩;have HC3:=H_ (wr1 p3 ⟨#[10]⟩ (by simp only[D7];rw[eB];show s.length+2*d+t.length+1<=TB;omega));have HL3:=H_ (HL2.out.trans l3);clear l3 p3 HCF;go_wp2_with fail;refine HC3.out.mono ?_;rintro e w4 ⟨rfl,l4,p4⟩;have HL4:=H_ (HL3.out.trans l4);have HP4:=H_ p4;clear l4 p4 HC3;go_wp2_with fail;go_end0;exact⟨rfl,HL4.out,by unfold tLn;simpa using HP4.out⟩
theorem qt{p:Nat}{s:List UInt8}(t:List UInt8)(nf:Nat)(caps:Array Value)(hen:∀(ar:Array Value) (w:World),(callFunc nf ar).run Tryz.prog w= .ok (.enter nf ar) w)(h:PW w B p d s)(hd:d<=1000000)
 (hF:∀w1,Lk B p w w1->PW w1 B p (d+1) s->Calls Tryz.prog nf caps w1 (Pr B p (d+1) s t w1)):
 Calls Tryz.prog 113 #[.pointer (some ⟨p,0,none⟩),.func (.func nf) #[] caps] w (Pr B p d s t w):=by
 obtain⟨e0,f0⟩:=h.deep;obtain⟨w1,hw1⟩:=nm_ (w.setCell ⟨p,2,none⟩ (.int .i64 ((d:Int)+1)));obtain⟨p1,l1⟩:=h.set (d+1) (show w.setCell ⟨p,2,none⟩ (.int .i64 ((d+1:Nat):Int))=w1 from hw1);have HCF:=H_ (hF w1 l1 p1);have HL1:=H_ l1;have HW:=H_ hw1;clear h hF p1 l1 hw1;go_enter Tryz.func113,Tryz.ntmps113;go_upto_region 1 with fail;rw[HW.out];go_wp2_with fail;refine HCF.out.mono ?_;rintro e w2 ⟨rfl,l2,p2⟩;obtain⟨e2,f2⟩:=p2.deep;have e2':w2.cell? ⟨p,2,none⟩=some (.int .i64 ((d:Int)+1)):=e2;have hd1:((d:Int)+1)-1=(d:Int):=by omega
 have HL2:=H_ (HL1.out.trans l2);have HP2:=H_ p2;clear l2 p2 HCF e2 e0 f0;go_wp2_with fail;go_end0;obtain⟨p3,l3⟩:=HP2.out.set (w':=w2.setCell ⟨p,2,none⟩ (.int .i64 (d:Int))) d rfl;exact⟨rfl,HL2.out.trans l3,p3⟩
theorem nQ{p:Nat}{s:List UInt8}(ss:List ByteArray)(g c:Nat)(h:PW w B p d s)(hb:Blk w g 9 (ss.map Value.string).toArray)(hgp:g≠p)(hn0:ss.length<=1000000)(hd:d<=1000000)(hlen:s.length+(tLn d (dW ss)).length<=TB):
 Calls Tryz.prog 112 #[.pointer (some ⟨p,0,none⟩),.slice (some ⟨g,0,none⟩) ss.length c] w (Pr B p d s (tLn d (dW ss)) w):=by
 obtain⟨n,hn⟩:=nm_ (ss.length);obtain⟨g1,hz⟩:∃g,w.heap.size=g:=⟨_,rfl⟩;obtain⟨W0,hW0⟩:=nm_ (w.alloc (.cells #[.pointer (some ⟨p,0,none⟩)] 126));obtain⟨W1,hW1⟩:=nm_ (W0.alloc (.cells #[.slice (some ⟨g,0,none⟩) n c] 67));have hlt:=h.lt;have hle:=h.le;have HF0:=hng hW0 hz;have hs0:W0.heap.size=g1+1:=by rw[<-hW0,Dk,hz]
 have HE1:=hng hW1 hs0;have HF1:=H_ (HF0.out.al hW1);have l1:Lk B p w W1:=(Lk.al (bal hW0)).trans (Lk.al (bal hW1));have hb1:=(hb.al hW0).al hW1;have hp1:=(h.below (bal hW0)).below (bal hW1);have hlen':=hlen;rw[bC]at hlen'
 have HCL:Hid (Calls Tryz.prog 164 #[.pointer (some ⟨p,0,none⟩),.func (.func 165) #[] #[.pointer (some ⟨g1,0,none⟩),.pointer (some ⟨g1+1,0,none⟩)]] W1 (Pr B p d s (tLn d (dW ss)) W1)):=H_ (lu (dW ss) 165 _ (λ_ _=>by kernel_rfl) hp1 hd (λw2 l2 p2=>by
  have HC:=H_ (rY ss g c p2 (hb1.lk l2 hgp) hgp (by rw[D7,eB];omega) hn0);rw[hn]at HC;have f0:=(HF1.out.lk l2 (by omega)).k0;have f1:=(HE1.out.lk l2 (by omega)).k0;clear l2 p2 hp1 hb1 hb h l1;go_enter Tryz.func165,Tryz.ntmps165;go_wp2_with fail;refine HC.out.mono ?_;rintro e w3 ⟨rfl,l3,p3⟩;have HL3:=H_ l3;have HP3:=H_ p3;clear l3 p3 HC;go_wp2_with fail;go_end0;exact⟨rfl,HL3.out,HP3.out⟩) hlen)
 rw[hn];have HL1:=H_ l1;have HW:=H_ (And.intro hW0 hW1);have f0:=HF1.out.k0;clear h hb hW0 hW1 l1 hb1 hp1 HF0;go_enter Tryz.func112,Tryz.ntmps112;go_upto_region 1 with fail;rw[HW.out.1,HW.out.2];go_wp2_with fail;refine HCL.out.mono ?_;rintro e w3 ⟨rfl,l3,p3⟩;have HL3:=H_ (HL1.out.trans l3);have HP3:=H_ p3;clear l3 p3 HCL;go_wp2_with fail;go_end0;exact⟨rfl,HL3.out,HP3.out⟩
end
end Go.Proofs.YtjpbckbpeblibaaGreatDoor
