/- part of a proof -/
import Derived.Test.YtjpbckbpeblibaaGreatDoorK14
import Derived.StillTailTactics
namespace Go.Proofs.YtjpbckbpeblibaaGreatDoor
set_option linter.unusedVariables false
set_option linter.unusedSimpArgs false
set_option maxRecDepth 100000
set_option maxHeartbeats 64000000
section
open Go.RowKit
variable{A:Option Addr}{B N d o:Nat}{G:Nat->Prop}{T:Type}{W0 w w':World}{a e x:Ex}{cs:List Value}{l:List Pc}{xs:List Ex}
def tE(e:Ex):List UInt8:=ah (plE e)
def tIn(r:Nat)(e:Ex):List UInt8:=ah (exP r e)
def bD:List Ex->List UInt8
 |[]=>[]
 |a::l=>tE a++l.flatMap λb=>44::32::tE b
theorem im(p:Pc)(l:List Pc):ah (p::l)=p.pre++(p.t.2.1.data.toList++p.post)++ah l:=rfl
theorem bC(h:l≠[]):ah (sp l)=32::ah l:=by
 cases l with
 |nil=>exact absurd rfl h
 |cons p l=>rfl
theorem bY(r:Nat)(e:Ex):ah (sp (exP r e))=32::tIn r e:=bC (fa (cM e))
theorem aV(s:ByteArray)(l:List Pc):ah (py s::l)=s.data.toList++ah l:=by rw[im];simp[py]
theorem cd(s:ByteArray)(l:List Pc):ah (pk s::l)=s.data.toList++ah l:=by rw[im];simp[pk]
theorem eL(s:ByteArray)(l:List Pc):ah (pn s::l)=s.data.toList++ah l:=by rw[im];simp[pn]
theorem pZ(s:ByteArray)(l:List Pc):ah (pc s::l)=s.data.toList++ah l:=by rw[im];simp[pc]
theorem bj:ah []=[]:=rfl
theorem mK(r:Nat)(e:Ex):tIn r e=if lvl e<r then 40::(tE e++[41])else tE e:=by
 unfold tIn exP inP tE;split
 ·rw[aV,ag];rfl
 ·rfl
theorem ap(e:Ex):tIn 1 e=tE e:=by rw[mK,Fg (by have:=un e;omega)]
theorem nV:∀l:List Ex,ah (dR (plL l))=(l.flatMap λb=>44::32::tE b)++[41]
 |[]=>rfl
 |a::l=>by
  rw[plL,dR,aV,ag,bC (cM a),nV l];simp[tE,iU]
theorem il(l:List Ex):ah (ax (plL l))=40::(bD l++[41]):=by
 cases l with
 |nil=>rfl
 |cons a l=>
  rw[plL,ax,aV,ag,nV];simp[tE,bD,cO]
def iw:List UInt8:=[110,101,119,32]
def sAt:List UInt8:=[32,97,116,32]
section
variable(s:ByteArray)(z:Int)(a b:Ex)(l:List Ex)
theorem sg:tE (gk z)=Lib.itoa z:=by show ah [pz z]=_;simp[ah,pz]
theorem sc:tE (eQ 1 ⟨#[]⟩)=[110,105,108]:=rfl
theorem pi:tE (eQ 2 ⟨#[]⟩)=[116,104,105,115]:=rfl
theorem pj:tE (eQ 3 s)=s.data.toList:=by show ah [pn s]=_;rw[eL];simp[bj]
theorem mM:tE (aU s a)=tIn 8 a++46::s.data.toList:=by
 show ah (exP 8 a++[py DOT,pn s])=_;rw[ag,aV,eL];simp[tIn,bj,DOT]
theorem se:tE (.mk 5 0 0 s false l)=iw++s.data.toList++40::(bD l++[41]):=by
 show ah (pk dM::(sp [pc s]++ax (plL l)))=_;rw[cd,ag,bC (by simp),pZ,il];simp[bj,iw,dM]
theorem mL:tE (.mk 5 0 0 s true (l++[a]))=iw++s.data.toList++40::(bD l++41::(sAt++tIn 7 a)):=by
 have hP:plE (.mk 5 0 0 s true (l++[a]))=pk dM::(sp [pc s]++(ax (plL l)++(sp [pk kAt]++sp (exP 7 a)))):=by
  rw[plE,pA];show pk dM::(sp [pc s]++(ax (plL l++[(lvl a,plE a)]).dropLast++(sp [pk kAt]++sp (inP 7 ((plL l++[(lvl a,plE a)]).getLastD dX)))))=_;rw[List.dropLast_concat];simp[exP]
 unfold tE;rw[hP,cd,ag,bC (by simp),pZ,ag,il,ag,bC (by simp),cd,bY _ a];simp[bj,iw,dM,sAt,kAt,tIn]
theorem ph:tE (eUn 6 a)=[119,101,97,107,32]++tIn 7 a:=by
 show ah (pk cn::sp (exP 7 a))=_;rw[cd,bY _ a];simp[cn,tIn]
theorem sh:tE (eUn 7 a)=[103,101,116,32]++tIn 7 a:=by
 show ah (pk ep::sp (exP 7 a))=_;rw[cd,bY _ a];simp[ep,tIn]
theorem sf:tE (eUn 8 a)=45::tIn 7 a:=by
 show ah (py bR::exP 7 a)=_;rw[aV];simp[bR,tIn]
theorem s9:tE (eUn 9 a)=[110,111,116,32]++tIn 3 a:=by
 show ah (pk dV::sp (exP 3 a))=_;rw[cd,bY _ a];simp[dV,tIn]
theorem zA(o:Int)(r:List Pc):ah (opP o::r)=(bc o.toNat).data.toList++ah r:=by
 unfold opP;split
 ·exact cd _ _
 ·exact aV _ _
theorem pl(o:Nat):tE (cA o a b)=tIn (if av (o:Int)=4 then 5 else av o) a++32::((bc o).data.toList++32::tIn (av (o:Int)+1) b):=by
 show ah (exP (if av (o:Int)=4 then 5 else av o) a++(sp [opP o]++sp (exP (av (o:Int)+1) b)))=_;rw[ag,ag,bC (by simp),bY _ b,zA];simp[bj,tIn]
end
def tS(s:St)(d:Nat):List UInt8:=ah (plS s d)
def tSs(l:List St)(d:Nat):List UInt8:=ah (cj l d)
theorem iX(d:Nat):tSs [] d=[]:=rfl
theorem iD(s:St)(l:List St)(d:Nat):tSs (s::l) d=tS s d++tSs l d:=by unfold tSs tS;rw[cj,ag]
theorem jV(d:Nat):∀l:List St,tSs l d=l.flatMap λs=>tS s d
 |[]=>rfl
 |s::l=>by rw[iD,jV d l];rfl
def tLn(d:Nat)(b:List UInt8):List UInt8:=bA d++b++[10]
theorem bX(d:Nat)(h:l≠[]):ah (ln d l)=tLn d (ah l):=by
 unfold ln tLn;rw[oP (by cases l with|nil=>exact absurd rfl h|cons p l=>cases l<;>simp[fl]),jP h,Fe]
def ct:List UInt8:=[108,101,116,32]
def sEq:List UInt8:=[32,61,32]
def sIf:List UInt8:=[105,102,32]
def sBr:List UInt8:=[32,123]
def gu:List UInt8:=[125,32,101,108,115,101,32,123]
def jF:List UInt8:=[119,104,105,108,101,32]
def aZ:List UInt8:=[115,101,110,100,32]
def az:List UInt8:=[112,114,105,110,116,32]
def bp:List UInt8:=[109,111,118,101,32]
def sTo:List UInt8:=[32,116,111,32]
def ay:List UInt8:=[119,97,116,99,104,32]
def sBy:List UInt8:=[32,98,121,32]
def am:List UInt8:=[114,101,116,117,114,110]
section
variable(nm:ByteArray)(x y:Ex)(l:List Ex)(b e:List St)(d:Nat)
theorem rY:tS (stE 0 nm [x]) d=tLn d (ct++nm.data.toList++sEq++tE x++[59]):=by
 show ah (ln d (pk ix::(sp [pn nm]++(sp [py bS]++(sp (exP 1 x)++[py aQ])))))=_;rw[bX d (by simp),cd,ag,ag,ag,bC (by simp),bC (by simp),bY _ x,eL,aV,aV,<-ap x];simp[bj,tIn,ix,ct,sEq,bS,aQ]
theorem kU:tS (stE 1 nm [x]) d=tLn d (nm.data.toList++sEq++tE x++[59]):=by
 show ah (ln d (pn nm::(sp [py bS]++(sp (exP 1 x)++[py aQ]))))=_;rw[bX d (by simp),eL,ag,ag,bC (by simp),bY _ x,aV,aV,<-ap x];simp[bj,tIn,sEq,bS,aQ]
theorem mG:tS (stE 2 nm [x,y]) d=tLn d (tIn 9 x++[46]++nm.data.toList++sEq++tE y++[59]):=by
 show ah (ln d (exP 9 x++(py DOT::pn nm::(sp [py bS]++(sp (exP 1 y)++[py aQ])))))=_;rw[bX d (by simp),ag,aV,eL,ag,ag,bC (by simp),bY _ y,aV,aV,<-ap y];simp[bj,tIn,sEq,bS,aQ,DOT]
theorem wZ:tS (.mk 3 ⟨#[]⟩ [x] b e) d=tLn d (sIf++tE x++sBr)++(tSs b (d+1)++((if e.isEmpty=true then[]else tLn d gu++tSs e (d+1))++tLn d [125])):=by
 have hP:plS (.mk 3 ⟨#[]⟩ [x] b e) d=ln d (pk kIf::(sp (exP 1 x)++sp [py cF]))++(cj b (d+1)++((if e.isEmpty=true then[]else ln d (py cv::(sp [pk eP]++sp [py cF]))++cj e (d+1))++ln d [py cv])):=by rw[plS];rfl
 unfold tS;rw[hP,ag,bX d (by simp),cd,ag,bY _ x,bC (by simp),aV,ag,ag,bX d (by simp),aV,<-ap x]
 have h2:ah (if e.isEmpty=true then[]else ln d (py cv::(sp [pk eP]++sp [py cF]))++cj e (d+1))=if e.isEmpty=true then[]else tLn d gu++tSs e (d+1):=by
  split
  ·rfl
  ·rw[ag,bX d (by simp),aV,ag,bC (by simp),bC (by simp),cd,aV];simp[bj,tSs,gu,cv,eP,cF]
 rw[h2];simp[bj,tIn,tSs,sIf,kIf,sBr,cF,cv]
theorem mE:tS (.mk 4 ⟨#[]⟩ [x] b []) d=tLn d (jF++tE x++sBr)++(tSs b (d+1)++tLn d [125]):=by
 have hP:plS (.mk 4 ⟨#[]⟩ [x] b []) d=ln d (pk dU::(sp (exP 1 x)++sp [py cF]))++(cj b (d+1)++ln d [py cv]):=by rw[plS];rfl
 unfold tS;rw[hP,ag,bX d (by simp),cd,ag,bY _ x,bC (by simp),aV,ag,bX d (by simp),aV,<-ap x];simp[bj,tIn,tSs,jF,dU,sBr,cF,cv]
theorem pb:tS (stE 5 nm (x::l)) d=tLn d (aZ++tIn 8 x++[46]++nm.data.toList++40::(bD l++[41])++[59]):=by
 show ah (ln d (pk fG::(sp (exP 8 x)++(py DOT::pn nm::(ax (plL l)++[py aQ])))))=_;rw[bX d (by simp),cd,ag,bY _ x,aV,eL,ag,il,aV];simp[bj,tIn,aZ,fG,DOT,aQ]
theorem mH:tS (stE 6 ⟨#[]⟩ [x]) d=tLn d (az++tE x++[59]):=by
 show ah (ln d (pk en::(sp (exP 1 x)++[py aQ])))=_;rw[bX d (by simp),cd,ag,bY _ x,aV,<-ap x];simp[bj,tIn,az,en,aQ]
theorem pe:tS (stE 7 ⟨#[]⟩ [x,y]) d=tLn d (bp++tE x++sTo++tE y++[59]):=by
 show ah (ln d (pk gw::(sp (exP 1 x)++(sp [pk kTo]++(sp (exP 1 y)++[py aQ])))))=_;rw[bX d (by simp),cd,ag,bY _ x,ag,bC (by simp),cd,ag,bY _ y,aV,<-ap x,<-ap y];simp[bj,tIn,bp,gw,sTo,kTo,aQ]
theorem mF:tS (stE 8 nm [x,y]) d=tLn d (ay++tE x++sBy++nm.data.toList++40::(tE y++[41])++[59]):=by
 show ah (ln d (pk eY::(sp (exP 1 x)++(sp [pk kBy]++(sp [pn nm]++(ax (plL [y])++[py aQ]))))))=_;rw[bX d (by simp),cd,ag,bY _ x,ag,bC (by simp),cd,ag,bC (by simp),eL,ag,il,aV,<-ap x];simp[bj,tIn,ay,eY,sBy,kBy,aQ,bD]
theorem kT:tS (stE 9 ⟨#[]⟩ []) d=tLn d (am++[59]):=by
 show ah (ln d [pk ei,py aQ])=_;rw[bX d (by simp),cd,aV];simp[bj,am,ei,aQ]
end
def aY:List ByteArray->List UInt8
 |[]=>[]
 |a::l=>a.data.toList++l.flatMap λb=>44::32::b.data.toList
theorem lQ:∀l:List ByteArray,ah (dR (l.map nmX))=(l.flatMap λb=>44::32::b.data.toList)++[41]
 |[]=>rfl
 |a::l=>by
  rw[Ga,dR,aV,ag,bC (by simp[nmX]),lQ l];show _++(32::ah [pn a]++_)=_;rw[eL];simp[bj,iU]
theorem rI(l:List ByteArray):ah (ax (l.map nmX))=40::(aY l++[41]):=by
 cases l with
 |nil=>rfl
 |cons a l=>
  rw[Ga,ax,aV,ag,lQ];show _++(ah [pn a]++_)=_;rw[eL];simp[bj,aY,cO]
def kc:List UInt8:=[118,97,114,32]
def sOn:List UInt8:=[111,110,32]
def jG:List UInt8:=[97,99,116,111,114,32]
def ia:List UInt8:=[114,101,99,111,114,100,32]
def tFd(f:ByteArray):List UInt8:=tLn 1 (kc++f.data.toList++[59])
def tMe(m:Me):List UInt8:=tLn 1 (sOn++m.nm.data.toList++[40]++aY m.params++[41,32,123])++tSs m.body 2++tLn 1 [125]
def tCl(c:Cl):List UInt8:=tLn 0 ((if c.actor=true then jG else ia)++c.nm.data.toList++sBr)++c.fields.flatMap tFd++c.methods.flatMap tMe++tLn 0 [125]
theorem oR:∀l:List ByteArray,ah (gU l)=l.flatMap tFd
 |[]=>rfl
 |f::l=>by
  rw[gU,ag,oR l,fdP,bX 1 (by simp),cd,ag,bC (by simp),eL,aV];simp[bj,tFd,kc,rb,aQ]
theorem zB(m:Me):ah (meP m)=tMe m:=by
 rw[meP,ag,bX 1 (by simp),cd,ag,bC (by simp),eL,ag,rI,bC (by simp),aV,ag,bX 1 (by simp),aV];simp[bj,tMe,sOn,kOn,cF,cv,tSs]
theorem oQ:∀l:List Me,ah (gF l)=l.flatMap tMe
 |[]=>rfl
 |m::l=>by rw[gF,ag,oQ l,zB];rfl
theorem zC(c:Cl):ah (clP c)=tCl c:=by
 rw[clP,ag,bX 0 (by simp),cd,ag,bC (by simp),pZ,bC (by simp),aV,ag,oR,ag,oQ,bX 0 (by simp),aV];unfold tCl;cases c.actor<;>simp[bj,sBr,eZ,eJ,jG,ia,cF,cv]
def tPr(l:List Cl):List UInt8:=l.flatMap tCl
theorem rH:∀l:List Cl,ah (prP l)=tPr l
 |[]=>rfl
 |c::l=>by rw[prP,ag,rH l,zC];rfl
def Pr(B p d:Nat)(s t:List UInt8)(w:World)(e:Ending)(w':World):Prop:=e= .returned (.tuple #[])/\Lk B p w w'/\PW w' B p d (s++t)
def TB:Nat:=1000000000
def GB(B p N b:Nat):Prop:=b<B/\b≠p/\b<N
theorem Lk.gb{p b:Nat}(h:Lk B p w w')(hB:B<=w.heap.size)(hb:GB B p N b):w'.heap[b]?=w.heap[b]?:=h.block b (by have:=hb.1;omega) hb.2.1 λh'=>absurd h' (by have:=hb.1;omega)
def eB(ss:List ByteArray):List UInt8:=ss.flatMap λx=>x.data.toList
theorem rF:∀(ss:List ByteArray) (k:Nat),(eB (ss.take k)).length<=(eB ss).length
 |[],k=>by simp[eB]
 |a::l,0=>by simp[eB]
 |a::l,k+1=>by
  have:=rF l k;simp only[eB,List.take_succ_cons,FS,EY]at*
  omega
theorem wi{ss:List ByteArray}{k:Nat}{x:ByteArray}(h:ss[k]?=some x):eB (ss.take (k+1))=eB (ss.take k)++x.data.toList:=by
 rw[Gh,h];simp[eB]
theorem tQ{p:Nat}{s:List UInt8}(ss:List ByteArray)(g c:Nat)(h:PW w B p d s)(hb:Blk w g 9 (ss.map Value.string).toArray)(hgp:g≠p)(hlen:s.length+(eB ss).length<=TB)(hn0:ss.length<=1000000):
 Calls Tryz.prog 166 #[.pointer (some ⟨p,0,none⟩),.slice (some ⟨g,0,none⟩) ss.length c] w (Pr B p d s (eB ss) w):=by
 have HP:=H_ h;have HB:=H_ hb;obtain⟨n,hn⟩:=nm_ (ss.length);rw[hn];rw[hn]at hn0;clear h hb;go_enter Tryz.func166,Tryz.ntmps166;go_wp2_with fail;go_loopw [8] (λi wr=>∃k:Nat,k<=n/\i= .int .i64 k/\Hid (Lk B p w wr)/\Hid (PW wr B p d (s++eB (ss.take k)))) (λi _=>n-(intOf i).toNat)
 case atStart=>exact⟨0,Fl _,rfl,H_ (Lk.refl _ _ _),H_ (by simpa[eB]using HP.out)⟩
 case round=>
  obtain⟨k,hk,rfl,HL,HP2⟩:=hrel;by_cases hkm:k<n
  ·have hkz:(k:Int)<(n:Int):=by omega
   have hx:ss[k]?=some ss[k]:=Fh (by omega);have hcell:=(HB.out.lk HL.out hgp).cell k;rw[show(ss.map Value.string).toArray[k]?=some (.string ss[k]) by simp[hx]]at hcell;have hle:=rF ss (k+1);have htk:=wi hx;rw[htk,EY]at hle;have HC:=H_ (HP2.out.write ss[k] (by rw[EY];have h1:ss[k].data.toList.length=ss[k].size:=rfl;unfold TB at hlen;omega));have HTK:=H_ htk;generalize ss[k]=x at*
   clear hx hle htk HP2;go_wp2_with fail;refine HC.out.mono ?_;rintro e w1 ⟨rfl,l1,p1⟩;rw[Fe,<-HTK.out]at p1;have HL1:=H_ (HL.out.trans l1);have HP1:=H_ p1;clear l1 p1 HC HL;go_wp2_with fail;go_roundw
   case rel=>exact⟨k+1,by omega,by go_num,HL1,HP1⟩
   case measure=>simp[intOf];omega
  ·obtain rfl:k=n:=by omega
   rw[Fd (by omega)]at HP2;go_wp2_with fail;go_end0;exact⟨rfl,HL.out,HP2.out⟩
structure GlF(w:World):Prop where
 op:∀o:Nat,o<=12->w.cell? ⟨10,o*2,none⟩=some (.string (bc o))/\w.cell? ⟨10,o*2+1,none⟩=some (.int .i64 (av (o:Int):Nat))
 fm:∀k:Nat,k<=9->∃(a b:Int) (x y z:Bool),[(1,1,true,false,false),(1,1,true,false,false),(2,2,true,false,false),(1,1,false,true,true),(1,1,false,true,false),(1,4611686018427387904,true,false,false),(1,1,false,false,false),(2,2,false,false,false),(2,2,true,false,false),((0:Int),(0:Int),false,false,false)][k]?=some (a,b,x,y,z)/\
  w.cell? ⟨1,k*5,none⟩=some (.int .i64 a)/\w.cell? ⟨1,k*5+1,none⟩=some (.int .i64 b)/\w.cell? ⟨1,k*5+2,none⟩=some (.bool x)/\w.cell? ⟨1,k*5+3,none⟩=some (.bool y)/\w.cell? ⟨1,k*5+4,none⟩=some (.bool z)
theorem GlF.aA(h:GlF w)(hk:∀k,k<12->w'.heap[k]?=w.heap[k]?):GlF w':=by
 have h10:∀i,w'.cell? ⟨10,i,none⟩=w.cell? ⟨10,i,none⟩:=λi=>Gw (hk 10 (by decide));have h1:∀i,w'.cell? ⟨1,i,none⟩=w.cell? ⟨1,i,none⟩:=λi=>Gw (hk 1 (by decide));refine⟨λo ho=>?_,λk hk'=>?_⟩
 ·rw[h10,h10];exact h.op o ho
 ·obtain⟨a,b,x,y,z,e,c⟩:=h.fm k hk';refine⟨a,b,x,y,z,e,?_⟩;rw[h1,h1,h1,h1,h1];exact c
theorem GlF.below(h:GlF w)(hb:Below B w w')(hB:12<=B):GlF w':=h.aA λk hk=>hb.block k (by omega)
def Cap(w:World)(N:Nat):Prop:=True
theorem Cap.aA(h:Cap w N)(hk:∀b,b<N->w'.heap[b]?=w.heap[b]?):Cap w' N:=trivial
structure GP(w:World)(p N:Nat):Prop where
 g:GlB w p
 f:GlF w
 le:N<=p
 cap:Cap w N
theorem GP.below{p:Nat}(h:GP w p N)(hb:Below p w w'):GP w' p N:=⟨GlB.below h.g hb,h.f.below hb h.g.big,h.le,h.cap.aA λb hbN=>hb.block b (by have:=h.le;omega)⟩
theorem GP.lk{p:Nat}(h:GP w p N)(l:Lk B p w w')(hp:p<B):GP w' p N:=h.below (l.below (by omega) (F0 _) h.g.le)
theorem GP.new{p:Nat}(h:GP w p N)(hb:Below w.heap.size w w'):GP w' p N:=h.below (hb.mono h.g.le)
theorem yD(e:Ex)(cs:List Value)(w:World)(G:Nat->Prop)(hv:vE e=true)(hr:ExK w G e cs)(hf:GlF w)(hw:12<=w.heap.size):
 Calls Tryz.prog 263 #[.agg cs.toArray] w λr w'=>r= .returned (.int .i64 (lvl e:Nat))/\Below w.heap.size w w':=by
 obtain⟨xk,xo,xz,xn,xa,args⟩:=e;obtain⟨A,n,c,rfl,hs⟩:=ExK.inv hr;obtain⟨g,hz⟩:=nm_ (w.heap.size);obtain⟨W0,hW0⟩:=nm_ (w.alloc (.cells #[.int .i64 xk,.int .i64 xo,.int .i64 xz,.string xn,.bool xa,.slice A n c] 172));have HQ:=hng hW0 hz;have HB0:=hba hW0;have HF:=H_ (hf.below HB0.out hw);have HW:=H_ hW0;have q0:=HQ.out.k0;have q1:=HQ.out.k1;have q4:=HQ.out.k4;have HV:=H_ hv;clear hr hs hf hW0 hv;go_enter Tryz.func263,Tryz.ntmps263;rw[hz];go_upto_region 1 with fail;rw[HW.out];rcases db HV.out with⟨z,e,_,_⟩|e|e|⟨s,e,_⟩|⟨s,a,e,_,_⟩|⟨s,xs,e,_,_⟩|⟨s,xs,a,e,_,_,_⟩|⟨k,a,hk,e,_⟩|⟨o,a,b,ho,e,_,_⟩
 case inr.inr.inr.inr.inr.inr.inr.inl=>
  simp only[eUn,Ex.mk.injEq]at e;obtain⟨rfl,rfl,rfl,rfl,rfl,rfl⟩:=e;clear HQ HF;rcases hk with rfl|rfl|rfl|rfl<;>(go_wp2_with fail;go_ret;exact⟨rfl,hz▸HB0.out⟩)
 case inr.inr.inr.inr.inr.inr.inr.inr=>
  simp only[cA,Ex.mk.injEq]at e;obtain⟨rfl,rfl,rfl,rfl,rfl,rfl⟩:=e;obtain⟨t0,t1⟩:=HF.out.op o ho;have ho0:(0:Int)<=(o:Int):=by omega
  have ho1:(o:Int)<13:=by omega
  clear HQ HF;go_wp2_with fail;go_ret;exact⟨rfl,hz▸HB0.out⟩
 all_goals
  simp only[gk,eQ,aU,Ex.mk.injEq]at e;obtain⟨rfl,rfl,rfl,rfl,rfl,rfl⟩:=e;clear HQ HF;go_wp2_with fail;go_ret;exact⟨rfl,hz▸HB0.out⟩
theorem aw(x y:ByteArray)(X Y:List UInt8)(hx:x.data.toList=X:=by rfl)(hy:y.data.toList=Y:=by rfl)(h:X.length+Y.length<=9000000000000000000:=by simp only[EY,EZ,F1];omega):∀W,(Op.stringOp .add x y).run Tryz.prog W= .ok (.string (ba (X++Y))) W:=λW=>by
 have h1:x.size=X.length:=by rw[<-hx];rfl
 have h2:y.size=Y.length:=by rw[<-hy];rfl
 obtain⟨S,s1,s2,s3⟩:=fC x y (by omega);have:S=ba (X++Y):=by rw[<-hx,<-hy,<-s1,mu]
 rw[s3 W,this]
theorem sS(o:Nat)(w:World)(ho:o<=12):Calls Tryz.prog 239 #[.int .i64 (o:Int)] w λe w'=>e= .returned (.int .i64 (av (o:Int):Nat))/\w=w':=by
 have h:o=0\/o=1\/o=2\/o=3\/o=4\/o=5\/o=6\/o=7\/o=8\/o=9\/o=10\/o=11\/o=12:=by omega
 rcases h with rfl|rfl|rfl|rfl|rfl|rfl|rfl|rfl|rfl|rfl|rfl|rfl|rfl
 all_goals
  go_enter Tryz.func239,Tryz.ntmps239;go_wp2_with fail;go_ret;exact⟨rfl,rfl⟩
theorem xd(o:Nat)(w:World)(ho:o<=12):Calls Tryz.prog 240 #[.int .i64 (o:Int)] w λe w'=>e= .returned (.string (bc o))/\Below w.heap.size w w':=by
 obtain⟨W1,hW⟩:=nm_ (w.alloc (.cells (kj.map Value.string).toArray 9));have HB:=hba hW
 have hc:W1.cell? ⟨w.heap.size,o,none⟩=some (.string (bc o)):=by
  rw[(Blk.nw hW).cell o];have:o<kj.length:=by show o<13;omega
  simp[bc,FH,Fh this]
 have ho0:(0:Int)<=(o:Int):=by omega
 have ho1:(o:Int)<13:=by omega
 have HW:=H_ hW;unfold kj at HW;simp only[Ga,Hm]at HW;generalize bc o=X at*
 clear hW;go_enter Tryz.func240,Tryz.ntmps240;go_upto_region 2 with fail;rw[HW.out];go_wp2_with fail;go_ret;exact⟨rfl,HB.out⟩
theorem CO(e:Ex)(cs:List Value)(w:World)(G:Nat->Prop)(hv:vE e=true)(hr:ExK w G e cs):
 Calls Tryz.prog 241 #[.agg cs.toArray] w λr w'=>r= .returned (.int .i64 (lvl e:Nat))/\Below w.heap.size w w':=by
 obtain⟨xk,xo,xz,xn,xa,args⟩:=e;obtain⟨A,n,c,rfl,hs⟩:=ExK.inv hr;obtain⟨g,hz⟩:=nm_ (w.heap.size);obtain⟨W0,hW0⟩:=nm_ (w.alloc (.cells #[.int .i64 xk,.int .i64 xo,.int .i64 xz,.string xn,.bool xa,.slice A n c] 172));have HQ:=hng hW0 hz;have HB0:=hba hW0;have HW:=H_ hW0;have q0:=HQ.out.k0;have q1:=HQ.out.k1;have q4:=HQ.out.k4;have HV:=H_ hv;clear hr hs hW0 hv;go_enter Tryz.func241,Tryz.ntmps241;rw[hz];go_upto_region 1 with fail;rw[HW.out];rcases db HV.out with⟨z,e,_,_⟩|e|e|⟨s,e,_⟩|⟨s,a,e,_,_⟩|⟨s,xs,e,_,_⟩|⟨s,xs,a,e,_,_,_⟩|⟨k,a,hk,e,_⟩|⟨o,a,b,ho,e,_,_⟩
 case inr.inr.inr.inr.inr.inr.inr.inl=>
  simp only[eUn,Ex.mk.injEq]at e;obtain⟨rfl,rfl,rfl,rfl,rfl,rfl⟩:=e;clear HQ;rcases hk with rfl|rfl|rfl|rfl<;>(go_wp2_with fail;go_ret;exact⟨rfl,hz▸HB0.out⟩)
 case inr.inr.inr.inr.inr.inr.inr.inr=>
  simp only[cA,Ex.mk.injEq]at e;obtain⟨rfl,rfl,rfl,rfl,rfl,rfl⟩:=e;have HC:=H_ (sS o W0 ho);clear HQ;go_wp2_with fail;refine HC.out.mono ?_;rintro r w1 ⟨rfl,rfl⟩;go_wp2_with fail;go_ret;exact⟨rfl,hz▸HB0.out⟩
 all_goals
  simp only[gk,eQ,aU,Ex.mk.injEq]at e;obtain⟨rfl,rfl,rfl,rfl,rfl,rfl⟩:=e;clear HQ;go_wp2_with fail;go_ret;exact⟨rfl,hz▸HB0.out⟩
def CapG(w:World)(G:Nat->Prop):Prop:=True
theorem CapG.aA(h:CapG w G)(hk:∀b,G b->w'.heap[b]?=w.heap[b]?):CapG w' G:=trivial
def eC(e:Ex):Prop:=∀(cs:List Value) (w:World) (G:Nat->Prop),ExK w G e cs->kJ cs->(∀b,G b->b<w.heap.size)->CapG w G->(tE e).length<=TB->
 Calls Tryz.prog 169 #[.agg cs.toArray] w λr w'=>r= .returned (.string (ba (tE e)))/\Below w.heap.size w w'
def ET(e:Ex):Prop:=∀(l:Nat) (cs:List Value) (w:World) (G:Nat->Prop),ExK w G e cs->kJ cs->(∀b,G b->b<w.heap.size)->CapG w G->(tIn l e).length<=TB->
 Calls Tryz.prog 170 #[.agg cs.toArray,.int .i64 (l:Int)] w λr w'=>r= .returned (.string (ba (tIn l e)))/\Below w.heap.size w w'
section
variable{w w' w'':World}{B p d N:Nat}{s t t':List UInt8}
theorem Pr.from(l:Lk B p w w')(h:PW w' B p d (s++t)){u:List UInt8}(hu:u=s++t){e:Ending}(k:Pr B p d (s++t) t' w' e w''):Pr B p d s (t++t') w e w'':=
 ⟨k.1,l.trans k.2.1,by rw[<-Fe];exact k.2.2⟩
theorem PW.al(h:PW w B p d s){o:Obj}(e:w.alloc o=w'):PW w' B p d s:=h.below (bal e)
theorem PW.lk(h:PW w B p d s):Lk B p w w:=Lk.refl _ _ _
theorem wr1(h:PW w B p d s)(x:ByteArray)(hlen:s.length+x.size<=TB):
 Calls Tryz.prog 166 #[.pointer (some ⟨p,0,none⟩),.slice (some ⟨w.heap.size,0,none⟩) 1 1] (w.alloc (.cells #[.string x] 9)) (Pr B p d s x.data.toList w):=by
 obtain⟨w1,e⟩:=nm_ (w.alloc (.cells #[.string x] 9));rw[e];have hp:=h.lt;have hle:=h.le;have hx:x.data.toList.length=x.size:=rfl;refine(tQ [x] w.heap.size 1 (h.al e) (Blk.nw e) (by omega) (by simp only[eB,FS,List.flatMap_nil,FJ];omega) (by simp)).mono ?_;rintro r w2 ⟨rfl,l1,p1⟩;exact⟨rfl,(Lk.al (bal e)).trans l1,by simpa[eB]using p1⟩
theorem wr2(h:PW w B p d s)(x y:ByteArray)(hlen:s.length+(x.size+y.size)<=TB):
 Calls Tryz.prog 166 #[.pointer (some ⟨p,0,none⟩),.slice (some ⟨w.heap.size,0,none⟩) 2 2] (w.alloc (.cells #[.string x,.string y] 9)) (Pr B p d s (x.data.toList++y.data.toList) w):=by
 obtain⟨w1,e⟩:=nm_ (w.alloc (.cells #[.string x,.string y] 9));rw[e];have hp:=h.lt;have hle:=h.le;have hx:x.data.toList.length=x.size:=rfl;have hy:y.data.toList.length=y.size:=rfl;refine(tQ [x,y] w.heap.size 2 (h.al e) (Blk.nw e) (by omega) (by simp only[eB,FS,List.flatMap_nil,FJ,EY];omega) (by simp)).mono ?_;rintro r w2 ⟨rfl,l1,p1⟩;exact⟨rfl,(Lk.al (bal e)).trans l1,by simpa[eB]using p1⟩
theorem wr3(h:PW w B p d s)(x y z:ByteArray)(hlen:s.length+(x.size+y.size+z.size)<=TB):
 Calls Tryz.prog 166 #[.pointer (some ⟨p,0,none⟩),.slice (some ⟨w.heap.size,0,none⟩) 3 3] (w.alloc (.cells #[.string x,.string y,.string z] 9)) (Pr B p d s (x.data.toList++(y.data.toList++z.data.toList)) w):=by
 obtain⟨w1,e⟩:=nm_ (w.alloc (.cells #[.string x,.string y,.string z] 9));rw[e];have hp:=h.lt;have hle:=h.le;have hx:x.data.toList.length=x.size:=rfl;have hy:y.data.toList.length=y.size:=rfl;have hz:z.data.toList.length=z.size:=rfl;refine(tQ [x,y,z] w.heap.size 3 (h.al e) (Blk.nw e) (by omega) (by simp only[eB,FS,List.flatMap_nil,FJ,EY];omega) (by simp)).mono ?_;rintro r w2 ⟨rfl,l1,p1⟩;exact⟨rfl,(Lk.al (bal e)).trans l1,by simpa[eB]using p1⟩
theorem ExK.lk(h:ExK w (GB B p N) x cs)(l:Lk B p w w')(hB:B<=w.heap.size):ExK w' (GB B p N) x cs:=ExK.aA (λb hb=>⟨hb,l.gb hB hb⟩) h
theorem Sl.lk{α:Type}{K:Kd α}{xs:List α}{n:Nat}(h:Sl K w (GB B p N) xs A n)(l:Lk B p w w')(hB:B<=w.heap.size):Sl K w' (GB B p N) xs A n:=h.aA λb hb=>⟨hb,l.gb hB hb⟩
end
def Dt(B p d N:Nat)(e:Ex):Prop:=∀(cs:List Value) (w:World) (s:List UInt8),ExK w (GB B p N) e cs->kJ cs->PW w B p d s->GP w p N->s.length+(tE e).length<=TB->Calls Tryz.prog 264 #[.pointer (some ⟨p,0,none⟩),.agg cs.toArray] w (Pr B p d s (tE e) w)
def tN(B p d N:Nat)(e:Ex):Prop:=∀(r:Nat) (cs:List Value) (w:World) (s:List UInt8),ExK w (GB B p N) e cs->kJ cs->PW w B p d s->GP w p N->s.length+(tIn r e).length<=TB->Calls Tryz.prog 236 #[.pointer (some ⟨p,0,none⟩),.agg cs.toArray,.int .i64 (r:Int)] w (Pr B p d s (tIn r e) w)
theorem uG{p:Nat}(hv:vE e=true)(h264:Dt B p d N e):tN B p d N e:=by
 intro r cs w s hr hcl hp hg hlen;obtain⟨xk,xo,xz,xn,xa,args⟩:=e;have hr0:=hr;obtain⟨A,n,c,rfl,hs⟩:=ExK.inv hr;obtain⟨g,hz⟩:=nm_ (w.heap.size);obtain⟨W0,hW0⟩:=nm_ (w.alloc (.cells #[.int .i64 xk,.int .i64 xo,.int .i64 xz,.string xn,.bool xa,.slice A n c] 172));have hlt:=hp.lt;have hle:=hp.le;have hbig:=hg.g.big;have HQ:=hng hW0 hz;have HB0:=hba hW0;have hs0:W0.heap.size=g+1:=by rw[<-hW0,Fc,hz]
 have l0:Lk B p w W0:=Lk.al HB0.out;have HC:=H_ (yD _ _ W0 (GB B p N) hv (ExK.lk hr0 l0 hle) (hg.lk l0 hlt).f (by omega));have HL0:=H_ l0;have HP0:=H_ (hp.below HB0.out);have HG0:=H_ (hg.lk l0 hlt);have HX0:=H_ (ExK.lk hr0 l0 hle);have HW:=H_ hW0;have H264:=H_ h264;have HCL:=H_ hcl;obtain⟨q0,q1,q2,q3,q4,q5⟩:=HQ.out.c6;obtain⟨T,hT⟩:=nm_ (tIn r (.mk xk xo xz xn xa args));rw[hT]at hlen⊢;have HT:=H_ hT;clear hr hr0 hT hcl hs hp hg hW0 hv h264 l0;go_enter Tryz.func236,Tryz.ntmps236;go_upto_region 1 with fail;rw[HW.out];go_wp2_with fail;refine HC.out.mono ?_;rintro e' w1 ⟨rfl,b1⟩;have hs1:=b1.size;have HL1:=H_ (HL0.out.trans (Lk.al b1));have HP1:=H_ (HP0.out.below b1);have HG1:=H_ (HG0.out.new b1);have HX1:=H_ (ExK.lk HX0.out (Lk.al b1) (by omega));have HQ1:=H_ (HQ.out.below b1 (by omega));obtain⟨r0,r1,r2,r3,r4,r5⟩:=HQ1.out.c6;clear b1 HC HL0 HP0 HG0 HX0 HQ q0 q1 q2 q3 q4 q5;by_cases hl:lvl (.mk xk xo xz xn xa args)<r
 ·have hT:T=40::(tE (.mk xk xo xz xn xa args)++[41]):=by rw[<-HT.out,mK,Ft hl]
  rw[hT]at hlen;have HT:=H_ hT;clear hT;have hlz:((lvl (.mk xk xo xz xn xa args):Nat):Int)<(r:Int):=by omega
  simp only[EZ,EY,F1]at hlen;have HC1:=H_ (wr1 HP1.out ⟨#[40]⟩ (by show s.length+1<=TB;omega));go_wp2_with fail;refine HC1.out.mono ?_;rintro e' w2 ⟨rfl,l2,p2⟩;have hs2:=l2.size;have HC2:=H_ (H264.out _ w2 _ (ExK.lk HX1.out l2 (by omega)) HCL.out p2 (HG1.out.lk l2 hlt) (by rw[EY];show s.length+1+_<=TB;omega));obtain⟨t0,t1,t2,t3,t4,t5⟩:=(HQ1.out.lk l2 (by omega)).c6;have HL2:=H_ (HL1.out.trans l2);clear HC1 l2 p2;go_wp2_with fail;refine HC2.out.mono ?_;rintro e' w3 ⟨rfl,l3,p3⟩;have hs3:=l3.size;have HC3:=H_ (wr1 p3 ⟨#[41]⟩ (by simp only[EY];show s.length+1+_+1<=TB;omega));have HL3:=H_ (HL2.out.trans l3);clear HC2 l3 p3;go_wp2_with fail;refine HC3.out.mono ?_;rintro e' w4 ⟨rfl,l4,p4⟩;have HL4:=H_ (HL3.out.trans l4);have HP4:=H_ p4;clear HC3 l4 p4;go_wp2_with fail;go_end0;exact⟨rfl,HL4.out,by rw[HT.out];simpa using HP4.out⟩
 ·have hT:T=tE (.mk xk xo xz xn xa args):=by rw[<-HT.out,mK,Fg hl]
  rw[hT]at hlen;have HT:=H_ hT;clear hT;have hlz:¬((lvl (.mk xk xo xz xn xa args):Nat):Int)<(r:Int):=by omega
  have HC2:=H_ (H264.out _ w1 _ HX1.out HCL.out HP1.out HG1.out hlen);go_wp2_with fail;refine HC2.out.mono ?_;rintro e' w3 ⟨rfl,l3,p3⟩;have HL3:=H_ (HL1.out.trans l3);have HP3:=H_ p3;clear HC2 l3 p3;go_wp2_with fail;go_end0;exact⟨rfl,HL3.out,HT.out▸HP3.out⟩
theorem mZ{p:Nat}(h236:tN B p d N a)(x:ByteArray)(r:Nat)(l:List Ex)(A:Option Addr)(n c g1 g2:Nat)(v0 v1 v2 v3 v4:Value)(w:World)(s:List UInt8)(hb1:Blk w g1 126 #[.pointer (some ⟨p,0,none⟩)])
 (hb2:Blk w g2 172 #[v0,v1,v2,v3,v4,.slice A n c]) (hs:Sl gT w (GB B p N) (a::l) A n) (hg1:g1≠p) (hg2:g2≠p) (hp:PW w B p d s) (hg:GP w p N) (hlen:s.length+(x.size+(tIn r a).length)<=TB):
 Calls Tryz.prog 287 #[.string x,.int .i64 (r:Int),.pointer (some ⟨g1,0,none⟩),.pointer (some ⟨g2,0,none⟩)] w (Pr B p d s (x.data.toList++tIn r a) w):=by
 have hlt:=hp.lt;have hle:=hp.le;have hx0:x.data.toList.length=x.size:=rfl;have hn:l.length+1=n:=hs.1;have HC:=H_ (wr1 hp x (by omega));have HS:=H_ hs;have HB1:=H_ hb1;have HB2:=H_ hb2;have HG:=H_ hg;have H236:=H_ h236;have f0:=hb1.k0;obtain⟨T,hT⟩:=nm_ (tIn r a);rw[hT]at hlen⊢;have HT:=H_ hT;clear hs hb1 hb2 hg hp h236 hT;go_enter Tryz.func287,Tryz.ntmps287;go_wp2_with fail;refine HC.out.mono ?_;rintro e w1 ⟨rfl,l1,p1⟩;have hs1:=l1.size;have e0:=(HB1.out.lk l1 hg1).k0;have e5:=(HB2.out.lk l1 hg2).k5;have hS1:=HS.out.lk l1 hle;obtain⟨b,off,a',cs,rfl,hgb,ha,hrd,hat⟩:=hS1.at_ (k:=0) (by omega);obtain rfl:a=a':=by simpa using ha
 have hG1:=HG.out.lk l1 hlt;have HC2:=H_ (H236.out r cs w1.drew _ (ExK.aA (w:=w1) (w':=w1.drew) (G:=GB B p N) (λb hb=>⟨hb,rfl⟩) hrd) (oh hrd) ⟨p1.ex,p1.lt,p1.le⟩ (hG1.new (Fb w1.heap.size w1).drew) (by rw[EY,HT.out];omega));rw[HT.out]at HC2;obtain⟨yk,yo,yz,yn,ya,args2⟩:=a;obtain⟨A2,n2,c2,rfl,hsa⟩:=ExK.inv hrd;obtain⟨d0,d1,d2,d3,d4,d5⟩:=At.e6 (k:=0) hat
 simp only[Nat.zero_mul,FM]at d0 d1 d2 d3 d4 d5;have hnz:(0:Int)<(n:Int):=by omega
 have hn0:0<n:=by omega
 have HL1:=H_ l1;clear hS1 hgb ha hrd hat hsa l1 p1 hG1 HC;go_wp2_with fail;go_still_tail 6,(by kernel_rfl);change wpList _ _ _ _ _ w1.drew;go_wp2_with fail;refine HC2.out.mono ?_;rintro e w2 ⟨rfl,l2,p2⟩;have HL2:=H_ (HL1.out.trans ((Lk.al ((Fb w1.heap.size w1).drew)).trans l2));have HP2:=H_ p2;clear HC2 l2 p2;go_wp2_with fail;go_end0;exact⟨rfl,HL2.out,by rw[<-Fe];exact HP2.out⟩
theorem s8(l:List Ex)(x:Ex):bD (l++[x])=if l=[]then tE x else bD l++44::32::tE x:=by
 cases l with
 |nil=>simp[bD]
 |cons a l=>simp[bD]
theorem i7{k:Nat}(h:xs[k]?=some x):bD (xs.take (k+1))=if k=0 then tE x else bD (xs.take k)++44::32::tE x:=by
 rw[Gh,h];show bD (xs.take k++[x])=_;rw[s8];have hk:=(Ff.1 h).1;by_cases h0:k=0
 ·subst h0;simp
 ·rw[Fg h0,Fg λe=>by have:=GD List.length e;rw[GV,F1]at this;omega]
theorem mJ:∀(xs:List Ex) (k:Nat),(bD (xs.take k)).length<=(bD xs).length
 |[],k=>by simp
 |a::l,0=>by simp[bD]
 |a::l,k+1=>by
  rw[List.take_succ_cons];simp only[bD,EY];have:=GD (λm:List Ex=>(m.flatMap λb=>44::32::tE b).length) (Gn k l);simp only[Gk,EY]at this;omega
theorem nk{p:Nat}(xs:List Ex)(h:∀a∈xs,tN B p d N a)(A:Option Addr)(n c:Nat)(w:World)(s:List UInt8)(hs:Sl gT w (GB B p N) xs A n)(hp:PW w B p d s)(hg:GP w p N)(hlen:s.length+((bD xs).length+2)<=TB):
 Calls Tryz.prog 266 #[.pointer (some ⟨p,0,none⟩),.slice A n c] w (Pr B p d s (40::(bD xs++[41])) w):=by
 have hlt:=hp.lt;have hle:=hp.le;have hn:=hs.1;have hnb:n<=1152921504606846976:=hs.2.1;have HC:=H_ (wr1 hp ⟨#[40]⟩ (by show s.length+1<=TB;omega));have HS:=H_ hs;have HG:=H_ hg;have HH:=H_ h;clear hs hg hp h;go_enter Tryz.func266,Tryz.ntmps266;go_wp2_with fail;refine HC.out.mono ?_;rintro e w1 ⟨rfl,l1,p1⟩;have HL1:=H_ l1;have HP1:=H_ p1;have hs1:=l1.size;clear l1 p1 HC;go_wp2_with fail;go_loopw [11] (λi wr=>∃k:Nat,k<=n/\i= .int .i64 k/\Hid (Lk B p w wr)/\Hid (PW wr B p d (s++40::bD (xs.take k)))) (λi _=>n-(intOf i).toNat)
 case atStart=>exact⟨0,Fl _,rfl,HL1,H_ (by simpa[bD]using HP1.out)⟩
 case round=>
  obtain⟨k,hk,rfl,HL,HP⟩:=hrel;have hsr:=HL.out.size;by_cases hkm:k<n
  ·have hkz:(k:Int)<(n:Int):=by omega
   obtain⟨b,off,a,cs,rfl,hgb,ha,hrd,hat⟩:=(HS.out.lk HL.out hle).at_ hkm;have HA:=H_ ha;have hmem:=Fi ha;have hmono:=mJ xs (k+1);rw[i7 ha]at hmono;have HR:=H_ hrd;have HCL:=H_ (oh hrd);obtain⟨yk,yo,yz,yn,ya,args2⟩:=a;obtain⟨A2,n2,c2,rfl,hsa⟩:=ExK.inv hrd;obtain⟨d0,d1,d2,d3,d4,d5⟩:=At.e6 hat
   obtain⟨w2,hw2⟩:=nm_ (wr.alloc (.cells #[.int .i64 yk,.int .i64 yo,.int .i64 yz,.string yn,.bool ya,.slice A2 n2 c2] 172));have HW2:=H_ hw2;have HQ:=hnw hw2;have l2:Lk B p wr w2:=Lk.al (bal hw2);have hs2:=l2.size;have HL2:=H_ (HL.out.trans l2);have HP2:=H_ (HP.out.below (bal hw2));have HE:=H_ (HH.out _ hmem);have hpw:p≠wr.heap.size:=by omega
   clear ha hrd hat hsa hmem hgb hw2 l2 HL HP;by_cases hk0:k=0
   ·subst hk0;simp only[Nat.zero_mul,FM]at d0 d1 d2 d3 d4 d5;rw[Ft rfl]at hmono;have htk:=i7 HA.out;rw[Ft rfl]at htk;have HTK:=H_ htk;have HC:=H_ (HE.out 1 _ w2 _ (ExK.lk HR.out (Lk.al (bal HW2.out)) (by omega)) HCL.out HP2.out (HG.out.lk HL2.out hlt) (by rw[ap];simp only[EY,EZ,List.take_zero];show s.length+(0+1)+_<=TB;omega));obtain⟨q0,q1,q2,q3,q4,q5⟩:=HQ.out.c6;clear htk;go_upto_region 4 with fail;rw[HW2.out];go_wp2_with fail;refine HC.out.mono ?_;rintro e w3 ⟨rfl,l3,p3⟩;have HL3:=H_ (HL2.out.trans l3);have HP3:=H_ p3;clear l3 p3 HC HP2 HL2;go_wp2_with fail;go_roundw
    case rel=>exact⟨1,by omega,by go_num,HL3,H_ (by rw[HTK.out];have:=HP3.out;rw[ap]at this;simpa[bD]using this)⟩
    case measure=>simp[intOf];omega
   ·rw[Fg hk0]at hmono;have htk:=i7 HA.out;rw[Fg hk0]at htk;have HTK:=H_ htk;simp only[EY,EZ]at hmono;have hkp:(0:Int)<(k:Int):=by omega
    have HC0:=H_ (wr1 HP2.out ⟨#[44,32]⟩ (by simp only[EY,EZ];show _+2<=TB;omega));obtain⟨q0,q1,q2,q3,q4,q5⟩:=HQ.out.c6;clear htk;go_upto_region 4 with fail;rw[HW2.out];go_wp2_with fail;refine HC0.out.mono ?_;rintro e w4 ⟨rfl,l4,p4⟩;have hs4:=l4.size;have HC:=H_ (HE.out 1 _ w4 _ (ExK.lk HR.out ((Lk.al (bal HW2.out)).trans l4) (by omega)) HCL.out p4 (HG.out.lk (HL2.out.trans l4) hlt) (by rw[ap];simp only[EY,EZ];show _+2+_<=TB;omega));obtain⟨r0,r1,r2,r3,r4,r5⟩:=(HQ.out.lk l4 (Ne.symm hpw)).c6;have HL4:=H_ (HL2.out.trans l4);clear l4 p4 HC0 HP2;go_wp2_with fail;refine HC.out.mono ?_;rintro e w3 ⟨rfl,l3,p3⟩;have HL3:=H_ (HL4.out.trans l3);have HP3:=H_ p3;clear l3 p3 HC HL2;go_wp2_with fail;go_roundw
    case rel=>exact⟨k+1,by omega,by go_num,HL3,H_ (by rw[HTK.out];have:=HP3.out;rw[ap]at this;simpa using this)⟩
    case measure=>simp[intOf];omega
  ·obtain rfl:k=n:=by omega
   rw[Fd (by omega)]at HP;have HC:=H_ (wr1 HP.out ⟨#[41]⟩ (by simp only[EY,EZ];show _+1<=TB;omega));go_wp2_with fail;refine HC.out.mono ?_;rintro e w3 ⟨rfl,l3,p3⟩;have HL3:=H_ (HL.out.trans l3);have HP3:=H_ p3;clear l3 p3 HC;go_wp2_with fail;go_end0;exact⟨rfl,HL3.out,by simpa using HP3.out⟩
theorem dp:TB=1000000000:=rfl
theorem rl(hv:vE e=true)(h:eC e):ET e:=by
 intro l cs w G hr hcl hG hcg hlen;obtain⟨xk,xo,xz,xn,xa,args⟩:=e;have hr0:=hr;obtain⟨A,n,c,rfl,hs⟩:=ExK.inv hr;obtain⟨g,hz⟩:=nm_ (w.heap.size);obtain⟨W0,hW0⟩:=nm_ (w.alloc (.cells #[.int .i64 xk,.int .i64 xo,.int .i64 xz,.string xn,.bool xa,.slice A n c] 172));have HQ:=hng hW0 hz;have HB0:Hid (Below g w W0):=H_ (hz▸(hba hW0).out);have hs0:W0.heap.size=g+1:=by rw[<-hW0,Fc,hz]
 have HX0:=H_ (ExK.aA (w':=W0) (G':=G) (λq hq=>⟨hq,HB0.out.block q (by have:=hG q hq;omega)⟩) hr0);have HC:=H_ (CO _ _ W0 G hv HX0.out);have HH:=H_ h;have HCL:=H_ hcl;have HG:=H_ hG;have HCG:=H_ (hcg.aA (w':=W0) λq hq=>HB0.out.block q (by have:=hG q hq;omega));have HW:=H_ hW0;obtain⟨q0,q1,q2,q3,q4,q5⟩:=HQ.out.c6;obtain⟨T,hT⟩:=nm_ (tIn l (.mk xk xo xz xn xa args));rw[hT]at hlen⊢;rw[mK]at hT;have HT:=H_ hT;have htb:=dp;clear hr hr0 hs hcl hG hcg hW0 hv h hT;go_enter Tryz.func170,Tryz.ntmps170;rw[hz];go_upto_region 1 with fail;rw[HW.out];go_wp2_with fail;refine HC.out.mono ?_;rintro r w1 ⟨rfl,b1⟩;have hs1:=b1.size;have HB1:=H_ (HB0.out.trans (b1.mono (by omega)));obtain⟨r0,r1,r2,r3,r4,r5⟩:=(HQ.out.below b1 (by omega)).c6
 have HC2:Hid ((tE (.mk xk xo xz xn xa args)).length<=TB->Calls Tryz.prog 169 #[.agg #[.int .i64 xk,.int .i64 xo,.int .i64 xz,.string xn,.bool xa,.slice A n c]] w1 λr w'=>r= .returned (.string (ba (tE (.mk xk xo xz xn xa args))))/\Below w1.heap.size w1 w'):=H_ λhl=>
  HH.out _ w1 G (ExK.aA (λq hq=>⟨hq,b1.block q (by have:=HG.out q hq;omega)⟩) HX0.out) HCL.out (λq hq=>by have:=HG.out q hq;omega) (HCG.out.aA λq hq=>b1.block q (by have:=HG.out q hq;omega)) hl
 generalize tE (.mk xk xo xz xn xa args)=E at*
 clear b1 HC HX0 HH HCL HCG;by_cases hl:lvl (.mk xk xo xz xn xa args)<l
 ·have hT:T=40::(E++[41]):=by rw[<-HT.out,Ft hl]
  rw[hT]at hlen;simp only[EZ,EY,F1]at hlen;have hlz:((lvl (.mk xk xo xz xn xa args):Nat):Int)<(l:Int):=by omega
  have a1:∀W,(Op.stringOp .add ⟨#[40]⟩ (ba E)).run Tryz.prog W= .ok (.string (ba (40::E))) W:=aw ⟨#[40]⟩ (ba E) [40] E;have a2:∀W,(Op.stringOp .add (ba (40::E)) ⟨#[41]⟩).run Tryz.prog W= .ok (.string (ba (40::(E++[41])))) W:=aw (ba (40::E)) ⟨#[41]⟩ (40::E) [41];have HC3:=H_ (HC2.out (by omega));have HTT:=H_ (show ba (40::(E++[41]))=ba T by rw[hT]);clear hT HT HC2;go_wp2_with fail;refine HC3.out.mono ?_;rintro r w2 ⟨rfl,b2⟩;have HB2:=H_ (HB1.out.trans (b2.mono (by omega)));clear b2 HC3;go_wp2_with fail;go_ret;exact⟨by rw[<-HTT.out];rfl,HB2.out⟩
 ·have hT:T=E:=by rw[<-HT.out,Fg hl]
  have hlz:¬((lvl (.mk xk xo xz xn xa args):Nat):Int)<(l:Int):=by omega
  have HC3:=H_ (HC2.out (hT▸hlen));have HTT:=H_ hT;clear hT HT HC2;go_wp2_with fail;refine HC3.out.mono ?_;rintro r w2 ⟨rfl,b2⟩;have HB2:=H_ (HB1.out.trans (b2.mono (by omega)));clear b2 HC3;go_wp2_with fail;go_ret;exact⟨by rw[HTT.out];rfl,HB2.out⟩
theorem AL(xs:List Ex)(h:∀a∈xs,eC a)(A:Option Addr)(n c:Nat)(w:World)(G:Nat->Prop)(hs:Sl gT w G xs A n)(hG:∀b,G b->b<w.heap.size)(hcg:CapG w G)(hlen:(bD xs).length<=TB):
 Calls Tryz.prog 171 #[.slice A n c] w λr w'=>r= .returned (.string (ba (bD xs)))/\Below w.heap.size w w':=by
 have hn:=hs.1;have hnb:n<=1152921504606846976:=hs.2.1;have HS:=H_ hs;have HG:=H_ hG;have HCG:=H_ hcg;have HH:=H_ h;have htb:=dp;clear hs hG hcg h;go_enter Tryz.func171,Tryz.ntmps171;go_wp2_with fail;go_loopw [3,4] (λs i wr=>∃k:Nat,k<=n/\i= .int .i64 k/\s= .string (ba (bD (xs.take k)))/\Hid (Below w.heap.size w wr)) (λ_ i _=>n-(intOf i).toNat)
 case atStart=>exact⟨0,Fl _,rfl,rfl,H_ (Fb _ _)⟩
 case round=>
  obtain⟨k,hk,rfl,rfl,HB⟩:=hrel;have hsr:=HB.out.size;by_cases hkm:k<n
  ·have hkz:(k:Int)<(n:Int):=by omega
   have hkp:∀q,G q->G q/\wr.heap[q]?=w.heap[q]?:=λq hq=>⟨hq,HB.out.block q (HG.out q hq)⟩;obtain⟨b,off,a,cs,rfl,hgb,ha,hrd,hat⟩:=(HS.out.aA hkp).at_ hkm;have htk:=i7 ha;have hmono:=mJ xs (k+1);rw[htk]at hmono;have HTK:=H_ htk;have hcg2:=HCG.out.aA λq hq=>(hkp q hq).2;have HC:=H_ (HH.out a (Fi ha) cs wr G hrd (oh hrd) (λq hq=>by have:=HG.out q hq;omega) hcg2 (by by_cases h0:k=0<;>simp[h0]at hmono<;>omega));obtain⟨yk,yo,yz,yn,ya,args2⟩:=a;obtain⟨A2,n2,c2,rfl,hsa⟩:=ExK.inv hrd;obtain⟨d0,d1,d2,d3,d4,d5⟩:=At.e6 hat
   generalize tE (.mk yk yo yz yn ya args2)=E at*
   clear ha hrd hat hsa hgb htk hcg2 hkp;by_cases hk0:k=0
   ·subst hk0;simp only[Nat.zero_mul,FM]at d0 d1 d2 d3 d4 d5;have hE:E.length<=TB:=by simpa using FA hmono hlen
    have a1:=aw ⟨#[]⟩ (ba E) [] E rfl rfl (by simp only[F1];omega);have hb0:ba (bD (xs.take 0))=⟨#[]⟩:=rfl;rw[hb0];go_wp2_with fail;refine HC.out.mono ?_;rintro r w1 ⟨rfl,b1⟩;have B1:=htr HB b1;clear b1 HC HB;go_wp2_with fail;go_roundw
    case rel=>exact⟨1,by omega,by go_num,by rw[HTK.out];simp,B1⟩
    case measure=>simp[intOf];omega
   ·rw[Fg hk0]at hmono;simp only[EY,EZ]at hmono;have hk1:(0:Int)<(k:Int):=by omega
    obtain⟨P,hP⟩:=nm_ (bD (xs.take k));rw[hP]at hmono HTK⊢;have a1:=aw (ba P) ⟨#[44,32]⟩ P [44,32];have a2:=aw (ba (P++[44,32])) (ba E) (P++[44,32]) E;have HTT:=H_ (show ba (P++44::32::E)=ba (bD (xs.take (k+1))) by rw[HTK.out,Fg hk0]);clear hP HTK;go_wp2_with fail;refine HC.out.mono ?_;rintro r w1 ⟨rfl,b1⟩;have B1:=htr HB b1;clear b1 HC HB;go_wp2_with fail;go_roundw
    case rel=>exact⟨k+1,by omega,by go_num,by rw[HTT.out],B1⟩
    case measure=>simp[intOf];omega
  ·obtain rfl:k=n:=by omega
   rw[Fd (by omega)];go_wp2_with fail;go_ret;exact⟨rfl,HB.out⟩
structure Cls{T:Type}(w:World)(W0:World)(G:Nat->Prop)(f:T->World):Prop where
 cov:∀W,Below W0.heap.size W0 W->∃x,W=f x
 fr:∀y,Below W0.heap.size W0 (f y)
 fr0:∀y,Below w.heap.size w (f y)
 aA:∀y q,G q->G q/\(f y).heap[q]?=w.heap[q]?
 lt:∀y q,G q->q<(f y).heap.size
 cap:∀y,CapG (f y) G
theorem Cls.mk'(hb:Below w.heap.size w W0)(hG:∀b,G b->b<w.heap.size)(hcg:CapG w G):∃(T:Type) (f:T->World),Nonempty T/\Cls w W0 G f:=by
 obtain⟨T,f,hne,hf,hcov⟩:=cg W0.heap.size W0;have h0:∀y,Below w.heap.size w (f y):=λy=>hb.trans ((hf y).mono hb.size);have hk:∀y q,G q->G q/\(f y).heap[q]?=w.heap[q]?:=λy q hq=>⟨hq,(h0 y).block q (hG q hq)⟩;exact⟨T,f,hne,hcov,hf,h0,hk,λy q hq=>by have:=hG q hq;have:=(h0 y).size;omega,λy=>hcg.aA λq hq=>(hk y q hq).2⟩
theorem Cls.all{f:T->World}(C:Cls w W0 G f){n:Nat}{vs:Array Value}{s:List UInt8}(h:∀y,Calls Tryz.prog n vs (f y) λe w''=>e= .returned (.string (ba s))/\Below (f y).heap.size (f y) w''):
 Hid (∀y,Calls Tryz.prog n vs (f y) λe w''=>e= .returned (.string (ba s))/\∃z,w''=f z):=
 H_ λy=>(h y).mono λe w'' ⟨h1,h2⟩=>⟨h1,C.cov _ ((C.fr y).trans (h2.mono (C.fr y).size))⟩
theorem Cls.in_{f:T->World}(C:Cls w W0 G f)(hv:vE a=true)(h:eC a)(l:Nat)(hr:ExK w G a cs)(hc:kJ cs)(hlen:(tIn l a).length<=TB):
 Hid (∀y,Calls Tryz.prog 170 #[.agg cs.toArray,.int .i64 (l:Int)] (f y) λe w''=>e= .returned (.string (ba (tIn l a)))/\∃z,w''=f z):=
 C.all λy=>rl hv h l cs (f y) G (ExK.aA (C.aA y) hr) hc (C.lt y) (C.cap y) hlen
theorem Cls.tx{f:T->World}(C:Cls w W0 G f)(h:eC a)(hr:ExK w G a cs)(hc:kJ cs)(hlen:(tE a).length<=TB):
 Hid (∀y,Calls Tryz.prog 169 #[.agg cs.toArray] (f y) λe w''=>e= .returned (.string (ba (tE a)))/\∃z,w''=f z):=
 C.all λy=>h cs (f y) G (ExK.aA (C.aA y) hr) hc (C.lt y) (C.cap y) hlen
theorem Cls.li{f:T->World}(C:Cls w W0 G f)(h:∀a∈xs,eC a){n:Nat}(c:Nat)(hs:Sl gT w G xs A n)(hlen:(bD xs).length<=TB):
 Hid (∀y,Calls Tryz.prog 171 #[.slice A n c] (f y) λe w''=>e= .returned (.string (ba (bD xs)))/\∃z,w''=f z):=
 C.all λy=>AL xs h A n c (f y) G (hs.aA (C.aA y)) (C.lt y) (C.cap y) hlen
theorem Cls.at_{f:T->World}(C:Cls w W0 G f)(hcg:CapG w G){n:Nat}(hs:Sl gT w G xs A n){k:Nat}(ha:xs[k]?=some a):
 ∃b off yk yo yz yn ya A2 n2 c2,A=some ⟨b,off,none⟩/\ExK w G a [.int .i64 yk,.int .i64 yo,.int .i64 yz,.string yn,.bool ya,.slice A2 n2 c2]/\kJ [.int .i64 yk,.int .i64 yo,.int .i64 yz,.string yn,.bool ya,.slice A2 n2 c2]/\
  ∀y,(f y).cell? ⟨b,off+k*6,none⟩=some (.int .i64 yk)/\(f y).cell? ⟨b,off+k*6+1,none⟩=some (.int .i64 yo)/\(f y).cell? ⟨b,off+k*6+2,none⟩=some (.int .i64 yz)/\
   (f y).cell? ⟨b,off+k*6+3,none⟩=some (.string yn)/\(f y).cell? ⟨b,off+k*6+4,none⟩=some (.bool ya)/\(f y).cell? ⟨b,off+k*6+5,none⟩=some (.slice A2 n2 c2):=by
 have hk:k<n:=by rw[<-hs.1];exact(Ff.1 ha).1
 obtain⟨b,off,x,cs,rfl,hgb,hx,hrd,hat⟩:=hs.at_ hk;obtain rfl:x=a:=by rw[ha]at hx;exact(Option.some.inj hx).symm
 have hc:=oh hrd;obtain⟨yk,yo,yz,yn,ya,args2⟩:=x;have hrd':=hrd;obtain⟨A2,n2,c2,rfl,hsa⟩:=ExK.inv hrd;refine⟨b,off,yk,yo,yz,yn,ya,A2,n2,c2,rfl,hrd',hc,λy=>?_⟩;have h2:=At.e6 hat
 have hb:∀i,(f y).cell? ⟨b,i,none⟩=w.cell? ⟨b,i,none⟩:=λi=>Gw (C.aA y b hgb).2;simp only[hb];exact h2
section
variable{T:Type}{w W0:World}{G:Nat->Prop}{f:T->World}
theorem wW{z:Int}(h0:0<=z)(h1:z<=2305843009213693951):eC (gk z):=by
 intro cs w G hr hcl hG hcg hlen;rw[sg]at*
 obtain⟨A,n,c,rfl,hs⟩:=ExK.inv (show ExK w G (.mk 0 0 z ⟨#[]⟩ false []) cs from hr);obtain⟨g,hz⟩:=nm_ (w.heap.size);obtain⟨W0,hW0⟩:=nm_ (w.alloc (.cells #[.int .i64 0,.int .i64 0,.int .i64 z,.string ⟨#[]⟩,.bool false,.slice A n c] 172));have HB0:Hid (Below g w W0):=H_ (hz▸(hba hW0).out);have hs0:W0.heap.size=g+1:=by rw[<-hW0,Fc,hz]
 obtain⟨q0,q1,q2,q3,q4,q5⟩:=(hng hW0 hz).out.c6;have HC:=H_ (ji z W0 (by unfold I64;omega));have HW:=H_ hW0;clear hr hs hcl hG hcg hlen hW0;go_enter Tryz.func169,Tryz.ntmps169;rw[hz];go_upto_region 1 with fail;rw[HW.out];go_wp2_with fail;refine HC.out.mono ?_;rintro r w1 ⟨rfl,b1⟩;have HE:=H_ (HB0.out.trans (b1.mono (by omega)));clear b1 HC;go_wp2_with fail;go_ret;exact⟨rfl,HE.out⟩
theorem kS{k:Int}{s:ByteArray}{X:List UInt8}(hk:k=1/\s=⟨#[]⟩/\X=[110,105,108]\/k=2/\s=⟨#[]⟩/\X=[116,104,105,115]\/k=3/\X=s.data.toList)(hX:tE (eQ k s)=X):eC (eQ k s):=by
 intro cs w G hr hcl hG hcg hlen;rw[hX]at*
 obtain⟨A,n,c,rfl,hs⟩:=ExK.inv (show ExK w G (.mk k 0 0 s false []) cs from hr);obtain⟨g,hz⟩:=nm_ (w.heap.size);obtain⟨W0,hW0⟩:=nm_ (w.alloc (.cells #[.int .i64 k,.int .i64 0,.int .i64 0,.string s,.bool false,.slice A n c] 172));have HB0:Hid (Below g w W0):=H_ (hz▸(hba hW0).out);obtain⟨q0,q1,q2,q3,q4,q5⟩:=(hng hW0 hz).out.c6;have HW:=H_ hW0;clear hr hs hcl hG hcg hlen hW0 hX;go_enter Tryz.func169,Tryz.ntmps169;rw[hz];go_upto_region 1 with fail;rw[HW.out];rcases hk with⟨rfl,rfl,rfl⟩|⟨rfl,rfl,rfl⟩|⟨rfl,rfl⟩
 all_goals
  go_wp2_with fail;go_ret;exact⟨rfl,HB0.out⟩
theorem rX{s:ByteArray}(hva:vE a=true)(h:eC a):eC (aU s a):=by
 intro cs w G hr hcl hG hcg hlen;rw[mM]at*
 obtain⟨A,n,c,rfl,hs⟩:=ExK.inv (show ExK w G (.mk 4 0 0 s false [a]) cs from hr);obtain⟨g,hz⟩:=nm_ (w.heap.size);obtain⟨W0,hW0⟩:=nm_ (w.alloc (.cells #[.int .i64 4,.int .i64 0,.int .i64 0,.string s,.bool false,.slice A n c] 172));have HQ:=hng hW0 hz;have hs0:W0.heap.size=g+1:=by rw[<-hW0,Fc,hz]
 obtain⟨T,f,hne,C⟩:=Cls.mk' (hba hW0).out hG hcg;have hn:1=n:=hs.1;obtain⟨b,off,yk,yo,yz,yn,ya,A2,n2,c2,rfl,hrd,hc,hat⟩:=C.at_ hcg hs (k:=0) rfl;have htb:=dp;simp only[EY,EZ]at hlen;have C1:=C.in_ hva h 8 hrd hc (by omega);obtain⟨E,hE⟩:=nm_ (tIn 8 a);rw[hE]at C1 hlen⊢;have a1:=aw (ba E) ⟨#[46]⟩ E [46];have a2:=aw (ba (E++[46])) s (E++[46]) s.data.toList;simp only[Fe,Fq,Fs]at a1 a2;obtain⟨q0,q1,q2,q3,q4,q5⟩:=HQ.out.c6;have e3:=λy=>(HQ.out.below (C.fr y) (by omega)).k3;have e5:=λy=>(HQ.out.below (C.fr y) (by omega)).k5;simp only[Nat.zero_mul,FM]at hat
 have d0:=λy=>(hat y).1;have d1:=λy=>(hat y).2.1;have d2:=λy=>(hat y).2.2.1;have d3:=λy=>(hat y).2.2.2.1;have d4:=λy=>(hat y).2.2.2.2.1;have d5:=λy=>(hat y).2.2.2.2.2;have HF:=H_ C.fr0;have HCOV:=H_ C.cov;have HW:=H_ hW0;subst hn;clear hr hs hcl hG hcg hlen hW0 C hat hrd hc hE HQ;go_enter Tryz.func169,Tryz.ntmps169;rw[hz];go_upto_region 1 with fail;rw[HW.out];go_upto_region 11 with fail;refine ai f (by kernel_rfl) (by kernel_rfl) (HCOV.out _ (Fb _ _).drew) ?_;repeat (go_big_quiet_step (first|(go_at_call 170;exact C1.out _)))
 refine FO ?_;rintro _ ⟨y,rfl⟩;go_wp2_with fail;go_ret;exact⟨rfl,hz▸HF.out y⟩
--REST
theorem uV(hva:vE a=true)(h:eC a):eC (eUn 6 a):=by
 intro cs w G hr hcl hG hcg hlen;rw[ph]at*
 obtain⟨A,n,c,rfl,hs⟩:=ExK.inv (show ExK w G (.mk 6 0 0 ⟨#[]⟩ false [a]) cs from hr);obtain⟨g,hz⟩:=nm_ (w.heap.size);obtain⟨W0,hW0⟩:=nm_ (w.alloc (.cells #[.int .i64 6,.int .i64 0,.int .i64 0,.string ⟨#[]⟩,.bool false,.slice A n c] 172));have HQ:=hng hW0 hz;have hs0:W0.heap.size=g+1:=by rw[<-hW0,Fc,hz]
 obtain⟨T,f,hne,C⟩:=Cls.mk' (hba hW0).out hG hcg;have hn:1=n:=hs.1;have htb:=dp;obtain⟨b,off,dk,dO,dz,dn,da,dA,dm,dc,rfl,hrdd,hcd,hatd⟩:=C.at_ hcg hs (k:=0) rfl;simp only[Nat.zero_mul,FV,FM]at hatd;have d0:=λy=>(hatd y).1;have d1:=λy=>(hatd y).2.1;have d2:=λy=>(hatd y).2.2.1;have d3:=λy=>(hatd y).2.2.2.1;have d4:=λy=>(hatd y).2.2.2.2.1;have d5:=λy=>(hatd y).2.2.2.2.2;simp only[EY,EZ,F1]at hlen;have hr2:=ExK.aA (w':=W0) (G':=G) (λq hq=>⟨hq,(hba hW0).out.block q (hG q hq)⟩) hrdd;have C1:=H_ (rl hva h 7 _ W0 G hr2 hcd (λq hq=>by have:=hG q hq;omega) (hcg.aA λq hq=>(hba hW0).out.block q (hG q hq)) (by omega));obtain⟨E,hE⟩:=nm_ (tIn 7 a);rw[hE]at C1 hlen⊢;have a1:=aw ⟨#[119,101,97,107,32]⟩ (ba E) [119,101,97,107,32] E;simp only[Fq,Fs]at a1⊢;obtain⟨y0,hy0⟩:=C.cov W0 (Fb _ _);have x0:=d0 y0;have x1:=d1 y0;have x2:=d2 y0;have x3:=d3 y0;have x4:=d4 y0;have x5:=d5 y0;rw[<-hy0]at x0;rw[<-hy0]at x1;rw[<-hy0]at x2;rw[<-hy0]at x3;rw[<-hy0]at x4;rw[<-hy0]at x5;subst hn;have HB0:Hid (Below g w W0):=H_ (hz▸(hba hW0).out);obtain⟨q0,q1,q2,q3,q4,q5⟩:=HQ.out.c6;have HF:=H_ C.fr0;have HCOV:=H_ C.cov;have HW:=H_ hW0;clear hr hs hcl hG hcg hlen hW0 C HQ hatd hrdd hcd hE hr2 d0 d1 d2 d3 d4 d5 hy0;go_enter Tryz.func169,Tryz.ntmps169;rw[hz];go_upto_region 1 with fail;rw[HW.out];go_wp2_with fail;refine C1.out.mono ?_;rintro r w1 ⟨rfl,b1⟩;have HE:=H_ (HB0.out.trans (b1.mono (by omega)));clear b1 C1;go_wp2_with fail;go_ret;exact⟨rfl,HE.out⟩
theorem wX(hva:vE a=true)(h:eC a):eC (eUn 7 a):=by
 intro cs w G hr hcl hG hcg hlen;rw[sh]at*
 obtain⟨A,n,c,rfl,hs⟩:=ExK.inv (show ExK w G (.mk 7 0 0 ⟨#[]⟩ false [a]) cs from hr);obtain⟨g,hz⟩:=nm_ (w.heap.size);obtain⟨W0,hW0⟩:=nm_ (w.alloc (.cells #[.int .i64 7,.int .i64 0,.int .i64 0,.string ⟨#[]⟩,.bool false,.slice A n c] 172));have HQ:=hng hW0 hz;have hs0:W0.heap.size=g+1:=by rw[<-hW0,Fc,hz]
 obtain⟨T,f,hne,C⟩:=Cls.mk' (hba hW0).out hG hcg;have hn:1=n:=hs.1;have htb:=dp;obtain⟨b,off,dk,dO,dz,dn,da,dA,dm,dc,rfl,hrdd,hcd,hatd⟩:=C.at_ hcg hs (k:=0) rfl;simp only[Nat.zero_mul,FV,FM]at hatd;have d0:=λy=>(hatd y).1;have d1:=λy=>(hatd y).2.1;have d2:=λy=>(hatd y).2.2.1;have d3:=λy=>(hatd y).2.2.2.1;have d4:=λy=>(hatd y).2.2.2.2.1;have d5:=λy=>(hatd y).2.2.2.2.2;simp only[EY,EZ,F1]at hlen;have hr2:=ExK.aA (w':=W0) (G':=G) (λq hq=>⟨hq,(hba hW0).out.block q (hG q hq)⟩) hrdd;have C1:=H_ (rl hva h 7 _ W0 G hr2 hcd (λq hq=>by have:=hG q hq;omega) (hcg.aA λq hq=>(hba hW0).out.block q (hG q hq)) (by omega));obtain⟨E,hE⟩:=nm_ (tIn 7 a);rw[hE]at C1 hlen⊢;have a1:=aw ⟨#[103,101,116,32]⟩ (ba E) [103,101,116,32] E;simp only[Fq,Fs]at a1⊢;obtain⟨y0,hy0⟩:=C.cov W0 (Fb _ _);have x0:=d0 y0;have x1:=d1 y0;have x2:=d2 y0;have x3:=d3 y0;have x4:=d4 y0;have x5:=d5 y0;rw[<-hy0]at x0;rw[<-hy0]at x1;rw[<-hy0]at x2;rw[<-hy0]at x3;rw[<-hy0]at x4;rw[<-hy0]at x5;subst hn;have HB0:Hid (Below g w W0):=H_ (hz▸(hba hW0).out);obtain⟨q0,q1,q2,q3,q4,q5⟩:=HQ.out.c6;have HF:=H_ C.fr0;have HCOV:=H_ C.cov;have HW:=H_ hW0;clear hr hs hcl hG hcg hlen hW0 C HQ hatd hrdd hcd hE hr2 d0 d1 d2 d3 d4 d5 hy0;go_enter Tryz.func169,Tryz.ntmps169;rw[hz];go_upto_region 1 with fail;rw[HW.out];go_wp2_with fail;refine C1.out.mono ?_;rintro r w1 ⟨rfl,b1⟩;have HE:=H_ (HB0.out.trans (b1.mono (by omega)));clear b1 C1;go_wp2_with fail;go_ret;exact⟨rfl,HE.out⟩
theorem wV(hva:vE a=true)(h:eC a):eC (eUn 8 a):=by
 intro cs w G hr hcl hG hcg hlen;rw[sf]at*
 obtain⟨A,n,c,rfl,hs⟩:=ExK.inv (show ExK w G (.mk 8 0 0 ⟨#[]⟩ false [a]) cs from hr);obtain⟨g,hz⟩:=nm_ (w.heap.size);obtain⟨W0,hW0⟩:=nm_ (w.alloc (.cells #[.int .i64 8,.int .i64 0,.int .i64 0,.string ⟨#[]⟩,.bool false,.slice A n c] 172));have HQ:=hng hW0 hz;have hs0:W0.heap.size=g+1:=by rw[<-hW0,Fc,hz]
 obtain⟨T,f,hne,C⟩:=Cls.mk' (hba hW0).out hG hcg;have hn:1=n:=hs.1;have htb:=dp;obtain⟨b,off,dk,dO,dz,dn,da,dA,dm,dc,rfl,hrdd,hcd,hatd⟩:=C.at_ hcg hs (k:=0) rfl;simp only[Nat.zero_mul,FV,FM]at hatd;have d0:=λy=>(hatd y).1;have d1:=λy=>(hatd y).2.1;have d2:=λy=>(hatd y).2.2.1;have d3:=λy=>(hatd y).2.2.2.1;have d4:=λy=>(hatd y).2.2.2.2.1;have d5:=λy=>(hatd y).2.2.2.2.2;simp only[EY,EZ,F1]at hlen;have hr2:=ExK.aA (w':=W0) (G':=G) (λq hq=>⟨hq,(hba hW0).out.block q (hG q hq)⟩) hrdd;have C1:=H_ (rl hva h 7 _ W0 G hr2 hcd (λq hq=>by have:=hG q hq;omega) (hcg.aA λq hq=>(hba hW0).out.block q (hG q hq)) (by omega));obtain⟨E,hE⟩:=nm_ (tIn 7 a);rw[hE]at C1 hlen⊢;have a1:=aw ⟨#[45]⟩ (ba E) [45] E;simp only[Fq,Fs]at a1⊢;obtain⟨y0,hy0⟩:=C.cov W0 (Fb _ _);have x0:=d0 y0;have x1:=d1 y0;have x2:=d2 y0;have x3:=d3 y0;have x4:=d4 y0;have x5:=d5 y0;rw[<-hy0]at x0;rw[<-hy0]at x1;rw[<-hy0]at x2;rw[<-hy0]at x3;rw[<-hy0]at x4;rw[<-hy0]at x5;subst hn;have HB0:Hid (Below g w W0):=H_ (hz▸(hba hW0).out);obtain⟨q0,q1,q2,q3,q4,q5⟩:=HQ.out.c6;have HF:=H_ C.fr0;have HCOV:=H_ C.cov;have HW:=H_ hW0;clear hr hs hcl hG hcg hlen hW0 C HQ hatd hrdd hcd hE hr2 d0 d1 d2 d3 d4 d5 hy0;go_enter Tryz.func169,Tryz.ntmps169;rw[hz];go_upto_region 1 with fail;rw[HW.out];go_wp2_with fail;refine C1.out.mono ?_;rintro r w1 ⟨rfl,b1⟩;have HE:=H_ (HB0.out.trans (b1.mono (by omega)));clear b1 C1;go_wp2_with fail;go_ret;exact⟨rfl,HE.out⟩
theorem wT(hva:vE a=true)(h:eC a):eC (eUn 9 a):=by
 intro cs w G hr hcl hG hcg hlen;rw[s9]at*
 obtain⟨A,n,c,rfl,hs⟩:=ExK.inv (show ExK w G (.mk 9 0 0 ⟨#[]⟩ false [a]) cs from hr);obtain⟨g,hz⟩:=nm_ (w.heap.size);obtain⟨W0,hW0⟩:=nm_ (w.alloc (.cells #[.int .i64 9,.int .i64 0,.int .i64 0,.string ⟨#[]⟩,.bool false,.slice A n c] 172));have HQ:=hng hW0 hz;have hs0:W0.heap.size=g+1:=by rw[<-hW0,Fc,hz]
 obtain⟨T,f,hne,C⟩:=Cls.mk' (hba hW0).out hG hcg;have hn:1=n:=hs.1;have htb:=dp;obtain⟨b,off,dk,dO,dz,dn,da,dA,dm,dc,rfl,hrdd,hcd,hatd⟩:=C.at_ hcg hs (k:=0) rfl;simp only[Nat.zero_mul,FV,FM]at hatd;have d0:=λy=>(hatd y).1;have d1:=λy=>(hatd y).2.1;have d2:=λy=>(hatd y).2.2.1;have d3:=λy=>(hatd y).2.2.2.1;have d4:=λy=>(hatd y).2.2.2.2.1;have d5:=λy=>(hatd y).2.2.2.2.2;simp only[EY,EZ,F1]at hlen;have hr2:=ExK.aA (w':=W0) (G':=G) (λq hq=>⟨hq,(hba hW0).out.block q (hG q hq)⟩) hrdd;have C1:=H_ (rl hva h 3 _ W0 G hr2 hcd (λq hq=>by have:=hG q hq;omega) (hcg.aA λq hq=>(hba hW0).out.block q (hG q hq)) (by omega));obtain⟨E,hE⟩:=nm_ (tIn 3 a);rw[hE]at C1 hlen⊢;have a1:=aw ⟨#[110,111,116,32]⟩ (ba E) [110,111,116,32] E;simp only[Fq,Fs]at a1⊢;obtain⟨y0,hy0⟩:=C.cov W0 (Fb _ _);have x0:=d0 y0;have x1:=d1 y0;have x2:=d2 y0;have x3:=d3 y0;have x4:=d4 y0;have x5:=d5 y0;rw[<-hy0]at x0;rw[<-hy0]at x1;rw[<-hy0]at x2;rw[<-hy0]at x3;rw[<-hy0]at x4;rw[<-hy0]at x5;subst hn;have HB0:Hid (Below g w W0):=H_ (hz▸(hba hW0).out);obtain⟨q0,q1,q2,q3,q4,q5⟩:=HQ.out.c6;have HF:=H_ C.fr0;have HCOV:=H_ C.cov;have HW:=H_ hW0;clear hr hs hcl hG hcg hlen hW0 C HQ hatd hrdd hcd hE hr2 d0 d1 d2 d3 d4 d5 hy0;go_enter Tryz.func169,Tryz.ntmps169;rw[hz];go_upto_region 1 with fail;rw[HW.out];go_wp2_with fail;refine C1.out.mono ?_;rintro r w1 ⟨rfl,b1⟩;have HE:=H_ (HB0.out.trans (b1.mono (by omega)));clear b1 C1;go_wp2_with fail;go_ret;exact⟨rfl,HE.out⟩
theorem wU{s:ByteArray}{l:List Ex}(h:∀a∈l,eC a):eC (.mk 5 0 0 s false l):=by
 intro cs w G hr hcl hG hcg hlen;rw[se]at*
 obtain⟨A,n,c,rfl,hs⟩:=ExK.inv (show ExK w G (.mk 5 0 0 s false l) cs from hr);obtain⟨g,hz⟩:=nm_ (w.heap.size);obtain⟨W0,hW0⟩:=nm_ (w.alloc (.cells #[.int .i64 5,.int .i64 0,.int .i64 0,.string s,.bool false,.slice A n c] 172));have HQ:=hng hW0 hz;have hs0:W0.heap.size=g+1:=by rw[<-hW0,Fc,hz]
 obtain⟨T,f,hne,C⟩:=Cls.mk' (hba hW0).out hG hcg;have hn:l.length=n:=hs.1;have htb:=dp;simp only[iw,EY,EZ,F1]at hlen;have C1:=C.li h c hs (by omega);obtain⟨E,hE⟩:=nm_ (bD l);rw[hE]at C1 hlen⊢;have a1:=aw ⟨#[110,101,119,32]⟩ s [110,101,119,32] s.data.toList;have a2:=aw (ba ([110,101,119,32]++s.data.toList)) ⟨#[40]⟩ ([110,101,119,32]++s.data.toList) [40];have a3:=aw (ba ([110,101,119,32]++s.data.toList++[40])) (ba E) ([110,101,119,32]++s.data.toList++[40]) E;have a4:=aw (ba ([110,101,119,32]++s.data.toList++[40]++E)) ⟨#[41]⟩ ([110,101,119,32]++s.data.toList++[40]++E) [41];simp only[Fe,Fq,Fs]at a1 a2 a3 a4;obtain⟨q0,q1,q2,q3,q4,q5⟩:=HQ.out.c6;have e3:=λy=>(HQ.out.below (C.fr y) (by omega)).k3;have e4:=λy=>(HQ.out.below (C.fr y) (by omega)).k4;have e5:=λy=>(HQ.out.below (C.fr y) (by omega)).k5;have HF:=H_ C.fr0;have HCOV:=H_ C.cov;have HW:=H_ hW0;clear hr hs hcl hG hcg hlen hW0 C HQ hE hn h;go_enter Tryz.func169,Tryz.ntmps169;rw[hz];go_upto_region 1 with fail;rw[HW.out];go_upto_region 16 with fail;refine ai f (by kernel_rfl) (by kernel_rfl) (HCOV.out _ (Fb _ _).drew) ?_;repeat (go_big_quiet_step (first|(go_at_call 171;exact C1.out _)))
 refine FO ?_;rintro _ ⟨y,rfl⟩;go_wp2_with fail;go_ret;exact⟨by first|rfl|(simp[iw,sAt];done),hz▸HF.out y⟩
theorem rV{s:ByteArray}{l:List Ex}(hva:vE a=true)(ha:eC a)(h:∀a∈l,eC a):eC (.mk 5 0 0 s true (l++[a])):=by
 intro cs w G hr hcl hG hcg hlen;rw[mL]at*
 obtain⟨A,n,c,rfl,hs⟩:=ExK.inv (show ExK w G (.mk 5 0 0 s true (l++[a])) cs from hr);obtain⟨g,hz⟩:=nm_ (w.heap.size);obtain⟨W0,hW0⟩:=nm_ (w.alloc (.cells #[.int .i64 5,.int .i64 0,.int .i64 0,.string s,.bool true,.slice A n c] 172));have HQ:=hng hW0 hz;have hs0:W0.heap.size=g+1:=by rw[<-hW0,Fc,hz]
 obtain⟨T,f,hne,C⟩:=Cls.mk' (hba hW0).out hG hcg;have hn:(l++[a]).length=n:=hs.1;have htb:=dp;have hnb:n<=1152921504606846976:=hs.2.1;have hcap:n<=c:=hcl A n c (by simp);rw[EY,EZ,F1]at hn;have hs1:=hs.take (k:=l.length) (by omega);rw[List.take_left' rfl]at hs1;obtain⟨b,off,dk,dO,dz,dn,da,dA,dm,dc,rfl,hrdd,hcd,hatd⟩:=C.at_ hcg hs (k:=l.length) (a:=a) (by simp);have d0:=λy=>(hatd y).1;have d1:=λy=>(hatd y).2.1;have d2:=λy=>(hatd y).2.2.1;have d3:=λy=>(hatd y).2.2.2.1;have d4:=λy=>(hatd y).2.2.2.2.1;have d5:=λy=>(hatd y).2.2.2.2.2;simp only[iw,sAt,EY,EZ,F1]at hlen;have C1:=C.li h c hs1 (by omega);have C2:=C.in_ hva ha 7 hrdd hcd (by omega);obtain⟨E,hE⟩:=nm_ (bD l);obtain⟨F,hF⟩:=nm_ (tIn 7 a);obtain⟨k,hk⟩:=nm_ (l.length);rw[hE]at C1 hlen⊢;rw[hF]at C2 hlen⊢;simp only[hk]at d0 d1 d2 d3 d4 d5 C1 hn;have a1:=aw ⟨#[110,101,119,32]⟩ s [110,101,119,32] s.data.toList;have a2:=aw (ba ([110,101,119,32]++s.data.toList)) ⟨#[40]⟩ ([110,101,119,32]++s.data.toList) [40];have a3:=aw (ba ([110,101,119,32]++s.data.toList++[40])) (ba E) ([110,101,119,32]++s.data.toList++[40]) E;have a4:=aw (ba ([110,101,119,32]++s.data.toList++[40]++E)) ⟨#[41,32,97,116,32]⟩ ([110,101,119,32]++s.data.toList++[40]++E) [41,32,97,116,32];have a5:=aw (ba ([110,101,119,32]++s.data.toList++[40]++E++[41,32,97,116,32])) (ba F) ([110,101,119,32]++s.data.toList++[40]++E++[41,32,97,116,32]) F;simp only[Fe,Fq,Fs]at a1 a2 a3 a4 a5;subst hn;obtain⟨q0,q1,q2,q3,q4,q5⟩:=HQ.out.c6;have e3:=λy=>(HQ.out.below (C.fr y) (by omega)).k3;have e4:=λy=>(HQ.out.below (C.fr y) (by omega)).k4;have e5:=λy=>(HQ.out.below (C.fr y) (by omega)).k5;have HF:=H_ C.fr0;have HCOV:=H_ C.cov;have HW:=H_ hW0;clear hr hcl hs hG hcg hlen hW0 C HQ hE hF hs1 hatd hrdd hcd hk h ha;go_enter Tryz.func169,Tryz.ntmps169;rw[hz];go_upto_region 1 with fail;rw[HW.out];go_upto_region 15 with fail;refine ai f (by kernel_rfl) (by kernel_rfl) (HCOV.out _ (Fb _ _).drew) ?_;repeat (go_big_quiet_step (first|(go_at_call 171;exact C1.out _)|(go_at_call 170;exact C2.out _)))
 refine FO ?_;rintro _ ⟨y,rfl⟩;go_wp2_with fail;go_ret;exact⟨by first|rfl|(simp[iw,sAt];done),hz▸HF.out y⟩
theorem Ab{b:Ex}(ho:o<=12)(h4:av (o:Int)=4)(hva:vE a=true)(hvb:vE b=true)(ha:eC a)(hb:eC b):eC (cA o a b):=by
 intro cs w G hr hcl hG hcg hlen;rw[pl,h4,Ft rfl,show(4+1:Nat)=5 from rfl]at hlen⊢;obtain⟨A,n,c,rfl,hs⟩:=ExK.inv (show ExK w G (.mk 10 (o:Int) 0 ⟨#[]⟩ false [a,b]) cs from hr);obtain⟨g,hz⟩:=nm_ (w.heap.size);obtain⟨W0,hW0⟩:=nm_ (w.alloc (.cells #[.int .i64 10,.int .i64 (o:Int),.int .i64 0,.string ⟨#[]⟩,.bool false,.slice A n c] 172));have HQ:=hng hW0 hz;have hs0:W0.heap.size=g+1:=by rw[<-hW0,Fc,hz]
 obtain⟨T,f,hne,C⟩:=Cls.mk' (hba hW0).out hG hcg;have hn:2=n:=hs.1;have htb:=dp;obtain⟨bb,off,dk,dO,dz,dn,da,dA,dm,dc,rfl,hrdd,hcd,hatd⟩:=C.at_ hcg hs (k:=0) rfl;simp only[Nat.zero_mul,FV,FM]at hatd;have d0:=λy=>(hatd y).1;have d1:=λy=>(hatd y).2.1;have d2:=λy=>(hatd y).2.2.1;have d3:=λy=>(hatd y).2.2.2.1;have d4:=λy=>(hatd y).2.2.2.2.1;have d5:=λy=>(hatd y).2.2.2.2.2;obtain⟨b2,off2,xk,xo,xz,xn,xa,xA,xm,xc,hab,hrdx,hcx,hatx⟩:=C.at_ hcg hs (k:=1) rfl;simp only[Option.some.injEq,Addr.mk.injEq,FC]at hab;obtain⟨rfl,rfl⟩:=hab;simp only[Nat.zero_mul,FV,FM]at hatx;have x0:=λy=>(hatx y).1;have x1:=λy=>(hatx y).2.1;have x2:=λy=>(hatx y).2.2.1;have x3:=λy=>(hatx y).2.2.2.1;have x4:=λy=>(hatx y).2.2.2.2.1;have x5:=λy=>(hatx y).2.2.2.2.2;simp only[EY,EZ,F1]at hlen;have C1:=C.in_ hva ha 5 hrdd hcd (by omega);have C2:=C.in_ hvb hb 5 hrdx hcx (by omega);have C3:Hid (∀y,Calls Tryz.prog 240 #[.int .i64 (o:Int)] (f y) λe w''=>e= .returned (.string (bc o))/\∃z,w''=f z):=H_ λy=>(xd o (f y) ho).mono λe w'' ⟨h1,h2⟩=>⟨h1,C.cov _ ((C.fr y).trans (h2.mono (C.fr y).size))⟩;have C4:=H_ (sS o W0 ho);rw[h4]at C4;obtain⟨E,hE⟩:=nm_ (tIn 5 a);obtain⟨F,hF⟩:=nm_ (tIn 5 b);rw[hE]at C1 hlen⊢;rw[hF]at C2 hlen⊢;generalize bc o=S at*
 have a1:=aw (ba E) ⟨#[32]⟩ E [32];have a2:=aw (ba (E++[32])) S (E++[32]) S.data.toList;have a3:=aw (ba (E++[32]++S.data.toList)) ⟨#[32]⟩ (E++[32]++S.data.toList) [32];have a4:=aw (ba (E++[32]++S.data.toList++[32])) (ba F) (E++[32]++S.data.toList++[32]) F;simp only[Fe,Fq,Fs]at a1 a2 a3 a4;subst hn;obtain⟨q0,q1,q2,q3,q4,q5⟩:=HQ.out.c6;have e1:=λy=>(HQ.out.below (C.fr y) (by omega)).k1;have e5:=λy=>(HQ.out.below (C.fr y) (by omega)).k5;have HF:=H_ C.fr0;have HCOV:=H_ C.cov;have HW:=H_ hW0;clear hr hs hcl hG hcg hlen hW0 C HQ hE hF hatd hrdd hcd hatx hrdx hcx ha hb hva hvb h4;go_enter Tryz.func169,Tryz.ntmps169;rw[hz];go_upto_region 1 with fail;rw[HW.out];go_wp2_with fail;refine C4.out.mono ?_;rintro r w1 ⟨rfl,rfl⟩;go_upto_region 27 with fail;refine ai f (by kernel_rfl) (by kernel_rfl) (HCOV.out _ (Fb _ _).drew) ?_;repeat (go_big_quiet_step (first|(go_at_call 240;exact C3.out _)|(go_at_call_of 170 (Value.agg #[.int .i64 dk,.int .i64 dO,.int .i64 dz,.string dn,.bool da,.slice dA dm dc]);exact C1.out _)|(go_at_call_of 170 (Value.agg #[.int .i64 xk,.int .i64 xo,.int .i64 xz,.string xn,.bool xa,.slice xA xm xc]);exact C2.out _)))
 refine FO ?_;rintro _ ⟨y,rfl⟩;go_wp2_with fail;go_ret;exact⟨by first|rfl|(simp[iw,sAt];done),hz▸HF.out y⟩
theorem Aa{b:Ex}(ho:o<=12){q:Nat}(hq:av (o:Int)=q)(h4:¬q=4)(hva:vE a=true)(hvb:vE b=true)(ha:eC a)(hb:eC b):eC (cA o a b):=by
 intro cs w G hr hcl hG hcg hlen;rw[pl,hq,Fg h4]at hlen⊢;obtain⟨A,n,c,rfl,hs⟩:=ExK.inv (show ExK w G (.mk 10 (o:Int) 0 ⟨#[]⟩ false [a,b]) cs from hr);obtain⟨g,hz⟩:=nm_ (w.heap.size);obtain⟨W0,hW0⟩:=nm_ (w.alloc (.cells #[.int .i64 10,.int .i64 (o:Int),.int .i64 0,.string ⟨#[]⟩,.bool false,.slice A n c] 172));have HQ:=hng hW0 hz;have hs0:W0.heap.size=g+1:=by rw[<-hW0,Fc,hz]
 obtain⟨T,f,hne,C⟩:=Cls.mk' (hba hW0).out hG hcg;have hn:2=n:=hs.1;have htb:=dp;obtain⟨bb,off,dk,dO,dz,dn,da,dA,dm,dc,rfl,hrdd,hcd,hatd⟩:=C.at_ hcg hs (k:=0) rfl;simp only[Nat.zero_mul,FV,FM]at hatd;have d0:=λy=>(hatd y).1;have d1:=λy=>(hatd y).2.1;have d2:=λy=>(hatd y).2.2.1;have d3:=λy=>(hatd y).2.2.2.1;have d4:=λy=>(hatd y).2.2.2.2.1;have d5:=λy=>(hatd y).2.2.2.2.2;obtain⟨b2,off2,xk,xo,xz,xn,xa,xA,xm,xc,hab,hrdx,hcx,hatx⟩:=C.at_ hcg hs (k:=1) rfl;simp only[Option.some.injEq,Addr.mk.injEq,FC]at hab;obtain⟨rfl,rfl⟩:=hab;simp only[Nat.zero_mul,FV,FM]at hatx;have x0:=λy=>(hatx y).1;have x1:=λy=>(hatx y).2.1;have x2:=λy=>(hatx y).2.2.1;have x3:=λy=>(hatx y).2.2.2.1;have x4:=λy=>(hatx y).2.2.2.2.1;have x5:=λy=>(hatx y).2.2.2.2.2;simp only[EY,EZ,F1]at hlen;have C1:=C.in_ hva ha q hrdd hcd (by omega);have C2:=C.in_ hvb hb (q+1) hrdx hcx (by omega);have C3:Hid (∀y,Calls Tryz.prog 240 #[.int .i64 (o:Int)] (f y) λe w''=>e= .returned (.string (bc o))/\∃z,w''=f z):=H_ λy=>(xd o (f y) ho).mono λe w'' ⟨h1,h2⟩=>⟨h1,C.cov _ ((C.fr y).trans (h2.mono (C.fr y).size))⟩;have C4:=H_ (sS o W0 ho);rw[hq]at C4;obtain⟨E,hE⟩:=nm_ (tIn q a);obtain⟨F,hF⟩:=nm_ (tIn (q+1) b);rw[hE]at C1 hlen⊢;rw[hF]at C2 hlen⊢;generalize bc o=S at*
 have a1:=aw (ba E) ⟨#[32]⟩ E [32];have a2:=aw (ba (E++[32])) S (E++[32]) S.data.toList;have a3:=aw (ba (E++[32]++S.data.toList)) ⟨#[32]⟩ (E++[32]++S.data.toList) [32];have a4:=aw (ba (E++[32]++S.data.toList++[32])) (ba F) (E++[32]++S.data.toList++[32]) F;simp only[Fe,Fq,Fs]at a1 a2 a3 a4;have hq4:¬(q:Int)=4:=by omega
 have hqs:q<=9:=by have:=eV o ho;omega
 subst hn;obtain⟨q0,q1,q2,q3,q4,q5⟩:=HQ.out.c6;have e1:=λy=>(HQ.out.below (C.fr y) (by omega)).k1;have e5:=λy=>(HQ.out.below (C.fr y) (by omega)).k5;have HF:=H_ C.fr0;have HCOV:=H_ C.cov;have HW:=H_ hW0;clear hr hs hcl hG hcg hlen hW0 C HQ hE hF hatd hrdd hcd hatx hrdx hcx ha hb hva hvb hq h4;go_enter Tryz.func169,Tryz.ntmps169;rw[hz];go_upto_region 1 with fail;rw[HW.out];go_wp2_with fail;refine C4.out.mono ?_;rintro r w1 ⟨rfl,rfl⟩;go_upto_region 28 with fail;refine ai f (by kernel_rfl) (by kernel_rfl) (HCOV.out _ (Fb _ _).drew) ?_;repeat (go_big_quiet_step (first|(go_at_call 240;exact C3.out _)|(go_at_call_of 170 (Value.agg #[.int .i64 dk,.int .i64 dO,.int .i64 dz,.string dn,.bool da,.slice dA dm dc]);exact C1.out _)|(go_at_call_of 170 (Value.agg #[.int .i64 xk,.int .i64 xo,.int .i64 xz,.string xn,.bool xa,.slice xA xm xc]);exact C2.out _)))
 refine FO ?_;rintro _ ⟨y,rfl⟩;go_wp2_with fail;go_ret;exact⟨by first|rfl|(simp[iw,sAt];done),hz▸HF.out y⟩
theorem de:∀(n:Nat) (e:Ex),esz e<=n->vE e=true->eC e:=by
 intro n;induction n with
 |zero=>intro e hn;have:=bJ e;omega
 |succ n ih=>
  intro e hn hv;rcases db hv with⟨z,rfl,h0,h1⟩|rfl|rfl|⟨s,rfl,_⟩|⟨s,a,rfl,_,hva⟩|⟨s,l,rfl,_,hl⟩|⟨s,l,a,rfl,_,hl,hva⟩|⟨k,a,hk,rfl,hva⟩|⟨o,a,b,ho,rfl,hva,hvb⟩
  ·exact wW h0 h1
  ·exact kS (.inl ⟨rfl,rfl,rfl⟩) sc
  ·exact kS (.inr (.inl ⟨rfl,rfl,rfl⟩)) pi
  ·exact kS (.inr (.inr ⟨rfl,rfl⟩)) (pj s)
  ·have h:=cU 4 0 0 s false [a];exact rX hva (ih a (by unfold aU at hn;have:=bq esz (xs:=[a]) (k:=0) (x:=a) rfl;omega) hva)
  ·have h:=cU 5 0 0 s false l
   exact wU λa ha=>by
    obtain⟨k,hk⟩:=FY ha;exact ih a (by have:=bq esz hk;omega) (co hl a ha)
  ·have h:=cU 5 0 0 s true (l++[a]);refine rV hva (ih a (by have:=bq esz (xs:=l++[a]) (k:=l.length) (x:=a) (by simp);omega) hva) λx hx=>?_;obtain⟨k,hk⟩:=FY (List.mem_append_left [a] hx);exact ih x (by have:=bq esz hk;omega) (co hl x hx)
  ·have h:=cU k 0 0 ⟨#[]⟩ false [a];have ha:=ih a (by unfold eUn at hn;have:=bq esz (xs:=[a]) (k:=0) (x:=a) rfl;omega) hva;rcases hk with rfl|rfl|rfl|rfl
   ·exact uV hva ha
   ·exact wX hva ha
   ·exact wV hva ha
   ·exact wT hva ha
  ·have h:=cU 10 (o:Int) 0 ⟨#[]⟩ false [a,b];unfold cA at hn;have ha:=ih a (by have:=bq esz (xs:=[a,b]) (k:=0) (x:=a) rfl;omega) hva;have hb:=ih b (by have:=bq esz (xs:=[a,b]) (k:=1) (x:=b) rfl;omega) hvb;by_cases h4:av (o:Int)=4
   ·exact Ab ho h4 hva hvb ha hb
   ·exact Aa ho rfl h4 hva hvb ha hb
end
end
end Go.Proofs.YtjpbckbpeblibaaGreatDoor
