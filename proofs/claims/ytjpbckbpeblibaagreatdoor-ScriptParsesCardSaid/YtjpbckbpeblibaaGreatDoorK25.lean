/- part of a proof -/
import Derived.Test.YtjpbckbpeblibaaGreatDoorK24
namespace Go.Proofs.YtjpbckbpeblibaaGreatDoor
set_option linter.unusedVariables false
set_option linter.unusedSimpArgs false
set_option maxRecDepth 100000
set_option maxHeartbeats 64000000
section
open Go.RowKit
variable{W w w':World}{X k n r:Nat}{l:ByteArray}{ls:List ByteArray}{p:Ph}{u0 u1 u2 u3 u4:Value}{x:Sc}
def RdX(w:World)(X:Nat)(x:Sc):Ph->Prop
 | .conf k=>Blk w X 35 #[.int .i64 x.m,.int .u64 x.sd,.int .i64 x.y,.slice none 0 0,.slice none 0 0]/\x.cs=[]/\x.ac=[]/\k<=3
 | .src _ _=>False
 | .acts=>∃A n c u,Blk w X 35 #[.int .i64 x.m,.int .u64 x.sd,.int .i64 x.y,.slice A n c,u]/\Sl kCl w (λg=>NG (X+1) noZ w g/\u.ownBlock≠some g) x.cs A n/\Vec kAd 48 (X+1) noZ w u x.ac
def mH:Ph->Int
 | .conf k=>k
 |_=>4
theorem RdX.below(h:RdX w X x p)(hb:Below w.heap.size w w'):RdX w' X x p:=by
 cases p with
 |conf k=>exact⟨h.1.below hb h.1.lt,h.2⟩
 |src a f=>exact h.elim
 |acts=>
  obtain⟨A,n,c,u,h1,h2,h3⟩:=h;exact⟨A,n,c,u,h1.below hb h1.lt,h2.aA (λg hg=>⟨⟨hg.1.mono hb.size,hg.2⟩,hb.block g hg.1.2.1⟩),h3.aA hb.size (λg hg=>hb.block g hg.2.1)⟩
theorem RdX.aG(h:RdX w X x p):∃v3 v4,Blk w X 35 #[.int .i64 x.m,.int .u64 x.sd,.int .i64 x.y,v3,v4]:=by
 cases p with
 |conf k=>exact⟨_,_,h.1⟩
 |src a f=>exact h.elim
 |acts=>obtain⟨A,n,c,u,h1,_⟩:=h;exact⟨_,_,h1⟩
theorem qb(hp:∀a f,p≠ .src a f)(h:dI l=true):cg (l::ls) n p x=cg ls (n+1) p x:=by
 refine eQ ?_;unfold bm;cases p with
 |conf k=>simp only[h];rfl
 |src a f=>exact absurd rfl (hp a f)
 |acts=>simp only[h];rfl
theorem sE(hk:k<3)(h:dI l=false):cg (l::ls) n (.conf k) x=match bU k l with
  |none=> .err (n+1) 3
  |some v=>cg ls (n+1) (.conf (k+1)) (x.set k v):=by
 have hst:bm (n+1) l (.conf k) x=match bU k l with
  |none=> .err (n+1) 3
  |some v=> .go (.conf (k+1)) (x.set k v):=by unfold bm;simp only[h];rw[AL (by simp),AL (by omega)];cases bU k l<;>rfl
 cases hc:bU k l with
 |none=>rw[hc]at hst;exact fx hst
 |some v=>rw[hc]at hst;exact eQ hst
theorem sC(h:dI l=false):(l≠lk->cg (l::ls) n (.conf 3) x= .err (n+1) 3)/\
 (l=lk->cg (l::ls) n (.conf 3) x=match ca (cd (bT ls))with
   | .err q e=> .err (n+2+((cd (bT ls)).take q.toNat).count 10) e
   | .ok cs=>if(bT ls).length=ls.length then .err (n+2+ls.length) 3 else cg (ls.drop ((bT ls).length+1)) (n+1+(bT ls).length+1) .acts {x with cs:=cs}):=by
 refine⟨λhl=>fx (by unfold bm;simp only[h,AL hl];rfl),λhl=>?_⟩;have hst:bm (n+1) l (.conf 3) x= .go (.src [] (n+2)) x:=by unfold bm;simp only[h,hl];rfl
 rw[eQ hst];obtain⟨h1,h2⟩:=jE ls;have hsp:=(Bu (bT ls).length ls).symm;rw[h1]at hsp;rw[show cg ls (n+1) (.src [] (n+2)) x=cg (bT ls++ls.drop (bT ls).length) (n+1) (.src [] (n+2)) x by rw[<-hsp],mB _ _ _ _ _ _ h2,CC];change cg _ _ (.src (cd (bT ls)) (n+2)) x=_;rcases ll ls with he|he
 ·rw[he,List.drop_length];change(match ig (cd (bT ls)) (n+2) x with| .err q e=>SR.err q e| .go _ _=> .err (n+1+ls.length+1) 3)=_;unfold ig;cases hp:ca (cd (bT ls))with
  |err q e=>rfl
  |ok cs=>
   simp only;rw[AP trivial]
   congr 1
   omega
 ·have hlt:=(AH.1 he).1
  have hdr:ls.drop (bT ls).length=gJ::ls.drop ((bT ls).length+1):=by
   rw[Cj hlt,(AH.1 he).2]
  rw[hdr];have hs2:bm (n+1+(bT ls).length+1) gJ (.src (cd (bT ls)) (n+2)) x=ig (cd (bT ls)) (n+2) x:=by unfold bm;exact AP rfl
  cases hp:ca (cd (bT ls))with
  |err q e=>rw[fx (hs2.trans (by unfold ig;rw[hp]))]
  |ok cs=>
   rw[eQ (hs2.trans (by unfold ig;rw[hp]))];simp only;rw[AL (by omega)]
theorem uh(h:dI l=false):cg (l::ls) n .acts x=match bE (aw l)with
  |none=> .err (n+1) 3
  |some a=>cg ls (n+1) .acts {x with ac:=x.ac++[a]}:=by
 cases hc:bE (aw l)with
 |none=>exact fx (by unfold bm;simp only[h,hc];rfl)
 |some v=>exact eQ (by unfold bm;simp only[h,hc];rfl)
theorem sJ{code:Int}{a:Ad}(h:(code=0/\aR a=true/\dc a=l.data.toList)\/(code=3/\a=bc 0/\∀d,aR d=true->dc d=l.data.toList->False)):
 (code=0/\bE (aw l)=some a)\/(code=3/\bE (aw l)=none):=by
 rcases h with⟨rfl,hv,hf⟩|⟨rfl,_,hno⟩
 ·refine .inl ⟨rfl,?_⟩;have:=sS a (kS hv).1 hv;rwa[<-rZ hf.symm]at this
 ·refine .inr ⟨rfl,?_⟩;cases hp:bE (aw l)with
  |none=>rfl
  |some d=>
   obtain⟨h1,h2⟩:=oO hp;exact(hno d h1 h2).elim
theorem results9(tmps:Array Value)(W:World)(r:Nat)(v0 v1 v2 v3 v4 u1 u2:Value)(hr:Blk W r 35 #[v0,v1,v2,v3,v4])(h2:tmps.getD 2 undef= .pointer (some ⟨r,0,none⟩))(h3:tmps.getD 3 undef=u1)(h4:tmps.getD 4 undef=u2):
 (results Tryz.f9 tmps).run Tryz.prog W= .ok (.tuple #[.agg #[v0,v1,v2,v3,v4],u1,u2]) W:=by
 have g0:=hr.cell 0;have g1:=hr.cell 1;have g2:=hr.cell 2;have g3:=hr.cell 3;have g4:=hr.cell 4;have e2:tmps[2]?.getD undef= .pointer (some ⟨r,0,none⟩):=by simpa using h2
 have e3:tmps[3]?.getD undef=u1:=by simpa using h3
 have e4:tmps[4]?.getD undef=u2:=by simpa using h4
 simp[results,Tryz.results9,go_sem,e2,e3,e4,asAddr,g0,g1,g2,g3,g4]
theorem oF{t:TypeId}(h:Blk W r t #[u0,u1,u2,u3,u4])(a b c d e:Value):Blk (((((W.setCell ⟨r,0,none⟩ a).setCell ⟨r,1,none⟩ b).setCell ⟨r,2,none⟩ c).setCell ⟨r,3,none⟩ d).setCell ⟨r,4,none⟩ e) r t #[a,b,c,d,e]:=by
 have g:=((((h.set 0 a).set 1 b).set 2 c).set 3 d).set 4 e;simp only[Bw,Cc,Cb]at g;exact g
theorem gN{S:Nat}(h:Below S w W)(hr:S<=r)(a b c d e:Value):Below S w (((((W.setCell ⟨r,0,none⟩ a).setCell ⟨r,1,none⟩ b).setCell ⟨r,2,none⟩ c).setCell ⟨r,3,none⟩ d).setCell ⟨r,4,none⟩ e):=
 ((((h.setCell (p:=⟨r,0,none⟩) hr a).setCell (p:=⟨r,1,none⟩) hr b).setCell (p:=⟨r,2,none⟩) hr c).setCell (p:=⟨r,3,none⟩) hr d).setCell (p:=⟨r,4,none⟩) hr e
def HRv(k:Nat)(l:ByteArray)(x:Sc)(a b c:Int):Prop:=∀n,bU k l=some n->a=(x.set k n).m/\b=(x.set k n).sd/\c=(x.set k n).y
theorem HeadP.told{e:Ending}(h:HeadP k l x w e w'):Below w.heap.size w w'/\∃a b c,e= .returned (.tuple #[.agg #[.int .i64 a,.int .u64 b,.int .i64 c],.bool (bU k l).isSome])/\HRv k l x a b c:=by
 refine⟨h.1,?_⟩;rcases h.2 with⟨hn,a,b,c,rfl⟩|⟨n,hn,rfl⟩
 ·exact⟨a,b,c,by rw[hn];rfl,λn h=>by rw[hn]at h;cases h⟩
 ·exact⟨_,_,_,by rw[hn];rfl,λm h=>by rw[hn]at h;cases h;exact⟨rfl,rfl,rfl⟩⟩
def F9r(X g off n c i k S:Nat)(l:ByteArray)(x:Sc)(j:Nat)(xs:Nat->Option Value)(W:World):Prop:=match j with
 |0=>xs 0=some (.pointer (some ⟨X,0,none⟩))
 |1=>xs 1=some (.agg #[.int .i64 x.m,.int .u64 x.sd,.int .i64 x.y])
 |2=>xs 2=some (.int .i64 (k:Int))
 |3=>xs 3=some (.slice (some ⟨g,off,none⟩) n c)
 |4=>xs 4=some (.int .i64 (i:Int))
 |5=>xs 5=some (.pointer (some ⟨g,off+i,none⟩))
 |6=>xs 6=some (.string l)
 |7=>∃a b c,xs 7=some (.tuple #[.agg #[.int .i64 a,.int .u64 b,.int .i64 c],.bool (bU k l).isSome])/\HRv k l x a b c
 |8=>∃a b c,xs 8=some (.tuple #[.agg #[.int .i64 a,.int .u64 b,.int .i64 c],.bool (bU k l).isSome])/\HRv k l x a b c
 |9=>∃a b c,xs 9=some (.agg #[.int .i64 a,.int .u64 b,.int .i64 c])/\HRv k l x a b c
 |10=>xs 10=some (.bool (bU k l).isSome)
 |11=>∃N u0 u1 u2,xs 11=some (.pointer (some ⟨N,0,none⟩))/\S<=N/\Blk W N 25 #[u0,u1,u2]
 |12=>∃N a b c,xs 11=some (.pointer (some ⟨N,0,none⟩))/\S<=N/\Blk W N 25 #[.int .i64 a,.int .u64 b,.int .i64 c]/\HRv k l x a b c
 |13=>xs 13=some (.bool (bU k l).isSome)
 |_=>True
def xS(k j:Nat):Bool:=k==12&&j==11
theorem F9r.aA{g off c i S j m:Nat}{xs:Nat->Option Value}{v:Option Value}{W':World}(hne:j≠m)(hd:xS j m=false)(h:F9r X g off n c i k S l x j xs W)
 (hA:∀N u0 u1 u2,xs 11=some (.pointer (some ⟨N,0,none⟩))->S<=N->Blk W N 25 #[u0,u1,u2]->(∃v0 v1 v2,Blk W' N 25 #[v0,v1,v2])/\(m≠12->Blk W' N 25 #[u0,u1,u2])):F9r X g off n c i k S l x j (au xs m v) W':=by
 by_cases hj:j<14
 rotate_left
 ·obtain⟨q,rfl⟩:∃q,j=q+14:=⟨j-14,by omega⟩;trivial
 obtain rfl|rfl|rfl|rfl|rfl|rfl|rfl|rfl|rfl|rfl|rfl|rfl|rfl|rfl:j=0\/j=1\/j=2\/j=3\/j=4\/j=5\/j=6\/j=10\/j=13\/j=7\/j=8\/j=9\/j=11\/j=12:=by omega
 rotate_right 5
 ·obtain⟨a,b,c',h1,h2⟩:=h;exact⟨a,b,c',(aV xs v hne).trans h1,h2⟩
 ·obtain⟨a,b,c',h1,h2⟩:=h;exact⟨a,b,c',(aV xs v hne).trans h1,h2⟩
 ·obtain⟨a,b,c',h1,h2⟩:=h;exact⟨a,b,c',(aV xs v hne).trans h1,h2⟩
 ·obtain⟨N,u0,u1,u2,h1,h2,h3⟩:=h;obtain⟨v0,v1,v2,h4⟩:=(hA N u0 u1 u2 h1 h2 h3).1;exact⟨N,v0,v1,v2,(aV xs v hne).trans h1,h2,h4⟩
 ·obtain⟨N,a,b,c',h1,h2,h3,h4⟩:=h;have hm:11≠m:=λe=>by subst e;exact absurd hd (by decide)
  exact⟨N,a,b,c',(aV xs v hm).trans h1,h2,(hA N _ _ _ h1 h2 h3).2 (λe=>hne e.symm),h4⟩
 all_goals exact(aV xs v hne).trans h
theorem Blk.fac5{b:Nat}{t:TypeId}(h:Blk w b t #[u0,u1,u2,u3,u4]):(w.cell? ⟨b,0,none⟩=some u0/\w.cell? ⟨b,1,none⟩=some u1/\w.cell? ⟨b,2,none⟩=some u2/\w.cell? ⟨b,3,none⟩=some u3/\w.cell? ⟨b,4,none⟩=some u4)/\
 w.frozen? ⟨b,0,none⟩=false/\w.frozen? ⟨b,1,none⟩=false/\w.frozen? ⟨b,2,none⟩=false/\w.frozen? ⟨b,3,none⟩=false/\w.frozen? ⟨b,4,none⟩=false:=
 ⟨⟨h.cell 0,h.cell 1,h.cell 2,h.cell 3,h.cell 4⟩,h.frozen 0,h.frozen 1,h.frozen 2,h.frozen 3,h.frozen 4⟩
theorem yL{t:TypeId}(h:Blk W r t #[u0,u1,u2,u3,u4])(a b c:Value):Blk (((W.setCell ⟨r,0,none⟩ a).setCell ⟨r,1,none⟩ b).setCell ⟨r,2,none⟩ c) r t #[a,b,c,u3,u4]:=by
 have g:=((h.set 0 a).set 1 b).set 2 c;simp only[Bw,Cc,Cb]at g;exact g
theorem Sc.aP(x:Sc)(k n:Nat):(x.set k n).cs=x.cs/\(x.set k n).ac=x.ac:=by
 match k with
 |0|1|_+2=>exact⟨rfl,rfl⟩
theorem xI(ls:List ByteArray)(k:Nat):(cd (bT (ls.drop k))).length<=(cd ls).length:=by
 have h1:=(jE (ls.drop k)).1
 have h2:cd ls=cd (ls.take k)++(cd (bT (ls.drop k))++cd ((ls.drop k).drop (bT (ls.drop k)).length)):=by
  unfold cd;rw[<-Cx,<-Cx]
  congr 1
  conv=>rhs;arg 2;arg 1;rw[<-h1]
  rw[Bu,Bu]
 rw[h2,AT,AT];omega
theorem ScrP.err{s:ByteArray}{q:Nat}{er:Int}(h:bn s= .err q er)(he:er≠0)(hb:Below w.heap.size w W):ScrP s w (.returned (.tuple #[zSv,.int .i64 (q:Int),.int .i64 er])) W:=by
 refine⟨hb,?_⟩;rw[h];exact⟨rfl,he⟩
theorem yT(s:ByteArray)(w:World)(hg:Gl w)(hs:s.size<=2000)(hls:∀l∈ag s,l.size<=3000)(hm:(ag s).length<3000)(hgl:(cd (ag s)).length<=100000):Calls Tryz.prog 9 #[.string s] w (ScrP s w):=by
 obtain⟨p,hp⟩:=nm_ (w.heap.size);obtain⟨w0,hw0⟩:=nm_ (w.alloc (.cells #[.int .i64 0,.int .u64 0,.int .i64 0,.slice none 0 0,.slice none 0 0] 35));have b0:Below p w w0:=hw0▸(AC _ _).alloc (by omega) _;have R0:Blk w0 p 35 #[.int .i64 0,.int .u64 0,.int .i64 0,.slice none 0 0,.slice none 0 0]:=hw0▸hp▸Blk.new w 35 _;have hs0:w0.heap.size=p+1:=by rw[<-hw0,<-hp];simp
 have HL:=H_ (xj s w0 hs hm);have HQ:=H_ (And.intro R0 b0);have HW:=H_ hw0;have HG:=H_ hg;obtain⟨ls,hlse⟩:=nm_ (ag s);have hsc0:bn s=cg ls 0 (.conf 0) zSc:=by rw[<-hlse];rfl
 have HSC:=H_ hsc0;rw[hlse]at HL hls hm hgl;clear R0 b0 hw0 hg hsc0 hlse;go_enter Tryz.func9,Tryz.ntmps9;go_upto_region 1 with fail;rw[HW.out];go_wp2_with fail;refine HL.out.mono ?_;rintro e w1 ⟨A,c,rfl,hst,b1⟩;obtain⟨n,hn⟩:=nm_ (ls.length);rw[hn]at hst hm⊢;have hs1:=b1.size;obtain⟨X,hX⟩:=nm_ (w1.heap.size);obtain⟨w2,hw2⟩:=nm_ (w1.alloc (.cells #[.int .i64 0,.int .u64 0,.int .i64 0,.slice none 0 0,.slice none 0 0] 35));have b2:=bal hw2;have hs2:w2.heap.size=X+1:=by rw[<-hw2,<-hX];simp
 have hpX:p<X:=by omega
 have HX2:=H_ (show Blk w2 X 35 #[.int .i64 0,.int .u64 0,.int .i64 0,.slice none 0 0,.slice none 0 0]from hw2▸hX▸Blk.new w1 35 _);have HR2:=H_ ((HQ.out.1.below b1 (by omega)).below b2 (by omega));have HST:=H_ (show Strs w2 X A n ls from hX▸hst.below b2);have HB2:=H_ ((HQ.out.2.trans (b1.mono (by omega))).trans (b2.mono (by omega)));have HW2:=H_ hw2;clear hst b1 b2 hw2 HQ HL;go_upto_region 5 with fail;rw[HW2.out];try rw[hX]
 go_loopw [7,8] (λpt en wr=>∃(i:Nat) (ph:Ph) (x:Sc),i<=n/\en= .int .i64 (i:Int)/\pt= .int .i64 (mH ph)/\Hid (bn s=cg (ls.drop i) i ph x)/\Hid (RdX wr X x ph)/\Hid (Below X w2 wr)/\x.ac.length<=i/\∀a f,ph≠ .src a f) (λ_ en _=>n-(intOf en).toNat)
 case atStart=>exact⟨0,.conf 0,zSc,AM _,rfl,rfl,HSC,H_ ⟨HX2.out,rfl,rfl,AM _⟩,H_ (AC _ _),AM _,λa f e=>by cases e⟩
 case round=>
  obtain⟨i,ph,x,hi,rfl,rfl,HS,HR,HB,hac,hph⟩:=hrel;have hbs:=HB.out.size;by_cases him:i<n
  ·have hiz:(i:Int)<(n:Int):=by omega
   obtain⟨g,off,l,rfl,hgX,hl,hc⟩:=(HST.out.below HB.out).at_ him;have hlm:=hls l (AJ hl)
   have hdr:ls.drop i=l::ls.drop (i+1):=by
    obtain⟨h1,h2⟩:=AH.1 hl;rw[Cj h1,h2]
   rw[hdr]at HS;have HC:=H_ (And.intro hgX hc);have HK:=H_ (yI l wr);clear hl hdr;cases hsk:dI l with
   |true=>
    rw[hsk]at HK;have HS2:=H_ (HS.out.trans (qb hph hsk));have hcc:=HC.out.2;have hwi:IntKind.i64.wrap ((i:Int)+1)=((i+1:Nat):Int):=by rw[AY _ (by omega)];rfl
    clear HS hsk;go_wp2_with fail;refine HK.out.mono ?_;rintro e wr' ⟨rfl,rfl⟩;go_wp2_with fail;go_roundw
    case rel=>exact⟨i+1,ph,x,by omega,by go_num,rfl,HS2,HR,HB,by omega,hph⟩
    case measure=>simp[intOf];omega
   |false=>
    rw[hsk]at HK;cases ph with
    |src a f=>exact absurd rfl (hph a f)
    |conf k=>
     have hpx:mH (.conf k)=(k:Int):=rfl;have hk3:=HR.out.2.2.2;have hcc:=HC.out.2;by_cases hk:k<3
     ·have hkz:(k:Int)<3:=by omega
      have HS2:=H_ (HS.out.trans (sE hk hsk));have HH:=H_ (λW=>zv k hk l x W (by omega));clear HS hsk;go_wp2_with fail;refine HK.out.mono ?_;rintro e wr' ⟨rfl,rfl⟩;clear hcc;go_upto_region 9 with fail;have hbs':X<=wr'.heap.size:=by omega
      obtain⟨v3,v4,hXb⟩:=HR.out.aG;have HXB:=H_ hXb;have hXl:=hXb.lt;clear hXb
      refine dR (λxs=>{tmps:= #[.string s,undef,.pointer (some ⟨p,0,none⟩),u3,u4,.slice (some ⟨g,off,none⟩) n c,.pointer (some ⟨X,0,none⟩),.int .i64 (k:Int),.int .i64 (i:Int),(xs 11).getD u9,(xs 13).getD u10,u11,u12,u13,u14,u15,.string s,.slice (some ⟨g,off,none⟩) n c,.agg #[.int .i64 0,.int .u64 0,.int .i64 0,.slice none 0 0,.slice none 0 0],.int .i64 (i:Int),.slice (some ⟨g,off,none⟩) n c,.int .i64 ↑n,.bool true,.slice (some ⟨g,off,none⟩) n c,.int .i64 (i:Int),.pointer (some ⟨g,off+i,none⟩),.string l,.bool false,u28,u29,.int .i64 (k:Int),.bool true,(xs 8).getD u32,(xs 0).getD u33,(xs 1).getD u34,(xs 2).getD u35,(xs 3).getD u36,(xs 4).getD u37,(xs 5).getD u38,(xs 6).getD u39,(xs 7).getD u40,(xs 9).getD u41,(xs 10).getD u42,u43,u44,u45,u46,u47,u48,u49,u50,u51,u52,u53,u54,u55,u56,u57,u58,u59,u60,u61,u62,u63,u64,u65,u66,u67,u68,u69,u70,u71,u72,u73,u74,u75,u76,u77,u78,u79,u80,u81,u82,u83,u84,u85,u86,u87,u88,u89,u90,u91,u92,u93,u94,u95,u96,u97,u98,u99,u100,u101,u102,undef,undef,undef,undef,undef,undef,undef],defers:=[]}) (λ_=>none) (λ_ W=>Below wr'.heap.size wr' W) (F9r X g off n c i k wr'.heap.size l x) xS
       (by kernel_rfl) (by kernel_rfl) ?_ rfl (AC _ _).drew ?_ ?_
      ·intro k' j' hk' hd;unfold xS at hd;simp only[Ba,CE]at hd;obtain⟨rfl,rfl⟩:=hd;kernel_rfl
      ·intro i' hi' xs W hJ hno _ hd
       have still:∀(v:Value) (W':World),Below W.heap.size W W'->∀k':Nat,k'≠i'->xS k' i'=false->i'≠12->F9r X g off n c i k wr'.heap.size l x k' xs W->F9r X g off n c i k wr'.heap.size l x k' (au xs i' (some v)) W':=
        λv W' hb k' h1 h2 _ h=>h.aA h1 h2 (λN u0 u1 u2 _ _ hq=>⟨⟨_,_,_,hq.below hb hq.lt⟩,λ_=>hq.below hb hq.lt⟩)
       have HST':=H_ still;have HJ:=H_ hJ;clear still hJ;obtain rfl|rfl|rfl|rfl|rfl|rfl|rfl|rfl|rfl|rfl|rfl|rfl|rfl|rfl:i'=0\/i'=1\/i'=2\/i'=3\/i'=4\/i'=5\/i'=6\/i'=7\/i'=8\/i'=9\/i'=10\/i'=11\/i'=12\/i'=13:=by have:i'<14:=hi';omega
       ·refine AE rfl λK hK=>?_;go_simp;exact hK _ _ ⟨some (.pointer (some ⟨X,0,none⟩)),rfl,HJ.out,rfl,λk' h1 h2 h=>HST'.out _ _ (AC _ _) k' h1 h2 (by decide) h⟩
       ·have e0:xs 0=some (.pointer (some ⟨X,0,none⟩)):=hd 0;have hX2:=HXB.out.below HJ.out hXl;have x0:=hX2.cell 0;have x1:=hX2.cell 1;have x2:=hX2.cell 2;clear hX2;refine AE rfl λK hK=>?_;go_simp;exact hK _ _ ⟨some (.agg #[.int .i64 x.m,.int .u64 x.sd,.int .i64 x.y]),by simp only[au,e0];rfl,HJ.out,rfl,λk' h1 h2 h=>HST'.out _ _ (AC _ _) k' h1 h2 (by decide) h⟩
       ·refine AE rfl λK hK=>?_;go_simp;exact hK _ _ ⟨some (.int .i64 (k:Int)),rfl,HJ.out,rfl,λk' h1 h2 h=>HST'.out _ _ (AC _ _) k' h1 h2 (by decide) h⟩
       ·refine AE rfl λK hK=>?_;go_simp;exact hK _ _ ⟨some (.slice (some ⟨g,off,none⟩) n c),rfl,HJ.out,rfl,λk' h1 h2 h=>HST'.out _ _ (AC _ _) k' h1 h2 (by decide) h⟩
       ·refine AE rfl λK hK=>?_;go_simp;exact hK _ _ ⟨some (.int .i64 (i:Int)),rfl,HJ.out,rfl,λk' h1 h2 h=>HST'.out _ _ (AC _ _) k' h1 h2 (by decide) h⟩
       ·have e3:xs 3=some (.slice (some ⟨g,off,none⟩) n c):=hd 3;have e4:xs 4=some (.int .i64 (i:Int)):=hd 4;refine AE rfl λK hK=>?_;go_simp;exact hK _ _ ⟨some (.pointer (some ⟨g,off+i,none⟩)),by simp only[au,e3,e4];rfl,HJ.out,rfl,λk' h1 h2 h=>HST'.out _ _ (AC _ _) k' h1 h2 (by decide) h⟩
       ·have e5:xs 5=some (.pointer (some ⟨g,off+i,none⟩)):=hd 5;have da:=(a8 HJ.out (by have:=HC.out.1;omega) _).trans HC.out.2;refine AE rfl λK hK=>?_;go_simp;exact hK _ _ ⟨some (.string l),by simp only[au,e5];rfl,HJ.out,rfl,λk' h1 h2 h=>HST'.out _ _ (AC _ _) k' h1 h2 (by decide) h⟩
       ·have e1:xs 1=some (.agg #[.int .i64 x.m,.int .u64 x.sd,.int .i64 x.y]):=hd 1;have e2:xs 2=some (.int .i64 (k:Int)):=hd 2;have e6:xs 6=some (.string l):=hd 6;refine AE rfl λK hK=>?_;go_simp;refine(HH.out W).mono ?_;intro e W' hp';obtain⟨hb',a,b,cc,rfl,hrv⟩:=hp'.told;exact hK _ _ ⟨some (.tuple #[.agg #[.int .i64 a,.int .u64 b,.int .i64 cc],.bool (bU k l).isSome]),by simp only[au,e1,e2,e6];rfl,HJ.out.trans (hb'.mono HJ.out.size),⟨a,b,cc,rfl,hrv⟩,λk' h1 h2 h=>HST'.out _ _ hb' k' h1 h2 (by decide) h⟩
       ·obtain⟨a,b,cc,e7,hrv⟩:=hd 7;have HRV:=H_ hrv;clear hrv;refine AE rfl λK hK=>?_;go_simp;exact hK _ _ ⟨some (.tuple #[.agg #[.int .i64 a,.int .u64 b,.int .i64 cc],.bool (bU k l).isSome]),by simp only[au,e7];rfl,HJ.out,⟨a,b,cc,rfl,HRV.out⟩,λk' h1 h2 h=>HST'.out _ _ (AC _ _) k' h1 h2 (by decide) h⟩
       ·obtain⟨a,b,cc,e8,hrv⟩:=hd 8;have HRV:=H_ hrv;clear hrv;refine AE rfl λK hK=>?_;go_simp;exact hK _ _ ⟨some (.agg #[.int .i64 a,.int .u64 b,.int .i64 cc]),by simp only[au,e8];rfl,HJ.out,⟨a,b,cc,rfl,HRV.out⟩,λk' h1 h2 h=>HST'.out _ _ (AC _ _) k' h1 h2 (by decide) h⟩
       ·obtain⟨a,b,cc,e8,hrv⟩:=hd 8;clear hrv;refine AE rfl λK hK=>?_;go_simp;exact hK _ _ ⟨some (.bool (bU k l).isSome),by simp only[au,e8];rfl,HJ.out,rfl,λk' h1 h2 h=>HST'.out _ _ (AC _ _) k' h1 h2 (by decide) h⟩
       ·have hbn:=(AC W.heap.size W).alloc (AB _) (.cells #[.int .i64 0,.int .u64 0,.int .i64 0] 25);have HN:=H_ hbn;have hq:=H_ (Blk.new W 25 #[.int .i64 0,.int .u64 0,.int .i64 0]);clear hbn;refine AE rfl λK hK=>?_;go_simp;exact hK _ _ ⟨some (.pointer (some ⟨W.heap.size,0,none⟩)),rfl,HJ.out.trans (HN.out.mono HJ.out.size),⟨W.heap.size,_,_,_,bO _ _ _,HJ.out.size,hq.out⟩,λk' h1 h2 h=>HST'.out _ _ HN.out k' h1 h2 (by decide) h⟩
       ·obtain⟨N,u0,u1,u2,e11,hN,hq⟩:=hd 11;obtain⟨a,b,cc,e9,hrv⟩:=hd 9;have HRV:=H_ hrv;have c0:=hq.cell 0;have c1:=hq.cell 1;have c2:=hq.cell 2;obtain⟨f0,f1,f2⟩:=hq.f3;have HQN:=H_ hq;clear hrv hq;refine AE rfl λK hK=>?_;go_simp
        exact hK _ _ ⟨none,by simp only[au,e11,e9];rfl,eX HJ.out hN _ _ _,⟨N,a,b,cc,(aV xs _ (by decide)).trans e11,hN,dJ HQN.out _ _ _,HRV.out⟩,λk' h1 h2 h=>h.aA h1 h2 (λN' w0 w1 w2 e' _ hq'=>by
         have hNN:N'=N:=by rw[e11]at e';cases e';rfl
         subst hNN;exact⟨⟨_,_,_,dJ hq' _ _ _⟩,λe=>absurd rfl e⟩)⟩
       ·have e10:xs 10=some (.bool (bU k l).isSome):=hd 10;refine AE rfl λK hK=>?_;go_simp;exact hK _ _ ⟨some (.bool (bU k l).isSome),by simp only[au,e10];rfl,HJ.out,rfl,λk' h1 h2 h=>HST'.out _ _ (AC _ _) k' h1 h2 (by decide) h⟩
      ·intro xs W hJ hF;obtain⟨N,a,b,cc,e11,hN,hq,hrv⟩:=hF 12 (by decide);have e13:xs 13=some (.bool (bU k l).isSome):=hF 13 (by decide);have HBW:=H_ (HB.out.trans (hJ.mono hbs'));have hsW:=hJ.size;have QX:=HXB.out.below hJ hXl;have HR1:=H_ HR.out.1;have HRX:=H_ (HR.out.1.below hJ hXl);have HR23:=H_ HR.out.2;have Z:=HR2.out.below HBW.out (by omega);have HBE:=H_ (HB2.out.trans (HBW.out.mono (by omega)));have HNQ:=H_ hq;have n0:=hq.cell 0;have n1:=hq.cell 1;have n2:=hq.cell 2;clear hJ hF HXB QX HR hq;dsimp only;rw[e11,e13];simp only[Bz];generalize(xs 0).getD u33=q33;generalize(xs 1).getD u34=q34;generalize(xs 2).getD u35=q35;generalize(xs 3).getD u36=q36;generalize(xs 4).getD u37=q37;generalize(xs 5).getD u38=q38;generalize(xs 6).getD u39=q39;generalize(xs 7).getD u40=q40;generalize(xs 8).getD u32=q32;generalize(xs 9).getD u41=q41;generalize(xs 10).getD u42=q42;have hwi:IntKind.i64.wrap ((i:Int)+1)=((i+1:Nat):Int):=by rw[AY _ (by omega)];rfl
       cases hcf:bU k l with
       |none=>
        have HE:=H_ (show bn s= .err (i+1) 3 from HS2.out.trans (by rw[hcf]));clear n0 n1 n2;obtain⟨⟨z0,z1,z2,z3,z4⟩,y0,y1,y2,y3,y4⟩:=Z.fac5;have HZ:=H_ Z;clear Z;go_wp2_with fail;exact AO (results9 _ _ p _ _ _ _ _ _ _ (oF HZ.out _ _ _ _ _) rfl rfl rfl) rfl (ScrP.err HE.out (by decide) (hp▸gN HBE.out (AB _) _ _ _ _ _))
       |some v=>
        obtain⟨rfl,rfl,rfl⟩:=hrv v hcf;have HS3:=H_ (show bn s=cg (ls.drop (i+1)) (i+1) (.conf (k+1)) (x.set k v)from HS2.out.trans (by rw[hcf]))
        have HX3:=H_ (show RdX (((W.setCell ⟨X,0,none⟩ (.int .i64 (x.set k v).m)).setCell ⟨X,1,none⟩ (.int .u64 (x.set k v).sd)).setCell ⟨X,2,none⟩ (.int .i64 (x.set k v).y)) X (x.set k v) (.conf (k+1))from
         ⟨yL HRX.out _ _ _,by rw[(x.aP k v).1];exact HR23.out.1,by rw[(x.aP k v).2];exact HR23.out.2.1,by omega⟩)
        have HB3:=H_ (eX HBW.out (AB X) (.int .i64 (x.set k v).m) (.int .u64 (x.set k v).sd) (.int .i64 (x.set k v).y));have hac3:(x.set k v).ac.length<=i+1:=by rw[(x.aP k v).2];omega
        obtain⟨⟨x0,x1,x2,x3,x4⟩,v0,v1,v2,v3',v4'⟩:=HRX.out.fac5;clear Z hcf hrv HR23;go_wp2_with fail;go_roundw
        case rel=>exact⟨i+1,.conf (k+1),x.set k v,by omega,by go_num,(by show _=Value.int .i64 ((k+1:Nat):Int);go_num),HS3,HX3,HB3,hac3,λa f e=>by cases e⟩
        case measure=>simp[intOf];omega
     ·obtain rfl:k=3:=by omega
      have hwi:IntKind.i64.wrap ((i:Int)+1)=((i+1:Nat):Int):=by rw[AY _ (by omega)];rfl
      obtain⟨hsp1,hsp2⟩:=sC (l:=l) (ls:=ls.drop (i+1)) (n:=i) (x:=x) hsk;by_cases hl:l=lk
      rotate_left
      ·have HE:=H_ (show bn s= .err (i+1) 3 from HS.out.trans (hsp1 hl));have hne:(l.toList==[112,114,111,103,114,97,109])=false:=AD.2 λe=>hl (cQ (e.trans (Bf lk).symm));have Z:=HR2.out.below HB.out (by omega);have HBE:=H_ (HB2.out.trans (HB.out.mono (by omega)));obtain⟨⟨z0,z1,z2,z3,z4⟩,y0,y1,y2,y3,y4⟩:=Z.fac5;have HZ:=H_ Z;clear Z hsp1 hsp2 hl HS;go_wp2_with fail;refine HK.out.mono ?_;rintro e wr' ⟨rfl,rfl⟩;go_wp2_with fail;exact AO (results9 _ _ p _ _ _ _ _ _ _ (oF HZ.out _ _ _ _ _) rfl rfl rfl) rfl (ScrP.err HE.out (by decide) (hp▸gN HBE.out (AB _) _ _ _ _ _))
      ·have HS2:=H_ (HS.out.trans (hsp2 hl));have hne:(l.toList==[112,114,111,103,114,97,109])=true:=by rw[hl,Bf];rfl
       have hbr:=HB2.out.trans (HB.out.mono (by omega));have HP:=H_ (sQ ls (some ⟨g,off,none⟩) n c (i+1) wr (GlB.below HG.out (hp▸hbr)).gl ((HST.out.below HB.out).more (by omega)) (by omega) (by omega) (AW (xI ls (i+1)) (by omega)));clear hsp1 hsp2 hl HS hbr;go_wp2_with fail;refine HK.out.mono ?_;rintro e wr' ⟨rfl,rfl⟩;go_wp2_with fail;refine HP.out.mono ?_;rintro e w5 ⟨b5,hcase⟩;have hs5:=b5.size;have HB5:=htm HB b5;have HBE5:=H_ (HB2.out.trans (HB5.out.mono (by omega)));have QX5:=H_ (HR.out.1.below b5 HR.out.1.lt);have HR23:=H_ HR.out.2;have hXw:X<wr'.heap.size:=HR.out.1.lt;clear b5 HP HR HK hcc;obtain⟨M,hM⟩:=nm_ ((bT (ls.drop (i+1))).length);have hMl:M<=n-(i+1):=by have:=nH (ls.drop (i+1));rw[hM,BY,hn]at this;exact this
       rw[hM]at HS2;cases hpp:ca (cd (bT (ls.drop (i+1))))with
       |err q er=>
        rw[hpp]at hcase;obtain⟨rfl,hne0⟩:=hcase;have hne2:(er !=0)=true:=by simpa using hne0
        obtain⟨Q,hQ⟩:=nm_ (List.count 10 (List.take q.toNat (cd (bT (ls.drop (i+1))))));have HE:=H_ (show bn s= .err (i+1+1+Q) er from HS2.out.trans (by rw[hpp,<-hQ]));have HNE:=H_ hne0;rw[hQ];clear hpp hQ hne0;obtain⟨w6,hw6⟩:=nm_ (w5.alloc (.cells #[.slice none 0 0] 28));have b6:=bal hw6;have hs6:=b6.size;have Z:=HR2.out.below (HB5.out.trans (b6.mono (by omega))) (by omega);have HBE:=htm HBE5 b6;have HW6:=H_ hw6;clear hw6 b6;go_upto_region 19 with fail;rw[HW6.out];obtain⟨⟨z0,z1,z2,z3,z4⟩,y0,y1,y2,y3,y4⟩:=Z.fac5;have HZ:=H_ Z;clear Z;go_wp2_with fail;exact AO (results9 _ _ p _ _ _ _ _ _ _ (oF HZ.out _ _ _ _ _) rfl rfl rfl) rfl (ScrP.err HE.out HNE.out (hp▸gN HBE.out (AB _) _ _ _ _ _))
       |ok cs=>
        rw[hpp]at hcase;simp only[hM]at hcase;have HS4:=H_ (show bn s=if M=(ls.drop (i+1)).length then .err (i+2+(ls.drop (i+1)).length) 3 else cg ((ls.drop (i+1)).drop (M+1)) (i+1+M+1) .acts {x with cs:=cs}from HS2.out.trans (by rw[hpp]));clear hpp HS2 hM;by_cases hin:i+1+M=ls.length
        ·rw[AP hin]at hcase;subst hcase;have hld:(ls.drop (i+1)).length=n-(i+1):=by rw[BY,hn]
         have HE:=H_ (show bn s= .err (n+1) 3 from HS4.out.trans (by rw[AP (by omega)];congr 1;omega));obtain⟨w6,hw6⟩:=nm_ (w5.alloc (.cells #[.slice none 0 0] 28));have b6:=bal hw6;have hs6:=b6.size;have Z:=HR2.out.below (HB5.out.trans (b6.mono (by omega))) (by omega);have HBE:=htm HBE5 b6;have HW6:=H_ hw6;clear hw6 b6 hin hld;go_upto_region 19 with fail;rw[HW6.out];obtain⟨⟨z0,z1,z2,z3,z4⟩,y0,y1,y2,y3,y4⟩:=Z.fac5;have HZ:=H_ Z;clear Z;go_wp2_with fail;exact AO (results9 _ _ p _ _ _ _ _ _ _ (oF HZ.out _ _ _ _ _) rfl rfl rfl) rfl (ScrP.err HE.out (by decide) (hp▸gN HBE.out (AB _) _ _ _ _ _))
        ·rw[AL hin]at hcase;obtain⟨v,rfl,A6,n6,c6,rfl,hsl⟩:=hcase;have HS5:=H_ (show bn s=cg (ls.drop (i+1+M+1)) (i+1+M+1) .acts {x with cs:=cs}from HS4.out.trans (by rw[AL (by rw[BY];omega),List.drop_drop];congr 2));have hnx:i+1+M+1<=n:=by omega
         obtain⟨w6,hw6⟩:=nm_ (w5.alloc (.cells #[.slice A6 n6 c6] 28));obtain⟨g6,hg6⟩:=nm_ (w5.heap.size);have b6:=bal hw6;have hs6:=b6.size;have G6:Blk w6 g6 28 #[.slice A6 n6 c6]:=hw6▸hg6▸Blk.new w5 28 _;have c9:=G6.cell 0;have QX6:=hbl QX5 b6;obtain⟨⟨x0,x1,x2,x3,x4⟩,v0,v1,v2,v3,v4⟩:=QX6.out.fac5;have HSL:=H_ (hsl.aA (G':=λb=>wr'.heap.size<=b/\b<w6.heap.size) (w':=w6) (λb hb=>⟨⟨hb.1,by have:=hb.2;omega⟩,b6.block b hb.2⟩))
         have HX6:=H_ (show RdX (w6.setCell ⟨X,3,none⟩ (.slice A6 n6 c6)) X {x with cs:=cs} .acts from
          ⟨A6,n6,c6,.slice none 0 0,QX6.out.set 3 _,HSL.out.aA (λb hb=>⟨⟨⟨by have:=hb.1;omega,by have:=hb.2;simp[World.setCell];omega,λh=>h⟩,λe=>by cases e⟩,AG _ _ _ _ (show b≠X by have:=hb.1;omega)⟩),by show Vec kAd 48 (X+1) noZ _ (.slice none 0 0) x.ac;rw[HR23.out.2.1];exact Vec.nil _ _ _ _ _⟩)
         have HB6:=H_ ((HB5.out.trans (b6.mono (by omega))).setCell (p:=⟨X,3,none⟩) (AB X) (.slice A6 n6 c6));have HAC:=H_ (show x.ac.length<=i+1+M+1 by omega);have HW6:=H_ hw6;clear hw6 b6 hin hsl G6 HS4;go_upto_region 19 with fail;rw[HW6.out];go_wp2_with fail;go_roundw
         case rel=>exact⟨i+1+M+1,.acts,{x with cs:=cs},hnx,by go_num,rfl,HS5,HX6,HB6,HAC.out,λa f e=>by cases e⟩
         case measure=>simp[intOf];omega
    |acts=>
     have hpx:mH .acts=4:=rfl;have hcc:=HC.out.2;have hwi:IntKind.i64.wrap ((i:Int)+1)=((i+1:Nat):Int):=by rw[AY _ (by omega)];rfl
     obtain⟨A',n',c',u,QX,hsl,hv⟩:=HR.out;have HP:=H_ (zV l wr (by omega));have HQX:=H_ QX;have HSV:=H_ (And.intro hsl hv);have HS2:=H_ (HS.out.trans (uh hsk));clear QX hsl hv HR HS hsk;go_wp2_with fail;refine HK.out.mono ?_;rintro e wr' ⟨rfl,rfl⟩;go_wp2_with fail;refine HP.out.mono ?_;rintro e w5 ⟨v,ad,code,rfl,hrd,hn1,hn2,hap,b5,hcase⟩;have hkad:=hrd.ad hn1 hn2 hap;have hcd:=sJ hcase;have hs5:=b5.size;have hXw:X<wr'.heap.size:=HQX.out.lt;have HB5:=htm HB b5;have HQ5:=H_ (HQX.out.below b5 hXw);have HSV5:=H_ (And.intro (HSV.out.1.aA (G':=λg=>NG (X+1) noZ w5 g/\u.ownBlock≠some g) (λg hg=>⟨⟨hg.1.mono hs5,hg.2⟩,b5.block g hg.1.2.1⟩)) (HSV.out.2.aA hs5 (λk hk=>b5.block k hk.2.1)));have hul:=HSV.out.2.lt;have HK5:=H_ (kAd.aA (G':=λk=>NG (X+1) noZ w5 k/\u.ownBlock≠some k) (w':=w5) (λk hk=>⟨⟨⟨by have:=hk.1;omega,hk.2,λh=>h⟩,λe=>by have:=(hul k e).2;have:=hk.1;omega⟩,rfl⟩) hkad);obtain⟨k',a',b',nm,mt,A1,n1,c1,A2,n2,c2⟩:=v;unfold Av.cells at HK5⊢;dsimp only at HK5⊢;clear hrd hn1 hn2 hap hkad HP HQX HSV HK b5 hcase hcc;obtain⟨w6,hw6⟩:=nm_ (w5.alloc (.cells #[.int .i64 k',.int .i64 a',.int .i64 b',.string nm,.string mt,.slice A1 n1 c1,.slice A2 n2 c2] 48));obtain⟨g6,hg6⟩:=nm_ (w5.heap.size);have b6:=bal hw6;have hs6:w6.heap.size=w5.heap.size+1:=by rw[<-hw6];simp
     have G6:Blk w6 g6 48 #[.int .i64 k',.int .i64 a',.int .i64 b',.string nm,.string mt,.slice A1 n1 c1,.slice A2 n2 c2]:=hw6▸hg6▸Blk.new w5 48 _;have HB6:=htm HB5 b6;have HQ6:=hbl HQ5 b6;have HSV6:=H_ (And.intro (HSV5.out.1.aA (G':=λg=>NG (X+1) noZ w6 g/\u.ownBlock≠some g) (λg hg=>⟨⟨hg.1.mono b6.size,hg.2⟩,b6.block g hg.1.2.1⟩)) (HSV5.out.2.aA b6.size (λk hk=>b6.block k hk.2.1)));have HK6:=H_ (kAd.aA (G':=λk=>NG (X+1) noZ w6 k/\u.ownBlock≠some k) (w':=w6) (λk hk=>⟨⟨hk.1.mono b6.size,hk.2⟩,b6.block k hk.1.2.1⟩) HK5.out);have HW6:=H_ hw6;have HBE:=H_ (HB2.out.trans (HB6.out.mono (by omega)));obtain⟨m0,m1,m2,m3,m4,m5,m6⟩:=G6.c7;clear hw6 b6 HB5 HQ5 HSV5 HK5 G6;rcases hcd with⟨rfl,hpw⟩|⟨rfl,hpw⟩
     rotate_left
     ·have HE:=H_ (show bn s= .err (i+1) 3 from HS2.out.trans (by rw[hpw]));have Z:=HR2.out.below HB6.out (by omega);clear hpw HS2 m0 m1 m2 m3 m4 m5 m6;go_upto_region 25 with fail;rw[HW6.out];obtain⟨⟨z0,z1,z2,z3,z4⟩,y0,y1,y2,y3,y4⟩:=Z.fac5;have HZ:=H_ Z;clear Z;go_wp2_with fail;exact AO (results9 _ _ p _ _ _ _ _ _ _ (oF HZ.out _ _ _ _ _) rfl rfl rfl) rfl (ScrP.err HE.out (by decide) (hp▸gN HBE.out (AB _) _ _ _ _ _))
     ·have HS3:=H_ (show bn s=cg (ls.drop (i+1)) (i+1) .acts {x with ac:=x.ac++[ad]}from HS2.out.trans (by rw[hpw]));have q4:=HQ6.out.cell 4;clear hpw HS2;obtain⟨w7,hw7⟩:=nm_ (w6.alloc (.cells #[.int .i64 k',.int .i64 a',.int .i64 b',.string nm,.string mt,.slice A1 n1 c1,.slice A2 n2 c2] 48));have b7:=bal hw7;have hs7:w7.heap.size=w6.heap.size+1:=by rw[<-hw7];simp
      have hrow:Blk w7 w6.heap.size 48 #[.int .i64 k',.int .i64 a',.int .i64 b',.string nm,.string mt,.slice A1 n1 c1,.slice A2 n2 c2]:=hw7▸Blk.new w6 48 _;have hv7:=HSV6.out.2.aA b7.size (λk hk=>b7.block k hk.2.1);have hsl7:=HSV6.out.1.aA (G':=λg=>NG (X+1) noZ w7 g/\u.ownBlock≠some g) (λg hg=>⟨⟨hg.1.mono b7.size,hg.2⟩,b7.block g hg.1.2.1⟩);have hk7:=kAd.aA (G':=λk=>NG (X+1) noZ w7 k/\u.ownBlock≠some k) (w':=w7) (λk hk=>⟨⟨hk.1.mono b7.size,hk.2⟩,b7.block k hk.1.2.1⟩) HK6.out
      have hy:∀(j:Nat) (x':Ad) (cs':List Value),[ad][j]?=some x'->([[.int .i64 k',.int .i64 a',.int .i64 b',.string nm,.string mt,.slice A1 n1 c1,.slice A2 n2 c2]]:List (List Value))[j]?=some cs'->kAd.rd w7 (λk=>NG (X+1) noZ w7 k/\u.ownBlock≠some k) x' cs':=λj x' cs' e1 e2=>by
       cases j with
       |zero=>
        simp at e1 e2;subst e1 e2;exact hk7
       |succ j=>simp at e1
      obtain⟨v',W',hr,hv',hgrow,hat⟩:=dK ym 29 (c:=1) hv7 (ys:=[ad]) (dss:=[[.int .i64 k',.int .i64 a',.int .i64 b',.string nm,.string mt,.slice A1 n1 c1,.slice A2 n2 c2]]) (b:=w6.heap.size) (off:=0) rfl (by simpa using At.aG hrow) hy (by simp;omega) (by omega) (λ_ _ h=>h);have hub:=HSV6.out.2.lt;have hkeep:∀k,k<w7.heap.size->u.ownBlock≠some k->W'.heap[k]?=w7.heap[k]?:=λk hk hne=>hgrow.block k hk (λe=>hne e.symm);have hQ6l:=HQ6.out.lt;have QX':=H_ ((hkeep X (by omega) (λe=>by have:=(hub X e).1;omega)).trans (HQ6.out.below b7 hQ6l))
      have hsl':Sl kCl W' (λg=>NG (X+1) noZ W' g/\v'.ownBlock≠some g) x.cs A' n':=hsl7.aA λk hk=>⟨⟨hk.1.mono hgrow.size,λe=>by
       rcases hat with e2|e2
       ·exact hk.2 (e2▸e)
       ·rw[e2]at e;cases e;exact absurd hk.1.2.1 (Ci _)⟩,hkeep k hk.1.2.1 hk.2⟩
      have HBW:=H_ ((HB6.out.trans (b7.mono (by omega))).grown hgrow (by omega) (λq hq=>by have:=(hub q hq).1;omega));obtain⟨A9,c9,rfl,_⟩:=hv'.sl (by simp[BD];omega)
      have HRX:=H_ (show RdX (W'.setCell ⟨X,4,none⟩ (.slice A9 (x.ac++[ad]).length c9)) X {x with ac:=x.ac++[ad]} .acts from
       ⟨A',n',c',.slice A9 (x.ac++[ad]).length c9,Blk.set QX'.out 4 _,hsl'.aA (λk hk=>⟨⟨hk.1.mono (by simp[World.setCell]),hk.2⟩,AG _ _ _ _ (show k≠X by have:=hk.1.1;omega)⟩),
        hv'.aA (by simp[World.setCell]) (λk hk=>AG _ _ _ _ (show k≠X by have:=hk.1;omega))⟩)
      have HB9:=H_ (HBW.out.setCell (p:=⟨X,4,none⟩) (AB X) (.slice A9 (x.ac++[ad]).length c9));have g4:=Blk.cell QX'.out 4;have h4:=Blk.frozen QX'.out 4;have hac9:(x.ac++[ad]).length<=i+1:=by simp;omega
      obtain⟨N9,hN9⟩:=nm_ ((x.ac++[ad]).length);rw[hN9]at hr HRX HB9;obtain⟨g7,hg7⟩:=nm_ (w6.heap.size);have hr2:(Builtin.append_ #[29,29] 29 #[u,.slice (some ⟨g7,0,none⟩) 1 1]).run Tryz.prog w7= .ok (.slice A9 N9 c9) W':=by rw[<-hg7];exact hr
      clear b7 hrow hv7 hsl7 hk7 hy hv' hgrow hat hub hkeep hQ6l hsl' HBW HSV6 HK6 HB6 HQ6 HBE hN9 hr hs6 hs7;go_upto_region 25 with fail;rw[HW6.out];go_wp2_with (at_builtin;refine wpList_plain rfl λK' hK=>?_;refine cM (.tmp 96) (.tmp 98) 29 rfl rfl rfl hr2 (hK _ _ ?_));clear hw7 hr2;go_wp2_with fail;go_roundw
      case rel=>exact⟨i+1,.acts,{x with ac:=x.ac++[ad]},by omega,by go_num,rfl,HS3,HRX,HB9,hac9,λa f e=>by cases e⟩
      case measure=>simp[intOf];omega
  ·obtain rfl:i=n:=by omega
   rw[<-hn,List.drop_length,hn]at HS;cases ph with
   |src a f=>exact absurd rfl (hph a f)
   |conf k=>
    have hpx:mH (.conf k)=(k:Int):=rfl;have hk3:=HR.out.2.2.2;have hk4:(k:Int)<4:=by omega
    have hpx':mH .acts=4:=rfl;have hnd:decide ((i:Int)<(i:Int))=false:=by simp
    have Z:=HR2.out.below HB.out (by omega);have z0:=Z.cell 0;have y0:=Z.frozen 0;have z1:=Z.cell 1;have y1:=Z.frozen 1;have z2:=Z.cell 2;have y2:=Z.frozen 2;have z3:=Z.cell 3;have y3:=Z.frozen 3;have z4:=Z.cell 4;have y4:=Z.frozen 4;have HZ:=H_ Z;have HE:=H_ (show bn s= .err (i+1) 3 from HS.out);clear Z;go_wp2_with fail;exact AO (results9 _ _ p _ _ _ _ _ _ _ (oF HZ.out _ _ _ _ _) rfl rfl rfl) rfl (ScrP.err HE.out (by decide) (hp▸gN (HB2.out.trans (HB.out.mono (by omega))) (AB _) _ _ _ _ _))
   |acts=>
    obtain⟨A',n',c',u,Q,hsl,hv⟩:=HR.out;obtain⟨A2,c2,rfl,hsv⟩:=hv.sl (by simp[BD];omega);have hpx':mH .acts=4:=rfl;have hnd:decide ((i:Int)<(i:Int))=false:=by simp
    have Z:=HR2.out.below HB.out (by omega);have z0:=Z.cell 0;have y0:=Z.frozen 0;have z1:=Z.cell 1;have y1:=Z.frozen 1;have z2:=Z.cell 2;have y2:=Z.frozen 2;have z3:=Z.cell 3;have y3:=Z.frozen 3;have z4:=Z.cell 4;have y4:=Z.frozen 4;have q0:=Q.cell 0;have q1:=Q.cell 1;have q2:=Q.cell 2;have q3:=Q.cell 3;have q4:=Q.cell 4;have HZ:=H_ Z;have HE:=H_ (show bn s= .ok x from HS.out);have HV:=H_ (And.intro hsl hsv);clear Z Q hsl hv hsv HR;go_wp2_with fail;refine AO (results9 _ _ p _ _ _ _ _ _ _ (oF HZ.out _ _ _ _ _) rfl rfl rfl) rfl ⟨hp▸gN (HB2.out.trans (HB.out.mono (by omega))) (AB _) _ _ _ _ _,?_⟩;rw[HE.out];refine⟨_,rfl,A',n',c',A2,x.ac.length,c2,rfl,HV.out.1.aA (λg hg=>⟨by simp[World.setCell];exact hg.1.2.1,?_⟩),HV.out.2.aA (λg hg=>⟨by simp[World.setCell];exact hg.2.1,?_⟩)⟩
    ·have h:g≠p:=by have:=hg.1.1;omega
     rw[AG _ _ _ _ h,AG _ _ _ _ h,AG _ _ _ _ h,AG _ _ _ _ h,AG _ _ _ _ h]
    ·have h:g≠p:=by have:=hg.1;omega
     rw[AG _ _ _ _ h,AG _ _ _ _ h,AG _ _ _ _ h,AG _ _ _ _ h,AG _ _ _ _ h]
end
end Go.Proofs.YtjpbckbpeblibaaGreatDoor
