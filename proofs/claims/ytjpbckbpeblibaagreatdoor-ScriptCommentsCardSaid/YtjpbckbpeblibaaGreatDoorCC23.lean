/- part of a proof -/
import Derived.Test.YtjpbckbpeblibaaGreatDoorCC22
import Derived.SevenTiedAt
namespace Go.Proofs.YtjpbckbpeblibaaGreatDoor
set_option linter.unusedVariables false
set_option linter.unusedSimpArgs false
set_option maxRecDepth 100000
set_option maxHeartbeats 64000000
section
open Go.ChangeShapes Go.WideShapes Go.ChangeAt Go.RowKit
theorem zG(os:Os)(started:os.Started)(H:Type)(enc:TypeId×Value->H):
 ReturnsInHanded {} Tryz.checked os 5 .any (λw args=>(Rows.scriptCommentsSpec.pre enc Tryz.prog Tryz.f5 [] false w args/\laidMetH Tryz.prog ce w)/\sizedMet enc Tryz.prog Tryz.f5 (OpenSpec.ofChange Rows.scriptCommentsSpec) false w args)
  (Rows.scriptCommentsSpec.post enc Tryz.prog Tryz.f5 false true false false):=by
 refine oJ (C:=Tryz.checked) (X:=λw _=>laidMetH Tryz.prog ce w) (λ_ _ _ hh h=>h.of_heap hh) Dn started (by kernel_rfl) Tryz.func5
  (ChangeSpec.witness_shaped (enc:=enc) (C:=Tryz.checked) (os:=os) (X:=λw _=>laidMetH Tryz.prog ce w) false (World.laidAll Tryz.prog os ce) #[.agg #[.int .i64 0,.int .u64 0,.int .i64 0,.slice none 0 0,.slice none 0 0],.string ⟨#[]⟩,.int .u8 0] 8 (World.laidAll_os _ _ _)
    (World.shaped_of_ZipB (by kernel_rfl) (by kernel_rfl)) (by kernel_rfl) (by kernel_rfl) (by kernel_rfl)
    (by rw[MakeChecks.laidMetH_plain _ _ _ (by kernel_rfl)];exact laidMet_laidAll _ (by kernel_rfl) (by kernel_rfl))) ?_
 intro W base args ds gs before hval0 hW hL hsh hsz;have hval:∀(j:Nat) t v,Tryz.f5.params[j]?=some t->args[j]?=some v->Value.okWide Tryz.prog W .any base t v:=hval0;have hW':=hW;obtain⟨p,q,hA0,hV,rfl,hfz,hnd⟩:=hW;have hA:DataW.TrodAll enc Tryz.prog W 0 (λ_=>true) true Tryz.f5.params.toList args.toList ds p:=hA0;have hsz':(DataW.weightsEach Tryz.prog (Tryz.f5.params.toList++(OpenSpec.ofChange Rows.scriptCommentsSpec).bare.plain.varTypes Tryz.prog) (ds++gs)).all (·<=reachBytes)=true:=hsz;rw[Tryz.params5]at hA hval hsz';obtain⟨v0,vs0,d0,ds0,p0,q0,hargs0,rfl,rfl,h0,r0⟩:=trodAll_cons hA;obtain⟨v1,vs1,d1,ds1,p1,q1,hargs1,rfl,rfl,h1,r1⟩:=trodAll_cons r0;obtain⟨v2,vs2,d2,ds2,p2,q2,hargs2,rfl,rfl,h2,r2⟩:=trodAll_cons r1;obtain⟨rfl,rfl,rfl⟩:=trodAll_nil r2;obtain rfl:args= #[v0,v1,v2]:=by cases args;simp_all
 obtain⟨rfl,rfl⟩:=trodVars_none hV;have lt0:∀x∈p0,x.block<W.heap.size:=by obtain⟨m,hm⟩:=h0;exact DataW.trod_lt m _ _ _ hm
 have k0:=h0;have lt1:∀x∈p1,x.block<W.heap.size:=by obtain⟨m,hm⟩:=h1;exact DataW.trod_lt m _ _ _ hm
 have k1:=h1;have lt2:∀x∈p2,x.block<W.heap.size:=by obtain⟨m,hm⟩:=h2;exact DataW.trod_lt m _ _ _ hm
 have k2:=h2;obtain⟨cs,hcs,_⟩:=okWide_struct Tryz.underlying35 (hval 0 35 v0 rfl rfl);obtain⟨l,rfl⟩:=okWide_string Tryz.underlying9 (hval 1 9 v1 rfl rfl);obtain⟨a,rfl⟩:=okWide_int Tryz.underlying5 (hval 2 5 v2 rfl rfl);obtain⟨fu,hfu⟩:=h2;obtain⟨a',ha',_,hwf⟩:=DataW.trod_int Tryz.underlying5 (show DataW.trod enc Tryz.prog W 0 (λ_=>true) true fu 5 [.int .u8 a]=_ from hfu);obtain rfl:a=a':=by simpa using ha'
 have hb2:0<=a/\a<=255:=by simpa[Lit.wf,IntKind.min,IntKind.max,IntKind.signed,IntKind.bits]using hwf
 obtain⟨u,rfl⟩:=Ei hb2.1
 have hwt:Wt 35 d0:=λk hk=>by
  have:=Ec.1 hsz' k (eS (i:=0) (t:=35) (d:=d0) rfl rfl k hk);simpa using this
 obtain⟨fuel,hf⟩:=h0;obtain⟨s,A,n,c,A2,n2,c2,rfl,hc1,hc2,hs0,hs1,hn2,hnc⟩:=AW ⟨cs,hcs⟩ hf hwt;clear hA0 hval0;refine(Cq s A n c A2 n2 c2 l u W ⟨hc1,hc2,trivial,BO hL,hs0,hs1,by omega⟩ (BP hL hsh) hnc (by omega)).mono λe W' ⟨he,bel⟩=>?_;subst he;exact⟨_,rfl,_,_,_,[],_,[],hW',trodAll_mk1 (shut_bool Tryz.underlying4 _),(trodAll_cons_mk (Below.trod mB (by kernel_rfl) (Er (by kernel_rfl)) k0 bel lt0) (trodAll_cons_mk (Below.trod mB (by kernel_rfl) (Er (by kernel_rfl)) k1 bel lt1) (trodAll_cons_mk (Below.trod mB (by kernel_rfl) (Er (by kernel_rfl)) k2 bel lt2) trodAll_mk0))),rfl,bel.frame _,λh=>by cases h⟩
end
end Go.Proofs.YtjpbckbpeblibaaGreatDoor
