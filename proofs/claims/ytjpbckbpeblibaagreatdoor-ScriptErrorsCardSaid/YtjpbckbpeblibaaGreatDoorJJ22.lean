/- part of a proof -/
import Derived.Test.YtjpbckbpeblibaaGreatDoorJJ21
import Derived.SevenTiedAt
namespace Go.Proofs.YtjpbckbpeblibaaGreatDoor
set_option linter.unusedVariables false
set_option linter.unusedSimpArgs false
set_option maxRecDepth 100000
set_option maxHeartbeats 64000000
section
open Go.ChangeShapes Go.WideShapes Go.ChangeAt Go.RowKit
theorem yT(os:Os)(started:os.Started)(H:Type)(enc:TypeId×Value->H):
 ReturnsInHanded {} Tryz.checked os 6 .any (λw args=>(Rows.scriptErrorsSpec.pre enc Tryz.prog Tryz.f6 [] false w args/\laidMetH Tryz.prog bY w)/\sizedMet enc Tryz.prog Tryz.f6 (OpenSpec.ofChange Rows.scriptErrorsSpec) false w args)
  (Rows.scriptErrorsSpec.post enc Tryz.prog Tryz.f6 false true false false):=by
 refine ot (C:=Tryz.checked) (X:=λw _=>laidMetH Tryz.prog bY w) (λ_ _ _ hh h=>h.of_heap hh) CD started (by kernel_rfl) Tryz.func6
  (ChangeSpec.witness_shaped (enc:=enc) (C:=Tryz.checked) (os:=os) (X:=λw _=>laidMetH Tryz.prog bY w) false (World.laidAll Tryz.prog os bY) #[.agg #[.int .i64 0,.int .u64 0,.int .i64 0,.slice none 0 0,.slice none 0 0],.string ⟨#[]⟩] 8 (World.laidAll_os _ _ _)
    (World.shaped_of_ZipB (by kernel_rfl) (by kernel_rfl)) (by kernel_rfl) (by kernel_rfl) (by kernel_rfl)
    (by rw[MakeChecks.laidMetH_plain _ _ _ (by kernel_rfl)];exact laidMet_laidAll _ (by kernel_rfl) (by kernel_rfl))) ?_
 intro W base args ds gs before hval0 hW hL hsh hsz;have hval:∀(j:Nat) t v,Tryz.f6.params[j]?=some t->args[j]?=some v->Value.okWide Tryz.prog W .any base t v:=hval0;have hW':=hW;obtain⟨p,q,hA0,hV,rfl,hfz,hnd⟩:=hW;have hA:DataW.TrodAll enc Tryz.prog W 0 (λ_=>true) true Tryz.f6.params.toList args.toList ds p:=hA0;have hsz':(DataW.weightsEach Tryz.prog (Tryz.f6.params.toList++(OpenSpec.ofChange Rows.scriptErrorsSpec).bare.plain.varTypes Tryz.prog) (ds++gs)).all (·<=reachBytes)=true:=hsz;rw[Tryz.params6]at hA hval hsz';obtain⟨v0,vs0,d0,ds0,p0,q0,hargs0,rfl,rfl,h0,r0⟩:=trodAll_cons hA;obtain⟨v1,vs1,d1,ds1,p1,q1,hargs1,rfl,rfl,h1,r1⟩:=trodAll_cons r0;obtain⟨rfl,rfl,rfl⟩:=trodAll_nil r1;obtain rfl:args= #[v0,v1]:=by cases args;simp_all
 obtain⟨rfl,rfl⟩:=trodVars_none hV;have lt0:∀x∈p0,x.block<W.heap.size:=by obtain⟨m,hm⟩:=h0;exact DataW.trod_lt m _ _ _ hm
 have k0:=h0;have lt1:∀x∈p1,x.block<W.heap.size:=by obtain⟨m,hm⟩:=h1;exact DataW.trod_lt m _ _ _ hm
 have k1:=h1;obtain⟨cs,hcs,_⟩:=okWide_struct Tryz.underlying35 (hval 0 35 v0 rfl rfl);obtain⟨l,rfl⟩:=okWide_string Tryz.underlying9 (hval 1 9 v1 rfl rfl)
 have hwt:Wt 35 d0:=λk hk=>by
  have:=Dr.1 hsz' k (eN (i:=0) (t:=35) (d:=d0) rfl rfl k hk);simpa using this
 obtain⟨fuel,hf⟩:=h0;obtain⟨s,A,n,c,A2,n2,c2,rfl,hc1,hc2,hs0,hs1,hn2⟩:=BJ ⟨cs,hcs⟩ hf hwt;clear hA0 hval0;refine(Bz s A n c A2 n2 c2 l W ⟨hc1,hc2,trivial,AW hL,hs0,hs1,by omega⟩ (AX hL hsh)).mono λe W' ⟨he,bel⟩=>?_;subst he;exact⟨_,rfl,_,_,_,[],_,[],hW',trodAll_mk1 (shut_bool Tryz.underlying4 _),(trodAll_cons_mk (Below.trod pQ (by kernel_rfl) (DI (by kernel_rfl)) k0 bel lt0) (trodAll_cons_mk (Below.trod pQ (by kernel_rfl) (DI (by kernel_rfl)) k1 bel lt1) trodAll_mk0)),rfl,bel.frame _,λh=>by cases h⟩
end
end Go.Proofs.YtjpbckbpeblibaaGreatDoor
