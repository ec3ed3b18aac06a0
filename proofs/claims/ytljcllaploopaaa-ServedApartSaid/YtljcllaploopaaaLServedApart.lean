/- ServedApart: for every input the law answers true, and each argument reads as before. -/
import Derived.Test.YtljcllaploopaaaRows
import Derived.Test.YtljcllaploopaaaSK13
import Derived.Test.YtljcllaploopaaaH
import Derived.Test.YtljcllaploopaaaDec
namespace Go.Proofs.Ytljcllaploopaaa.servedApart
open Go Go.SK Go.ChangeShapes Go.WideShapes Go.ChangeAt Go.RowKit
set_option linter.unusedVariables false
theorem own : ownKnob Try.prog.godebug = none := by kernel_rfl
theorem laidOut : laidOutB Try.prog = true := by kernel_rfl
set_option maxRecDepth 100000 in
theorem lifted (os : Os) (started : os.Started) (H : Type) (enc : TypeId × Value → H) :
    ReturnsInHanded {} Try.checked os 4 .any (Rows.servedApartSpec.pre6 enc Try.prog Try.f4 Rows.servedApartRow.domain false) (Rows.servedApartSpec.post enc Try.prog Try.f4 false true false false) := by
  refine returnsInHanded_of_change_sized (C := Try.checked) own started (by kernel_rfl) Try.func4
    (ChangeSpec.witness6 (enc := enc) (C := Try.checked) false ⟨#[], #[.agg #[.int .u64 0, .int .u64 0, .int .u32 0, .int .u16 0, .int .u16 0, .int .u64 0, .int .u32 0, .int .u8 0, .int .u64 0, .int .u64 0, .slice none 0 0], .agg #[.int .u64 0, .int .u64 0, .int .u32 0, .int .u16 0, .int .u16 0, .int .u64 0, .int .u32 0, .int .u8 0, .int .u64 0, .int .u64 0, .slice none 0 0], .agg #[.int .u64 0, .int .u64 0, .int .u32 0, .int .u16 0, .int .u16 0, .int .u64 0, .int .u32 0, .int .u8 0, .int .u64 0, .int .u64 0, .slice none 0 0], .agg #[.int .u64 0, .int .u64 0, .int .u32 0, .int .u16 0, .int .u16 0, .int .u64 0, .int .u32 0, .int .u8 0, .int .u64 0, .int .u64 0, .slice none 0 0]], []⟩ 8 (by kernel_rfl) (by kernel_rfl) (by kernel_rfl) (by kernel_rfl)) ?_
  intro W base args ds gs before hval0 hW hcnd hsz0 _
  have hsz : (DataW.weightsEach Try.prog (Try.f4.params.toList ++ Rows.servedApartSpec.plain.varTypes Try.prog) (ds ++ gs)).all (· ≤ reachBytes) = true := hsz0
  have hval : ∀ (j : Nat) t v, Try.f4.params[j]? = some t → args[j]? = some v → Value.okWide Try.prog W .any base t v := hval0
  have hW' := hW
  obtain ⟨p, q, hA0, hV, rfl, hfz, hnd⟩ := hW
  have hA : DataW.TrodAll enc Try.prog W 0 (fun _ => true) true Try.f4.params.toList args.toList ds p := hA0
  rw [Try.params4] at hA hval hsz
  obtain ⟨v0, vs0, d0, ds0, p0, q0, hargs, rfl, rfl, h0, r0⟩ := trodAll_cons hA
  obtain ⟨v1, vs1, d1, ds1, p1, q1, rfl, rfl, rfl, h1, r1⟩ := trodAll_cons r0
  obtain ⟨v2, vs2, d2, ds2, p2, q2, rfl, rfl, rfl, h2, r2⟩ := trodAll_cons r1
  obtain ⟨v3, vs3, d3, ds3, p3, q3, rfl, rfl, rfl, h3, r3⟩ := trodAll_cons r2
  obtain ⟨rfl, rfl, rfl⟩ := trodAll_nil r3
  obtain rfl : args = #[v0, v1, v2, v3] := by cases args; simp_all
  obtain ⟨rfl, rfl⟩ := trodVars_none hV
  have k0 := h0
  obtain ⟨a0, rfl, hw0⟩ := open_struct Try.underlying29 (hval 0 29 v0 rfl rfl) (WOk.arg hsz (j := 0) rfl rfl) dec_encMessage h0
  have k1 := h1
  obtain ⟨a1, rfl, hw1⟩ := open_struct Try.underlying29 (hval 1 29 v1 rfl rfl) (WOk.arg hsz (j := 1) rfl rfl) dec_encMessage h1
  have k2 := h2
  obtain ⟨a2, rfl, hw2⟩ := open_struct Try.underlying29 (hval 2 29 v2 rfl rfl) (WOk.arg hsz (j := 2) rfl rfl) dec_encMessage h2
  have k3 := h3
  obtain ⟨a3, rfl, hw3⟩ := open_struct Try.underlying29 (hval 3 29 v3 rfl rfl) (WOk.arg hsz (j := 3) rfl rfl) dec_encMessage h3
  clear hA0 hval0 hsz0 hsz
  refine Calls.mono (apart4 (St.refl W) a0.1 a0.2.1 a0.2.2.1 a0.2.2.2.1 a0.2.2.2.2.1 a0.2.2.2.2.2.1 a0.2.2.2.2.2.2.1 a0.2.2.2.2.2.2.2.1 a0.2.2.2.2.2.2.2.2.1 a0.2.2.2.2.2.2.2.2.2.1 (RdSX.old hw0.2.2.2.2.2.2.2.2.2.2.1) hw0.2.2.2.2.2.2.2.2.2.2.2 a1.1 a1.2.1 a1.2.2.1 a1.2.2.2.1 a1.2.2.2.2.1 a1.2.2.2.2.2.1 a1.2.2.2.2.2.2.1 a1.2.2.2.2.2.2.2.1 a1.2.2.2.2.2.2.2.2.1 a1.2.2.2.2.2.2.2.2.2.1 (RdSX.old hw1.2.2.2.2.2.2.2.2.2.2.1) hw1.2.2.2.2.2.2.2.2.2.2.2 a2.1 a2.2.1 a2.2.2.1 a2.2.2.2.1 a2.2.2.2.2.1 a2.2.2.2.2.2.1 a2.2.2.2.2.2.2.1 a2.2.2.2.2.2.2.2.1 a2.2.2.2.2.2.2.2.2.1 a2.2.2.2.2.2.2.2.2.2.1 (RdSX.old hw2.2.2.2.2.2.2.2.2.2.2.1) hw2.2.2.2.2.2.2.2.2.2.2.2 a3.1 a3.2.1 a3.2.2.1 a3.2.2.2.1 a3.2.2.2.2.1 a3.2.2.2.2.2.1 a3.2.2.2.2.2.2.1 a3.2.2.2.2.2.2.2.1 a3.2.2.2.2.2.2.2.2.1 a3.2.2.2.2.2.2.2.2.2.1 (RdSX.old hw3.2.2.2.2.2.2.2.2.2.2.1) hw3.2.2.2.2.2.2.2.2.2.2.2 hw1.2.2.1) fun e W' ⟨v, hev, hvt, hS⟩ => ?_
  subst hev; subst hvt
  have bel := hS.below_
  exact ⟨_, rfl, _, _, _, [], _, [], hW', trodAll_mk1 (shut_bool Try.underlying4 _), (trodAll_cons_mk (trod_back laidOut (by kernel_rfl) (of_decide_eq_true (by kernel_rfl)) k0 bel) (trodAll_cons_mk (trod_back laidOut (by kernel_rfl) (of_decide_eq_true (by kernel_rfl)) k1 bel) (trodAll_cons_mk (trod_back laidOut (by kernel_rfl) (of_decide_eq_true (by kernel_rfl)) k2 bel) (trodAll_cons_mk (trod_back laidOut (by kernel_rfl) (of_decide_eq_true (by kernel_rfl)) k3 bel) trodAll_mk0)))), rfl, bel.frame _, fun h => by cases h⟩
theorem over : Rows.servedApartRow.holds Try.pinned (OpenSpec.ofChange Rows.servedApartSpec) :=
  OpenClaim.holds_of_wide 4 Try.f4 rfl rfl rfl rfl rfl rfl rfl ⟨rfl, rfl, rfl, rfl, rfl⟩ rfl rfl rfl rfl rfl (by kernel_rfl) Try.func4 (by kernel_rfl)
    (of_decide_eq_true (by kernel_rfl)) (by unfold Func.isWrapper; first | (rw [if_pos (by decide +kernel)]; kernel_rfl) | (rw [if_neg (by decide +kernel)]; exact ⟨rfl, rfl⟩))
    (fun os started H enc _ => lifted os started H enc)
end Go.Proofs.Ytljcllaploopaaa.servedApart
namespace Go.Proofs.Ytljcllaploopaaa
theorem servedApart_holds : Rows.ServedApartSaid := servedApart.over
#print axioms servedApart_holds
end Go.Proofs.Ytljcllaploopaaa
