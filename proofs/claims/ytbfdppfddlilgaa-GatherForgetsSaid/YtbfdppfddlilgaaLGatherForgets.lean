/- GatherForgets: for every input the law answers true, and each argument reads as before. -/
import Derived.Test.YtbfdppfddlilgaaRows
import Derived.Test.YtbfdppfddlilgaaSK14
import Derived.Test.YtbfdppfddlilgaaP
namespace Go.Proofs.Ytbfdppfddlilgaa.gatherForgets
open Go Go.SK Go.ChangeShapes Go.WideShapes Go.ChangeAt Go.RowKit
set_option linter.unusedVariables false
theorem own : ownKnob Try.prog.godebug = none := by kernel_rfl
theorem laidOut : laidOutB Try.prog = true := by kernel_rfl
set_option maxRecDepth 100000 in
theorem lifted (os : Os) (started : os.Started) (H : Type) (enc : TypeId × Value → H) :
    ReturnsInHanded {} Try.checked os 6 .any (Rows.gatherForgetsSpec.pre6 enc Try.prog Try.f6 Rows.gatherForgetsRow.domain false) (Rows.gatherForgetsSpec.post enc Try.prog Try.f6 false true false false) := by
  refine returnsInHanded_of_change_sized (C := Try.checked) own started (by kernel_rfl) Try.func6
    (ChangeSpec.witness6 (enc := enc) (C := Try.checked) false ⟨#[], #[.slice none 0 0, .int .u8 0], []⟩ 8 (by kernel_rfl) (by kernel_rfl) (by kernel_rfl) (by kernel_rfl)) ?_
  intro W base args ds gs before hval0 hW hcnd hsz0 _
  have hsz : (DataW.weightsEach Try.prog (Try.f6.params.toList ++ Rows.gatherForgetsSpec.plain.varTypes Try.prog) (ds ++ gs)).all (· ≤ reachBytes) = true := hsz0
  have hval : ∀ (j : Nat) t v, Try.f6.params[j]? = some t → args[j]? = some v → Value.okWide Try.prog W .any base t v := hval0
  have hW' := hW
  obtain ⟨p, q, hA0, hV, rfl, hfz, hnd⟩ := hW
  have hA : DataW.TrodAll enc Try.prog W 0 (fun _ => true) true Try.f6.params.toList args.toList ds p := hA0
  rw [Try.params6] at hA hval hsz
  obtain ⟨v0, vs0, d0, ds0, p0, q0, hargs, rfl, rfl, h0, r0⟩ := trodAll_cons hA
  obtain ⟨v1, vs1, d1, ds1, p1, q1, rfl, rfl, rfl, h1, r1⟩ := trodAll_cons r0
  obtain ⟨rfl, rfl, rfl⟩ := trodAll_nil r1
  obtain rfl : args = #[v0, v1] := by cases args; simp_all
  obtain ⟨rfl, rfl⟩ := trodVars_none hV
  have k0 := h0
  obtain ⟨l0, hr0, hw0, hn0⟩ := open_rows encB_ok (by decide) Try.underlying22 (by kernel_rfl) (hval 0 22 v0 rfl rfl) (dec_u8 Try.underlying5) h0
  have hb0 : l0.length * 1 ≤ 140737488351232 := sized_rows hsz (j := 0) rfl rfl Try.underlying22 (by kernel_rfl) hn0
  have k1 := h1
  obtain ⟨a1, rfl, rfl, rfl, hw1⟩ := open_int Try.underlying5 (hval 1 5 v1 rfl rfl) h1
  clear hA0 hval0 hsz0 hsz
  refine Calls.mono (forgets6 (St.refl W) (RdS.of hr0) hb0 a1 (wf_u8 hw1).1 (wf_u8 hw1).2) fun e W' ⟨v, hev, hvt, hS⟩ => ?_
  subst hev; subst hvt
  have bel := hS.below_
  exact ⟨_, rfl, _, _, _, [], _, [], hW', trodAll_mk1 (shut_bool Try.underlying4 _), (trodAll_cons_mk (trod_back laidOut (by kernel_rfl) (of_decide_eq_true (by kernel_rfl)) k0 bel) (trodAll_cons_mk (trod_back laidOut (by kernel_rfl) (of_decide_eq_true (by kernel_rfl)) k1 bel) trodAll_mk0)), rfl, bel.frame _, fun h => by cases h⟩
theorem over : Rows.gatherForgetsRow.holds Try.pinned (OpenSpec.ofChange Rows.gatherForgetsSpec) :=
  OpenClaim.holds_of_wide 6 Try.f6 rfl rfl rfl rfl rfl rfl rfl ⟨rfl, rfl, rfl, rfl, rfl⟩ rfl rfl rfl rfl rfl (by kernel_rfl) Try.func6 (by kernel_rfl)
    (of_decide_eq_true (by kernel_rfl)) (by unfold Func.isWrapper; first | (rw [if_pos (by decide +kernel)]; kernel_rfl) | (rw [if_neg (by decide +kernel)]; exact ⟨rfl, rfl⟩))
    (fun os started H enc _ => lifted os started H enc)
end Go.Proofs.Ytbfdppfddlilgaa.gatherForgets
namespace Go.Proofs.Ytbfdppfddlilgaa
theorem gatherForgets_holds : Rows.GatherForgetsSaid := gatherForgets.over
#print axioms gatherForgets_holds
end Go.Proofs.Ytbfdppfddlilgaa
