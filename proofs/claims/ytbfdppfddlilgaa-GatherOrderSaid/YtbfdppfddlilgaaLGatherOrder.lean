/- GatherOrder: for every input the law answers true, and each argument reads as before. -/
import Derived.Test.YtbfdppfddlilgaaRows
import Derived.Test.YtbfdppfddlilgaaSK14
import Derived.Test.YtbfdppfddlilgaaN
namespace Go.Proofs.Ytbfdppfddlilgaa.gatherOrder
open Go Go.SK Go.ChangeShapes Go.WideShapes Go.ChangeAt Go.RowKit
set_option linter.unusedVariables false
theorem own : ownKnob Try.prog.godebug = none := by kernel_rfl
theorem laidOut : laidOutB Try.prog = true := by kernel_rfl
set_option maxRecDepth 100000 in
theorem lifted (os : Os) (started : os.Started) (H : Type) (enc : TypeId × Value → H) :
    ReturnsInHanded {} Try.checked os 3 .any (Rows.gatherOrderSpec.pre6 enc Try.prog Try.f3 Rows.gatherOrderRow.domain false) (Rows.gatherOrderSpec.post enc Try.prog Try.f3 false true false false) := by
  refine returnsInHanded_of_change_sized (C := Try.checked) own started (by kernel_rfl) Try.func3
    (ChangeSpec.witness6 (enc := enc) (C := Try.checked) false ⟨#[], #[.slice none 0 0, .int .u8 0, .slice none 0 0], []⟩ 8 (by kernel_rfl) (by kernel_rfl) (by kernel_rfl) (by kernel_rfl)) ?_
  intro W base args ds gs before hval0 hW hcnd hsz0 _
  have hsz : (DataW.weightsEach Try.prog (Try.f3.params.toList ++ Rows.gatherOrderSpec.plain.varTypes Try.prog) (ds ++ gs)).all (· ≤ reachBytes) = true := hsz0
  have hval : ∀ (j : Nat) t v, Try.f3.params[j]? = some t → args[j]? = some v → Value.okWide Try.prog W .any base t v := hval0
  have hW' := hW
  obtain ⟨p, q, hA0, hV, rfl, hfz, hnd⟩ := hW
  have hA : DataW.TrodAll enc Try.prog W 0 (fun _ => true) true Try.f3.params.toList args.toList ds p := hA0
  rw [Try.params3] at hA hval hsz
  obtain ⟨v0, vs0, d0, ds0, p0, q0, hargs, rfl, rfl, h0, r0⟩ := trodAll_cons hA
  obtain ⟨v1, vs1, d1, ds1, p1, q1, rfl, rfl, rfl, h1, r1⟩ := trodAll_cons r0
  obtain ⟨v2, vs2, d2, ds2, p2, q2, rfl, rfl, rfl, h2, r2⟩ := trodAll_cons r1
  obtain ⟨rfl, rfl, rfl⟩ := trodAll_nil r2
  obtain rfl : args = #[v0, v1, v2] := by cases args; simp_all
  obtain ⟨rfl, rfl⟩ := trodVars_none hV
  have k0 := h0
  obtain ⟨l0, hr0, hw0, hn0⟩ := open_rows encB_ok (by decide) Try.underlying22 (by kernel_rfl) (hval 0 22 v0 rfl rfl) (dec_u8 Try.underlying5) h0
  have hb0 : l0.length * 1 ≤ 140737488351232 := sized_rows hsz (j := 0) rfl rfl Try.underlying22 (by kernel_rfl) hn0
  have k1 := h1
  obtain ⟨a1, rfl, rfl, rfl, hw1⟩ := open_int Try.underlying5 (hval 1 5 v1 rfl rfl) h1
  have k2 := h2
  obtain ⟨l2, hr2, hw2, hn2⟩ := open_rows encB_ok (by decide) Try.underlying22 (by kernel_rfl) (hval 2 22 v2 rfl rfl) (dec_u8 Try.underlying5) h2
  have hb2 : l2.length * 1 ≤ 140737488351232 := sized_rows hsz (j := 2) rfl rfl Try.underlying22 (by kernel_rfl) hn2
  clear hA0 hval0 hsz0 hsz
  refine Calls.mono (order3 (St.refl W) (RdS.of hr0) hb0 a1 (wf_u8 hw1).1 (wf_u8 hw1).2 (RdS.of hr2)) fun e W' ⟨v, hev, hvt, hS⟩ => ?_
  subst hev; subst hvt
  have bel := hS.below_
  exact ⟨_, rfl, _, _, _, [], _, [], hW', trodAll_mk1 (shut_bool Try.underlying4 _), (trodAll_cons_mk (trod_back laidOut (by kernel_rfl) (of_decide_eq_true (by kernel_rfl)) k0 bel) (trodAll_cons_mk (trod_back laidOut (by kernel_rfl) (of_decide_eq_true (by kernel_rfl)) k1 bel) (trodAll_cons_mk (trod_back laidOut (by kernel_rfl) (of_decide_eq_true (by kernel_rfl)) k2 bel) trodAll_mk0))), rfl, bel.frame _, fun h => by cases h⟩
theorem over : Rows.gatherOrderRow.holds Try.pinned (OpenSpec.ofChange Rows.gatherOrderSpec) :=
  OpenClaim.holds_of_wide 3 Try.f3 rfl rfl rfl rfl rfl rfl rfl ⟨rfl, rfl, rfl, rfl, rfl⟩ rfl rfl rfl rfl rfl (by kernel_rfl) Try.func3 (by kernel_rfl)
    (of_decide_eq_true (by kernel_rfl)) (by unfold Func.isWrapper; first | (rw [if_pos (by decide +kernel)]; kernel_rfl) | (rw [if_neg (by decide +kernel)]; exact ⟨rfl, rfl⟩))
    (fun os started H enc _ => lifted os started H enc)
end Go.Proofs.Ytbfdppfddlilgaa.gatherOrder
namespace Go.Proofs.Ytbfdppfddlilgaa
theorem gatherOrder_holds : Rows.GatherOrderSaid := gatherOrder.over
#print axioms gatherOrder_holds
end Go.Proofs.Ytbfdppfddlilgaa
