/- GatherApart: for every input the law answers true, and each argument reads as before. -/
import Derived.Test.YtbfdppfddlilgaaRows
import Derived.Test.YtbfdppfddlilgaaSK14
import Derived.Test.YtbfdppfddlilgaaO
namespace Go.Proofs.Ytbfdppfddlilgaa.gatherApart
open Go Go.SK Go.ChangeShapes Go.WideShapes Go.ChangeAt Go.RowKit
set_option linter.unusedVariables false
theorem own : ownKnob Try.prog.godebug = none := by kernel_rfl
theorem laidOut : laidOutB Try.prog = true := by kernel_rfl
set_option maxRecDepth 100000 in
theorem lifted (os : Os) (started : os.Started) (H : Type) (enc : TypeId × Value → H) :
    ReturnsInHanded {} Try.checked os 4 .any (Rows.gatherApartSpec.pre6 enc Try.prog Try.f4 Rows.gatherApartRow.domain false) (Rows.gatherApartSpec.post enc Try.prog Try.f4 false true false false) := by
  refine returnsInHanded_of_change_sized (C := Try.checked) own started (by kernel_rfl) Try.func4
    (ChangeSpec.witness6 (enc := enc) (C := Try.checked) false ⟨#[], #[.slice none 0 0, .slice none 0 0, .int .u8 0, .slice none 0 0], []⟩ 8 (by kernel_rfl) (by kernel_rfl) (by kernel_rfl) (by kernel_rfl)) ?_
  intro W base args ds gs before hval0 hW hcnd hsz0 _
  have hsz : (DataW.weightsEach Try.prog (Try.f4.params.toList ++ Rows.gatherApartSpec.plain.varTypes Try.prog) (ds ++ gs)).all (· ≤ reachBytes) = true := hsz0
  have hval : ∀ (j : Nat) t v, Try.f4.params[j]? = some t → args[j]? = some v → Value.okWide Try.prog W .any base t v := hval0
  have hW' := hW
  obtain ⟨p, q, hA0, hV, rfl, hfz, hnd⟩ := hW
  have hA : DataW.TrodAll enc Try.prog W 0 (fun _ => true) true Try.f4.params.toList args.toList ds p := hA0
  rw [Try.params4] at hA hval hsz
  obtain ⟨v0, vs0, d0, ds0, p0, q0, hargs, rfl, rfl, h0, r0⟩ := trodAll_cons hA
  obtain ⟨v1, vs1, d1, ds1, p1, q1, rfl, rfl, rfl, h1, r1⟩ := trodAll_cons r0
  obtain ⟨v2, vs2, d2, ds2, p2, q2, rfl, rfl, rfl, h2, r2⟩ := trodAll_cons r1
  obtain ⟨v3, vs3, d3, ds3, p3, q3, rfl, rfl, rfl, h3, r3⟩ := trodAll_cons r2
  obtain ⟨rfl, rfl, rfl⟩ := trodAll_nil r3
  obtain rfl : args = #[v0, v1, v2, v3] := by cases args; simp_all
  obtain ⟨rfl, rfl⟩ := trodVars_none hV
  have k0 := h0
  obtain ⟨l0, hr0, hw0, hn0⟩ := open_rows encB_ok (by decide) Try.underlying22 (by kernel_rfl) (hval 0 22 v0 rfl rfl) (dec_u8 Try.underlying5) h0
  have hb0 : l0.length * 1 ≤ 140737488351232 := sized_rows hsz (j := 0) rfl rfl Try.underlying22 (by kernel_rfl) hn0
  have k1 := h1
  obtain ⟨l1, hr1, hw1, hn1⟩ := open_rows encB_ok (by decide) Try.underlying22 (by kernel_rfl) (hval 1 22 v1 rfl rfl) (dec_u8 Try.underlying5) h1
  have hb1 : l1.length * 1 ≤ 140737488351232 := sized_rows hsz (j := 1) rfl rfl Try.underlying22 (by kernel_rfl) hn1
  have k2 := h2
  obtain ⟨a2, rfl, rfl, rfl, hw2⟩ := open_int Try.underlying5 (hval 2 5 v2 rfl rfl) h2
  have k3 := h3
  obtain ⟨l3, hr3, hw3, hn3⟩ := open_rows encBo_ok (by decide) Try.underlying34 (by kernel_rfl) (hval 3 34 v3 rfl rfl) (dec_bool Try.underlying4) h3
  have hb3 : l3.length * 1 ≤ 140737488351232 := sized_rows hsz (j := 3) rfl rfl Try.underlying34 (by kernel_rfl) hn3
  clear hA0 hval0 hsz0 hsz
  refine Calls.mono (apart4 (St.refl W) (RdS.of hr0) hb0 (RdS.of hr1) hb1 a2 (wf_u8 hw2).1 (wf_u8 hw2).2 (RdS.of hr3)) fun e W' ⟨v, hev, hvt, hS⟩ => ?_
  subst hev; subst hvt
  have bel := hS.below_
  exact ⟨_, rfl, _, _, _, [], _, [], hW', trodAll_mk1 (shut_bool Try.underlying4 _), (trodAll_cons_mk (trod_back laidOut (by kernel_rfl) (of_decide_eq_true (by kernel_rfl)) k0 bel) (trodAll_cons_mk (trod_back laidOut (by kernel_rfl) (of_decide_eq_true (by kernel_rfl)) k1 bel) (trodAll_cons_mk (trod_back laidOut (by kernel_rfl) (of_decide_eq_true (by kernel_rfl)) k2 bel) (trodAll_cons_mk (trod_back laidOut (by kernel_rfl) (of_decide_eq_true (by kernel_rfl)) k3 bel) trodAll_mk0)))), rfl, bel.frame _, fun h => by cases h⟩
theorem over : Rows.gatherApartRow.holds Try.pinned (OpenSpec.ofChange Rows.gatherApartSpec) :=
  OpenClaim.holds_of_wide 4 Try.f4 rfl rfl rfl rfl rfl rfl rfl ⟨rfl, rfl, rfl, rfl, rfl⟩ rfl rfl rfl rfl rfl (by kernel_rfl) Try.func4 (by kernel_rfl)
    (of_decide_eq_true (by kernel_rfl)) (by unfold Func.isWrapper; first | (rw [if_pos (by decide +kernel)]; kernel_rfl) | (rw [if_neg (by decide +kernel)]; exact ⟨rfl, rfl⟩))
    (fun os started H enc _ => lifted os started H enc)
end Go.Proofs.Ytbfdppfddlilgaa.gatherApart
namespace Go.Proofs.Ytbfdppfddlilgaa
theorem gatherApart_holds : Rows.GatherApartSaid := gatherApart.over
#print axioms gatherApart_holds
end Go.Proofs.Ytbfdppfddlilgaa
