import Derived.Test.YthpdmjghabehpaaDoorSKR
import Derived.Test.YthpdmjghabehpaaDoorH
set_option linter.unusedSimpArgs false
namespace Go.Proofs.YthpdmjghabehpaaDoor
open Go Go.SK Go.ChangeShapes Go.WideShapes Go.RowKit
theorem dec_encAct {H : Type} {enc : TypeId × Value → H} {w : World} {spare : Nat → Bool} {held : Bool} : ∀ n cs x, DataW.trod enc Tryd.prog w 0 spare held n 30 cs = some x → ∃ a, cs = encAct a ∧ encAct_good a := fun n cs x h => by
  obtain ⟨xs, m, _, _, hl, hxl, hf⟩ := DataW.trod_struct Tryd.underlying30 h
  have hc : Tryd.prog.cellsOf 30 = 2 := by kernel_rfl
  rw [hc] at hl
  obtain ⟨c0, c1, rfl⟩ : ∃ c0 c1, cs = [c0, c1] := by
    match cs, hl with
    | [c0, c1], _ => exact ⟨_, _, rfl⟩
  obtain ⟨y0, hy0⟩ : ∃ y, xs[0]? = some y := ⟨_, List.getElem?_eq_getElem (by rw [hxl]; decide)⟩
  have h0 : DataW.trod enc Tryd.prog w 0 spare held m 5 (([c0, c1].drop 0).take (Tryd.prog.cellsOf 5)) = xs[0]? := hf 0 _ rfl
  have k0 : Tryd.prog.cellsOf 5 = 1 := by kernel_rfl
  rw [k0, hy0] at h0
  obtain ⟨n0, e0, _, g0⟩ := DataW.trod_int Tryd.underlying5 h0
  simp only [List.drop_succ_cons, List.drop_zero, List.take_succ_cons, List.take_zero] at e0
  injection e0 with e0 _
  obtain ⟨y1, hy1⟩ : ∃ y, xs[1]? = some y := ⟨_, List.getElem?_eq_getElem (by rw [hxl]; decide)⟩
  have h1 : DataW.trod enc Tryd.prog w 0 spare held m 28 (([c0, c1].drop 1).take (Tryd.prog.cellsOf 28)) = xs[1]? := hf 1 _ rfl
  have k1 : Tryd.prog.cellsOf 28 = 1 := by kernel_rfl
  rw [k1, hy1] at h1
  obtain ⟨n1, e1, _, g1⟩ := DataW.trod_int Tryd.underlying28 h1
  simp only [List.drop_succ_cons, List.drop_zero, List.take_succ_cons, List.take_zero] at e1
  injection e1 with e1 _
  subst e0
  subst e1
  exact ⟨(n0, n1), rfl, wf_u8 g0, wf_i8 g1⟩
end Go.Proofs.YthpdmjghabehpaaDoor
