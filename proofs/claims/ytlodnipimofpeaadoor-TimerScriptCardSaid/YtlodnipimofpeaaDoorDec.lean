import Derived.Test.YtlodnipimofpeaaDoorSKR
import Derived.Test.YtlodnipimofpeaaDoorG
set_option linter.unusedSimpArgs false
set_option maxRecDepth 4000
namespace Go.Proofs.YtlodnipimofpeaaDoor
open Go Go.SK Go.ChangeShapes Go.WideShapes Go.RowKit
theorem dec_encAct {H : Type} {enc : TypeId × Value → H} {w : World} {spare : Nat → Bool} {held : Bool} : ∀ n cs x, DataW.trod enc Tryd.prog w 0 spare held n 32 cs = some x → ∃ a, cs = encAct a ∧ encAct_good a := fun n cs x h => by
  obtain ⟨xs, m, _, _, hl, hxl, hf⟩ := DataW.trod_struct Tryd.underlying32 h
  have hc : Tryd.prog.cellsOf 32 = 3 := by kernel_rfl
  rw [hc] at hl
  obtain ⟨c0, c1, c2, rfl⟩ : ∃ c0 c1 c2, cs = [c0, c1, c2] := by
    match cs, hl with
    | [c0, c1, c2], _ => exact ⟨_, _, _, rfl⟩
  obtain ⟨y0, hy0⟩ : ∃ y, xs[0]? = some y := ⟨_, List.getElem?_eq_getElem (by rw [hxl]; decide)⟩
  have h0 : DataW.trod enc Tryd.prog w 0 spare held m 5 (([c0, c1, c2].drop 0).take (Tryd.prog.cellsOf 5)) = xs[0]? := hf 0 _ rfl
  have k0 : Tryd.prog.cellsOf 5 = 1 := by kernel_rfl
  rw [k0, hy0] at h0
  obtain ⟨n0, e0, _, g0⟩ := DataW.trod_int Tryd.underlying5 h0
  simp only [List.drop_succ_cons, List.drop_zero, List.take_succ_cons, List.take_zero] at e0
  injection e0 with e0 _
  obtain ⟨y1, hy1⟩ : ∃ y, xs[1]? = some y := ⟨_, List.getElem?_eq_getElem (by rw [hxl]; decide)⟩
  have h1 : DataW.trod enc Tryd.prog w 0 spare held m 30 (([c0, c1, c2].drop 1).take (Tryd.prog.cellsOf 30)) = xs[1]? := hf 1 _ rfl
  have k1 : Tryd.prog.cellsOf 30 = 1 := by kernel_rfl
  rw [k1, hy1] at h1
  obtain ⟨n1, e1, _, g1⟩ := DataW.trod_int Tryd.underlying30 h1
  simp only [List.drop_succ_cons, List.drop_zero, List.take_succ_cons, List.take_zero] at e1
  injection e1 with e1 _
  obtain ⟨y2, hy2⟩ : ∃ y, xs[2]? = some y := ⟨_, List.getElem?_eq_getElem (by rw [hxl]; decide)⟩
  have h2 : DataW.trod enc Tryd.prog w 0 spare held m 21 (([c0, c1, c2].drop 2).take (Tryd.prog.cellsOf 21)) = xs[2]? := hf 2 _ rfl
  have k2 : Tryd.prog.cellsOf 21 = 1 := by kernel_rfl
  rw [k2, hy2] at h2
  obtain ⟨n2, e2, _, g2⟩ := DataW.trod_int Tryd.underlying21 h2
  simp only [List.drop_succ_cons, List.drop_zero, List.take_succ_cons, List.take_zero] at e2
  injection e2 with e2 _
  subst e0
  subst e1
  subst e2
  exact ⟨(n0, n1, n2), rfl, wf_u8 g0, wf_i8 g1, wf_i32 g2⟩
end Go.Proofs.YtlodnipimofpeaaDoor
