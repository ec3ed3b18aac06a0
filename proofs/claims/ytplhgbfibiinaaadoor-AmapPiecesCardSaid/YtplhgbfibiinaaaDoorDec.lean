import Derived.Test.YtplhgbfibiinaaaDoorSK14
import Derived.Test.YtplhgbfibiinaaaDoorH
set_option linter.unusedSimpArgs false
set_option linter.unusedVariables false
set_option maxRecDepth 4000
namespace Go.Proofs.YtplhgbfibiinaaaDoor
open Go Go.SK Go.ChangeShapes Go.WideShapes Go.RowKit
def encArea_good (w : World) (x : (Int × Int × Int × Int × Bool)) : Prop := (-9223372036854775808 ≤ x.1 ∧ x.1 < 9223372036854775808) ∧ (-9223372036854775808 ≤ x.2.1 ∧ x.2.1 < 9223372036854775808) ∧ (-9223372036854775808 ≤ x.2.2.1 ∧ x.2.2.1 < 9223372036854775808) ∧ (-9223372036854775808 ≤ x.2.2.2.1 ∧ x.2.2.2.1 < 9223372036854775808)
theorem dec_encArea {H : Type} {enc : TypeId × Value → H} {w : World} {spare : Nat → Bool} {held : Bool} : ∀ n cs x, DataW.trod enc Tryd.prog w 0 spare held n 24 cs = some x → WOk Tryd.prog 24 x.1 → ∃ a, cs = encArea a ∧ encArea_good w a := fun n cs x h hw => by
  obtain ⟨xs, m, _, hx, hl, hxl, hf⟩ := DataW.trod_struct Tryd.underlying24 h
  subst hx
  have hc : Tryd.prog.cellsOf 24 = 5 := by kernel_rfl
  rw [hc] at hl
  obtain ⟨c0, c1, c2, c3, c4, rfl⟩ : ∃ c0 c1 c2 c3 c4, cs = [c0, c1, c2, c3, c4] := by
    match cs, hl with
    | [c0, c1, c2, c3, c4], _ => exact ⟨_, _, _, _, _, rfl⟩
  obtain ⟨y0, hy0⟩ : ∃ y, xs[0]? = some y := ⟨_, List.getElem?_eq_getElem (by rw [hxl]; decide)⟩
  have h0 : DataW.trod enc Tryd.prog w 0 spare held m 3 (([c0, c1, c2, c3, c4].drop 0).take (Tryd.prog.cellsOf 3)) = xs[0]? := hf 0 _ rfl
  have k0 : Tryd.prog.cellsOf 3 = 1 := by kernel_rfl
  have w0 : WOk Tryd.prog 3 y0.1 := hw.part Tryd.underlying24 (i := 0) rfl (by rw [List.getElem?_map, hy0]; rfl)
  rw [k0, hy0] at h0
  obtain ⟨n0, e0, _, g0⟩ := DataW.trod_int Tryd.underlying3 h0
  simp only [List.drop_succ_cons, List.drop_zero, List.take_succ_cons, List.take_zero] at e0
  injection e0 with e0 _
  obtain ⟨y1, hy1⟩ : ∃ y, xs[1]? = some y := ⟨_, List.getElem?_eq_getElem (by rw [hxl]; decide)⟩
  have h1 : DataW.trod enc Tryd.prog w 0 spare held m 3 (([c0, c1, c2, c3, c4].drop 1).take (Tryd.prog.cellsOf 3)) = xs[1]? := hf 1 _ rfl
  have k1 : Tryd.prog.cellsOf 3 = 1 := by kernel_rfl
  have w1 : WOk Tryd.prog 3 y1.1 := hw.part Tryd.underlying24 (i := 1) rfl (by rw [List.getElem?_map, hy1]; rfl)
  rw [k1, hy1] at h1
  obtain ⟨n1, e1, _, g1⟩ := DataW.trod_int Tryd.underlying3 h1
  simp only [List.drop_succ_cons, List.drop_zero, List.take_succ_cons, List.take_zero] at e1
  injection e1 with e1 _
  obtain ⟨y2, hy2⟩ : ∃ y, xs[2]? = some y := ⟨_, List.getElem?_eq_getElem (by rw [hxl]; decide)⟩
  have h2 : DataW.trod enc Tryd.prog w 0 spare held m 3 (([c0, c1, c2, c3, c4].drop 2).take (Tryd.prog.cellsOf 3)) = xs[2]? := hf 2 _ rfl
  have k2 : Tryd.prog.cellsOf 3 = 1 := by kernel_rfl
  have w2 : WOk Tryd.prog 3 y2.1 := hw.part Tryd.underlying24 (i := 2) rfl (by rw [List.getElem?_map, hy2]; rfl)
  rw [k2, hy2] at h2
  obtain ⟨n2, e2, _, g2⟩ := DataW.trod_int Tryd.underlying3 h2
  simp only [List.drop_succ_cons, List.drop_zero, List.take_succ_cons, List.take_zero] at e2
  injection e2 with e2 _
  obtain ⟨y3, hy3⟩ : ∃ y, xs[3]? = some y := ⟨_, List.getElem?_eq_getElem (by rw [hxl]; decide)⟩
  have h3 : DataW.trod enc Tryd.prog w 0 spare held m 3 (([c0, c1, c2, c3, c4].drop 3).take (Tryd.prog.cellsOf 3)) = xs[3]? := hf 3 _ rfl
  have k3 : Tryd.prog.cellsOf 3 = 1 := by kernel_rfl
  have w3 : WOk Tryd.prog 3 y3.1 := hw.part Tryd.underlying24 (i := 3) rfl (by rw [List.getElem?_map, hy3]; rfl)
  rw [k3, hy3] at h3
  obtain ⟨n3, e3, _, g3⟩ := DataW.trod_int Tryd.underlying3 h3
  simp only [List.drop_succ_cons, List.drop_zero, List.take_succ_cons, List.take_zero] at e3
  injection e3 with e3 _
  obtain ⟨y4, hy4⟩ : ∃ y, xs[4]? = some y := ⟨_, List.getElem?_eq_getElem (by rw [hxl]; decide)⟩
  have h4 : DataW.trod enc Tryd.prog w 0 spare held m 4 (([c0, c1, c2, c3, c4].drop 4).take (Tryd.prog.cellsOf 4)) = xs[4]? := hf 4 _ rfl
  have k4 : Tryd.prog.cellsOf 4 = 1 := by kernel_rfl
  have w4 : WOk Tryd.prog 4 y4.1 := hw.part Tryd.underlying24 (i := 4) rfl (by rw [List.getElem?_map, hy4]; rfl)
  rw [k4, hy4] at h4
  obtain ⟨n4, e4, _⟩ := DataW.trod_bool Tryd.underlying4 h4
  simp only [List.drop_succ_cons, List.drop_zero, List.take_succ_cons, List.take_zero] at e4
  injection e4 with e4 _
  subst e0
  subst e1
  subst e2
  subst e3
  subst e4
  exact ⟨(n0, n1, n2, n3, n4), rfl, ⟨wf_i64 g0, wf_i64 g1, wf_i64 g2, wf_i64 g3⟩⟩
end Go.Proofs.YtplhgbfibiinaaaDoor
