import Derived.Test.YtjdkcdeldmjdmaaDoorSK13
import Derived.Test.YtjdkcdeldmjdmaaDoorH
set_option linter.unusedSimpArgs false
set_option linter.unusedVariables false
set_option maxRecDepth 4000
namespace Go.Proofs.YtjdkcdeldmjdmaaDoor
open Go Go.SK Go.ChangeShapes Go.WideShapes Go.RowKit
def encCap (x : Int × Int × Int × Int) : List Value := [.int .u64 x.1, .int .u32 x.2.1, .int .u8 x.2.2.1, .int .u64 x.2.2.2]
theorem encCap_ok : Enc encCap 4 := ⟨fun _ => rfl, fun x u hu => by simp only [encCap, List.mem_cons, List.not_mem_nil, or_false] at hu; rcases hu with rfl | rfl | rfl | rfl <;> rfl⟩
def encCap_dd (w0 : World) (D : Chunk) (x : Int × Int × Int × Int) : Prop := True
theorem encCap_left {w0 : World} {D E : Chunk} {x : Int × Int × Int × Int} (h : encCap_dd w0 D x) : encCap_dd w0 (E ++ D) x := trivial
theorem encCap_lefts {w0 : World} {D E : Chunk} {l : List (Int × Int × Int × Int)} (h : ∀ x ∈ l, encCap_dd w0 D x) : ∀ x ∈ l, encCap_dd w0 (E ++ D) x := fun x hx => encCap_left (h x hx)
def encCap_good (w : World) (x : (Int × Int × Int × Int)) : Prop := (0 ≤ x.1 ∧ x.1 < 18446744073709551616) ∧ (0 ≤ x.2.1 ∧ x.2.1 < 4294967296) ∧ (0 ≤ x.2.2.1 ∧ x.2.2.1 < 256) ∧ (0 ≤ x.2.2.2 ∧ x.2.2.2 < 18446744073709551616)
theorem dec_encCap {H : Type} {enc : TypeId × Value → H} {w : World} {spare : Nat → Bool} {held : Bool} : ∀ n cs x, DataW.trod enc Tryd.prog w 0 spare held n 29 cs = some x → WOk Tryd.prog 29 x.1 → ∃ a, cs = encCap a ∧ encCap_good w a := fun n cs x h hw => by
  obtain ⟨xs, m, _, hx, hl, hxl, hf⟩ := DataW.trod_struct Tryd.underlying29 h
  subst hx
  have hc : Tryd.prog.cellsOf 29 = 4 := by kernel_rfl
  rw [hc] at hl
  obtain ⟨c0, c1, c2, c3, rfl⟩ : ∃ c0 c1 c2 c3, cs = [c0, c1, c2, c3] := by
    match cs, hl with
    | [c0, c1, c2, c3], _ => exact ⟨_, _, _, _, rfl⟩
  obtain ⟨y0, hy0⟩ : ∃ y, xs[0]? = some y := ⟨_, List.getElem?_eq_getElem (by rw [hxl]; decide)⟩
  have h0 : DataW.trod enc Tryd.prog w 0 spare held m 25 (([c0, c1, c2, c3].drop 0).take (Tryd.prog.cellsOf 25)) = xs[0]? := hf 0 _ rfl
  have k0 : Tryd.prog.cellsOf 25 = 1 := by kernel_rfl
  have w0 : WOk Tryd.prog 25 y0.1 := hw.part Tryd.underlying29 (i := 0) rfl (by rw [List.getElem?_map, hy0]; rfl)
  rw [k0, hy0] at h0
  obtain ⟨n0, e0, _, g0⟩ := DataW.trod_int Tryd.underlying25 h0
  simp only [List.drop_succ_cons, List.drop_zero, List.take_succ_cons, List.take_zero] at e0
  injection e0 with e0 _
  obtain ⟨y1, hy1⟩ : ∃ y, xs[1]? = some y := ⟨_, List.getElem?_eq_getElem (by rw [hxl]; decide)⟩
  have h1 : DataW.trod enc Tryd.prog w 0 spare held m 26 (([c0, c1, c2, c3].drop 1).take (Tryd.prog.cellsOf 26)) = xs[1]? := hf 1 _ rfl
  have k1 : Tryd.prog.cellsOf 26 = 1 := by kernel_rfl
  have w1 : WOk Tryd.prog 26 y1.1 := hw.part Tryd.underlying29 (i := 1) rfl (by rw [List.getElem?_map, hy1]; rfl)
  rw [k1, hy1] at h1
  obtain ⟨n1, e1, _, g1⟩ := DataW.trod_int Tryd.underlying26 h1
  simp only [List.drop_succ_cons, List.drop_zero, List.take_succ_cons, List.take_zero] at e1
  injection e1 with e1 _
  obtain ⟨y2, hy2⟩ : ∃ y, xs[2]? = some y := ⟨_, List.getElem?_eq_getElem (by rw [hxl]; decide)⟩
  have h2 : DataW.trod enc Tryd.prog w 0 spare held m 5 (([c0, c1, c2, c3].drop 2).take (Tryd.prog.cellsOf 5)) = xs[2]? := hf 2 _ rfl
  have k2 : Tryd.prog.cellsOf 5 = 1 := by kernel_rfl
  have w2 : WOk Tryd.prog 5 y2.1 := hw.part Tryd.underlying29 (i := 2) rfl (by rw [List.getElem?_map, hy2]; rfl)
  rw [k2, hy2] at h2
  obtain ⟨n2, e2, _, g2⟩ := DataW.trod_int Tryd.underlying5 h2
  simp only [List.drop_succ_cons, List.drop_zero, List.take_succ_cons, List.take_zero] at e2
  injection e2 with e2 _
  obtain ⟨y3, hy3⟩ : ∃ y, xs[3]? = some y := ⟨_, List.getElem?_eq_getElem (by rw [hxl]; decide)⟩
  have h3 : DataW.trod enc Tryd.prog w 0 spare held m 25 (([c0, c1, c2, c3].drop 3).take (Tryd.prog.cellsOf 25)) = xs[3]? := hf 3 _ rfl
  have k3 : Tryd.prog.cellsOf 25 = 1 := by kernel_rfl
  have w3 : WOk Tryd.prog 25 y3.1 := hw.part Tryd.underlying29 (i := 3) rfl (by rw [List.getElem?_map, hy3]; rfl)
  rw [k3, hy3] at h3
  obtain ⟨n3, e3, _, g3⟩ := DataW.trod_int Tryd.underlying25 h3
  simp only [List.drop_succ_cons, List.drop_zero, List.take_succ_cons, List.take_zero] at e3
  injection e3 with e3 _
  subst e0
  subst e1
  subst e2
  subst e3
  exact ⟨(n0, n1, n2, n3), rfl, ⟨wf_u64 g0, wf_u32 g1, wf_u8 g2, wf_u64 g3⟩⟩
def encMessage_good (w : World) (x : (Int × Int × Int × Int × Int × Int × Int × Int × Int × Int × Option Addr × Nat × List UInt8)) : Prop := (0 ≤ x.1 ∧ x.1 < 18446744073709551616) ∧ (0 ≤ x.2.1 ∧ x.2.1 < 18446744073709551616) ∧ (0 ≤ x.2.2.1 ∧ x.2.2.1 < 4294967296) ∧ (0 ≤ x.2.2.2.1 ∧ x.2.2.2.1 < 65536) ∧ (0 ≤ x.2.2.2.2.1 ∧ x.2.2.2.2.1 < 65536) ∧ (0 ≤ x.2.2.2.2.2.1 ∧ x.2.2.2.2.2.1 < 18446744073709551616) ∧ (0 ≤ x.2.2.2.2.2.2.1 ∧ x.2.2.2.2.2.2.1 < 4294967296) ∧ (0 ≤ x.2.2.2.2.2.2.2.1 ∧ x.2.2.2.2.2.2.2.1 < 256) ∧ (0 ≤ x.2.2.2.2.2.2.2.2.1 ∧ x.2.2.2.2.2.2.2.2.1 < 18446744073709551616) ∧ (0 ≤ x.2.2.2.2.2.2.2.2.2.1 ∧ x.2.2.2.2.2.2.2.2.2.1 < 18446744073709551616) ∧ (RdX w 1 (.slice x.2.2.2.2.2.2.2.2.2.2.1 x.2.2.2.2.2.2.2.2.2.2.2.2.length x.2.2.2.2.2.2.2.2.2.2.2.1) x.2.2.2.2.2.2.2.2.2.2.2.2.length (rows encB x.2.2.2.2.2.2.2.2.2.2.2.2) ∧ x.2.2.2.2.2.2.2.2.2.2.2.2.length ≤ 140737488351232)
theorem dec_encMessage {H : Type} {enc : TypeId × Value → H} {w : World} {spare : Nat → Bool} {held : Bool} : ∀ n cs x, DataW.trod enc Tryd.prog w 0 spare held n 32 cs = some x → WOk Tryd.prog 32 x.1 → ∃ a, cs = encMessage a ∧ encMessage_good w a := fun n cs x h hw => by
  obtain ⟨xs, m, _, hx, hl, hxl, hf⟩ := DataW.trod_struct Tryd.underlying32 h
  subst hx
  have hc : Tryd.prog.cellsOf 32 = 11 := by kernel_rfl
  rw [hc] at hl
  obtain ⟨c0, c1, c2, c3, c4, c5, c6, c7, c8, c9, c10, rfl⟩ : ∃ c0 c1 c2 c3 c4 c5 c6 c7 c8 c9 c10, cs = [c0, c1, c2, c3, c4, c5, c6, c7, c8, c9, c10] := by
    match cs, hl with
    | [c0, c1, c2, c3, c4, c5, c6, c7, c8, c9, c10], _ => exact ⟨_, _, _, _, _, _, _, _, _, _, _, rfl⟩
  obtain ⟨y0, hy0⟩ : ∃ y, xs[0]? = some y := ⟨_, List.getElem?_eq_getElem (by rw [hxl]; decide)⟩
  have h0 : DataW.trod enc Tryd.prog w 0 spare held m 25 (([c0, c1, c2, c3, c4, c5, c6, c7, c8, c9, c10].drop 0).take (Tryd.prog.cellsOf 25)) = xs[0]? := hf 0 _ rfl
  have k0 : Tryd.prog.cellsOf 25 = 1 := by kernel_rfl
  have w0 : WOk Tryd.prog 25 y0.1 := hw.part Tryd.underlying32 (i := 0) rfl (by rw [List.getElem?_map, hy0]; rfl)
  rw [k0, hy0] at h0
  obtain ⟨n0, e0, _, g0⟩ := DataW.trod_int Tryd.underlying25 h0
  simp only [List.drop_succ_cons, List.drop_zero, List.take_succ_cons, List.take_zero] at e0
  injection e0 with e0 _
  obtain ⟨y1, hy1⟩ : ∃ y, xs[1]? = some y := ⟨_, List.getElem?_eq_getElem (by rw [hxl]; decide)⟩
  have h1 : DataW.trod enc Tryd.prog w 0 spare held m 25 (([c0, c1, c2, c3, c4, c5, c6, c7, c8, c9, c10].drop 1).take (Tryd.prog.cellsOf 25)) = xs[1]? := hf 1 _ rfl
  have k1 : Tryd.prog.cellsOf 25 = 1 := by kernel_rfl
  have w1 : WOk Tryd.prog 25 y1.1 := hw.part Tryd.underlying32 (i := 1) rfl (by rw [List.getElem?_map, hy1]; rfl)
  rw [k1, hy1] at h1
  obtain ⟨n1, e1, _, g1⟩ := DataW.trod_int Tryd.underlying25 h1
  simp only [List.drop_succ_cons, List.drop_zero, List.take_succ_cons, List.take_zero] at e1
  injection e1 with e1 _
  obtain ⟨y2, hy2⟩ : ∃ y, xs[2]? = some y := ⟨_, List.getElem?_eq_getElem (by rw [hxl]; decide)⟩
  have h2 : DataW.trod enc Tryd.prog w 0 spare held m 26 (([c0, c1, c2, c3, c4, c5, c6, c7, c8, c9, c10].drop 2).take (Tryd.prog.cellsOf 26)) = xs[2]? := hf 2 _ rfl
  have k2 : Tryd.prog.cellsOf 26 = 1 := by kernel_rfl
  have w2 : WOk Tryd.prog 26 y2.1 := hw.part Tryd.underlying32 (i := 2) rfl (by rw [List.getElem?_map, hy2]; rfl)
  rw [k2, hy2] at h2
  obtain ⟨n2, e2, _, g2⟩ := DataW.trod_int Tryd.underlying26 h2
  simp only [List.drop_succ_cons, List.drop_zero, List.take_succ_cons, List.take_zero] at e2
  injection e2 with e2 _
  obtain ⟨y3, hy3⟩ : ∃ y, xs[3]? = some y := ⟨_, List.getElem?_eq_getElem (by rw [hxl]; decide)⟩
  have h3 : DataW.trod enc Tryd.prog w 0 spare held m 27 (([c0, c1, c2, c3, c4, c5, c6, c7, c8, c9, c10].drop 3).take (Tryd.prog.cellsOf 27)) = xs[3]? := hf 3 _ rfl
  have k3 : Tryd.prog.cellsOf 27 = 1 := by kernel_rfl
  have w3 : WOk Tryd.prog 27 y3.1 := hw.part Tryd.underlying32 (i := 3) rfl (by rw [List.getElem?_map, hy3]; rfl)
  rw [k3, hy3] at h3
  obtain ⟨n3, e3, _, g3⟩ := DataW.trod_int Tryd.underlying27 h3
  simp only [List.drop_succ_cons, List.drop_zero, List.take_succ_cons, List.take_zero] at e3
  injection e3 with e3 _
  obtain ⟨y4, hy4⟩ : ∃ y, xs[4]? = some y := ⟨_, List.getElem?_eq_getElem (by rw [hxl]; decide)⟩
  have h4 : DataW.trod enc Tryd.prog w 0 spare held m 27 (([c0, c1, c2, c3, c4, c5, c6, c7, c8, c9, c10].drop 4).take (Tryd.prog.cellsOf 27)) = xs[4]? := hf 4 _ rfl
  have k4 : Tryd.prog.cellsOf 27 = 1 := by kernel_rfl
  have w4 : WOk Tryd.prog 27 y4.1 := hw.part Tryd.underlying32 (i := 4) rfl (by rw [List.getElem?_map, hy4]; rfl)
  rw [k4, hy4] at h4
  obtain ⟨n4, e4, _, g4⟩ := DataW.trod_int Tryd.underlying27 h4
  simp only [List.drop_succ_cons, List.drop_zero, List.take_succ_cons, List.take_zero] at e4
  injection e4 with e4 _
  obtain ⟨y5, hy5⟩ : ∃ y, xs[5]? = some y := ⟨_, List.getElem?_eq_getElem (by rw [hxl]; decide)⟩
  have h5 : DataW.trod enc Tryd.prog w 0 spare held m 29 (([c0, c1, c2, c3, c4, c5, c6, c7, c8, c9, c10].drop 5).take (Tryd.prog.cellsOf 29)) = xs[5]? := hf 5 _ rfl
  have k5 : Tryd.prog.cellsOf 29 = 4 := by kernel_rfl
  have w5 : WOk Tryd.prog 29 y5.1 := hw.part Tryd.underlying32 (i := 5) rfl (by rw [List.getElem?_map, hy5]; rfl)
  rw [k5, hy5] at h5
  obtain ⟨⟨m5_0, m5_1, m5_2, m5_3⟩, e5, g5⟩ := dec_encCap _ _ _ h5 w5
  obtain ⟨g5_0, g5_1, g5_2, g5_3⟩ := g5
  simp only [List.drop_succ_cons, List.drop_zero, List.take_succ_cons, List.take_zero, encCap, List.cons.injEq, and_true] at e5
  obtain ⟨e5_0, e5_1, e5_2, e5_3⟩ := e5
  obtain ⟨y6, hy6⟩ : ∃ y, xs[6]? = some y := ⟨_, List.getElem?_eq_getElem (by rw [hxl]; decide)⟩
  have h6 : DataW.trod enc Tryd.prog w 0 spare held m 25 (([c0, c1, c2, c3, c4, c5, c6, c7, c8, c9, c10].drop 9).take (Tryd.prog.cellsOf 25)) = xs[6]? := hf 6 _ rfl
  have k6 : Tryd.prog.cellsOf 25 = 1 := by kernel_rfl
  have w6 : WOk Tryd.prog 25 y6.1 := hw.part Tryd.underlying32 (i := 6) rfl (by rw [List.getElem?_map, hy6]; rfl)
  rw [k6, hy6] at h6
  obtain ⟨n6, e6, _, g6⟩ := DataW.trod_int Tryd.underlying25 h6
  simp only [List.drop_succ_cons, List.drop_zero, List.take_succ_cons, List.take_zero] at e6
  injection e6 with e6 _
  obtain ⟨y7, hy7⟩ : ∃ y, xs[7]? = some y := ⟨_, List.getElem?_eq_getElem (by rw [hxl]; decide)⟩
  have h7 : DataW.trod enc Tryd.prog w 0 spare held m 30 (([c0, c1, c2, c3, c4, c5, c6, c7, c8, c9, c10].drop 10).take (Tryd.prog.cellsOf 30)) = xs[7]? := hf 7 _ rfl
  have k7 : Tryd.prog.cellsOf 30 = 1 := by kernel_rfl
  have w7 : WOk Tryd.prog 30 y7.1 := hw.part Tryd.underlying32 (i := 7) rfl (by rw [List.getElem?_map, hy7]; rfl)
  rw [k7, hy7] at h7
  obtain ⟨A7, d7, b7, e7, g7⟩ := dec_bytes Tryd.underlying30 Tryd.underlying5 (by kernel_rfl) (by kernel_rfl) _ _ _ h7 w7
  simp only [List.drop_succ_cons, List.drop_zero, List.take_succ_cons, List.take_zero] at e7
  injection e7 with e7 _
  subst e0
  subst e1
  subst e2
  subst e3
  subst e4
  subst e5_0
  subst e5_1
  subst e5_2
  subst e5_3
  subst e6
  subst e7
  exact ⟨(n0, n1, n2, n3, n4, m5_0, m5_1, m5_2, m5_3, n6, A7, d7, b7), rfl, ⟨wf_u64 g0, wf_u64 g1, wf_u32 g2, wf_u16 g3, wf_u16 g4, g5_0, g5_1, g5_2, g5_3, wf_u64 g6, g7⟩⟩
theorem encMessage_gdd {w : World} {D : Chunk} {x : (Int × Int × Int × Int × Int × Int × Int × Int × Int × Int × Option Addr × Nat × List UInt8)} (h : encMessage_good w x) : encMessage_dd w D x := DD.of (h.2.2.2.2.2.2.2.2.2.2).1
end Go.Proofs.YtjdkcdeldmjdmaaDoor
