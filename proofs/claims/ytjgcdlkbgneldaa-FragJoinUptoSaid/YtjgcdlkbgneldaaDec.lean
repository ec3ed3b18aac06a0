import Derived.Test.YtjgcdlkbgneldaaRows
import Derived.Test.YtjgcdlkbgneldaaSK13
import Derived.Test.YtjgcdlkbgneldaaG
set_option linter.unusedSimpArgs false
set_option linter.unusedVariables false
set_option maxRecDepth 4000
namespace Go.Proofs.Ytjgcdlkbgneldaa
open Go Go.SK Go.ChangeShapes Go.WideShapes Go.RowKit
def encPacket_good (w : World) (x : (Int × Int × Int × Int × Int × Option Addr × Nat × List UInt8)) : Prop := (-9223372036854775808 ≤ x.1 ∧ x.1 < 9223372036854775808) ∧ (-9223372036854775808 ≤ x.2.1 ∧ x.2.1 < 9223372036854775808) ∧ (0 ≤ x.2.2.1 ∧ x.2.2.1 < 18446744073709551616) ∧ (-9223372036854775808 ≤ x.2.2.2.1 ∧ x.2.2.2.1 < 9223372036854775808) ∧ (-9223372036854775808 ≤ x.2.2.2.2.1 ∧ x.2.2.2.2.1 < 9223372036854775808) ∧ (RdX w 1 (.slice x.2.2.2.2.2.1 x.2.2.2.2.2.2.2.length x.2.2.2.2.2.2.1) x.2.2.2.2.2.2.2.length (rows encB x.2.2.2.2.2.2.2) ∧ x.2.2.2.2.2.2.2.length ≤ 140737488351232)
theorem dec_encPacket {H : Type} {enc : TypeId × Value → H} {w : World} {spare : Nat → Bool} {held : Bool} : ∀ n cs x, DataW.trod enc Try.prog w 0 spare held n 27 cs = some x → WOk Try.prog 27 x.1 → ∃ a, cs = encPacket a ∧ encPacket_good w a := fun n cs x h hw => by
  obtain ⟨xs, m, _, hx, hl, hxl, hf⟩ := DataW.trod_struct Try.underlying27 h
  subst hx
  have hc : Try.prog.cellsOf 27 = 6 := by kernel_rfl
  rw [hc] at hl
  obtain ⟨c0, c1, c2, c3, c4, c5, rfl⟩ : ∃ c0 c1 c2 c3 c4 c5, cs = [c0, c1, c2, c3, c4, c5] := by
    match cs, hl with
    | [c0, c1, c2, c3, c4, c5], _ => exact ⟨_, _, _, _, _, _, rfl⟩
  obtain ⟨y0, hy0⟩ : ∃ y, xs[0]? = some y := ⟨_, List.getElem?_eq_getElem (by rw [hxl]; decide)⟩
  have h0 : DataW.trod enc Try.prog w 0 spare held m 3 (([c0, c1, c2, c3, c4, c5].drop 0).take (Try.prog.cellsOf 3)) = xs[0]? := hf 0 _ rfl
  have k0 : Try.prog.cellsOf 3 = 1 := by kernel_rfl
  have w0 : WOk Try.prog 3 y0.1 := hw.part Try.underlying27 (i := 0) rfl (by rw [List.getElem?_map, hy0]; rfl)
  rw [k0, hy0] at h0
  obtain ⟨n0, e0, _, g0⟩ := DataW.trod_int Try.underlying3 h0
  simp only [List.drop_succ_cons, List.drop_zero, List.take_succ_cons, List.take_zero] at e0
  injection e0 with e0 _
  obtain ⟨y1, hy1⟩ : ∃ y, xs[1]? = some y := ⟨_, List.getElem?_eq_getElem (by rw [hxl]; decide)⟩
  have h1 : DataW.trod enc Try.prog w 0 spare held m 3 (([c0, c1, c2, c3, c4, c5].drop 1).take (Try.prog.cellsOf 3)) = xs[1]? := hf 1 _ rfl
  have k1 : Try.prog.cellsOf 3 = 1 := by kernel_rfl
  have w1 : WOk Try.prog 3 y1.1 := hw.part Try.underlying27 (i := 1) rfl (by rw [List.getElem?_map, hy1]; rfl)
  rw [k1, hy1] at h1
  obtain ⟨n1, e1, _, g1⟩ := DataW.trod_int Try.underlying3 h1
  simp only [List.drop_succ_cons, List.drop_zero, List.take_succ_cons, List.take_zero] at e1
  injection e1 with e1 _
  obtain ⟨y2, hy2⟩ : ∃ y, xs[2]? = some y := ⟨_, List.getElem?_eq_getElem (by rw [hxl]; decide)⟩
  have h2 : DataW.trod enc Try.prog w 0 spare held m 24 (([c0, c1, c2, c3, c4, c5].drop 2).take (Try.prog.cellsOf 24)) = xs[2]? := hf 2 _ rfl
  have k2 : Try.prog.cellsOf 24 = 1 := by kernel_rfl
  have w2 : WOk Try.prog 24 y2.1 := hw.part Try.underlying27 (i := 2) rfl (by rw [List.getElem?_map, hy2]; rfl)
  rw [k2, hy2] at h2
  obtain ⟨n2, e2, _, g2⟩ := DataW.trod_int Try.underlying24 h2
  simp only [List.drop_succ_cons, List.drop_zero, List.take_succ_cons, List.take_zero] at e2
  injection e2 with e2 _
  obtain ⟨y3, hy3⟩ : ∃ y, xs[3]? = some y := ⟨_, List.getElem?_eq_getElem (by rw [hxl]; decide)⟩
  have h3 : DataW.trod enc Try.prog w 0 spare held m 3 (([c0, c1, c2, c3, c4, c5].drop 3).take (Try.prog.cellsOf 3)) = xs[3]? := hf 3 _ rfl
  have k3 : Try.prog.cellsOf 3 = 1 := by kernel_rfl
  have w3 : WOk Try.prog 3 y3.1 := hw.part Try.underlying27 (i := 3) rfl (by rw [List.getElem?_map, hy3]; rfl)
  rw [k3, hy3] at h3
  obtain ⟨n3, e3, _, g3⟩ := DataW.trod_int Try.underlying3 h3
  simp only [List.drop_succ_cons, List.drop_zero, List.take_succ_cons, List.take_zero] at e3
  injection e3 with e3 _
  obtain ⟨y4, hy4⟩ : ∃ y, xs[4]? = some y := ⟨_, List.getElem?_eq_getElem (by rw [hxl]; decide)⟩
  have h4 : DataW.trod enc Try.prog w 0 spare held m 3 (([c0, c1, c2, c3, c4, c5].drop 4).take (Try.prog.cellsOf 3)) = xs[4]? := hf 4 _ rfl
  have k4 : Try.prog.cellsOf 3 = 1 := by kernel_rfl
  have w4 : WOk Try.prog 3 y4.1 := hw.part Try.underlying27 (i := 4) rfl (by rw [List.getElem?_map, hy4]; rfl)
  rw [k4, hy4] at h4
  obtain ⟨n4, e4, _, g4⟩ := DataW.trod_int Try.underlying3 h4
  simp only [List.drop_succ_cons, List.drop_zero, List.take_succ_cons, List.take_zero] at e4
  injection e4 with e4 _
  obtain ⟨y5, hy5⟩ : ∃ y, xs[5]? = some y := ⟨_, List.getElem?_eq_getElem (by rw [hxl]; decide)⟩
  have h5 : DataW.trod enc Try.prog w 0 spare held m 25 (([c0, c1, c2, c3, c4, c5].drop 5).take (Try.prog.cellsOf 25)) = xs[5]? := hf 5 _ rfl
  have k5 : Try.prog.cellsOf 25 = 1 := by kernel_rfl
  have w5 : WOk Try.prog 25 y5.1 := hw.part Try.underlying27 (i := 5) rfl (by rw [List.getElem?_map, hy5]; rfl)
  rw [k5, hy5] at h5
  obtain ⟨A5, d5, b5, e5, g5⟩ := dec_bytes Try.underlying25 Try.underlying5 (by kernel_rfl) (by kernel_rfl) _ _ _ h5 w5
  simp only [List.drop_succ_cons, List.drop_zero, List.take_succ_cons, List.take_zero] at e5
  injection e5 with e5 _
  subst e0
  subst e1
  subst e2
  subst e3
  subst e4
  subst e5
  exact ⟨(n0, n1, n2, n3, n4, A5, d5, b5), rfl, ⟨wf_i64 g0, wf_i64 g1, wf_u64 g2, wf_i64 g3, wf_i64 g4, g5⟩⟩
theorem encPacket_gdd {w : World} {D : Chunk} {x : (Int × Int × Int × Int × Int × Option Addr × Nat × List UInt8)} (h : encPacket_good w x) : encPacket_dd w D x := DD.of (h.2.2.2.2.2).1
theorem bulk_pos {H : Type} (d : DataW H) : 1 ≤ Rows.uptoBulk d := by
  cases d with
  | lit l => cases l <;> simp [Rows.uptoBulk]
  | map e => simp [Rows.uptoBulk]
  | _ => simp [Rows.uptoBulk]
theorem bulkAll_len {H : Type} : ∀ l : List (DataW H), l.length ≤ Rows.uptoBulkAll l
  | [] => Nat.zero_le _
  | d :: r => by have h1 := bulk_pos d; have h2 := bulkAll_len r; simp only [Rows.uptoBulkAll, List.length_cons]; omega
theorem bulkAll_mem {H : Type} : ∀ {l : List (DataW H)} {i : Nat} {d : DataW H}, l[i]? = some d → Rows.uptoBulk d ≤ Rows.uptoBulkAll l
  | [], i, d, h => by simp at h
  | x :: xs, 0, d, h => by simp only [List.getElem?_cons_zero, Option.some.injEq] at h; subst h; simp only [Rows.uptoBulkAll]; omega
  | x :: xs, i + 1, d, h => by simp only [List.getElem?_cons_succ] at h; have := bulkAll_mem h; simp only [Rows.uptoBulkAll]; omega
theorem bulkAll_sum {H : Type} : ∀ l : List (DataW H), Rows.uptoBulkAll l = (l.map Rows.uptoBulk).sum
  | [] => rfl
  | d :: r => by simp only [Rows.uptoBulkAll, List.map_cons, List.sum_cons, bulkAll_sum r]
theorem pk_len {H : Type} {enc : TypeId × Value → H} {w : World} {spare : Nat → Bool} {held : Bool} {n : Nat} {x : DataW H × List MemPlace} {a : Pkt} (h : DataW.trod enc Try.prog w 0 spare held n 27 (encPacket a) = some x) : (pdat a).length ≤ Rows.uptoBulk x.1 := by
  obtain ⟨xs, m, _, hx, hl, hxl, hf⟩ := DataW.trod_struct Try.underlying27 h
  subst hx
  obtain ⟨y, hy⟩ : ∃ y, xs[5]? = some y := ⟨_, List.getElem?_eq_getElem (by rw [hxl]; decide)⟩
  have h5 : DataW.trod enc Try.prog w 0 spare held m 25 (((encPacket a).drop 5).take (Try.prog.cellsOf 25)) = xs[5]? := hf 5 _ rfl
  have k5 : Try.prog.cellsOf 25 = 1 := by kernel_rfl
  rw [k5, hy] at h5
  obtain ⟨x0, x1, x2, x3, x4, A, c, bs⟩ := a
  have e5 : ((encPacket (x0, x1, x2, x3, x4, A, c, bs)).drop 5).take 1 = [.slice A bs.length c] := rfl
  rw [e5] at h5
  have hb : Rows.uptoBulk y.1 ≤ Rows.uptoBulk (.agg (xs.map (·.1))) := by
    have := bulkAll_mem (l := xs.map (·.1)) (i := 5) (d := y.1) (by rw [List.getElem?_map, hy]; rfl)
    simp only [Rows.uptoBulk]; omega
  refine Nat.le_trans ?_ hb
  rcases DataW.trod_slice Try.underlying25 h5 with ⟨h0, _⟩ | ⟨ad, len, cap, elems, rest, n', _, h0, hx, _, _, _, hlen, _⟩
  · injection h0 with h0 _; injection h0 with _ h0 _
    show bs.length ≤ _; omega
  · injection h0 with h0 _; injection h0 with _ h0 _
    subst hx
    have := bulkAll_len (elems.map (·.1))
    simp only [List.length_map] at this
    show bs.length ≤ _
    simp only [Rows.uptoBulk]; omega
theorem dec_PacketU {H : Type} {enc : TypeId × Value → H} {w : World} {spare : Nat → Bool} {held : Bool} : ∀ n cs x, DataW.trod enc Try.prog w 0 spare held n 27 cs = some x → WOk Try.prog 27 x.1 → ∃ a, cs = encPacket a ∧ encPacket_good w a ∧ (fun x : Pkt => (pdat x).length) a ≤ Rows.uptoBulk x.1 := fun n cs x h hw => by
  obtain ⟨a, rfl, hg⟩ := dec_encPacket n cs x h hw
  exact ⟨a, rfl, hg, pk_len h⟩
theorem cat_sum (l : List Pkt) : (cat l l.length).length = (l.map (fun x => (pdat x).length)).sum := by
  rw [cat, List.take_length, List.length_flatten, List.map_map]; rfl
theorem pk_sum {H : Type} {l : List Pkt} {d : DataW H} (hn : d = .nil ∧ l.length = 0 ∨ ∃ elems sp, d = .slice elems sp ∧ l.length = elems.length ∧ (l.map (fun x => (pdat x).length)).sum ≤ (elems.map Rows.uptoBulk).sum) (hb : Rows.uptoBulkAll [d] ≤ 1048576) : (cat l l.length).length ≤ 1048576 := by
  rcases hn with ⟨rfl, h0⟩ | ⟨elems, sp, rfl, _, hs⟩
  · obtain rfl := List.eq_nil_of_length_eq_zero h0
    simp [cat]
  · rw [cat_sum]; rw [← bulkAll_sum] at hs
    simp only [Rows.uptoBulkAll, Rows.uptoBulk] at hb; omega
end Go.Proofs.Ytjgcdlkbgneldaa
