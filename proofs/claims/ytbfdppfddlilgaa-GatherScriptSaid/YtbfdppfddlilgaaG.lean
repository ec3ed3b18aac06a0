import Derived.Test.YtbfdppfddlilgaaProg
import Derived.Test.YtbfdppfddlilgaaSK14
set_option linter.unusedVariables false
set_option linter.unusedSimpArgs false
set_option maxRecDepth 4000
namespace Go.Proofs.Ytbfdppfddlilgaa
open Go Go.SK
theorem mixed : Try.prog.follows .mixedOrders = true := by kernel_rfl
theorem isfn3 : IsFn Try.prog 3 := fun args w => by kernel_rfl
theorem isfn4 : IsFn Try.prog 4 := fun args w => by kernel_rfl
theorem isfn5 : IsFn Try.prog 5 := fun args w => by kernel_rfl
theorem isfn6 : IsFn Try.prog 6 := fun args w => by kernel_rfl
theorem isfn7 : IsFn Try.prog 7 := fun args w => by kernel_rfl
theorem isfn8 : IsFn Try.prog 8 := fun args w => by kernel_rfl
theorem isfn9 : IsFn Try.prog 9 := fun args w => by kernel_rfl
theorem isfn10 : IsFn Try.prog 10 := fun args w => by kernel_rfl
theorem isfn11 : IsFn Try.prog 11 := fun args w => by kernel_rfl
theorem isfn12 : IsFn Try.prog 12 := fun args w => by kernel_rfl
theorem isfn13 : IsFn Try.prog 13 := fun args w => by kernel_rfl
theorem isfn14 : IsFn Try.prog 14 := fun args w => by kernel_rfl
theorem isfn15 : IsFn Try.prog 15 := fun args w => by kernel_rfl
theorem isfn16 : IsFn Try.prog 16 := fun args w => by kernel_rfl
theorem isfn17 : IsFn Try.prog 17 := fun args w => by kernel_rfl
theorem isfn18 : IsFn Try.prog 18 := fun args w => by kernel_rfl
theorem isfn19 : IsFn Try.prog 19 := fun args w => by kernel_rfl
theorem isfn20 : IsFn Try.prog 20 := fun args w => by kernel_rfl
theorem isfn21 : IsFn Try.prog 21 := fun args w => by kernel_rfl
noncomputable def tb : List TI := [
  ⟨3, Try.t3.desc, 1, 8, .int .i64 0⟩,
  ⟨4, Try.t4.desc, 1, 1, .bool false⟩,
  ⟨5, Try.t5.desc, 1, 1, .int .u8 0⟩,
  ⟨9, Try.t9.desc, 1, 16, .string (⟨#[]⟩ : ByteArray)⟩,
  ⟨22, Try.t22.desc, 1, 24, .slice none 0 0⟩,
  ⟨24, Try.t24.desc, 1, 24, .slice none 0 0⟩,
  ⟨26, Try.t25.desc, 1, 16, .nilIface⟩,
  ⟨29, Try.t29.desc, 1, 8, .int .u64 0⟩,
  ⟨31, Try.t31.desc, 1, 24, .slice none 0 0⟩,
  ⟨33, Try.t32.desc, 1, 24, .agg #[.slice none 0 0]⟩,
  ⟨34, Try.t34.desc, 1, 24, .slice none 0 0⟩,
  ⟨38, Try.t37.desc, 6, 64, .agg #[.int .i64 0, .int .i64 0, .int .u64 0, .int .i64 0, .int .i64 0, .slice none 0 0]⟩,
  ⟨42, Try.t42.desc, 1, 24, .slice none 0 0⟩,
  ⟨43, Try.t43.desc, 1, 24, .slice none 0 0⟩,
  ⟨44, Try.t44.desc, 1, 1, .int .i8 0⟩,
  ⟨46, Try.t45.desc, 4, 32, .agg #[.int .u8 0, .int .i8 0, .int .i8 0, .slice none 0 0]⟩,
  ⟨51, Try.t3.desc, 1, 8, .int .i64 0⟩,
  ⟨55, Try.t54.desc, 5, 72, .agg #[.int .i64 0, .int .i64 0, .int .u64 0, .slice none 0 0, .slice none 0 0]⟩]
theorem tbOk : TabOk Try.prog tb := ⟨
  ⟨by kernel_rfl, Try.t3, by kernel_rfl, by kernel_rfl, by kernel_rfl, by kernel_rfl⟩,
  ⟨by kernel_rfl, Try.t4, by kernel_rfl, by kernel_rfl, by kernel_rfl, by kernel_rfl⟩,
  ⟨by kernel_rfl, Try.t5, by kernel_rfl, by kernel_rfl, by kernel_rfl, by kernel_rfl⟩,
  ⟨by kernel_rfl, Try.t9, by kernel_rfl, by kernel_rfl, by kernel_rfl, by kernel_rfl⟩,
  ⟨by kernel_rfl, Try.t22, by kernel_rfl, by kernel_rfl, by kernel_rfl, by kernel_rfl⟩,
  ⟨by kernel_rfl, Try.t24, by kernel_rfl, by kernel_rfl, by kernel_rfl, by kernel_rfl⟩,
  ⟨by kernel_rfl, Try.t26, by kernel_rfl, by kernel_rfl, by kernel_rfl, by kernel_rfl⟩,
  ⟨by kernel_rfl, Try.t29, by kernel_rfl, by kernel_rfl, by kernel_rfl, by kernel_rfl⟩,
  ⟨by kernel_rfl, Try.t31, by kernel_rfl, by kernel_rfl, by kernel_rfl, by kernel_rfl⟩,
  ⟨by kernel_rfl, Try.t33, by kernel_rfl, by kernel_rfl, by kernel_rfl, by kernel_rfl⟩,
  ⟨by kernel_rfl, Try.t34, by kernel_rfl, by kernel_rfl, by kernel_rfl, by kernel_rfl⟩,
  ⟨by kernel_rfl, Try.t38, by kernel_rfl, by kernel_rfl, by kernel_rfl, by kernel_rfl⟩,
  ⟨by kernel_rfl, Try.t42, by kernel_rfl, by kernel_rfl, by kernel_rfl, by kernel_rfl⟩,
  ⟨by kernel_rfl, Try.t43, by kernel_rfl, by kernel_rfl, by kernel_rfl, by kernel_rfl⟩,
  ⟨by kernel_rfl, Try.t44, by kernel_rfl, by kernel_rfl, by kernel_rfl, by kernel_rfl⟩,
  ⟨by kernel_rfl, Try.t46, by kernel_rfl, by kernel_rfl, by kernel_rfl, by kernel_rfl⟩,
  ⟨by kernel_rfl, Try.t51, by kernel_rfl, by kernel_rfl, by kernel_rfl, by kernel_rfl⟩,
  ⟨by kernel_rfl, Try.t55, by kernel_rfl, by kernel_rfl, by kernel_rfl, by kernel_rfl⟩,
  trivial⟩
def encPacket (x : Int × Int × Int × Int × Int × Option Addr × Nat × List UInt8) : List Value := [.int .i64 x.1, .int .i64 x.2.1, .int .u64 x.2.2.1, .int .i64 x.2.2.2.1, .int .i64 x.2.2.2.2.1, .slice x.2.2.2.2.2.1 x.2.2.2.2.2.2.2.length x.2.2.2.2.2.2.1]
theorem encPacket_ok : Enc encPacket 6 := ⟨fun _ => rfl, fun x u hu => by simp only [encPacket, List.mem_cons, List.not_mem_nil, or_false] at hu; rcases hu with rfl | rfl | rfl | rfl | rfl | rfl <;> rfl⟩
def encPacket_dd (w0 : World) (D : Chunk) (x : Int × Int × Int × Int × Int × Option Addr × Nat × List UInt8) : Prop := DD w0 D x.2.2.2.2.2.1 x.2.2.2.2.2.2.1 x.2.2.2.2.2.2.2
theorem encPacket_left {w0 : World} {D E : Chunk} {x : Int × Int × Int × Int × Int × Option Addr × Nat × List UInt8} (h : encPacket_dd w0 D x) : encPacket_dd w0 (E ++ D) x := DD.left h
theorem encPacket_lefts {w0 : World} {D E : Chunk} {l : List (Int × Int × Int × Int × Int × Option Addr × Nat × List UInt8)} (h : ∀ x ∈ l, encPacket_dd w0 D x) : ∀ x ∈ l, encPacket_dd w0 (E ++ D) x := fun x hx => encPacket_left (h x hx)

abbrev Pkt := Int × Int × Int × Int × Int × Option Addr × Nat × List UInt8
def pdat (x : Pkt) : List UInt8 := x.2.2.2.2.2.2.2
def nP (l : List UInt8) (s : Nat) : Nat := max 1 ((l.length + s - 1) / s)
def piece (l : List UInt8) (s i : Nat) : List UInt8 := (l.take (min ((i + 1) * s) l.length)).drop (min (i * s) l.length)
def isPk (l : List UInt8) (fr to id : Int) (s i : Nat) (x : Pkt) : Prop := ∃ A c, x = (fr, to, id, ((i : Nat) : Int), ((nP l s : Nat) : Int), A, c, piece l s i)
theorem piece_len (l : List UInt8) (s i : Nat) : (piece l s i).length = min ((i + 1) * s) l.length - min (i * s) l.length := by
  rw [piece, List.length_drop, List.length_take]; omega
theorem piece_le (l : List UInt8) (s i : Nat) : (piece l s i).length ≤ s := by
  rw [piece_len, Nat.succ_mul]; omega
theorem nP_pos (l : List UInt8) (s : Nat) : 1 ≤ nP l s := Nat.le_max_left _ _
/-- All but the last one are full; the last one ends where the bytes end. -/
theorem nP_up {l : List UInt8} {s : Nat} (hs : 1 ≤ s) : l.length ≤ nP l s * s := by
  have h1 : (l.length + s - 1) / s ≤ nP l s := Nat.le_max_right _ _
  have h2 := Nat.div_add_mod (l.length + s - 1) s
  have h3 := Nat.mod_lt (l.length + s - 1) (show 0 < s by omega)
  have h4 : (l.length + s - 1) / s * s ≤ nP l s * s := Nat.mul_le_mul_right s h1
  rw [Nat.mul_comm] at h2
  omega
theorem nP_low {l : List UInt8} {s i : Nat} (hs : 1 ≤ s) (hi : i + 1 < nP l s) : (i + 1) * s < l.length := by
  have h0 : i + 1 < (l.length + s - 1) / s := by
    unfold nP at hi; omega
  have h1 : i + 2 ≤ (l.length + s - 1) / s := h0
  have h2 := Nat.div_add_mod (l.length + s - 1) s
  have h4 : (i + 2) * s ≤ (l.length + s - 1) / s * s := Nat.mul_le_mul_right s h1
  have h5 : (i + 2) * s = (i + 1) * s + s := Nat.succ_mul (i + 1) s
  rw [Nat.mul_comm] at h2
  omega
theorem piece_full {l : List UInt8} {s i : Nat} (hs : 1 ≤ s) (hi : i + 1 < nP l s) : (piece l s i).length = s := by
  have h := nP_low hs hi
  have h5 : (i + 1) * s = i * s + s := Nat.succ_mul i s
  rw [piece_len]; omega
theorem take_piece (l : List UInt8) (s i : Nat) : l.take (i * s) ++ piece l s i = l.take ((i + 1) * s) := by
  have h5 : (i + 1) * s = i * s + s := Nat.succ_mul i s
  rw [piece]
  by_cases h : l.length ≤ i * s
  · rw [Nat.min_eq_right h, Nat.min_eq_right (by omega), List.take_of_length_le (by omega), List.take_of_length_le (Nat.le_refl _), List.drop_eq_nil_of_le (Nat.le_refl _), List.append_nil, List.take_of_length_le (by omega)]
  · rw [Nat.min_eq_left (by omega)]
    have e1 : l.take (min ((i + 1) * s) l.length) = l.take ((i + 1) * s) := by
      by_cases h2 : l.length ≤ (i + 1) * s
      · rw [Nat.min_eq_right h2, List.take_of_length_le (Nat.le_refl _), List.take_of_length_le h2]
      · rw [Nat.min_eq_left (by omega)]
    rw [e1]
    have e2 : l.take (i * s) = (l.take ((i + 1) * s)).take (i * s) := by rw [List.take_take, Nat.min_eq_left (by omega)]
    rw [e2, List.take_append_drop]
/-- The data of the first ones, one behind the other. -/
def cat (ps : List Pkt) (k : Nat) : List UInt8 := ((ps.take k).map pdat).flatten
theorem cat_zero (ps : List Pkt) : cat ps 0 = [] := rfl
theorem cat_succ {ps : List Pkt} {k : Nat} {x : Pkt} (hx : ps[k]? = some x) : cat ps k ++ pdat x = cat ps (k + 1) := by
  rw [cat, cat, List.take_add_one, hx, List.map_append, List.flatten_append]; simp
theorem cat_split {l : List UInt8} {fr to id : Int} {s : Nat} {ps : List Pkt} (h : ∀ (i : Nat) (x : Pkt), ps[i]? = some x → isPk l fr to id s i x) : ∀ k, k ≤ ps.length → cat ps k = l.take (k * s)
  | 0, _ => by rw [cat_zero, Nat.zero_mul, List.take_zero]
  | k + 1, hk => by
    obtain ⟨x, hx⟩ := get_ex (l := ps) (k := k) (by omega)
    obtain ⟨A, c, e⟩ := h k x hx
    have h2 : pdat x = piece l s k := by rw [e]; rfl
    rw [← cat_succ hx, cat_split h k (by omega), h2, take_piece]
theorem cat_all {l : List UInt8} {fr to id : Int} {s : Nat} {ps : List Pkt} (hs : 1 ≤ s) (hn : ps.length = nP l s) (h : ∀ (i : Nat) (x : Pkt), ps[i]? = some x → isPk l fr to id s i x) : cat ps ps.length = l := by
  rw [cat_split h _ (Nat.le_refl _), hn, List.take_of_length_le (nP_up hs)]
/-- What Join asks of a packet at its place. -/
def fits (ps : List Pkt) (p0 x : Pkt) (k : Nat) : Prop := (1 ≤ x.2.2.2.2.1 ∧ x.2.2.2.2.1 ≤ 256 ∧ 0 ≤ x.2.2.2.1 ∧ x.2.2.2.1 < x.2.2.2.2.1 ∧ (pdat x).length ≤ 32768) ∧ x.2.2.2.1 = ((k : Nat) : Int) ∧ x.2.2.2.2.1 = ((ps.length : Nat) : Int) ∧ x.2.2.1 = p0.2.2.1 ∧ x.1 = p0.1 ∧ x.2.1 = p0.2.1
theorem fits_split {l : List UInt8} {fr to id : Int} {s : Nat} {ps : List Pkt} (hs : s ≤ 32768) (hn : ps.length = nP l s) (h256 : nP l s ≤ 256) (h : ∀ (i : Nat) (x : Pkt), ps[i]? = some x → isPk l fr to id s i x) : ∀ (i : Nat) (x p0 : Pkt), ps[i]? = some x → ps[0]? = some p0 → fits ps p0 x i := fun i x p0 hx h0 => by
  obtain ⟨A, c, e⟩ := h i x hx
  obtain ⟨A0, c0, e0⟩ := h 0 p0 h0
  have hi := (List.getElem?_eq_some_iff.1 hx).1
  have := piece_le l s i
  have := nP_pos l s
  subst e; subst e0
  refine ⟨⟨?_, ?_, ?_, ?_, ?_⟩, rfl, ?_, rfl, rfl, rfl⟩
  · simp only; omega
  · simp only; omega
  · simp only; omega
  · simp only; omega
  · show (piece l s i).length ≤ 32768; omega
  · simp only [hn]

theorem may12 {w0 w : World} {F : List Chunk} (hS : St w0 w F) (x0 x1 x2 x3 x4 : Int) (A : Option Addr) (c : Nat) (bs : List UInt8) :
    Ret Try.prog 12 #[.agg #[.int .i64 x0, .int .i64 x1, .int .u64 x2, .int .i64 x3, .int .i64 x4, .slice A bs.length c]] w (fun v w' => v = .bool (decide (1 ≤ x4 ∧ x4 ≤ 256 ∧ 0 ≤ x3 ∧ x3 < x4 ∧ bs.length ≤ 32768)) ∧ St w0 w' F) := by
  refine enter (vs := [.agg #[.int .i64 x0, .int .i64 x1, .int .u64 x2, .int .i64 x3, .int .i64 x4, .slice A bs.length c]]) 29 Try.func12 rfl rfl (by simp) ?_; intro a hA
  refine wp_seq ?_
  refine wp_region_lit ?_
  refine st_box hA hS [.int .i64 x0, .int .i64 x1, .int .u64 x2, .int .i64 x3, .int .i64 x4, .slice A bs.length c] rfl rfl rfl rfl rfl (by decide) ?_; clear hA hS; intro b1 w2 a hS hA
  refine st_run tbOk 1 hA (e' := (2, .bool false) :: _) rfl ?_; clear hA; intro a hA
  refine wpList_nil ?_
  replace hA := hA.sel [1] (e' := [(1, .pointer (some ⟨b1, 0, none⟩))]) rfl
  refine xt_norm ?_
  refine wp_seq ?_
  refine wp_region_lit ?_
  refine st_run tbOk 1 hA (e' := (3, .pointer (some ⟨b1, 4, none⟩)) :: _) rfl ?_; clear hA; intro a hA
  refine st_val hA rfl rfl (by decide) (rn_load tbOk hA rfl rfl rfl rfl (cell_row (hS.heapAt 0 rfl) rfl)) ?_; clear hA; intro a hA
  refine st_run tbOk 2 hA (e' := (6, .bool (decide (x4 ≥ 1))) :: (5, .bool (decide (x4 ≥ 1))) :: _) rfl ?_; clear hA; intro a hA
  by_cases hc3 : x4 ≥ 1
  · first
    | (exfalso; omega)
    | (replace hA := hA.rw 5 (v' := .bool true) rfl (vb_true hc3)
       replace hA := hA.rw 6 (v' := .bool true) rfl (vb_true hc3)
       refine st_run tbOk 1 hA (e' := (7, .pointer (some ⟨b1, 4, none⟩)) :: _) rfl ?_; clear hA; intro a hA
       refine st_val hA rfl rfl (by decide) (rn_load tbOk hA rfl rfl rfl rfl (cell_row (hS.heapAt 0 rfl) rfl)) ?_; clear hA; intro a hA
       refine st_run tbOk 3 hA (e' := (11, .bool (decide (x4 ≤ 256))) :: (10, .bool (decide (x4 ≤ 256))) :: (9, .bool (decide (x4 ≤ 256))) :: _) rfl ?_; clear hA; intro a hA
       by_cases hc4 : x4 ≤ 256
       · first
         | (exfalso; omega)
         | (replace hA := hA.rw 9 (v' := .bool true) rfl (vb_true hc4)
            replace hA := hA.rw 10 (v' := .bool true) rfl (vb_true hc4)
            replace hA := hA.rw 11 (v' := .bool true) rfl (vb_true hc4)
            refine st_run tbOk 1 hA (e' := (12, .pointer (some ⟨b1, 3, none⟩)) :: _) rfl ?_; clear hA; intro a hA
            refine st_val hA rfl rfl (by decide) (rn_load tbOk hA rfl rfl rfl rfl (cell_row (hS.heapAt 0 rfl) rfl)) ?_; clear hA; intro a hA
            refine st_run tbOk 3 hA (e' := (16, .bool (decide (x3 ≥ 0))) :: (15, .bool (decide (x3 ≥ 0))) :: (14, .bool (decide (x3 ≥ 0))) :: _) rfl ?_; clear hA; intro a hA
            by_cases hc5 : x3 ≥ 0
            · first
              | (exfalso; omega)
              | (replace hA := hA.rw 14 (v' := .bool true) rfl (vb_true hc5)
                 replace hA := hA.rw 15 (v' := .bool true) rfl (vb_true hc5)
                 replace hA := hA.rw 16 (v' := .bool true) rfl (vb_true hc5)
                 refine st_run tbOk 1 hA (e' := (17, .pointer (some ⟨b1, 3, none⟩)) :: _) rfl ?_; clear hA; intro a hA
                 refine st_val hA rfl rfl (by decide) (rn_load tbOk hA rfl rfl rfl rfl (cell_row (hS.heapAt 0 rfl) rfl)) ?_; clear hA; intro a hA
                 refine st_run tbOk 1 hA (e' := (19, .pointer (some ⟨b1, 4, none⟩)) :: _) rfl ?_; clear hA; intro a hA
                 refine st_val hA rfl rfl (by decide) (rn_load tbOk hA rfl rfl rfl rfl (cell_row (hS.heapAt 0 rfl) rfl)) ?_; clear hA; intro a hA
                 refine st_run tbOk 3 hA (e' := (23, .bool (decide (x3 < x4))) :: (22, .bool (decide (x3 < x4))) :: (21, .bool (decide (x3 < x4))) :: _) rfl ?_; clear hA; intro a hA
                 by_cases hc6 : x3 < x4
                 · first
                   | (exfalso; omega)
                   | (replace hA := hA.rw 21 (v' := .bool true) rfl (vb_true hc6)
                      replace hA := hA.rw 22 (v' := .bool true) rfl (vb_true hc6)
                      replace hA := hA.rw 23 (v' := .bool true) rfl (vb_true hc6)
                      refine st_run tbOk 1 hA (e' := (24, .pointer (some ⟨b1, 5, none⟩)) :: _) rfl ?_; clear hA; intro a hA
                      refine st_val hA rfl rfl (by decide) (rn_load tbOk hA rfl rfl rfl rfl (cell_row (hS.heapAt 0 rfl) rfl)) ?_; clear hA; intro a hA
                      refine st_run tbOk 4 hA (e' := (2, .bool (decide (((bs.length : Nat) : Int) ≤ 32768))) :: (28, .bool (decide (((bs.length : Nat) : Int) ≤ 32768))) :: (27, .bool (decide (((bs.length : Nat) : Int) ≤ 32768))) :: (26, .int .i64 ((bs.length : Nat) : Int)) :: _) rfl ?_; clear hA; intro a hA
                      refine wpList_nil ?_
                      replace hA := hA.sel [2] (e' := [(2, .bool (decide (((bs.length : Nat) : Int) ≤ 32768)))]) rfl
                      refine xt_norm ?_
                      refine wp_ret ?_
                      refine ret1 (fn := Try.f12) hA rfl rfl ?_
                      replace hS := hS.drop1
                      exact ⟨congrArg Value.bool (by rw [decide_eq_decide]; omega), hS⟩)
                 · first
                   | (exfalso; omega)
                   | (replace hA := hA.rw 21 (v' := .bool false) rfl (vb_false hc6)
                      replace hA := hA.rw 22 (v' := .bool false) rfl (vb_false hc6)
                      replace hA := hA.rw 23 (v' := .bool false) rfl (vb_false hc6)
                      refine st_run tbOk 6 hA (e' := (2, .bool false) :: (28, .bool false) :: (27, undef) :: (26, undef) :: (25, undef) :: (24, undef) :: _) rfl ?_; clear hA; intro a hA
                      refine wpList_nil ?_
                      replace hA := hA.sel [2] (e' := [(2, .bool false)]) rfl
                      refine xt_norm ?_
                      refine wp_ret ?_
                      refine ret1 (fn := Try.f12) hA rfl rfl ?_
                      replace hS := hS.drop1
                      exact ⟨congrArg Value.bool (by rw [eq_comm, decide_eq_false]; omega), hS⟩))
            · first
              | (exfalso; omega)
              | (replace hA := hA.rw 14 (v' := .bool false) rfl (vb_false hc5)
                 replace hA := hA.rw 15 (v' := .bool false) rfl (vb_false hc5)
                 replace hA := hA.rw 16 (v' := .bool false) rfl (vb_false hc5)
                 refine st_run tbOk 13 hA (e' := (2, .bool false) :: (28, .bool false) :: (27, undef) :: (26, undef) :: (25, undef) :: (24, undef) :: (23, .bool false) :: (22, .bool false) :: (21, undef) :: (20, undef) :: (19, undef) :: (18, undef) :: (17, undef) :: _) rfl ?_; clear hA; intro a hA
                 refine wpList_nil ?_
                 replace hA := hA.sel [2] (e' := [(2, .bool false)]) rfl
                 refine xt_norm ?_
                 refine wp_ret ?_
                 refine ret1 (fn := Try.f12) hA rfl rfl ?_
                 replace hS := hS.drop1
                 exact ⟨congrArg Value.bool (by rw [eq_comm, decide_eq_false]; omega), hS⟩))
       · first
         | (exfalso; omega)
         | (replace hA := hA.rw 9 (v' := .bool false) rfl (vb_false hc4)
            replace hA := hA.rw 10 (v' := .bool false) rfl (vb_false hc4)
            replace hA := hA.rw 11 (v' := .bool false) rfl (vb_false hc4)
            refine st_run tbOk 18 hA (e' := (2, .bool false) :: (28, .bool false) :: (27, undef) :: (26, undef) :: (25, undef) :: (24, undef) :: (23, .bool false) :: (22, .bool false) :: (21, undef) :: (20, undef) :: (19, undef) :: (18, undef) :: (17, undef) :: (16, .bool false) :: (15, .bool false) :: (14, undef) :: (13, undef) :: (12, undef) :: _) rfl ?_; clear hA; intro a hA
            refine wpList_nil ?_
            replace hA := hA.sel [2] (e' := [(2, .bool false)]) rfl
            refine xt_norm ?_
            refine wp_ret ?_
            refine ret1 (fn := Try.f12) hA rfl rfl ?_
            replace hS := hS.drop1
            exact ⟨congrArg Value.bool (by rw [eq_comm, decide_eq_false]; omega), hS⟩))
  · first
    | (exfalso; omega)
    | (replace hA := hA.rw 5 (v' := .bool false) rfl (vb_false hc3)
       replace hA := hA.rw 6 (v' := .bool false) rfl (vb_false hc3)
       refine st_run tbOk 23 hA (e' := (2, .bool false) :: (28, .bool false) :: (27, undef) :: (26, undef) :: (25, undef) :: (24, undef) :: (23, .bool false) :: (22, .bool false) :: (21, undef) :: (20, undef) :: (19, undef) :: (18, undef) :: (17, undef) :: (16, .bool false) :: (15, .bool false) :: (14, undef) :: (13, undef) :: (12, undef) :: (11, .bool false) :: (10, .bool false) :: (9, undef) :: (8, undef) :: (7, undef) :: _) rfl ?_; clear hA; intro a hA
       refine wpList_nil ?_
       replace hA := hA.sel [2] (e' := [(2, .bool false)]) rfl
       refine xt_norm ?_
       refine wp_ret ?_
       refine ret1 (fn := Try.f12) hA rfl rfl ?_
       replace hS := hS.drop1
       exact ⟨congrArg Value.bool (by rw [eq_comm, decide_eq_false]; omega), hS⟩)

theorem split_arg8 {w0 w : World} {F : List Chunk} (hS : St w0 w F) {v : Value} {l : List UInt8} (hr : RdS w0 F 1 v l.length (rows encB l)) (fr to id : Int) (s : Int) (h1 : s < 1 ∨ 32768 < s) :
    Ret Try.prog 8 #[v, .int .i64 fr, .int .i64 to, .int .u64 id, .int .i64 s] w (fun v w' => v = .tuple #[.slice none 0 0, .iface 51 (.int .i64 4)] ∧ St w0 w' F) := by
  obtain ⟨A, c, rfl, hmc, hcx⟩ := (hr w hS).open'
  refine enter (vs := [.slice A l.length c, .int .i64 fr, .int .i64 to, .int .u64 id, .int .i64 s]) 69 Try.func8 rfl rfl (by simp) ?_; intro a hA
  refine wp_seq ?_
  refine wp_region_lit ?_
  refine st_run tbOk 2 hA (e' := (11, .nilIface) :: (10, .slice none 0 0) :: _) rfl ?_; clear hA; intro a hA
  refine wpList_nil ?_
  replace hA := hA.sel [0, 1, 2, 3, 4] (e' := [(0, .slice A l.length c), (1, .int .i64 fr), (2, .int .i64 to), (3, .int .u64 id), (4, .int .i64 s)]) rfl
  refine xt_norm ?_
  refine wp_seq ?_
  refine wp_seq ?_
  refine wp_region_lit ?_
  refine st_run tbOk 3 hA (e' := (18, .bool (decide (s < 1))) :: (17, .bool (decide (s < 1))) :: (16, .int .i64 s) :: _) rfl ?_; clear hA; intro a hA
  by_cases hc1 : s < 1
  · first
    | (exfalso; omega)
    | (replace hA := hA.rw 17 (v' := .bool true) rfl (vb_true hc1)
       replace hA := hA.rw 18 (v' := .bool true) rfl (vb_true hc1)
       refine st_run tbOk 3 hA (e' := (21, .bool true) :: (20, undef) :: (19, undef) :: _) rfl ?_; clear hA; intro a hA
       refine wpList_nil ?_
       replace hA := hA.sel [0, 1, 2, 3, 4, 21] (e' := [(0, .slice A l.length c), (1, .int .i64 fr), (2, .int .i64 to), (3, .int .u64 id), (4, .int .i64 s), (21, .bool true)]) rfl
       refine xt_norm ?_
       refine cd_cond_t hA rfl ?_
       refine wp_seq ?_
       refine wp_region_lit ?_
       refine st_run tbOk 3 hA (e' := (11, .iface 51 (.int .i64 4)) :: (10, .slice none 0 0) :: (22, .iface 51 (.int .i64 4)) :: _) rfl ?_; clear hA; intro a hA
       refine wpList_nil ?_
       replace hA := hA.sel [10, 11] (e' := [(10, .slice none 0 0), (11, .iface 51 (.int .i64 4))]) rfl
       refine xt_norm ?_
       refine wp_ret (xt_ret ?_)
       refine ret2 (fn := Try.f8) hA rfl rfl rfl ?_
       exact ⟨rfl, hS⟩)
  · first
    | (exfalso; omega)
    | (replace hA := hA.rw 17 (v' := .bool false) rfl (vb_false hc1)
       replace hA := hA.rw 18 (v' := .bool false) rfl (vb_false hc1)
       refine st_run tbOk 3 hA (e' := (21, .bool (decide (s > 32768))) :: (20, .bool (decide (s > 32768))) :: (19, .int .i64 s) :: _) rfl ?_; clear hA; intro a hA
       refine wpList_nil ?_
       replace hA := hA.sel [0, 1, 2, 3, 4, 21] (e' := [(0, .slice A l.length c), (1, .int .i64 fr), (2, .int .i64 to), (3, .int .u64 id), (4, .int .i64 s), (21, .bool (decide (s > 32768)))]) rfl
       refine xt_norm ?_
       by_cases hc2 : s > 32768
       · first
         | (exfalso; omega)
         | (replace hA := hA.rw 21 (v' := .bool true) rfl (vb_true hc2)
            refine cd_cond_t hA rfl ?_
            refine wp_seq ?_
            refine wp_region_lit ?_
            refine st_run tbOk 3 hA (e' := (11, .iface 51 (.int .i64 4)) :: (10, .slice none 0 0) :: (22, .iface 51 (.int .i64 4)) :: _) rfl ?_; clear hA; intro a hA
            refine wpList_nil ?_
            replace hA := hA.sel [10, 11] (e' := [(10, .slice none 0 0), (11, .iface 51 (.int .i64 4))]) rfl
            refine xt_norm ?_
            refine wp_ret (xt_ret ?_)
            refine ret2 (fn := Try.f8) hA rfl rfl rfl ?_
            exact ⟨rfl, hS⟩)
       · first
         | (exfalso; omega)
         | (replace hA := hA.rw 21 (v' := .bool false) rfl (vb_false hc2)
            refine cd_cond_f hA rfl ?_
            refine wp_skip ?_
            refine xt_norm ?_
            refine wp_seq ?_
            refine wp_region_lit ?_
            refine st_run tbOk 4 hA (e' := (26, .int .i64 (IntKind.i64.wrap (((l.length : Nat) : Int) + s))) :: (25, .int .i64 s) :: (24, .int .i64 ((l.length : Nat) : Int)) :: (23, .slice A l.length c) :: _) rfl ?_; clear hA; intro a hA
            replace hA := hA.rw 26 (v' := .int .i64 (((l.length : Nat) : Int) + s)) rfl (wr64 (by omega) (by omega) (by omega))
            refine st_run tbOk 1 hA (e' := (27, .int .i64 (IntKind.i64.wrap ((((l.length : Nat) : Int) + s) - 1))) :: _) rfl ?_; clear hA; intro a hA
            replace hA := hA.rw 27 (v' := .int .i64 ((((l.length : Nat) : Int) + s) - 1)) rfl (wr64 (by omega) (by omega) (by omega))
            replace hA := hA.rw 27 (v' := .int .i64 ((l.length + s - 1 : Nat) : Int)) rfl (vint (by omega))
            refine st_run tbOk 1 hA (e' := (28, .int .i64 s) :: _) rfl ?_; clear hA; intro a hA
            refine st_val hA rfl rfl (by decide) (rn_quo hA rfl rfl rfl (by omega)) ?_; clear hA; intro a hA
            refine st_run tbOk 1 hA (e' := (30, .int .i64 (if (IntKind.i64.wrap (((l.length + s - 1 : Nat) : Int).tdiv s)) > 1 then (IntKind.i64.wrap (((l.length + s - 1 : Nat) : Int).tdiv s)) else 1)) :: _) rfl ?_; clear hA; intro a hA
            replace hA := hA.rw 30 (v' := .int .i64 ((nP l s : Nat) : Int)) rfl (vint (by unfold nP; split <;> omega))
            refine st_run tbOk 1 hA (e' := (12, .int .i64 ((nP l s : Nat) : Int)) :: _) rfl ?_; clear hA; intro a hA
            refine wpList_nil ?_
            replace hA := hA.sel [0, 1, 2, 3, 4, 12] (e' := [(0, .slice A l.length c), (1, .int .i64 fr), (2, .int .i64 to), (3, .int .u64 id), (4, .int .i64 s), (12, .int .i64 ((nP l s : Nat) : Int))]) rfl
            refine xt_norm ?_
            refine wp_seq ?_
            refine wp_seq ?_
            refine wp_region_lit ?_
            refine st_run tbOk 2 hA (e' := (32, .bool (decide (((nP l s : Nat) : Int) > 256))) :: (31, .int .i64 ((nP l s : Nat) : Int)) :: _) rfl ?_; clear hA; intro a hA
            refine wpList_nil ?_
            replace hA := hA.sel [0, 1, 2, 3, 4, 12, 32] (e' := [(0, .slice A l.length c), (1, .int .i64 fr), (2, .int .i64 to), (3, .int .u64 id), (4, .int .i64 s), (12, .int .i64 ((nP l s : Nat) : Int)), (32, .bool (decide (((nP l s : Nat) : Int) > 256)))]) rfl
            refine xt_norm ?_
            by_cases hc3 : ((nP l s : Nat) : Int) > 256
            · first
              | (exfalso; omega)
              | (replace hA := hA.rw 32 (v' := .bool true) rfl (vb_true hc3)
                 refine cd_cond_t hA rfl ?_
                 refine wp_seq ?_
                 refine wp_region_lit ?_
                 refine st_run tbOk 3 hA (e' := (11, .iface 51 (.int .i64 13)) :: (10, .slice none 0 0) :: (33, .iface 51 (.int .i64 13)) :: _) rfl ?_; clear hA; intro a hA
                 refine wpList_nil ?_
                 replace hA := hA.sel [10, 11] (e' := [(10, .slice none 0 0), (11, .iface 51 (.int .i64 13))]) rfl
                 refine xt_norm ?_
                 refine wp_ret (xt_ret ?_)
                 refine ret2 (fn := Try.f8) hA rfl rfl rfl ?_
                 exact ⟨rfl, hS⟩)
            · first
              | (exfalso; omega)
              | (replace hA := hA.rw 32 (v' := .bool false) rfl (vb_false hc3)
                 refine cd_cond_f hA rfl ?_
                 refine wp_skip ?_
                 refine xt_norm ?_
                 refine wp_seq ?_
                 refine wp_region_lit ?_
                 refine st_run tbOk 1 hA (e' := (34, .int .i64 ((nP l s : Nat) : Int)) :: _) rfl ?_; clear hA; intro a hA
                 refine st_makeSlice tbOk hA hS (nP l s) encPacket_ok (by decide) (0, 0, 0, 0, 0, none, 0, ([] : List UInt8)) rfl rfl rfl rfl rfl rfl rfl rfl (by show 64 * (nP l s) ≤ 281474976710656; omega) (by omega) rfl rfl (by decide) ?_; clear hA hS; intro b4 w5 a hS hA
                 obtain ⟨C6, hO6, hS⟩ : ∃ Cq9, Own 38 6 (.slice (some ⟨b4, 0, none⟩) (nP l s) (nP l s)) (nP l s) (rows encPacket (List.replicate (nP l s) (0, 0, 0, 0, 0, none, 0, ([] : List UInt8)))) Cq9 ∧ St w0 w5 (Cq9 :: F) := ⟨_, Own.full (by rw [rows_length encPacket_ok, List.length_replicate]) (by show (nP l s) ≤ 9223372036854775807; omega), hS⟩
                 generalize (some (⟨b4, 0, none⟩ : Addr)) = A7 at hO6 hA
                 refine st_run tbOk 1 hA (e' := (13, .slice A7 (nP l s) (nP l s)) :: _) rfl ?_; clear hA; intro a hA
                 refine wpList_nil ?_
                 replace hA := hA.sel [0, 1, 2, 3, 4, 12, 13] (e' := [(0, .slice A l.length c), (1, .int .i64 fr), (2, .int .i64 to), (3, .int .u64 id), (4, .int .i64 s), (12, .int .i64 ((nP l s : Nat) : Int)), (13, .slice A7 (nP l s) (nP l s))]) rfl
                 refine xt_norm ?_
                 refine wp_seq ?_
                 refine wp_seq ?_
                 refine wp_region_lit ?_
                 refine st_run tbOk 3 hA (e' := (38, .int .i64 0) :: (37, .int .i64 ((nP l s : Nat) : Int)) :: (36, .slice A7 (nP l s) (nP l s)) :: _) rfl ?_; clear hA; intro a hA
                 refine wpList_nil ?_
                 replace hA := hA.sel [0, 1, 2, 3, 4, 12, 13, 37, 38] (e' := [(0, .slice A l.length c), (1, .int .i64 fr), (2, .int .i64 to), (3, .int .u64 id), (4, .int .i64 s), (12, .int .i64 ((nP l s : Nat) : Int)), (13, .slice A7 (nP l s) (nP l s)), (37, .int .i64 ((nP l s : Nat) : Int)), (38, .int .i64 0)]) rfl
                 refine xt_norm ?_
                 refine wp_block ?_
                 replace hS := hS.nil
                 replace hS := hS.front 1 (C := C6) (L' := [] :: F) rfl rfl
                 have hrl : (List.replicate (nP l s) ((0, 0, 0, 0, 0, none, 0, ([] : List UInt8)) : Pkt)).length = nP l s := List.length_replicate
                 replace hA := hA.rw 13 (v' := .slice A7 ((List.replicate (nP l s) ((0, 0, 0, 0, 0, none, 0, ([] : List UInt8)) : Pkt)).length) (nP l s)) rfl (by rw [hrl])
                 have hO0 : Own 38 6 (.slice A7 (List.replicate (nP l s) ((0, 0, 0, 0, 0, none, 0, ([] : List UInt8)) : Pkt)).length (nP l s)) (List.replicate (nP l s) ((0, 0, 0, 0, 0, none, 0, ([] : List UInt8)) : Pkt)).length (rows encPacket (List.replicate (nP l s) ((0, 0, 0, 0, 0, none, 0, ([] : List UInt8)) : Pkt))) C6 := by rw [hrl]; exact hO6
                 refine wp_loop_ghost (fun m a w => ∃ (k : Nat) (ps : List Pkt) (Ap : Option Addr) (cp : Nat) (C : Chunk) (D : Chunk), m = nP l s - k ∧ Has a 69 [(0, .slice A l.length c), (1, .int .i64 fr), (2, .int .i64 to), (3, .int .u64 id), (4, .int .i64 s), (12, .int .i64 ((nP l s : Nat) : Int)), (13, .slice Ap ps.length cp), (37, .int .i64 ((nP l s : Nat) : Int)), (38, .int .i64 ((k : Nat) : Int))] ∧ St w0 w (C :: D :: F) ∧ (k ≤ nP l s) ∧ (ps.length = nP l s) ∧ (∀ (i : Nat) (x : Pkt), i < k → ps[i]? = some x → isPk l fr to id s i x) ∧ (∀ x ∈ ps, encPacket_dd w0 D x) ∧ (Own 38 6 (.slice Ap ps.length cp) ps.length (rows encPacket ps) C)) (nP l s - 0)
                   ⟨0, (List.replicate (nP l s) ((0, 0, 0, 0, 0, none, 0, ([] : List UInt8)) : Pkt)), A7, (nP l s), C6, ([]), rfl, (hA.sel [0, 1, 2, 3, 4, 12, 13, 37, 38] rfl), hS, Nat.zero_le _, hrl, (fun i x hi => absurd hi (by omega)), (fun x hx => by rw [List.eq_of_mem_replicate hx]; exact DD.nil), hO0⟩ ?_
                 clear hA hS; rintro m0 a w8 ⟨k, ps, Ap, cp, C, D, rfl, hA, hS, hk, hpl, hall, hdd, hP⟩
                 have hk1 : (k + 1) * s = k * s + s := Nat.succ_mul k s
                 refine wp_seq ?_
                 refine wp_region_lit ?_
                 refine st_run tbOk 1 hA (e' := (39, .bool (decide (((k : Nat) : Int) < ((nP l s : Nat) : Int)))) :: _) rfl ?_; clear hA; intro a hA
                 refine wpList_nil ?_
                 refine xt_norm ?_
                 refine wp_seq ?_
                 by_cases hc9 : ((k : Nat) : Int) < ((nP l s : Nat) : Int)
                 · first
                   | (exfalso; omega)
                   | (replace hA := hA.rw 39 (v' := .bool true) rfl (vb_true hc9)
                      refine cd_cond_t hA rfl ?_
                      refine wp_skip ?_
                      refine xt_norm ?_
                      refine wp_seq ?_
                      refine wp_block ?_
                      refine wp_seq ?_
                      refine wp_region_lit ?_
                      refine st_run tbOk 2 hA (e' := (14, .int .i64 ((k : Nat) : Int)) :: (40, .int .i64 ((k : Nat) : Int)) :: _) rfl ?_; clear hA; intro a hA
                      refine wpList_nil ?_
                      replace hA := hA.sel [0, 1, 2, 3, 4, 12, 13, 14, 37, 38] (e' := [(0, .slice A l.length c), (1, .int .i64 fr), (2, .int .i64 to), (3, .int .u64 id), (4, .int .i64 s), (12, .int .i64 ((nP l s : Nat) : Int)), (13, .slice Ap ps.length cp), (14, .int .i64 ((k : Nat) : Int)), (37, .int .i64 ((nP l s : Nat) : Int)), (38, .int .i64 ((k : Nat) : Int))]) rfl
                      refine xt_norm ?_
                      refine wp_seq ?_
                      refine wp_region_lit ?_
                      have hks : k * s ≤ 256 * 32768 := Nat.mul_le_mul (by omega) (by omega)
                      refine st_run tbOk 4 hA (e' := (44, .int .i64 (IntKind.i64.wrap (((k : Nat) : Int) * s))) :: (43, .int .i64 s) :: (42, .int .i64 ((k : Nat) : Int)) :: (41, .slice A l.length c) :: _) rfl ?_; clear hA; intro a hA
                      replace hA := hA.rw 44 (v' := .int .i64 (((k : Nat) : Int) * s)) rfl (wr64 (by omega) (by omega) (by omega))
                      refine st_run tbOk 3 hA (e' := (47, .int .i64 (if ((l.length : Nat) : Int) < (((k : Nat) : Int) * s) then ((l.length : Nat) : Int) else (((k : Nat) : Int) * s))) :: (46, .int .i64 ((l.length : Nat) : Int)) :: (45, .slice A l.length c) :: _) rfl ?_; clear hA; intro a hA
                      replace hA := hA.rw 47 (v' := .int .i64 ((min (k * s) l.length : Nat) : Int)) rfl (vint (by split <;> omega))
                      refine st_run tbOk 2 hA (e' := (49, .int .i64 (IntKind.i64.wrap (((k : Nat) : Int) + 1))) :: (48, .int .i64 ((k : Nat) : Int)) :: _) rfl ?_; clear hA; intro a hA
                      replace hA := hA.rw 49 (v' := .int .i64 ((k + 1 : Nat) : Int)) rfl (wr64 (by omega) (by omega) (by omega))
                      refine st_run tbOk 2 hA (e' := (51, .int .i64 (IntKind.i64.wrap (((k + 1 : Nat) : Int) * s))) :: (50, .int .i64 s) :: _) rfl ?_; clear hA; intro a hA
                      replace hA := hA.rw 51 (v' := .int .i64 (((k + 1 : Nat) : Int) * s)) rfl (wr64 (by omega) (by omega) (by omega))
                      refine st_run tbOk 3 hA (e' := (54, .int .i64 (if ((l.length : Nat) : Int) < (((k + 1 : Nat) : Int) * s) then ((l.length : Nat) : Int) else (((k + 1 : Nat) : Int) * s))) :: (53, .int .i64 ((l.length : Nat) : Int)) :: (52, .slice A l.length c) :: _) rfl ?_; clear hA; intro a hA
                      replace hA := hA.rw 54 (v' := .int .i64 ((min ((k + 1) * s) l.length : Nat) : Int)) rfl (vint (by split <;> omega))
                      refine st_val hA rfl rfl (by decide) (rn_slice_lh tbOk hA (min (k * s) l.length) (min ((k + 1) * s) l.length) rfl rfl rfl rfl rfl rfl rfl (by rfl) (by rfl) (by omega) (by omega)) ?_; clear hA; intro a hA
                      refine st_run tbOk 1 hA (e' := (15, slv A (min (k * s) l.length) (min ((k + 1) * s) l.length) c 1) :: _) rfl ?_; clear hA; intro a hA
                      refine wpList_nil ?_
                      replace hA := hA.sel [0, 1, 2, 3, 4, 12, 13, 14, 15, 37, 38] (e' := [(0, .slice A l.length c), (1, .int .i64 fr), (2, .int .i64 to), (3, .int .u64 id), (4, .int .i64 s), (12, .int .i64 ((nP l s : Nat) : Int)), (13, .slice Ap ps.length cp), (14, .int .i64 ((k : Nat) : Int)), (15, slv A (min (k * s) l.length) (min ((k + 1) * s) l.length) c 1), (37, .int .i64 ((nP l s : Nat) : Int)), (38, .int .i64 ((k : Nat) : Int))]) rfl
                      refine xt_norm ?_
                      refine wp_region_lit ?_
                      refine st_run tbOk 8 hA (e' := (63, slv A (min (k * s) l.length) (min ((k + 1) * s) l.length) c 1) :: (62, .int .i64 ((nP l s : Nat) : Int)) :: (61, .int .i64 ((k : Nat) : Int)) :: (60, .int .u64 id) :: (59, .int .i64 to) :: (58, .int .i64 fr) :: (57, .int .i64 ((k : Nat) : Int)) :: (56, .slice Ap ps.length cp) :: _) rfl ?_; clear hA; intro a hA
                      replace hS := hS.nil
                      refine st_append tbOk hA (m := 0) (q := ((l.take (min ((k + 1) * s) l.length)).drop (min (k * s) l.length)).length) (xs := rows encB ([] : List UInt8)) (news := rows encB ((l.take (min ((k + 1) * s) l.length)).drop (min (k * s) l.length))) rfl rfl rfl rfl rfl rfl rfl rfl (by decide) (Own.nil 5 1) hS (((hr _ (hS.tail 3 rfl)).rslv encB_ok (min (k * s) l.length) (min ((k + 1) * s) l.length) c (by omega) (by omega) (by omega) (by omega)).x) (rows_one encB_ok _) (maxLen_le (by first | omega | (have h9 := piece_le l s k; rw [piece] at h9; omega))) (by show (0 + ((l.take (min ((k + 1) * s) l.length)).drop (min (k * s) l.length)).length) * 1 ≤ 140737488355328; first | omega | (have h9 := piece_le l s k; rw [piece] at h9; omega)) rfl rfl (by decide) ?_
                      clear hA hS; intro v10 w11 C12 a hO12 hS hA
                      replace hO12 := Own.app (l := ([] : List UInt8)) (l2 := (l.take (min ((k + 1) * s) l.length)).drop (min (k * s) l.length)) hO12
                      replace hO12 : Own 5 1 v10 ((l.take (min ((k + 1) * s) l.length)).drop (min (k * s) l.length)).length (rows encB ((l.take (min ((k + 1) * s) l.length)).drop (min (k * s) l.length))) C12 := hO12
                      obtain ⟨A13, c14, rfl, hmc14, hxc14⟩ := hO12.open'
                      have hl : (l.take (min ((k + 1) * s) l.length)).drop (min (k * s) l.length) = piece l s k := rfl
                      rw [hl] at hO12; rw [hl] at hA
                      refine st_val hA rfl rfl (by decide) (rn_build tbOk hA rfl rfl rfl rfl rfl rfl rfl) ?_; clear hA; intro a hA
                      obtain ⟨b15, o16, rfl⟩ := hP.isSome (k := k) (by omega)
                      refine st_val hA rfl rfl (by decide) (rn_indexAddr tbOk hA k (o16 + (k * 6)) rfl rfl rfl rfl rfl rfl (by rfl) (by omega) (by first | rfl | simp [Nat.mul_one, Nat.zero_add] | omega)) ?_; clear hA; intro a hA
                      obtain ⟨px, hpx⟩ := get_ex (l := ps) (k := k) (by omega)
                      replace hS := hS.front 1 (C := C) (L' := C12 :: D :: F) rfl rfl
                      refine st_store_own tbOk hA hP hS ((k * 6)) (o16 + (k * 6)) [.int .i64 fr, .int .i64 to, .int .u64 id, .int .i64 ((k : Nat) : Int), .int .i64 ((nP l s : Nat) : Int), .slice A13 ((piece l s k).length) c14] (rows encPacket (ps.set k (fr, to, id, ((k : Nat) : Int), ((nP l s : Nat) : Int), A13, c14, (piece l s k)))) rfl rfl rfl rfl (by rfl) rfl rfl (by exact encPacket_ok.one (fr, to, id, ((k : Nat) : Int), ((nP l s : Nat) : Int), A13, c14, (piece l s k))) (by simp only [rows_length encPacket_ok]; simp; omega) (rows_setf encPacket_ok (fr, to, id, ((k : Nat) : Int), ((nP l s : Nat) : Int), A13, c14, (piece l s k)) (show ps[k]? = some _ from hpx) 0 [.int .i64 fr, .int .i64 to, .int .u64 id, .int .i64 ((k : Nat) : Int), .int .i64 ((nP l s : Nat) : Int), .slice A13 ((piece l s k).length) c14] (Nat.le_of_ble_eq_true rfl) rfl) rfl rfl ?_; clear hS; intro w17 C18 hO18 hS
                      refine wpList_nil ?_
                      replace hA := hA.sel [0, 1, 2, 3, 4, 12, 13, 37, 38] (e' := [(0, .slice A l.length c), (1, .int .i64 fr), (2, .int .i64 to), (3, .int .u64 id), (4, .int .i64 s), (12, .int .i64 ((nP l s : Nat) : Int)), (13, .slice (some ⟨b15, o16, none⟩) ps.length cp), (37, .int .i64 ((nP l s : Nat) : Int)), (38, .int .i64 ((k : Nat) : Int))]) rfl
                      refine xb_norm ?_
                      refine xt_norm ?_
                      refine wp_region_lit ?_
                      refine st_run tbOk 1 hA (e' := (67, .int .i64 (IntKind.i64.wrap (((k : Nat) : Int) + 1))) :: _) rfl ?_; clear hA; intro a hA
                      replace hA := hA.rw 67 (v' := .int .i64 ((k + 1 : Nat) : Int)) rfl (wr64 (by omega) (by omega) (by omega))
                      refine st_run tbOk 1 hA (e' := (38, .int .i64 ((k + 1 : Nat) : Int)) :: _) rfl ?_; clear hA; intro a hA
                      refine wpList_nil ?_
                      replace hA := hA.sel [0, 1, 2, 3, 4, 12, 13, 37, 38] (e' := [(0, .slice A l.length c), (1, .int .i64 fr), (2, .int .i64 to), (3, .int .u64 id), (4, .int .i64 s), (12, .int .i64 ((nP l s : Nat) : Int)), (13, .slice (some ⟨b15, o16, none⟩) ps.length cp), (37, .int .i64 ((nP l s : Nat) : Int)), (38, .int .i64 ((k + 1 : Nat) : Int))]) rfl
                      replace hS := hS.front 2 (C := D) (L' := C18 :: C12 :: F) rfl rfl
                      replace hS := hS.front 2 (C := C12) (L' := D :: C18 :: F) rfl rfl
                      replace hS := hS.join
                      replace hS := hS.front 1 (C := C18) (L' := (C12 ++ D) :: F) rfl rfl
                      have hdn := (DD.new (w0 := w0) hO12).right (E := D)
                      have hkp : k < ps.length := by omega
                      replace hA := hA.rw 13 (v' := .slice (some ⟨b15, o16, none⟩) ((ps.set k (fr, to, id, ((k : Nat) : Int), ((nP l s : Nat) : Int), A13, c14, (piece l s k))).length) cp) rfl (by rw [List.length_set])
                      exact lp_next _ (by omega) ⟨(k + 1), (ps.set k (fr, to, id, ((k : Nat) : Int), ((nP l s : Nat) : Int), A13, c14, (piece l s k))), (some ⟨b15, o16, none⟩), cp, C18, (C12 ++ D), rfl, (hA.sel [0, 1, 2, 3, 4, 12, 13, 37, 38] rfl), hS, by omega, (by rw [List.length_set]; omega), (fun i x hi hx => by
                            by_cases hik : i = k
                            · subst hik
                              rw [List.getElem?_set_self hkp] at hx
                              injection hx with hx
                              subst hx
                              exact ⟨_, _, rfl⟩
                            · rw [List.getElem?_set_ne (Ne.symm hik)] at hx
                              exact hall i x (by omega) hx), (fun x hx => by
                            rcases List.mem_or_eq_of_mem_set hx with hx | rfl
                            · exact encPacket_left (hdd x hx)
                            · exact hdn), (by rw [List.length_set]; exact hO18)⟩)
                 · first
                   | (exfalso; omega)
                   | (replace hA := hA.rw 39 (v' := .bool false) rfl (vb_false hc9)
                      refine cd_cond_f hA rfl ?_
                      refine wp_exit ?_
                      refine xt_exit ?_
                      refine xt_exit ?_
                      refine cd_exit_eq ?_
                      refine xt_norm ?_
                      refine wp_seq ?_
                      refine wp_region_lit ?_
                      refine st_run tbOk 3 hA (e' := (11, .nilIface) :: (10, .slice Ap ps.length cp) :: (68, .slice Ap ps.length cp) :: _) rfl ?_; clear hA; intro a hA
                      refine wpList_nil ?_
                      replace hA := hA.sel [10, 11] (e' := [(10, .slice Ap ps.length cp), (11, .nilIface)]) rfl
                      refine xt_norm ?_
                      refine wp_ret ?_
                      refine ret2 (fn := Try.f8) hA rfl rfl rfl ?_
                      replace hS := hS.drop1
                      replace hS := hS.drop1
                      exact ⟨rfl, hS⟩))))

theorem split_many8 {w0 w : World} {F : List Chunk} (hS : St w0 w F) {v : Value} {l : List UInt8} (hr : RdS w0 F 1 v l.length (rows encB l)) (fr to id : Int) (s : Nat) (h1 : 1 ≤ s) (h2 : s ≤ 32768) (h3 : 256 < nP l s) (hlb : l.length ≤ 281474976710656) :
    Ret Try.prog 8 #[v, .int .i64 fr, .int .i64 to, .int .u64 id, .int .i64 ((s : Nat) : Int)] w (fun v w' => v = .tuple #[.slice none 0 0, .iface 51 (.int .i64 13)] ∧ St w0 w' F) := by
  obtain ⟨A, c, rfl, hmc, hcx⟩ := (hr w hS).open'
  refine enter (vs := [.slice A l.length c, .int .i64 fr, .int .i64 to, .int .u64 id, .int .i64 ((s : Nat) : Int)]) 69 Try.func8 rfl rfl (by simp) ?_; intro a hA
  refine wp_seq ?_
  refine wp_region_lit ?_
  refine st_run tbOk 2 hA (e' := (11, .nilIface) :: (10, .slice none 0 0) :: _) rfl ?_; clear hA; intro a hA
  refine wpList_nil ?_
  replace hA := hA.sel [0, 1, 2, 3, 4] (e' := [(0, .slice A l.length c), (1, .int .i64 fr), (2, .int .i64 to), (3, .int .u64 id), (4, .int .i64 ((s : Nat) : Int))]) rfl
  refine xt_norm ?_
  refine wp_seq ?_
  refine wp_seq ?_
  refine wp_region_lit ?_
  refine st_run tbOk 3 hA (e' := (18, .bool (decide (((s : Nat) : Int) < 1))) :: (17, .bool (decide (((s : Nat) : Int) < 1))) :: (16, .int .i64 ((s : Nat) : Int)) :: _) rfl ?_; clear hA; intro a hA
  have hc1 : ¬ (((s : Nat) : Int) < 1) := by omega
  replace hA := hA.rw 17 (v' := .bool false) rfl (vb_false hc1)
  replace hA := hA.rw 18 (v' := .bool false) rfl (vb_false hc1)
  refine st_run tbOk 3 hA (e' := (21, .bool (decide (((s : Nat) : Int) > 32768))) :: (20, .bool (decide (((s : Nat) : Int) > 32768))) :: (19, .int .i64 ((s : Nat) : Int)) :: _) rfl ?_; clear hA; intro a hA
  refine wpList_nil ?_
  replace hA := hA.sel [0, 1, 2, 3, 4, 21] (e' := [(0, .slice A l.length c), (1, .int .i64 fr), (2, .int .i64 to), (3, .int .u64 id), (4, .int .i64 ((s : Nat) : Int)), (21, .bool (decide (((s : Nat) : Int) > 32768)))]) rfl
  refine xt_norm ?_
  have hc2 : ¬ (((s : Nat) : Int) > 32768) := by omega
  replace hA := hA.rw 21 (v' := .bool false) rfl (vb_false hc2)
  refine cd_cond_f hA rfl ?_
  refine wp_skip ?_
  refine xt_norm ?_
  refine wp_seq ?_
  refine wp_region_lit ?_
  refine st_run tbOk 4 hA (e' := (26, .int .i64 (IntKind.i64.wrap (((l.length : Nat) : Int) + ((s : Nat) : Int)))) :: (25, .int .i64 ((s : Nat) : Int)) :: (24, .int .i64 ((l.length : Nat) : Int)) :: (23, .slice A l.length c) :: _) rfl ?_; clear hA; intro a hA
  replace hA := hA.rw 26 (v' := .int .i64 ((l.length + s : Nat) : Int)) rfl (wr64 (by omega) (by omega) (by omega))
  refine st_run tbOk 1 hA (e' := (27, .int .i64 (IntKind.i64.wrap (((l.length + s : Nat) : Int) - 1))) :: _) rfl ?_; clear hA; intro a hA
  replace hA := hA.rw 27 (v' := .int .i64 (((l.length + s : Nat) : Int) - 1)) rfl (wr64 (by omega) (by omega) (by omega))
  replace hA := hA.rw 27 (v' := .int .i64 ((l.length + s - 1 : Nat) : Int)) rfl (vint (by omega))
  refine st_run tbOk 1 hA (e' := (28, .int .i64 ((s : Nat) : Int)) :: _) rfl ?_; clear hA; intro a hA
  refine st_val hA rfl rfl (by decide) (rn_quo hA rfl rfl rfl (by omega)) ?_; clear hA; intro a hA
  have hdv3 := Nat.div_le_self (l.length + s - 1) s
  replace hA := hA.rw 29 (v' := .int .i64 (((l.length + s - 1) / s : Nat) : Int)) rfl (wr64 (Int.ofNat_tdiv _ _).symm (Int.le_trans (show (-9223372036854775808 : Int) ≤ 0 by decide) (Int.natCast_nonneg _)) (by omega))
  refine st_run tbOk 1 hA (e' := (30, .int .i64 (if (((l.length + s - 1) / s : Nat) : Int) > 1 then (((l.length + s - 1) / s : Nat) : Int) else 1)) :: _) rfl ?_; clear hA; intro a hA
  replace hA := hA.rw 30 (v' := .int .i64 ((nP l s : Nat) : Int)) rfl (vint (by unfold nP; split <;> omega))
  refine st_run tbOk 1 hA (e' := (12, .int .i64 ((nP l s : Nat) : Int)) :: _) rfl ?_; clear hA; intro a hA
  refine wpList_nil ?_
  replace hA := hA.sel [0, 1, 2, 3, 4, 12] (e' := [(0, .slice A l.length c), (1, .int .i64 fr), (2, .int .i64 to), (3, .int .u64 id), (4, .int .i64 ((s : Nat) : Int)), (12, .int .i64 ((nP l s : Nat) : Int))]) rfl
  refine xt_norm ?_
  refine wp_seq ?_
  refine wp_seq ?_
  refine wp_region_lit ?_
  refine st_run tbOk 2 hA (e' := (32, .bool (decide (((nP l s : Nat) : Int) > 256))) :: (31, .int .i64 ((nP l s : Nat) : Int)) :: _) rfl ?_; clear hA; intro a hA
  refine wpList_nil ?_
  replace hA := hA.sel [0, 1, 2, 3, 4, 12, 32] (e' := [(0, .slice A l.length c), (1, .int .i64 fr), (2, .int .i64 to), (3, .int .u64 id), (4, .int .i64 ((s : Nat) : Int)), (12, .int .i64 ((nP l s : Nat) : Int)), (32, .bool (decide (((nP l s : Nat) : Int) > 256)))]) rfl
  refine xt_norm ?_
  have hc4 : ((nP l s : Nat) : Int) > 256 := by omega
  replace hA := hA.rw 32 (v' := .bool true) rfl (vb_true hc4)
  refine cd_cond_t hA rfl ?_
  refine wp_seq ?_
  refine wp_region_lit ?_
  refine st_run tbOk 3 hA (e' := (11, .iface 51 (.int .i64 13)) :: (10, .slice none 0 0) :: (33, .iface 51 (.int .i64 13)) :: _) rfl ?_; clear hA; intro a hA
  refine wpList_nil ?_
  replace hA := hA.sel [10, 11] (e' := [(10, .slice none 0 0), (11, .iface 51 (.int .i64 13))]) rfl
  refine xt_norm ?_
  refine wp_ret (xt_ret ?_)
  refine ret2 (fn := Try.f8) hA rfl rfl rfl ?_
  exact ⟨rfl, hS⟩

theorem split_ok8 {w0 w : World} {F : List Chunk} (hS : St w0 w F) {v : Value} {l : List UInt8} (hr : RdS w0 F 1 v l.length (rows encB l)) (fr to id : Int) (s : Nat) (h1 : 1 ≤ s) (h2 : s ≤ 32768) (h3 : nP l s ≤ 256) (hlb : l.length ≤ 281474976710656) :
    Ret Try.prog 8 #[v, .int .i64 fr, .int .i64 to, .int .u64 id, .int .i64 ((s : Nat) : Int)] w (fun v w' => ∃ v1 ps C D, Own 38 6 v1 ps.length (rows encPacket ps) C ∧ ps.length = nP l s ∧ (∀ (i : Nat) (x : Pkt), ps[i]? = some x → isPk l fr to id s i x) ∧ (∀ x ∈ ps, encPacket_dd w0 D x) ∧ v = .tuple #[v1, .nilIface] ∧ St w0 w' (C :: D :: F)) := by
  obtain ⟨A, c, rfl, hmc, hcx⟩ := (hr w hS).open'
  refine enter (vs := [.slice A l.length c, .int .i64 fr, .int .i64 to, .int .u64 id, .int .i64 ((s : Nat) : Int)]) 69 Try.func8 rfl rfl (by simp) ?_; intro a hA
  refine wp_seq ?_
  refine wp_region_lit ?_
  refine st_run tbOk 2 hA (e' := (11, .nilIface) :: (10, .slice none 0 0) :: _) rfl ?_; clear hA; intro a hA
  refine wpList_nil ?_
  replace hA := hA.sel [0, 1, 2, 3, 4] (e' := [(0, .slice A l.length c), (1, .int .i64 fr), (2, .int .i64 to), (3, .int .u64 id), (4, .int .i64 ((s : Nat) : Int))]) rfl
  refine xt_norm ?_
  refine wp_seq ?_
  refine wp_seq ?_
  refine wp_region_lit ?_
  refine st_run tbOk 3 hA (e' := (18, .bool (decide (((s : Nat) : Int) < 1))) :: (17, .bool (decide (((s : Nat) : Int) < 1))) :: (16, .int .i64 ((s : Nat) : Int)) :: _) rfl ?_; clear hA; intro a hA
  have hc1 : ¬ (((s : Nat) : Int) < 1) := by omega
  replace hA := hA.rw 17 (v' := .bool false) rfl (vb_false hc1)
  replace hA := hA.rw 18 (v' := .bool false) rfl (vb_false hc1)
  refine st_run tbOk 3 hA (e' := (21, .bool (decide (((s : Nat) : Int) > 32768))) :: (20, .bool (decide (((s : Nat) : Int) > 32768))) :: (19, .int .i64 ((s : Nat) : Int)) :: _) rfl ?_; clear hA; intro a hA
  refine wpList_nil ?_
  replace hA := hA.sel [0, 1, 2, 3, 4, 21] (e' := [(0, .slice A l.length c), (1, .int .i64 fr), (2, .int .i64 to), (3, .int .u64 id), (4, .int .i64 ((s : Nat) : Int)), (21, .bool (decide (((s : Nat) : Int) > 32768)))]) rfl
  refine xt_norm ?_
  have hc2 : ¬ (((s : Nat) : Int) > 32768) := by omega
  replace hA := hA.rw 21 (v' := .bool false) rfl (vb_false hc2)
  refine cd_cond_f hA rfl ?_
  refine wp_skip ?_
  refine xt_norm ?_
  refine wp_seq ?_
  refine wp_region_lit ?_
  refine st_run tbOk 4 hA (e' := (26, .int .i64 (IntKind.i64.wrap (((l.length : Nat) : Int) + ((s : Nat) : Int)))) :: (25, .int .i64 ((s : Nat) : Int)) :: (24, .int .i64 ((l.length : Nat) : Int)) :: (23, .slice A l.length c) :: _) rfl ?_; clear hA; intro a hA
  replace hA := hA.rw 26 (v' := .int .i64 ((l.length + s : Nat) : Int)) rfl (wr64 (by omega) (by omega) (by omega))
  refine st_run tbOk 1 hA (e' := (27, .int .i64 (IntKind.i64.wrap (((l.length + s : Nat) : Int) - 1))) :: _) rfl ?_; clear hA; intro a hA
  replace hA := hA.rw 27 (v' := .int .i64 (((l.length + s : Nat) : Int) - 1)) rfl (wr64 (by omega) (by omega) (by omega))
  replace hA := hA.rw 27 (v' := .int .i64 ((l.length + s - 1 : Nat) : Int)) rfl (vint (by omega))
  refine st_run tbOk 1 hA (e' := (28, .int .i64 ((s : Nat) : Int)) :: _) rfl ?_; clear hA; intro a hA
  refine st_val hA rfl rfl (by decide) (rn_quo hA rfl rfl rfl (by omega)) ?_; clear hA; intro a hA
  have hdv3 := Nat.div_le_self (l.length + s - 1) s
  replace hA := hA.rw 29 (v' := .int .i64 (((l.length + s - 1) / s : Nat) : Int)) rfl (wr64 (Int.ofNat_tdiv _ _).symm (Int.le_trans (show (-9223372036854775808 : Int) ≤ 0 by decide) (Int.natCast_nonneg _)) (by omega))
  refine st_run tbOk 1 hA (e' := (30, .int .i64 (if (((l.length + s - 1) / s : Nat) : Int) > 1 then (((l.length + s - 1) / s : Nat) : Int) else 1)) :: _) rfl ?_; clear hA; intro a hA
  replace hA := hA.rw 30 (v' := .int .i64 ((nP l s : Nat) : Int)) rfl (vint (by unfold nP; split <;> omega))
  refine st_run tbOk 1 hA (e' := (12, .int .i64 ((nP l s : Nat) : Int)) :: _) rfl ?_; clear hA; intro a hA
  refine wpList_nil ?_
  replace hA := hA.sel [0, 1, 2, 3, 4, 12] (e' := [(0, .slice A l.length c), (1, .int .i64 fr), (2, .int .i64 to), (3, .int .u64 id), (4, .int .i64 ((s : Nat) : Int)), (12, .int .i64 ((nP l s : Nat) : Int))]) rfl
  refine xt_norm ?_
  refine wp_seq ?_
  refine wp_seq ?_
  refine wp_region_lit ?_
  refine st_run tbOk 2 hA (e' := (32, .bool (decide (((nP l s : Nat) : Int) > 256))) :: (31, .int .i64 ((nP l s : Nat) : Int)) :: _) rfl ?_; clear hA; intro a hA
  refine wpList_nil ?_
  replace hA := hA.sel [0, 1, 2, 3, 4, 12, 32] (e' := [(0, .slice A l.length c), (1, .int .i64 fr), (2, .int .i64 to), (3, .int .u64 id), (4, .int .i64 ((s : Nat) : Int)), (12, .int .i64 ((nP l s : Nat) : Int)), (32, .bool (decide (((nP l s : Nat) : Int) > 256)))]) rfl
  refine xt_norm ?_
  have hc4 : ¬ (((nP l s : Nat) : Int) > 256) := by omega
  replace hA := hA.rw 32 (v' := .bool false) rfl (vb_false hc4)
  refine cd_cond_f hA rfl ?_
  refine wp_skip ?_
  refine xt_norm ?_
  refine wp_seq ?_
  refine wp_region_lit ?_
  refine st_run tbOk 1 hA (e' := (34, .int .i64 ((nP l s : Nat) : Int)) :: _) rfl ?_; clear hA; intro a hA
  refine st_makeSlice tbOk hA hS (nP l s) encPacket_ok (by decide) (0, 0, 0, 0, 0, none, 0, ([] : List UInt8)) rfl rfl rfl rfl rfl rfl rfl rfl (by show 64 * (nP l s) ≤ 281474976710656; omega) (by omega) rfl rfl (by decide) ?_; clear hA hS; intro b5 w6 a hS hA
  obtain ⟨C7, hO7, hS⟩ : ∃ Cq9, Own 38 6 (.slice (some ⟨b5, 0, none⟩) (nP l s) (nP l s)) (nP l s) (rows encPacket (List.replicate (nP l s) (0, 0, 0, 0, 0, none, 0, ([] : List UInt8)))) Cq9 ∧ St w0 w6 (Cq9 :: F) := ⟨_, Own.full (by rw [rows_length encPacket_ok, List.length_replicate]) (by show (nP l s) ≤ 9223372036854775807; omega), hS⟩
  generalize (some (⟨b5, 0, none⟩ : Addr)) = A8 at hO7 hA
  refine st_run tbOk 1 hA (e' := (13, .slice A8 (nP l s) (nP l s)) :: _) rfl ?_; clear hA; intro a hA
  refine wpList_nil ?_
  replace hA := hA.sel [0, 1, 2, 3, 4, 12, 13] (e' := [(0, .slice A l.length c), (1, .int .i64 fr), (2, .int .i64 to), (3, .int .u64 id), (4, .int .i64 ((s : Nat) : Int)), (12, .int .i64 ((nP l s : Nat) : Int)), (13, .slice A8 (nP l s) (nP l s))]) rfl
  refine xt_norm ?_
  refine wp_seq ?_
  refine wp_seq ?_
  refine wp_region_lit ?_
  refine st_run tbOk 3 hA (e' := (38, .int .i64 0) :: (37, .int .i64 ((nP l s : Nat) : Int)) :: (36, .slice A8 (nP l s) (nP l s)) :: _) rfl ?_; clear hA; intro a hA
  refine wpList_nil ?_
  replace hA := hA.sel [0, 1, 2, 3, 4, 12, 13, 37, 38] (e' := [(0, .slice A l.length c), (1, .int .i64 fr), (2, .int .i64 to), (3, .int .u64 id), (4, .int .i64 ((s : Nat) : Int)), (12, .int .i64 ((nP l s : Nat) : Int)), (13, .slice A8 (nP l s) (nP l s)), (37, .int .i64 ((nP l s : Nat) : Int)), (38, .int .i64 0)]) rfl
  refine xt_norm ?_
  refine wp_block ?_
  replace hS := hS.nil
  replace hS := hS.front 1 (C := C7) (L' := [] :: F) rfl rfl
  have hrl : (List.replicate (nP l s) ((0, 0, 0, 0, 0, none, 0, ([] : List UInt8)) : Pkt)).length = nP l s := List.length_replicate
  replace hA := hA.rw 13 (v' := .slice A8 ((List.replicate (nP l s) ((0, 0, 0, 0, 0, none, 0, ([] : List UInt8)) : Pkt)).length) (nP l s)) rfl (by rw [hrl])
  have hO0 : Own 38 6 (.slice A8 (List.replicate (nP l s) ((0, 0, 0, 0, 0, none, 0, ([] : List UInt8)) : Pkt)).length (nP l s)) (List.replicate (nP l s) ((0, 0, 0, 0, 0, none, 0, ([] : List UInt8)) : Pkt)).length (rows encPacket (List.replicate (nP l s) ((0, 0, 0, 0, 0, none, 0, ([] : List UInt8)) : Pkt))) C7 := by rw [hrl]; exact hO7
  refine wp_loop_ghost (fun m a w => ∃ (k : Nat) (ps : List Pkt) (Ap : Option Addr) (cp : Nat) (C : Chunk) (D : Chunk), m = nP l s - k ∧ Has a 69 [(0, .slice A l.length c), (1, .int .i64 fr), (2, .int .i64 to), (3, .int .u64 id), (4, .int .i64 ((s : Nat) : Int)), (12, .int .i64 ((nP l s : Nat) : Int)), (13, .slice Ap ps.length cp), (37, .int .i64 ((nP l s : Nat) : Int)), (38, .int .i64 ((k : Nat) : Int))] ∧ St w0 w (C :: D :: F) ∧ (k ≤ nP l s) ∧ (ps.length = nP l s) ∧ (∀ (i : Nat) (x : Pkt), i < k → ps[i]? = some x → isPk l fr to id s i x) ∧ (∀ x ∈ ps, encPacket_dd w0 D x) ∧ (Own 38 6 (.slice Ap ps.length cp) ps.length (rows encPacket ps) C)) (nP l s - 0)
    ⟨0, (List.replicate (nP l s) ((0, 0, 0, 0, 0, none, 0, ([] : List UInt8)) : Pkt)), A8, (nP l s), C7, ([]), rfl, (hA.sel [0, 1, 2, 3, 4, 12, 13, 37, 38] rfl), hS, Nat.zero_le _, hrl, (fun i x hi => absurd hi (by omega)), (fun x hx => by rw [List.eq_of_mem_replicate hx]; exact DD.nil), hO0⟩ ?_
  clear hA hS; rintro m0 a w9 ⟨k, ps, Ap, cp, C, D, rfl, hA, hS, hk, hpl, hall, hdd, hP⟩
  have hk1 : (k + 1) * s = k * s + s := Nat.succ_mul k s
  refine wp_seq ?_
  refine wp_region_lit ?_
  refine st_run tbOk 1 hA (e' := (39, .bool (decide (((k : Nat) : Int) < ((nP l s : Nat) : Int)))) :: _) rfl ?_; clear hA; intro a hA
  refine wpList_nil ?_
  refine xt_norm ?_
  refine wp_seq ?_
  by_cases hc10 : ((k : Nat) : Int) < ((nP l s : Nat) : Int)
  · first
    | (exfalso; omega)
    | (replace hA := hA.rw 39 (v' := .bool true) rfl (vb_true hc10)
       refine cd_cond_t hA rfl ?_
       refine wp_skip ?_
       refine xt_norm ?_
       refine wp_seq ?_
       refine wp_block ?_
       refine wp_seq ?_
       refine wp_region_lit ?_
       refine st_run tbOk 2 hA (e' := (14, .int .i64 ((k : Nat) : Int)) :: (40, .int .i64 ((k : Nat) : Int)) :: _) rfl ?_; clear hA; intro a hA
       refine wpList_nil ?_
       replace hA := hA.sel [0, 1, 2, 3, 4, 12, 13, 14, 37, 38] (e' := [(0, .slice A l.length c), (1, .int .i64 fr), (2, .int .i64 to), (3, .int .u64 id), (4, .int .i64 ((s : Nat) : Int)), (12, .int .i64 ((nP l s : Nat) : Int)), (13, .slice Ap ps.length cp), (14, .int .i64 ((k : Nat) : Int)), (37, .int .i64 ((nP l s : Nat) : Int)), (38, .int .i64 ((k : Nat) : Int))]) rfl
       refine xt_norm ?_
       refine wp_seq ?_
       refine wp_region_lit ?_
       have hks : k * s ≤ 256 * 32768 := Nat.mul_le_mul (by omega) (by omega)
       refine st_run tbOk 4 hA (e' := (44, .int .i64 (IntKind.i64.wrap (((k : Nat) : Int) * ((s : Nat) : Int)))) :: (43, .int .i64 ((s : Nat) : Int)) :: (42, .int .i64 ((k : Nat) : Int)) :: (41, .slice A l.length c) :: _) rfl ?_; clear hA; intro a hA
       replace hA := hA.rw 44 (v' := .int .i64 ((k * s : Nat) : Int)) rfl (wr64 (by omega) (by omega) (by omega))
       refine st_run tbOk 3 hA (e' := (47, .int .i64 (if ((l.length : Nat) : Int) < ((k * s : Nat) : Int) then ((l.length : Nat) : Int) else ((k * s : Nat) : Int))) :: (46, .int .i64 ((l.length : Nat) : Int)) :: (45, .slice A l.length c) :: _) rfl ?_; clear hA; intro a hA
       replace hA := hA.rw 47 (v' := .int .i64 ((min (k * s) l.length : Nat) : Int)) rfl (vint (by split <;> omega))
       refine st_run tbOk 2 hA (e' := (49, .int .i64 (IntKind.i64.wrap (((k : Nat) : Int) + 1))) :: (48, .int .i64 ((k : Nat) : Int)) :: _) rfl ?_; clear hA; intro a hA
       replace hA := hA.rw 49 (v' := .int .i64 ((k + 1 : Nat) : Int)) rfl (wr64 (by omega) (by omega) (by omega))
       refine st_run tbOk 2 hA (e' := (51, .int .i64 (IntKind.i64.wrap (((k + 1 : Nat) : Int) * ((s : Nat) : Int)))) :: (50, .int .i64 ((s : Nat) : Int)) :: _) rfl ?_; clear hA; intro a hA
       replace hA := hA.rw 51 (v' := .int .i64 (((k + 1) * s : Nat) : Int)) rfl (wr64 (by omega) (by omega) (by omega))
       refine st_run tbOk 3 hA (e' := (54, .int .i64 (if ((l.length : Nat) : Int) < (((k + 1) * s : Nat) : Int) then ((l.length : Nat) : Int) else (((k + 1) * s : Nat) : Int))) :: (53, .int .i64 ((l.length : Nat) : Int)) :: (52, .slice A l.length c) :: _) rfl ?_; clear hA; intro a hA
       replace hA := hA.rw 54 (v' := .int .i64 ((min ((k + 1) * s) l.length : Nat) : Int)) rfl (vint (by split <;> omega))
       refine st_val hA rfl rfl (by decide) (rn_slice_lh tbOk hA (min (k * s) l.length) (min ((k + 1) * s) l.length) rfl rfl rfl rfl rfl rfl rfl (by rfl) (by rfl) (by omega) (by omega)) ?_; clear hA; intro a hA
       refine st_run tbOk 1 hA (e' := (15, slv A (min (k * s) l.length) (min ((k + 1) * s) l.length) c 1) :: _) rfl ?_; clear hA; intro a hA
       refine wpList_nil ?_
       replace hA := hA.sel [0, 1, 2, 3, 4, 12, 13, 14, 15, 37, 38] (e' := [(0, .slice A l.length c), (1, .int .i64 fr), (2, .int .i64 to), (3, .int .u64 id), (4, .int .i64 ((s : Nat) : Int)), (12, .int .i64 ((nP l s : Nat) : Int)), (13, .slice Ap ps.length cp), (14, .int .i64 ((k : Nat) : Int)), (15, slv A (min (k * s) l.length) (min ((k + 1) * s) l.length) c 1), (37, .int .i64 ((nP l s : Nat) : Int)), (38, .int .i64 ((k : Nat) : Int))]) rfl
       refine xt_norm ?_
       refine wp_region_lit ?_
       refine st_run tbOk 8 hA (e' := (63, slv A (min (k * s) l.length) (min ((k + 1) * s) l.length) c 1) :: (62, .int .i64 ((nP l s : Nat) : Int)) :: (61, .int .i64 ((k : Nat) : Int)) :: (60, .int .u64 id) :: (59, .int .i64 to) :: (58, .int .i64 fr) :: (57, .int .i64 ((k : Nat) : Int)) :: (56, .slice Ap ps.length cp) :: _) rfl ?_; clear hA; intro a hA
       replace hS := hS.nil
       refine st_append tbOk hA (m := 0) (q := ((l.take (min ((k + 1) * s) l.length)).drop (min (k * s) l.length)).length) (xs := rows encB ([] : List UInt8)) (news := rows encB ((l.take (min ((k + 1) * s) l.length)).drop (min (k * s) l.length))) rfl rfl rfl rfl rfl rfl rfl rfl (by decide) (Own.nil 5 1) hS (((hr _ (hS.tail 3 rfl)).rslv encB_ok (min (k * s) l.length) (min ((k + 1) * s) l.length) c (by omega) (by omega) (by omega) (by omega)).x) (rows_one encB_ok _) (maxLen_le (by first | omega | (have h9 := piece_le l s k; rw [piece] at h9; omega))) (by show (0 + ((l.take (min ((k + 1) * s) l.length)).drop (min (k * s) l.length)).length) * 1 ≤ 140737488355328; first | omega | (have h9 := piece_le l s k; rw [piece] at h9; omega)) rfl rfl (by decide) ?_
       clear hA hS; intro v11 w12 C13 a hO13 hS hA
       replace hO13 := Own.app (l := ([] : List UInt8)) (l2 := (l.take (min ((k + 1) * s) l.length)).drop (min (k * s) l.length)) hO13
       replace hO13 : Own 5 1 v11 ((l.take (min ((k + 1) * s) l.length)).drop (min (k * s) l.length)).length (rows encB ((l.take (min ((k + 1) * s) l.length)).drop (min (k * s) l.length))) C13 := hO13
       obtain ⟨A14, c15, rfl, hmc15, hxc15⟩ := hO13.open'
       have hl : (l.take (min ((k + 1) * s) l.length)).drop (min (k * s) l.length) = piece l s k := rfl
       rw [hl] at hO13; rw [hl] at hA
       refine st_val hA rfl rfl (by decide) (rn_build tbOk hA rfl rfl rfl rfl rfl rfl rfl) ?_; clear hA; intro a hA
       obtain ⟨b16, o17, rfl⟩ := hP.isSome (k := k) (by omega)
       refine st_val hA rfl rfl (by decide) (rn_indexAddr tbOk hA k (o17 + (k * 6)) rfl rfl rfl rfl rfl rfl (by rfl) (by omega) (by first | rfl | simp [Nat.mul_one, Nat.zero_add] | omega)) ?_; clear hA; intro a hA
       obtain ⟨px, hpx⟩ := get_ex (l := ps) (k := k) (by omega)
       replace hS := hS.front 1 (C := C) (L' := C13 :: D :: F) rfl rfl
       refine st_store_own tbOk hA hP hS ((k * 6)) (o17 + (k * 6)) [.int .i64 fr, .int .i64 to, .int .u64 id, .int .i64 ((k : Nat) : Int), .int .i64 ((nP l s : Nat) : Int), .slice A14 ((piece l s k).length) c15] (rows encPacket (ps.set k (fr, to, id, ((k : Nat) : Int), ((nP l s : Nat) : Int), A14, c15, (piece l s k)))) rfl rfl rfl rfl (by rfl) rfl rfl (by exact encPacket_ok.one (fr, to, id, ((k : Nat) : Int), ((nP l s : Nat) : Int), A14, c15, (piece l s k))) (by simp only [rows_length encPacket_ok]; simp; omega) (rows_setf encPacket_ok (fr, to, id, ((k : Nat) : Int), ((nP l s : Nat) : Int), A14, c15, (piece l s k)) (show ps[k]? = some _ from hpx) 0 [.int .i64 fr, .int .i64 to, .int .u64 id, .int .i64 ((k : Nat) : Int), .int .i64 ((nP l s : Nat) : Int), .slice A14 ((piece l s k).length) c15] (Nat.le_of_ble_eq_true rfl) rfl) rfl rfl ?_; clear hS; intro w18 C19 hO19 hS
       refine wpList_nil ?_
       replace hA := hA.sel [0, 1, 2, 3, 4, 12, 13, 37, 38] (e' := [(0, .slice A l.length c), (1, .int .i64 fr), (2, .int .i64 to), (3, .int .u64 id), (4, .int .i64 ((s : Nat) : Int)), (12, .int .i64 ((nP l s : Nat) : Int)), (13, .slice (some ⟨b16, o17, none⟩) ps.length cp), (37, .int .i64 ((nP l s : Nat) : Int)), (38, .int .i64 ((k : Nat) : Int))]) rfl
       refine xb_norm ?_
       refine xt_norm ?_
       refine wp_region_lit ?_
       refine st_run tbOk 1 hA (e' := (67, .int .i64 (IntKind.i64.wrap (((k : Nat) : Int) + 1))) :: _) rfl ?_; clear hA; intro a hA
       replace hA := hA.rw 67 (v' := .int .i64 ((k + 1 : Nat) : Int)) rfl (wr64 (by omega) (by omega) (by omega))
       refine st_run tbOk 1 hA (e' := (38, .int .i64 ((k + 1 : Nat) : Int)) :: _) rfl ?_; clear hA; intro a hA
       refine wpList_nil ?_
       replace hA := hA.sel [0, 1, 2, 3, 4, 12, 13, 37, 38] (e' := [(0, .slice A l.length c), (1, .int .i64 fr), (2, .int .i64 to), (3, .int .u64 id), (4, .int .i64 ((s : Nat) : Int)), (12, .int .i64 ((nP l s : Nat) : Int)), (13, .slice (some ⟨b16, o17, none⟩) ps.length cp), (37, .int .i64 ((nP l s : Nat) : Int)), (38, .int .i64 ((k + 1 : Nat) : Int))]) rfl
       replace hS := hS.front 2 (C := D) (L' := C19 :: C13 :: F) rfl rfl
       replace hS := hS.front 2 (C := C13) (L' := D :: C19 :: F) rfl rfl
       replace hS := hS.join
       replace hS := hS.front 1 (C := C19) (L' := (C13 ++ D) :: F) rfl rfl
       have hdn := (DD.new (w0 := w0) hO13).right (E := D)
       have hkp : k < ps.length := by omega
       replace hA := hA.rw 13 (v' := .slice (some ⟨b16, o17, none⟩) ((ps.set k (fr, to, id, ((k : Nat) : Int), ((nP l s : Nat) : Int), A14, c15, (piece l s k))).length) cp) rfl (by rw [List.length_set])
       exact lp_next _ (by omega) ⟨(k + 1), (ps.set k (fr, to, id, ((k : Nat) : Int), ((nP l s : Nat) : Int), A14, c15, (piece l s k))), (some ⟨b16, o17, none⟩), cp, C19, (C13 ++ D), rfl, (hA.sel [0, 1, 2, 3, 4, 12, 13, 37, 38] rfl), hS, by omega, (by rw [List.length_set]; omega), (fun i x hi hx => by
             by_cases hik : i = k
             · subst hik
               rw [List.getElem?_set_self hkp] at hx
               injection hx with hx
               subst hx
               exact ⟨_, _, rfl⟩
             · rw [List.getElem?_set_ne (Ne.symm hik)] at hx
               exact hall i x (by omega) hx), (fun x hx => by
             rcases List.mem_or_eq_of_mem_set hx with hx | rfl
             · exact encPacket_left (hdd x hx)
             · exact hdn), (by rw [List.length_set]; exact hO19)⟩)
  · first
    | (exfalso; omega)
    | (replace hA := hA.rw 39 (v' := .bool false) rfl (vb_false hc10)
       refine cd_cond_f hA rfl ?_
       refine wp_exit ?_
       refine xt_exit ?_
       refine xt_exit ?_
       refine cd_exit_eq ?_
       refine xt_norm ?_
       refine wp_seq ?_
       refine wp_region_lit ?_
       refine st_run tbOk 3 hA (e' := (11, .nilIface) :: (10, .slice Ap ps.length cp) :: (68, .slice Ap ps.length cp) :: _) rfl ?_; clear hA; intro a hA
       refine wpList_nil ?_
       replace hA := hA.sel [10, 11] (e' := [(10, .slice Ap ps.length cp), (11, .nilIface)]) rfl
       refine xt_norm ?_
       refine wp_ret ?_
       refine ret2 (fn := Try.f8) hA rfl rfl rfl ?_
       have hkn : k = ps.length := by omega
       exact ⟨_, ps, C, D, hP, hpl, fun i x hx => hall i x (by have := (List.getElem?_eq_some_iff.1 hx).1; omega) hx, hdd, rfl, hS⟩)

def AllFit (ps : List Pkt) : Prop := ∀ (k : Nat) (x p0 : Pkt), ps[k]? = some x → ps[0]? = some p0 → fits ps p0 x k
theorem join18 {w0 w : World} {F : List Chunk} {D : Chunk} (hS : St w0 w (D :: F)) {v : Value} {ps : List Pkt} (hr : RdS w0 (D :: F) 6 v ps.length (rows encPacket ps)) (hdd : ∀ x ∈ ps, encPacket_dd w0 D x) :
    Ret Try.prog 18 #[v] w (fun v w' => ∃ C v1 out, Own 5 1 v1 out.length (rows encB out) C ∧ ((AllFit ps ∧ out = cat ps ps.length ∧ v = .tuple #[v1, .bool (decide (((ps.length : Nat) : Int) > 0))]) ∨ (¬ AllFit ps ∧ out = [] ∧ v = .tuple #[v1, .bool false])) ∧ St w0 w' (C :: D :: F)) := by
  obtain ⟨A, c, rfl, hmc, hcx⟩ := (hr w hS).open'
  refine enter (vs := [.slice A ps.length c]) 66 Try.func18 rfl rfl (by simp) ?_; intro a hA
  refine wp_seq ?_
  refine wp_region_lit ?_
  refine st_run tbOk 2 hA (e' := (3, .bool false) :: (2, .slice none 0 0) :: _) rfl ?_; clear hA; intro a hA
  refine wpList_nil ?_
  replace hA := hA.sel [0] (e' := [(0, .slice A ps.length c)]) rfl
  refine xt_norm ?_
  refine wp_seq ?_
  refine wp_region_lit ?_
  refine st_run tbOk 1 hA (e' := (4, .slice none 0 0) :: _) rfl ?_; clear hA; intro a hA
  refine wpList_nil ?_
  refine xt_norm ?_
  refine wp_seq ?_
  refine wp_seq ?_
  refine wp_region_lit ?_
  refine st_run tbOk 3 hA (e' := (9, .int .i64 0) :: (8, .int .i64 ((ps.length : Nat) : Int)) :: (7, .slice A ps.length c) :: _) rfl ?_; clear hA; intro a hA
  refine wpList_nil ?_
  refine xt_norm ?_
  refine wp_block ?_
  replace hS := hS.nil
  refine wp_loop_ghost (fun m a w => ∃ (k : Nat) (Ao : Option Addr) (co : Nat) (Co : Chunk), m = ps.length - k ∧ Has a 66 [(0, .slice A ps.length c), (4, .slice Ao ((cat ps k).length) co), (7, .slice A ps.length c), (8, .int .i64 ((ps.length : Nat) : Int)), (9, .int .i64 ((k : Nat) : Int))] ∧ St w0 w (Co :: D :: F) ∧ (k ≤ ps.length) ∧ ((cat ps k).length ≤ k * 32768) ∧ (∀ (i : Nat) (x p0 : Pkt), i < k → ps[i]? = some x → ps[0]? = some p0 → fits ps p0 x i) ∧ (Own 5 1 (.slice Ao (cat ps k).length co) (cat ps k).length (rows encB (cat ps k)) Co)) (ps.length - 0)
    ⟨0, none, 0, ([]), rfl, (hA.sel [0, 4, 7, 8, 9] rfl), hS, Nat.zero_le _, Nat.zero_le _, fun i x p0 hi => absurd hi (by omega), (Own.nil 5 1)⟩ ?_
  clear hA hS; rintro m0 a w1 ⟨k, Ao, co, Co, rfl, hA, hS, hk, hcl, hfit, hO⟩
  refine wp_seq ?_
  refine wp_region_lit ?_
  refine st_run tbOk 1 hA (e' := (10, .bool (decide (((k : Nat) : Int) < ((ps.length : Nat) : Int)))) :: _) rfl ?_; clear hA; intro a hA
  refine wpList_nil ?_
  refine xt_norm ?_
  refine wp_seq ?_
  by_cases hc2 : ((k : Nat) : Int) < ((ps.length : Nat) : Int)
  · first
    | (exfalso; omega)
    | (replace hA := hA.rw 10 (v' := .bool true) rfl (vb_true hc2)
       refine cd_cond_t hA rfl ?_
       refine wp_skip ?_
       refine xt_norm ?_
       refine wp_seq ?_
       refine wp_block ?_
       refine wp_seq ?_
       refine wp_region_lit ?_
       refine st_run tbOk 1 hA (e' := (11, .int .i64 ((k : Nat) : Int)) :: _) rfl ?_; clear hA; intro a hA
       obtain ⟨x3, hx3⟩ := get_ex (l := ps) (k := 0) (by omega)
       obtain ⟨x3f0, x3f1, x3f2, x3f3, x3f4, x3A5, x3c5, x3b5⟩ := x3
       have hd4 := hdd _ (List.mem_of_getElem? hx3)
       obtain ⟨x5, hx5⟩ := get_ex (l := ps) (k := k) (by omega)
       obtain ⟨x5f0, x5f1, x5f2, x5f3, x5f4, x5A5, x5c5, x5b5⟩ := x5
       have hd6 := hdd _ (List.mem_of_getElem? hx5)
       obtain ⟨b7, o8, rfl⟩ := (hr _ (hS.tail 1 rfl)).isSome (k := k) (by omega)
       refine st_val hA rfl rfl (by decide) (rn_indexAddr tbOk hA k (o8 + (k * 6)) rfl rfl rfl rfl rfl rfl (by rfl) (by omega) (by first | rfl | simp [Nat.mul_one, Nat.zero_add] | omega)) ?_; clear hA; intro a hA
       refine st_val hA rfl rfl (by decide) (rn_loadA tbOk hA ([.int .i64 x5f0, .int .i64 x5f1, .int .u64 x5f2, .int .i64 x5f3, .int .i64 x5f4, .slice x5A5 x5b5.length x5c5]) rfl rfl rfl rfl (by rfl) ((hr _ (hS.tail 1 rfl)).elem (k := k) encPacket_ok hx5)) ?_; clear hA; intro a hA
       refine st_alloc tbOk hA hS [.int .i64 0, .int .i64 0, .int .u64 0, .int .i64 0, .int .i64 0, .slice none 0 0] rfl rfl rfl rfl rfl (by decide) ?_; clear hA hS; intro b9 w10 a hS hA
       refine st_run tbOk 1 hA (e' := (5, .int .i64 ((k : Nat) : Int)) :: _) rfl ?_; clear hA; intro a hA
       refine st_store tbOk hA hS [.int .i64 x5f0, .int .i64 x5f1, .int .u64 x5f2, .int .i64 x5f3, .int .i64 x5f4, .slice x5A5 x5b5.length x5c5] [.int .i64 x5f0, .int .i64 x5f1, .int .u64 x5f2, .int .i64 x5f3, .int .i64 x5f4, .slice x5A5 x5b5.length x5c5] rfl rfl rfl rfl rfl rfl (by simp [Value.oneCell']) (Nat.le_of_ble_eq_true rfl) rfl rfl rfl ?_; clear hS; intro w11 hS
       refine wpList_nil ?_
       replace hA := hA.sel [0, 4, 5, 6, 7, 8, 9] (e' := [(0, .slice (some ⟨b7, o8, none⟩) ps.length c), (4, .slice Ao ((cat ps k).length) co), (5, .int .i64 ((k : Nat) : Int)), (6, .pointer (some ⟨b9, 0, none⟩)), (7, .slice (some ⟨b7, o8, none⟩) ps.length c), (8, .int .i64 ((ps.length : Nat) : Int)), (9, .int .i64 ((k : Nat) : Int))]) rfl
       refine xt_norm ?_
       refine wp_seq ?_
       refine wp_seq ?_
       refine wp_draw (fun w' => St w0 w' ([(b9, rowO [.int .i64 x5f0, .int .i64 x5f1, .int .u64 x5f2, .int .i64 x5f3, .int .i64 x5f4, .slice x5A5 x5b5.length x5c5] 38)] :: Co :: D :: F)) [] [(0, true), (1, false), (2, true), (3, true), (4, true), (5, true), (6, true), (7, true), (8, true), (9, true), (10, true), (11, true), (12, true), (13, true), (14, true), (15, true), (16, true), (17, true), (18, true), (19, true), (20, true), (21, true), (22, true), (23, true), (24, true), (25, true), (26, true), (27, true), (28, true), (29, true), (30, true), (31, true), (32, true), (33, true), (34, true), (35, true), (36, true), (37, true), (38, true), (39, true), (40, true), (41, true), (42, true)] mixed (by kernel_rfl) (by rintro c a w ⟨_, _, h, _⟩; cases h) (by rfl) (by kernel_rfl) ?_
       replace hS := hS.drew
       refine dr_y hA rfl rfl rfl (by decide) hS (fun w' hS' => rn_loadA tbOk hA [.int .i64 x5f0, .int .i64 x5f1, .int .u64 x5f2, .int .i64 x5f3, .int .i64 x5f4, .slice x5A5 x5b5.length x5c5] rfl rfl rfl rfl rfl (cells_row (hS'.heapAt 0 rfl) rfl)) ?_; clear hA; intro a hA
       refine dr_b (o := _) rfl ?_
       refine st_call0 hA rfl rfl rfl isfn12 rfl rfl (by decide) (may12 hS x5f0 x5f1 x5f2 x5f3 x5f4 x5A5 x5c5 x5b5) ?_
       clear hA hS; rintro v w12 a ⟨rfl, hS⟩ hA
       refine dr_nil (.inr hS) ?_
       by_cases hc13 : 1 ≤ x5f4 ∧ x5f4 ≤ 256 ∧ 0 ≤ x5f3 ∧ x5f3 < x5f4 ∧ x5b5.length ≤ 32768
       · first
         | (exfalso; omega)
         | (replace hA := hA.rw 15 (v' := .bool true) rfl (vb_true hc13)
            refine dr_run tbOk 3 hA hS (e' := (18, .pointer (some ⟨b9, 3, none⟩)) :: (17, .bool false) :: (16, .bool false) :: _) rfl ?_; clear hA; intro a hA
            refine dr_y hA rfl rfl rfl (by decide) hS (fun w' hS' => rn_load tbOk hA rfl rfl rfl rfl (cell_row (hS'.heapAt 0 rfl) rfl)) ?_; clear hA; intro a hA
            refine dr_run tbOk 4 hA hS (e' := (23, .bool (x5f3 != ((k : Nat) : Int))) :: (22, .bool (x5f3 != ((k : Nat) : Int))) :: (21, .bool (x5f3 != ((k : Nat) : Int))) :: (20, .int .i64 ((k : Nat) : Int)) :: _) rfl ?_; clear hA; intro a hA
            by_cases hc14 : x5f3 = ((k : Nat) : Int)
            · first
              | (exfalso; omega)
              | (replace hA := hA.rw 21 (v' := .bool false) rfl (vb_ne_f hc14)
                 replace hA := hA.rw 22 (v' := .bool false) rfl (vb_ne_f hc14)
                 replace hA := hA.rw 23 (v' := .bool false) rfl (vb_ne_f hc14)
                 refine dr_run tbOk 1 hA hS (e' := (24, .pointer (some ⟨b9, 4, none⟩)) :: _) rfl ?_; clear hA; intro a hA
                 refine dr_y hA rfl rfl rfl (by decide) hS (fun w' hS' => rn_load tbOk hA rfl rfl rfl rfl (cell_row (hS'.heapAt 0 rfl) rfl)) ?_; clear hA; intro a hA
                 refine dr_run tbOk 5 hA hS (e' := (30, .bool (x5f4 != ((ps.length : Nat) : Int))) :: (29, .bool (x5f4 != ((ps.length : Nat) : Int))) :: (28, .bool (x5f4 != ((ps.length : Nat) : Int))) :: (27, .int .i64 ((ps.length : Nat) : Int)) :: (26, .slice (some ⟨b7, o8, none⟩) ps.length c) :: _) rfl ?_; clear hA; intro a hA
                 by_cases hc15 : x5f4 = ((ps.length : Nat) : Int)
                 · first
                   | (exfalso; omega)
                   | (replace hA := hA.rw 28 (v' := .bool false) rfl (vb_ne_f hc15)
                      replace hA := hA.rw 29 (v' := .bool false) rfl (vb_ne_f hc15)
                      replace hA := hA.rw 30 (v' := .bool false) rfl (vb_ne_f hc15)
                      refine dr_run tbOk 1 hA hS (e' := (31, .pointer (some ⟨b9, 2, none⟩)) :: _) rfl ?_; clear hA; intro a hA
                      refine dr_y hA rfl rfl rfl (by decide) hS (fun w' hS' => rn_load tbOk hA rfl rfl rfl rfl (cell_row (hS'.heapAt 0 rfl) rfl)) ?_; clear hA; intro a hA
                      refine dr_run tbOk 1 hA hS (e' := (33, .slice (some ⟨b7, o8, none⟩) ps.length c) :: _) rfl ?_; clear hA; intro a hA
                      refine dr_y hA rfl rfl rfl (by decide) hS (fun w' hS' => rn_indexAddr tbOk hA 0 o8 rfl rfl rfl rfl rfl rfl (by rfl) (by omega) (by first | rfl | simp [Nat.mul_one, Nat.zero_add] | omega)) ?_; clear hA; intro a hA
                      refine dr_run tbOk 1 hA hS (e' := (35, .pointer (some ⟨b7, o8 + 2, none⟩)) :: _) rfl ?_; clear hA; intro a hA
                      refine dr_y hA rfl rfl rfl (by decide) hS (fun w' hS' => rn_load tbOk hA rfl rfl rfl rfl ((hr _ (hS'.tail 2 rfl)).elemf (k := 0) encPacket_ok hx3 (j := 2) rfl)) ?_; clear hA; intro a hA
                      refine dr_run tbOk 3 hA hS (e' := (39, .bool (x5f2 != x3f2)) :: (38, .bool (x5f2 != x3f2)) :: (37, .bool (x5f2 != x3f2)) :: _) rfl ?_; clear hA; intro a hA
                      by_cases hc16 : x5f2 = x3f2
                      · first
                        | (exfalso; omega)
                        | (replace hA := hA.rw 37 (v' := .bool false) rfl (vb_ne_f hc16)
                           replace hA := hA.rw 38 (v' := .bool false) rfl (vb_ne_f hc16)
                           replace hA := hA.rw 39 (v' := .bool false) rfl (vb_ne_f hc16)
                           refine dr_run tbOk 1 hA hS (e' := (40, .pointer (some ⟨b9, 0, none⟩)) :: _) rfl ?_; clear hA; intro a hA
                           refine dr_y hA rfl rfl rfl (by decide) hS (fun w' hS' => rn_load tbOk hA rfl rfl rfl rfl (cell_row (hS'.heapAt 0 rfl) rfl)) ?_; clear hA; intro a hA
                           refine dr_run tbOk 1 hA hS (e' := (42, .slice (some ⟨b7, o8, none⟩) ps.length c) :: _) rfl ?_; clear hA; intro a hA
                           refine dr_y hA rfl rfl rfl (by decide) hS (fun w' hS' => rn_indexAddr tbOk hA 0 o8 rfl rfl rfl rfl rfl rfl (by rfl) (by omega) (by first | rfl | simp [Nat.mul_one, Nat.zero_add] | omega)) ?_; clear hA; intro a hA
                           refine dr_run tbOk 1 hA hS (e' := (44, .pointer (some ⟨b7, o8, none⟩)) :: _) rfl ?_; clear hA; intro a hA
                           refine dr_y hA rfl rfl rfl (by decide) hS (fun w' hS' => rn_load tbOk hA rfl rfl rfl rfl ((hr _ (hS'.tail 2 rfl)).elemf (k := 0) encPacket_ok hx3 (j := 0) rfl)) ?_; clear hA; intro a hA
                           refine dr_run tbOk 3 hA hS (e' := (48, .bool (x5f0 != x3f0)) :: (47, .bool (x5f0 != x3f0)) :: (46, .bool (x5f0 != x3f0)) :: _) rfl ?_; clear hA; intro a hA
                           by_cases hc17 : x5f0 = x3f0
                           · first
                             | (exfalso; omega)
                             | (replace hA := hA.rw 46 (v' := .bool false) rfl (vb_ne_f hc17)
                                replace hA := hA.rw 47 (v' := .bool false) rfl (vb_ne_f hc17)
                                replace hA := hA.rw 48 (v' := .bool false) rfl (vb_ne_f hc17)
                                refine dr_run tbOk 1 hA hS (e' := (49, .pointer (some ⟨b9, 1, none⟩)) :: _) rfl ?_; clear hA; intro a hA
                                refine dr_y hA rfl rfl rfl (by decide) hS (fun w' hS' => rn_load tbOk hA rfl rfl rfl rfl (cell_row (hS'.heapAt 0 rfl) rfl)) ?_; clear hA; intro a hA
                                refine dr_run tbOk 1 hA hS (e' := (51, .slice (some ⟨b7, o8, none⟩) ps.length c) :: _) rfl ?_; clear hA; intro a hA
                                refine dr_y hA rfl rfl rfl (by decide) hS (fun w' hS' => rn_indexAddr tbOk hA 0 o8 rfl rfl rfl rfl rfl rfl (by rfl) (by omega) (by first | rfl | simp [Nat.mul_one, Nat.zero_add] | omega)) ?_; clear hA; intro a hA
                                refine dr_run tbOk 1 hA hS (e' := (53, .pointer (some ⟨b7, o8 + 1, none⟩)) :: _) rfl ?_; clear hA; intro a hA
                                refine dr_y hA rfl rfl rfl (by decide) hS (fun w' hS' => rn_load tbOk hA rfl rfl rfl rfl ((hr _ (hS'.tail 2 rfl)).elemf (k := 0) encPacket_ok hx3 (j := 1) rfl)) ?_; clear hA; intro a hA
                                refine dr_run tbOk 2 hA hS (e' := (56, .bool (x5f1 != x3f1)) :: (55, .bool (x5f1 != x3f1)) :: _) rfl ?_; clear hA; intro a hA
                                refine dr_end ?_
                                replace hA := hA.sel [0, 4, 6, 7, 8, 9, 56] (e' := [(0, .slice (some ⟨b7, o8, none⟩) ps.length c), (4, .slice Ao ((cat ps k).length) co), (6, .pointer (some ⟨b9, 0, none⟩)), (7, .slice (some ⟨b7, o8, none⟩) ps.length c), (8, .int .i64 ((ps.length : Nat) : Int)), (9, .int .i64 ((k : Nat) : Int)), (56, .bool (x5f1 != x3f1))]) rfl
                                refine xt_norm ?_
                                by_cases hc18 : x5f1 = x3f1
                                · first
                                  | (exfalso; omega)
                                  | (replace hA := hA.rw 56 (v' := .bool false) rfl (vb_ne_f hc18)
                                     refine cd_cond_f hA rfl ?_
                                     refine wp_skip ?_
                                     refine xt_norm ?_
                                     refine wp_region_lit ?_
                                     refine st_run tbOk 2 hA (e' := (58, .pointer (some ⟨b9, 5, none⟩)) :: (57, .slice Ao ((cat ps k).length) co) :: _) rfl ?_; clear hA; intro a hA
                                     refine st_val hA rfl rfl (by decide) (rn_load tbOk hA rfl rfl rfl rfl (cell_row (hS.heapAt 0 rfl) rfl)) ?_; clear hA; intro a hA
                                     replace hS := hS.front 1 (C := Co) (L' := [(b9, rowO [.int .i64 x5f0, .int .i64 x5f1, .int .u64 x5f2, .int .i64 x5f3, .int .i64 x5f4, .slice x5A5 x5b5.length x5c5] 38)] :: D :: F) rfl rfl
                                     refine st_append tbOk hA (m := (cat ps k).length) (q := x5b5.length) (xs := rows encB (cat ps k)) (news := rows encB x5b5) rfl rfl rfl rfl rfl rfl rfl rfl (by decide) hO hS ((hd6 _ (hS.only 2 rfl))) (rows_one encB_ok _) (maxLen_le (by omega)) (by show ((cat ps k).length + x5b5.length) * 1 ≤ 140737488355328; omega) rfl rfl (by decide) ?_
                                     clear hA hS; intro v19 w20 C21 a hO21 hS hA
                                     replace hO21 := Own.app (l := cat ps k) (l2 := x5b5) hO21
                                     obtain ⟨A22, c23, rfl, hmc23, hxc23⟩ := hO21.open'
                                     refine st_run tbOk 1 hA (e' := (4, .slice A22 (((cat ps k) ++ x5b5).length) c23) :: _) rfl ?_; clear hA; intro a hA
                                     refine wpList_nil ?_
                                     replace hA := hA.sel [0, 4, 7, 8, 9] (e' := [(0, .slice (some ⟨b7, o8, none⟩) ps.length c), (4, .slice A22 (((cat ps k) ++ x5b5).length) c23), (7, .slice (some ⟨b7, o8, none⟩) ps.length c), (8, .int .i64 ((ps.length : Nat) : Int)), (9, .int .i64 ((k : Nat) : Int))]) rfl
                                     refine xb_norm ?_
                                     refine xt_norm ?_
                                     refine wp_region_lit ?_
                                     refine st_run tbOk 1 hA (e' := (61, .int .i64 (IntKind.i64.wrap (((k : Nat) : Int) + 1))) :: _) rfl ?_; clear hA; intro a hA
                                     replace hA := hA.rw 61 (v' := .int .i64 ((k + 1 : Nat) : Int)) rfl (wr64 (by omega) (by omega) (by omega))
                                     refine st_run tbOk 1 hA (e' := (9, .int .i64 ((k + 1 : Nat) : Int)) :: _) rfl ?_; clear hA; intro a hA
                                     refine wpList_nil ?_
                                     replace hA := hA.sel [0, 4, 7, 8, 9] (e' := [(0, .slice (some ⟨b7, o8, none⟩) ps.length c), (4, .slice A22 (((cat ps k) ++ x5b5).length) c23), (7, .slice (some ⟨b7, o8, none⟩) ps.length c), (8, .int .i64 ((ps.length : Nat) : Int)), (9, .int .i64 ((k + 1 : Nat) : Int))]) rfl
                                     have hcs := cat_succ hx5
                                     have hcl : (cat ps (k + 1)).length ≤ (k + 1) * 32768 := by rw [← hcs, List.length_append]; show _ + x5b5.length ≤ _; omega
                                     have hl : (cat ps k) ++ x5b5 = cat ps (k + 1) := hcs
                                     rw [hl] at hO21; rw [hl] at hA
                                     replace hS := hS.front 1 (C := [(b9, rowO [.int .i64 x5f0, .int .i64 x5f1, .int .u64 x5f2, .int .i64 x5f3, .int .i64 x5f4, .slice x5A5 x5b5.length x5c5] 38)]) (L' := C21 :: D :: F) rfl rfl
                                     replace hS := hS.drop1
                                     exact lp_next _ (by omega) ⟨(k + 1), A22, c23, C21, rfl, (hA.sel [0, 4, 7, 8, 9] rfl), hS, by omega, hcl, (fun i y p0 hi hy h0 => by
                                           by_cases hik : i = k
                                           · subst hik
                                             rw [hx5] at hy; injection hy with hy; subst hy
                                             rw [hx3] at h0; injection h0 with h0; subst h0
                                             refine ⟨⟨?_, ?_, ?_, ?_, ?_⟩, ?_, ?_, ?_, ?_, ?_⟩ <;> dsimp only [pdat] <;> omega
                                           · exact hfit i y p0 (by omega) hy h0), hO21⟩)
                                · first
                                  | (exfalso; omega)
                                  | (replace hA := hA.rw 56 (v' := .bool true) rfl (vb_ne_t hc18)
                                     refine cd_cond_t hA rfl ?_
                                     refine wp_seq ?_
                                     refine wp_region_lit ?_
                                     refine st_run tbOk 2 hA (e' := (3, .bool false) :: (2, .slice none 0 0) :: _) rfl ?_; clear hA; intro a hA
                                     refine wpList_nil ?_
                                     replace hA := hA.sel [2, 3] (e' := [(2, .slice none 0 0), (3, .bool false)]) rfl
                                     refine xt_norm ?_
                                     refine wp_ret (xt_ret (xb_ret (xt_ret (xt_ret (xb_ret (xt_ret ?_))))))
                                     refine ret2 (fn := Try.f18) hA rfl rfl rfl ?_
                                     replace hS := hS.drop1
                                     replace hS := hS.drop1
                                     exact ⟨[], _, [], Own.nil 5 1, .inr ⟨fun hf => by have h9 := hf _ _ _ hx5 hx3; unfold fits at h9; dsimp only [pdat] at h9; omega, rfl, rfl⟩, hS.nil⟩))
                           · first
                             | (exfalso; omega)
                             | (replace hA := hA.rw 46 (v' := .bool true) rfl (vb_ne_t hc17)
                                replace hA := hA.rw 47 (v' := .bool true) rfl (vb_ne_t hc17)
                                replace hA := hA.rw 48 (v' := .bool true) rfl (vb_ne_t hc17)
                                refine dr_run tbOk 8 hA hS (e' := (56, .bool true) :: (55, undef) :: (54, undef) :: (53, undef) :: (52, undef) :: (51, undef) :: (50, undef) :: (49, undef) :: _) rfl ?_; clear hA; intro a hA
                                refine dr_end ?_
                                replace hA := hA.sel [0, 4, 6, 7, 8, 9, 56] (e' := [(0, .slice (some ⟨b7, o8, none⟩) ps.length c), (4, .slice Ao ((cat ps k).length) co), (6, .pointer (some ⟨b9, 0, none⟩)), (7, .slice (some ⟨b7, o8, none⟩) ps.length c), (8, .int .i64 ((ps.length : Nat) : Int)), (9, .int .i64 ((k : Nat) : Int)), (56, .bool true)]) rfl
                                refine xt_norm ?_
                                refine cd_cond_t hA rfl ?_
                                refine wp_seq ?_
                                refine wp_region_lit ?_
                                refine st_run tbOk 2 hA (e' := (3, .bool false) :: (2, .slice none 0 0) :: _) rfl ?_; clear hA; intro a hA
                                refine wpList_nil ?_
                                replace hA := hA.sel [2, 3] (e' := [(2, .slice none 0 0), (3, .bool false)]) rfl
                                refine xt_norm ?_
                                refine wp_ret (xt_ret (xb_ret (xt_ret (xt_ret (xb_ret (xt_ret ?_))))))
                                refine ret2 (fn := Try.f18) hA rfl rfl rfl ?_
                                replace hS := hS.drop1
                                replace hS := hS.drop1
                                exact ⟨[], _, [], Own.nil 5 1, .inr ⟨fun hf => by have h9 := hf _ _ _ hx5 hx3; unfold fits at h9; dsimp only [pdat] at h9; omega, rfl, rfl⟩, hS.nil⟩))
                      · first
                        | (exfalso; omega)
                        | (replace hA := hA.rw 37 (v' := .bool true) rfl (vb_ne_t hc16)
                           replace hA := hA.rw 38 (v' := .bool true) rfl (vb_ne_t hc16)
                           replace hA := hA.rw 39 (v' := .bool true) rfl (vb_ne_t hc16)
                           refine dr_run tbOk 17 hA hS (e' := (56, .bool true) :: (55, undef) :: (54, undef) :: (53, undef) :: (52, undef) :: (51, undef) :: (50, undef) :: (49, undef) :: (48, .bool true) :: (47, .bool true) :: (46, undef) :: (45, undef) :: (44, undef) :: (43, undef) :: (42, undef) :: (41, undef) :: (40, undef) :: _) rfl ?_; clear hA; intro a hA
                           refine dr_end ?_
                           replace hA := hA.sel [0, 4, 6, 7, 8, 9, 56] (e' := [(0, .slice (some ⟨b7, o8, none⟩) ps.length c), (4, .slice Ao ((cat ps k).length) co), (6, .pointer (some ⟨b9, 0, none⟩)), (7, .slice (some ⟨b7, o8, none⟩) ps.length c), (8, .int .i64 ((ps.length : Nat) : Int)), (9, .int .i64 ((k : Nat) : Int)), (56, .bool true)]) rfl
                           refine xt_norm ?_
                           refine cd_cond_t hA rfl ?_
                           refine wp_seq ?_
                           refine wp_region_lit ?_
                           refine st_run tbOk 2 hA (e' := (3, .bool false) :: (2, .slice none 0 0) :: _) rfl ?_; clear hA; intro a hA
                           refine wpList_nil ?_
                           replace hA := hA.sel [2, 3] (e' := [(2, .slice none 0 0), (3, .bool false)]) rfl
                           refine xt_norm ?_
                           refine wp_ret (xt_ret (xb_ret (xt_ret (xt_ret (xb_ret (xt_ret ?_))))))
                           refine ret2 (fn := Try.f18) hA rfl rfl rfl ?_
                           replace hS := hS.drop1
                           replace hS := hS.drop1
                           exact ⟨[], _, [], Own.nil 5 1, .inr ⟨fun hf => by have h9 := hf _ _ _ hx5 hx3; unfold fits at h9; dsimp only [pdat] at h9; omega, rfl, rfl⟩, hS.nil⟩))
                 · first
                   | (exfalso; omega)
                   | (replace hA := hA.rw 28 (v' := .bool true) rfl (vb_ne_t hc15)
                      replace hA := hA.rw 29 (v' := .bool true) rfl (vb_ne_t hc15)
                      replace hA := hA.rw 30 (v' := .bool true) rfl (vb_ne_t hc15)
                      refine dr_run tbOk 26 hA hS (e' := (56, .bool true) :: (55, undef) :: (54, undef) :: (53, undef) :: (52, undef) :: (51, undef) :: (50, undef) :: (49, undef) :: (48, .bool true) :: (47, .bool true) :: (46, undef) :: (45, undef) :: (44, undef) :: (43, undef) :: (42, undef) :: (41, undef) :: (40, undef) :: (39, .bool true) :: (38, .bool true) :: (37, undef) :: (36, undef) :: (35, undef) :: (34, undef) :: (33, undef) :: (32, undef) :: (31, undef) :: _) rfl ?_; clear hA; intro a hA
                      refine dr_end ?_
                      replace hA := hA.sel [0, 4, 6, 7, 8, 9, 56] (e' := [(0, .slice (some ⟨b7, o8, none⟩) ps.length c), (4, .slice Ao ((cat ps k).length) co), (6, .pointer (some ⟨b9, 0, none⟩)), (7, .slice (some ⟨b7, o8, none⟩) ps.length c), (8, .int .i64 ((ps.length : Nat) : Int)), (9, .int .i64 ((k : Nat) : Int)), (56, .bool true)]) rfl
                      refine xt_norm ?_
                      refine cd_cond_t hA rfl ?_
                      refine wp_seq ?_
                      refine wp_region_lit ?_
                      refine st_run tbOk 2 hA (e' := (3, .bool false) :: (2, .slice none 0 0) :: _) rfl ?_; clear hA; intro a hA
                      refine wpList_nil ?_
                      replace hA := hA.sel [2, 3] (e' := [(2, .slice none 0 0), (3, .bool false)]) rfl
                      refine xt_norm ?_
                      refine wp_ret (xt_ret (xb_ret (xt_ret (xt_ret (xb_ret (xt_ret ?_))))))
                      refine ret2 (fn := Try.f18) hA rfl rfl rfl ?_
                      replace hS := hS.drop1
                      replace hS := hS.drop1
                      exact ⟨[], _, [], Own.nil 5 1, .inr ⟨fun hf => by have h9 := hf _ _ _ hx5 hx3; unfold fits at h9; dsimp only [pdat] at h9; omega, rfl, rfl⟩, hS.nil⟩))
            · first
              | (exfalso; omega)
              | (replace hA := hA.rw 21 (v' := .bool true) rfl (vb_ne_t hc14)
                 replace hA := hA.rw 22 (v' := .bool true) rfl (vb_ne_t hc14)
                 replace hA := hA.rw 23 (v' := .bool true) rfl (vb_ne_t hc14)
                 refine dr_run tbOk 33 hA hS (e' := (56, .bool true) :: (55, undef) :: (54, undef) :: (53, undef) :: (52, undef) :: (51, undef) :: (50, undef) :: (49, undef) :: (48, .bool true) :: (47, .bool true) :: (46, undef) :: (45, undef) :: (44, undef) :: (43, undef) :: (42, undef) :: (41, undef) :: (40, undef) :: (39, .bool true) :: (38, .bool true) :: (37, undef) :: (36, undef) :: (35, undef) :: (34, undef) :: (33, undef) :: (32, undef) :: (31, undef) :: (30, .bool true) :: (29, .bool true) :: (28, undef) :: (27, undef) :: (26, undef) :: (25, undef) :: (24, undef) :: _) rfl ?_; clear hA; intro a hA
                 refine dr_end ?_
                 replace hA := hA.sel [0, 4, 6, 7, 8, 9, 56] (e' := [(0, .slice (some ⟨b7, o8, none⟩) ps.length c), (4, .slice Ao ((cat ps k).length) co), (6, .pointer (some ⟨b9, 0, none⟩)), (7, .slice (some ⟨b7, o8, none⟩) ps.length c), (8, .int .i64 ((ps.length : Nat) : Int)), (9, .int .i64 ((k : Nat) : Int)), (56, .bool true)]) rfl
                 refine xt_norm ?_
                 refine cd_cond_t hA rfl ?_
                 refine wp_seq ?_
                 refine wp_region_lit ?_
                 refine st_run tbOk 2 hA (e' := (3, .bool false) :: (2, .slice none 0 0) :: _) rfl ?_; clear hA; intro a hA
                 refine wpList_nil ?_
                 replace hA := hA.sel [2, 3] (e' := [(2, .slice none 0 0), (3, .bool false)]) rfl
                 refine xt_norm ?_
                 refine wp_ret (xt_ret (xb_ret (xt_ret (xt_ret (xb_ret (xt_ret ?_))))))
                 refine ret2 (fn := Try.f18) hA rfl rfl rfl ?_
                 replace hS := hS.drop1
                 replace hS := hS.drop1
                 exact ⟨[], _, [], Own.nil 5 1, .inr ⟨fun hf => by have h9 := hf _ _ _ hx5 hx3; unfold fits at h9; dsimp only [pdat] at h9; omega, rfl, rfl⟩, hS.nil⟩))
       · first
         | (exfalso; omega)
         | (replace hA := hA.rw 15 (v' := .bool false) rfl (vb_false hc13)
            refine dr_run tbOk 41 hA hS (e' := (56, .bool true) :: (55, undef) :: (54, undef) :: (53, undef) :: (52, undef) :: (51, undef) :: (50, undef) :: (49, undef) :: (48, .bool true) :: (47, .bool true) :: (46, undef) :: (45, undef) :: (44, undef) :: (43, undef) :: (42, undef) :: (41, undef) :: (40, undef) :: (39, .bool true) :: (38, .bool true) :: (37, undef) :: (36, undef) :: (35, undef) :: (34, undef) :: (33, undef) :: (32, undef) :: (31, undef) :: (30, .bool true) :: (29, .bool true) :: (28, undef) :: (27, undef) :: (26, undef) :: (25, undef) :: (24, undef) :: (23, .bool true) :: (22, .bool true) :: (21, undef) :: (20, undef) :: (19, undef) :: (18, undef) :: (17, .bool true) :: (16, .bool true) :: _) rfl ?_; clear hA; intro a hA
            refine dr_end ?_
            replace hA := hA.sel [0, 4, 6, 7, 8, 9, 56] (e' := [(0, .slice (some ⟨b7, o8, none⟩) ps.length c), (4, .slice Ao ((cat ps k).length) co), (6, .pointer (some ⟨b9, 0, none⟩)), (7, .slice (some ⟨b7, o8, none⟩) ps.length c), (8, .int .i64 ((ps.length : Nat) : Int)), (9, .int .i64 ((k : Nat) : Int)), (56, .bool true)]) rfl
            refine xt_norm ?_
            refine cd_cond_t hA rfl ?_
            refine wp_seq ?_
            refine wp_region_lit ?_
            refine st_run tbOk 2 hA (e' := (3, .bool false) :: (2, .slice none 0 0) :: _) rfl ?_; clear hA; intro a hA
            refine wpList_nil ?_
            replace hA := hA.sel [2, 3] (e' := [(2, .slice none 0 0), (3, .bool false)]) rfl
            refine xt_norm ?_
            refine wp_ret (xt_ret (xb_ret (xt_ret (xt_ret (xb_ret (xt_ret ?_))))))
            refine ret2 (fn := Try.f18) hA rfl rfl rfl ?_
            replace hS := hS.drop1
            replace hS := hS.drop1
            exact ⟨[], _, [], Own.nil 5 1, .inr ⟨fun hf => by have h9 := hf _ _ _ hx5 hx3; unfold fits at h9; dsimp only [pdat] at h9; omega, rfl, rfl⟩, hS.nil⟩))
  · first
    | (exfalso; omega)
    | (replace hA := hA.rw 10 (v' := .bool false) rfl (vb_false hc2)
       refine cd_cond_f hA rfl ?_
       refine wp_exit ?_
       refine xt_exit ?_
       refine xt_exit ?_
       refine cd_exit_eq ?_
       refine xt_norm ?_
       refine wp_seq ?_
       refine wp_region_lit ?_
       refine st_run tbOk 6 hA (e' := (3, .bool (decide (((ps.length : Nat) : Int) > 0))) :: (2, .slice Ao ((cat ps k).length) co) :: (65, .bool (decide (((ps.length : Nat) : Int) > 0))) :: (64, .int .i64 ((ps.length : Nat) : Int)) :: (63, .slice A ps.length c) :: (62, .slice Ao ((cat ps k).length) co) :: _) rfl ?_; clear hA; intro a hA
       refine wpList_nil ?_
       replace hA := hA.sel [2, 3] (e' := [(2, .slice Ao ((cat ps k).length) co), (3, .bool (decide (((ps.length : Nat) : Int) > 0)))]) rfl
       refine xt_norm ?_
       refine wp_ret ?_
       refine ret2 (fn := Try.f18) hA rfl rfl rfl ?_
       have hkl : k = ps.length := by omega
       subst hkl
       exact ⟨_, _, _, hO, .inl ⟨fun i x p0 hx h0 => hfit i x p0 (List.getElem?_eq_some_iff.1 hx).1 hx h0, rfl, rfl⟩, hS⟩)

def encPart (x : Int × Int × Int × Option Addr × Nat × List Bool × Option Addr × Nat × List Pkt) : List Value := [.int .i64 x.1, .int .i64 x.2.1, .int .u64 x.2.2.1, .slice x.2.2.2.1 x.2.2.2.2.2.1.length x.2.2.2.2.1, .slice x.2.2.2.2.2.2.1 x.2.2.2.2.2.2.2.2.length x.2.2.2.2.2.2.2.1]
theorem encPart_ok : Enc encPart 5 := ⟨fun _ => rfl, fun x u hu => by simp only [encPart, List.mem_cons, List.not_mem_nil, or_false] at hu; rcases hu with rfl | rfl | rfl | rfl | rfl <;> rfl⟩
def encPart_dd (w0 : World) (D : Chunk) (x : Int × Int × Int × Option Addr × Nat × List Bool × Option Addr × Nat × List Pkt) : Prop := True
theorem encPart_left {w0 : World} {D E : Chunk} {x : Int × Int × Int × Option Addr × Nat × List Bool × Option Addr × Nat × List Pkt} (h : encPart_dd w0 D x) : encPart_dd w0 (E ++ D) x := trivial
theorem encPart_lefts {w0 : World} {D E : Chunk} {l : List (Int × Int × Int × Option Addr × Nat × List Bool × Option Addr × Nat × List Pkt)} (h : ∀ x ∈ l, encPart_dd w0 D x) : ∀ x ∈ l, encPart_dd w0 (E ++ D) x := fun x hx => encPart_left (h x hx)

abbrev Part := Int × Int × Int × Option Addr × Nat × List Bool × Option Addr × Nat × List Pkt
def phas (x : Part) : List Bool := x.2.2.2.2.2.1
def ppk (x : Part) : List Pkt := x.2.2.2.2.2.2.2.2
abbrev GV := Int × Int × Int × List Bool × List (List UInt8)
def gv (x : Part) : GV := (x.1, x.2.1, x.2.2.1, phas x, (ppk x).map pdat)
def gkey (fr to id : Int) (x : Part) : Bool := x.1 == fr && (x.2.1 == to && x.2.2.1 == id)
def vkey (fr to id : Int) (x : GV) : Prop := x.1 = fr ∧ x.2.1 = to ∧ x.2.2.1 = id
def PO : List Part → Chunk → Prop
  | [], R => R = []
  | x :: l, R => ∃ Ch Cp R', R = Ch ++ (Cp ++ R') ∧ Own 4 1 (.slice x.2.2.2.1 (phas x).length x.2.2.2.2.1) (phas x).length (rows encBo (phas x)) Ch ∧ Own 38 6 (.slice x.2.2.2.2.2.2.1 (ppk x).length x.2.2.2.2.2.2.2.1) (ppk x).length (rows encPacket (ppk x)) Cp ∧ PO l R'
structure PI (x : Part) : Prop where
  hp : (phas x).length = (ppk x).length
  l1 : 1 ≤ (phas x).length
  l2 : (phas x).length ≤ 256
  at_ : ∀ (i : Nat), (phas x)[i]? = some true → ∃ (A : Option Addr) (c : Nat) (bs : List UInt8), (ppk x)[i]? = some (x.1, x.2.1, x.2.2.1, ((i : Nat) : Int), (((phas x).length : Nat) : Int), A, c, bs) ∧ bs.length ≤ 32768
  dl : ∀ y ∈ ppk x, (pdat y).length ≤ 32768
/-- Messages that are not whole yet, at a block: what each of them holds. -/
def GS (w0 : World) (b : Nat) (vs : List GV) (L D : Chunk) : Prop := ∃ (ps : List Part) (v : Value) (C R : Chunk), Own 55 5 v ps.length (rows encPart ps) C ∧ L = (b, rowO [v] 33) :: (C ++ R) ∧ PO ps R ∧ (∀ x ∈ ps, PI x) ∧ (∀ x ∈ ps, ∀ y ∈ ppk x, encPacket_dd w0 D y) ∧ ps.map gv = vs
theorem GS.new (w0 : World) (b : Nat) : GS w0 b [] [(b, rowO [.slice none 0 0] 33)] [] := ⟨[], _, [], [], Own.nil _ _, rfl, rfl, fun x h => (by cases h), fun x h => (by cases h), rfl⟩
theorem PO.app : ∀ {l m : List Part} {R S : Chunk}, PO l R → PO m S → PO (l ++ m) (R ++ S)
  | [], m, R, S, h, h2 => by have e : R = [] := h; subst e; exact h2
  | x :: l, m, R, S, h, h2 => by
    obtain ⟨Ch, Cp, R', rfl, h3, h4, h5⟩ := h
    exact ⟨Ch, Cp, R' ++ S, by simp, h3, h4, PO.app h5 h2⟩
theorem PO.cut : ∀ {l m : List Part} {R : Chunk}, PO (l ++ m) R → ∃ R1 R2, R = R1 ++ R2 ∧ PO l R1 ∧ PO m R2
  | [], m, R, h => ⟨[], R, rfl, rfl, h⟩
  | x :: l, m, R, h => by
    obtain ⟨Ch, Cp, R', rfl, h3, h4, h5⟩ := h
    obtain ⟨R1, R2, rfl, h6, h7⟩ := PO.cut (l := l) (m := m) h5
    exact ⟨Ch ++ (Cp ++ R1), R2, by simp, ⟨Ch, Cp, R1, rfl, h3, h4, h6⟩, h7⟩
theorem cut_at {α : Type} {l : List α} {k : Nat} {x : α} (h : l[k]? = some x) : l = l.take k ++ (x :: l.drop (k + 1)) := by
  have hk := (List.getElem?_eq_some_iff.1 h).1
  have he := (List.getElem?_eq_some_iff.1 h).2
  rw [← he, ← List.drop_eq_getElem_cons hk, List.take_append_drop]
theorem set_cut {α : Type} {l : List α} {k : Nat} {y : α} (hk : k < l.length) : l.set k y = l.take k ++ (y :: l.drop (k + 1)) := List.set_eq_take_append_cons_drop .. |>.trans (if_pos hk)
theorem PO.at {ps : List Part} {k : Nat} {x : Part} {R : Chunk} (h : PO ps R) (hx : ps[k]? = some x) : ∃ R1 Ch Cp R2, R = R1 ++ (Ch ++ (Cp ++ R2)) ∧ PO (ps.take k) R1 ∧ Own 4 1 (.slice x.2.2.2.1 (phas x).length x.2.2.2.2.1) (phas x).length (rows encBo (phas x)) Ch ∧ Own 38 6 (.slice x.2.2.2.2.2.2.1 (ppk x).length x.2.2.2.2.2.2.2.1) (ppk x).length (rows encPacket (ppk x)) Cp ∧ PO (ps.drop (k + 1)) R2 := by
  rw [cut_at hx] at h
  obtain ⟨R1, R2, rfl, h1, Ch, Cp, R', rfl, h3, h4, h5⟩ := PO.cut h
  have e : ps.take k ++ (x :: ps.drop (k + 1)) = ps := (cut_at hx).symm
  exact ⟨R1, Ch, Cp, R', rfl, h1, h3, h4, h5⟩
theorem PO.put {ps : List Part} {k : Nat} {y : Part} {R1 Ch Cp R2 : Chunk} (h1 : PO (ps.take k) R1) (h3 : Own 4 1 (.slice y.2.2.2.1 (phas y).length y.2.2.2.2.1) (phas y).length (rows encBo (phas y)) Ch) (h4 : Own 38 6 (.slice y.2.2.2.2.2.2.1 (ppk y).length y.2.2.2.2.2.2.2.1) (ppk y).length (rows encPacket (ppk y)) Cp) (h2 : PO (ps.drop (k + 1)) R2) (hk : k < ps.length) : PO (ps.set k y) (R1 ++ (Ch ++ (Cp ++ R2))) := by
  rw [set_cut hk]
  exact PO.app h1 ⟨Ch, Cp, R2, rfl, h3, h4, h2⟩
theorem rows_same {α : Type} {en : α → List Value} {l : List α} {k : Nat} {x y : α} (hx : l[k]? = some x) (h : en y = en x) : rows en (l.set k y) = rows en l := by
  have hk := (List.getElem?_eq_some_iff.1 hx).1
  have e : l.set k y = l.take k ++ (y :: l.drop (k + 1)) := set_cut hk
  rw [e]
  conv => rhs; rw [cut_at hx]
  rw [rows_append, rows_append, rows_cons, rows_cons, h]
theorem PI.put {fr to id : Int} {hA pA : Option Addr} {hc pc : Nat} {hb : List Bool} {pk : List Pkt} (h : PI (fr, to, id, hA, hc, hb, pA, pc, pk)) {ix cn : Nat} {A : Option Addr} {c : Nat} {bs : List UInt8} (hcn : hb.length = cn) (hix : ix < cn) (hbl : bs.length ≤ 32768) (hA2 pA2 : Option Addr) : PI (fr, to, id, hA2, hc, hb.set ix true, pA2, pc, pk.set ix (fr, to, id, ((ix : Nat) : Int), ((cn : Nat) : Int), A, c, bs)) := by
  have hp : hb.length = pk.length := h.hp
  have l1 : 1 ≤ hb.length := h.l1
  have l2 : hb.length ≤ 256 := h.l2
  refine ⟨?_, ?_, ?_, fun i hi => ?_, fun y hy => ?_⟩
  · show (hb.set ix true).length = (pk.set ix _).length; rw [List.length_set, List.length_set]; exact hp
  · show 1 ≤ (hb.set ix true).length; rw [List.length_set]; exact l1
  · show (hb.set ix true).length ≤ 256; rw [List.length_set]; exact l2
  · change (hb.set ix true)[i]? = some true at hi
    show ∃ (A2 : Option Addr) (c2 : Nat) (bs2 : List UInt8), (pk.set ix (fr, to, id, ((ix : Nat) : Int), ((cn : Nat) : Int), A, c, bs))[i]? = some (fr, to, id, ((i : Nat) : Int), (((hb.set ix true).length : Nat) : Int), A2, c2, bs2) ∧ bs2.length ≤ 32768
    rw [List.length_set, hcn]
    by_cases e : ix = i
    · subst e
      exact ⟨A, c, bs, List.getElem?_set_self (by omega), hbl⟩
    · rw [List.getElem?_set_ne e] at hi ⊢
      have h9 := h.at_ i hi
      change ∃ (A2 : Option Addr) (c2 : Nat) (bs2 : List UInt8), pk[i]? = some (fr, to, id, ((i : Nat) : Int), ((hb.length : Nat) : Int), A2, c2, bs2) ∧ bs2.length ≤ 32768 at h9
      rw [hcn] at h9; exact h9
  · rcases List.mem_or_eq_of_mem_set (show y ∈ pk.set ix _ from hy) with hy | rfl
    · exact h.dl y hy
    · exact hbl
theorem PI.allfit {x : Part} (h : PI x) (ha : (phas x).any (fun y => y == false) = false) : AllFit (ppk x) := by
  have hall : ∀ (k : Nat) (y : Pkt), (ppk x)[k]? = some y → ∃ (A : Option Addr) (c : Nat) (bs : List UInt8), y = (x.1, x.2.1, x.2.2.1, ((k : Nat) : Int), (((phas x).length : Nat) : Int), A, c, bs) ∧ bs.length ≤ 32768 := fun k y hy => by
    have hk := (List.getElem?_eq_some_iff.1 hy).1
    have hk2 : k < (phas x).length := by rw [h.hp]; exact hk
    have ht : (phas x)[k]? = some true := by
      rw [List.any_eq_false] at ha
      have := ha _ (List.getElem_mem hk2)
      rw [List.getElem?_eq_getElem hk2]
      cases hc : (phas x)[k] with
      | true => rfl
      | false => rw [hc] at this; exact absurd rfl this
    obtain ⟨A, c, bs, h1, h2⟩ := h.at_ k ht
    rw [hy] at h1; injection h1 with h1
    exact ⟨A, c, bs, h1, h2⟩
  intro k y p0 hy h0
  have hk := (List.getElem?_eq_some_iff.1 hy).1
  obtain ⟨A, c, bs, rfl, hb⟩ := hall k y hy
  obtain ⟨A0, c0, bs0, rfl, hb0⟩ := hall 0 p0 h0
  have l1 := h.l1; have l2 := h.l2; have hp := h.hp
  unfold fits
  dsimp only [pdat]
  refine ⟨⟨by omega, by omega, by omega, by omega, hb⟩, rfl, by omega, rfl, rfl, rfl⟩
theorem map_at' {ps : List Part} {vs : List GV} (h : ps.map gv = vs) {k : Nat} {z : GV} (hz : vs[k]? = some z) : ∃ x, ps[k]? = some x ∧ gv x = z := by
  subst h
  rw [List.getElem?_map] at hz
  cases hx : ps[k]? with
  | none => rw [hx] at hz; cases hz
  | some x => rw [hx] at hz; injection hz with hz; exact ⟨x, rfl, hz⟩
theorem gkey_no {ps : List Part} {fr to id : Int} {k : Nat} (h : ∀ (i : Nat) (z : GV), i < k → (ps.map gv)[i]? = some z → ¬ vkey fr to id z) : ∀ (i : Nat) (x : Part), i < k → ps[i]? = some x → gkey fr to id x = false := fun i x hi hx => by
  have h1 := h i (gv x) hi (by rw [List.getElem?_map, hx]; rfl)
  rw [Bool.eq_false_iff]; intro h2
  simp only [gkey, Bool.and_eq_true, beq_iff_eq] at h2
  exact h1 h2
theorem cat_dat {ps : List Pkt} : cat ps ps.length = (ps.map pdat).flatten := by rw [cat, List.take_length]
theorem part_dd {w0 : World} {D E : Chunk} {ps : List Part} (h : ∀ x ∈ ps, ∀ y ∈ ppk x, encPacket_dd w0 D y) {k : Nat} {x : Part} {pk : List Pkt} {ix : Nat} {p : Pkt} (hx : ppk x = pk.set ix p) (hpk : ∀ y ∈ pk, encPacket_dd w0 D y) (hd : encPacket_dd w0 (E ++ D) p) : ∀ z ∈ ps.set k x, ∀ y ∈ ppk z, encPacket_dd w0 (E ++ D) y := fun z hz y hy => by
  rcases List.mem_or_eq_of_mem_set hz with hz | rfl
  · exact encPacket_left (h z hz y hy)
  · rw [hx] at hy
    rcases List.mem_or_eq_of_mem_set hy with hy | rfl
    · exact encPacket_left (hpk y hy)
    · exact hd
theorem set_all {α : Type} {P : α → Prop} {l : List α} {k : Nat} {x : α} (h : ∀ y ∈ l, P y) (hx : P x) : ∀ y ∈ l.set k x, P y := fun y hy => (List.mem_or_eq_of_mem_set hy).elim (h y) (fun e => e ▸ hx)
theorem sub_all {α : Type} {P : α → Prop} {l : List α} {k : Nat} (h : ∀ y ∈ l, P y) : ∀ y ∈ l.take k ++ l.drop (k + 1), P y := fun y hy => (List.mem_append.1 hy).elim (fun hy => h y (List.mem_of_mem_take hy)) (fun hy => h y (List.mem_of_mem_drop hy))
theorem snoc_all {α : Type} {P : α → Prop} {l : List α} {x : α} (h : ∀ y ∈ l, P y) (hx : P x) : ∀ y ∈ l ++ [x], P y := fun y hy => (List.mem_append.1 hy).elim (h y) (fun hy => by rw [List.mem_singleton.1 hy]; exact hx)
theorem drop_all {α : Type} {P : α → Prop} {l : List α} (k : Nat) (h : ∀ y ∈ l, P y) : ∀ y ∈ l.drop k, P y := fun y hy => h y (List.mem_of_mem_drop hy)
theorem set_same {α : Type} {l : List α} {n : Nat} {x : α} (h : l[n]? = some x) : l.set n x = l := by
  obtain ⟨hn, hx⟩ := List.getElem?_eq_some_iff.1 h
  rw [← hx]; exact List.set_getElem_self hn
theorem encs_left {w0 : World} {D E : Chunk} {ps : List Part} (h : ∀ x ∈ ps, ∀ y ∈ ppk x, encPacket_dd w0 D y) : ∀ x ∈ ps, ∀ y ∈ ppk x, encPacket_dd w0 (E ++ D) y := fun x hx y hy => encPacket_left (h x hx y hy)
theorem new_set {α β : Type} {f : α → β} {l : List α} {x : α} {k : Nat} {z : β} (hk : k = l.length) : ((l ++ [x]).map f).set k z = l.map f ++ [z] := by
  subst hk
  rw [List.map_append, List.set_append_right _ _ (by rw [List.length_map]; exact Nat.le_refl _), List.length_map, Nat.sub_self]; rfl
theorem new_del {α β : Type} {f : α → β} {l : List α} {x : α} {k : Nat} (hk : k = l.length) : ((l ++ [x]).map f).take k ++ ((l ++ [x]).map f).drop (k + 1) = l.map f := by
  subst hk
  rw [List.map_append, List.take_left' (by rw [List.length_map]), List.drop_eq_nil_of_le (by simp), List.append_nil]
theorem PI.fresh {fr to id : Int} {hA pA : Option Addr} {hc pc cn : Nat} (h1 : 1 ≤ cn) (h2 : cn ≤ 256) : PI (fr, to, id, hA, hc, List.replicate cn false, pA, pc, List.replicate cn ((0, 0, 0, 0, 0, none, 0, []) : Pkt)) := by
  refine ⟨?_, ?_, ?_, fun i hi => ?_, fun y hy => ?_⟩
  · show (List.replicate cn false).length = (List.replicate cn ((0, 0, 0, 0, 0, none, 0, []) : Pkt)).length; rw [List.length_replicate, List.length_replicate]
  · show 1 ≤ (List.replicate cn false).length; rw [List.length_replicate]; exact h1
  · show (List.replicate cn false).length ≤ 256; rw [List.length_replicate]; exact h2
  · change (List.replicate cn false)[i]? = some true at hi
    rw [List.getElem?_replicate] at hi; split at hi
    · injection hi with hi; cases hi
    · cases hi
  · have h9 : y = ((0, 0, 0, 0, 0, none, 0, []) : Pkt) := List.eq_of_mem_replicate (show y ∈ List.replicate cn ((0, 0, 0, 0, 0, none, 0, []) : Pkt) from hy)
    rw [h9]; exact Nat.zero_le _

theorem indexb21 {w0 w : World} {F : List Chunk} (hS : St w0 w F) {v : Value} {l : List Bool} (hr : RdS w0 F 1 v l.length (rows encBo l)) :
    Ret Try.prog 21 #[v, .bool false] w (fun v w' => v = .int .i64 (idx (fun y => y == false) l) ∧ St w0 w' F) := by
  obtain ⟨A, c, rfl, hmc, hcx⟩ := (hr w hS).open'
  refine enter (vs := [.slice A l.length c, .bool false]) 19 Try.func21 rfl rfl (by simp) ?_; intro a hA
  refine wp_seq ?_
  refine wp_region_lit ?_
  refine st_run tbOk 1 hA (e' := (4, .int .i64 0) :: _) rfl ?_; clear hA; intro a hA
  refine wpList_nil ?_
  replace hA := hA.sel [0, 1] (e' := [(0, .slice A l.length c), (1, .bool false)]) rfl
  refine xt_norm ?_
  refine wp_seq ?_
  refine wp_seq ?_
  refine wp_region_lit ?_
  refine st_run tbOk 3 hA (e' := (8, .int .i64 0) :: (7, .int .i64 ((l.length : Nat) : Int)) :: (6, .slice A l.length c) :: _) rfl ?_; clear hA; intro a hA
  refine wpList_nil ?_
  replace hA := hA.sel [0, 1, 7, 8] (e' := [(0, .slice A l.length c), (1, .bool false), (7, .int .i64 ((l.length : Nat) : Int)), (8, .int .i64 0)]) rfl
  refine xt_norm ?_
  refine wp_block ?_
  refine wp_loop_ghost (fun m a w => ∃ (k : Nat), m = l.length - k ∧ Has a 19 [(0, .slice A l.length c), (1, .bool false), (7, .int .i64 ((l.length : Nat) : Int)), (8, .int .i64 ((k : Nat) : Int))] ∧ St w0 w (F) ∧ (k ≤ l.length) ∧ (∀ (i : Nat) (y : Bool), i < k → l[i]? = some y → (y == false) = false)) (l.length - 0)
    ⟨0, rfl, (hA.sel [0, 1, 7, 8] rfl), hS, Nat.zero_le _, fun i y hi => absurd hi (by omega)⟩ ?_
  clear hA hS; rintro m0 a w1 ⟨k, rfl, hA, hS, hk, hb⟩
  refine wp_seq ?_
  refine wp_region_lit ?_
  refine st_run tbOk 1 hA (e' := (9, .bool (decide (((k : Nat) : Int) < ((l.length : Nat) : Int)))) :: _) rfl ?_; clear hA; intro a hA
  refine wpList_nil ?_
  refine xt_norm ?_
  refine wp_seq ?_
  by_cases hc2 : ((k : Nat) : Int) < ((l.length : Nat) : Int)
  · first
    | (exfalso; omega)
    | (replace hA := hA.rw 9 (v' := .bool true) rfl (vb_true hc2)
       refine cd_cond_t hA rfl ?_
       refine wp_skip ?_
       refine xt_norm ?_
       refine wp_seq ?_
       refine wp_block ?_
       refine wp_seq ?_
       refine wp_region_lit ?_
       refine st_run tbOk 2 hA (e' := (5, .int .i64 ((k : Nat) : Int)) :: (10, .int .i64 ((k : Nat) : Int)) :: _) rfl ?_; clear hA; intro a hA
       refine wpList_nil ?_
       replace hA := hA.sel [0, 1, 5, 7, 8] (e' := [(0, .slice A l.length c), (1, .bool false), (5, .int .i64 ((k : Nat) : Int)), (7, .int .i64 ((l.length : Nat) : Int)), (8, .int .i64 ((k : Nat) : Int))]) rfl
       refine xt_norm ?_
       refine wp_seq ?_
       refine wp_region_lit ?_
       refine st_run tbOk 3 hA (e' := (13, .int .i64 ((k : Nat) : Int)) :: (12, .slice A l.length c) :: (11, .bool false) :: _) rfl ?_; clear hA; intro a hA
       obtain ⟨x0, hx0⟩ := get_ex (l := l) (k := k) (by omega)
       rcases Bool.eq_false_or_eq_true x0 with h0 | h0
       · subst h0
         obtain ⟨b3, o4, rfl⟩ := (hr _ hS).isSome (k := k) (by omega)
         refine st_val hA rfl rfl (by decide) (rn_indexAddr tbOk hA k (o4 + k) rfl rfl rfl rfl rfl rfl (by rfl) (by omega) (by first | rfl | simp [Nat.mul_one, Nat.zero_add] | omega)) ?_; clear hA; intro a hA
         refine st_val hA rfl rfl (by decide) (rn_load tbOk hA rfl rfl rfl rfl ((hr _ hS).elem0 (k := k) encBo_ok hx0 rfl)) ?_; clear hA; intro a hA
         refine st_run tbOk 1 hA (e' := (16, .bool false) :: _) rfl ?_; clear hA; intro a hA
         refine wpList_nil ?_
         replace hA := hA.sel [0, 1, 5, 7, 8, 16] (e' := [(0, .slice (some ⟨b3, o4, none⟩) l.length c), (1, .bool false), (5, .int .i64 ((k : Nat) : Int)), (7, .int .i64 ((l.length : Nat) : Int)), (8, .int .i64 ((k : Nat) : Int)), (16, .bool false)]) rfl
         refine xt_norm ?_
         refine cd_cond_f hA rfl ?_
         refine wp_skip ?_
         refine xb_norm ?_
         refine xt_norm ?_
         refine wp_region_lit ?_
         refine st_run tbOk 1 hA (e' := (18, .int .i64 (IntKind.i64.wrap (((k : Nat) : Int) + 1))) :: _) rfl ?_; clear hA; intro a hA
         replace hA := hA.rw 18 (v' := .int .i64 ((k + 1 : Nat) : Int)) rfl (wr64 (by omega) (by omega) (by omega))
         refine st_run tbOk 1 hA (e' := (8, .int .i64 ((k + 1 : Nat) : Int)) :: _) rfl ?_; clear hA; intro a hA
         refine wpList_nil ?_
         replace hA := hA.sel [0, 1, 7, 8] (e' := [(0, .slice (some ⟨b3, o4, none⟩) l.length c), (1, .bool false), (7, .int .i64 ((l.length : Nat) : Int)), (8, .int .i64 ((k + 1 : Nat) : Int))]) rfl
         exact lp_next _ (by omega) ⟨(k + 1), rfl, (hA.sel [0, 1, 7, 8] rfl), hS, by omega, fun i y hi hy => (Nat.lt_succ_iff_lt_or_eq.1 hi).elim (fun h => hb i y h hy) (fun h => by subst h; rw [hx0] at hy; injection hy with hy; subst hy; rfl)⟩
       · subst h0
         obtain ⟨b5, o6, rfl⟩ := (hr _ hS).isSome (k := k) (by omega)
         refine st_val hA rfl rfl (by decide) (rn_indexAddr tbOk hA k (o6 + k) rfl rfl rfl rfl rfl rfl (by rfl) (by omega) (by first | rfl | simp [Nat.mul_one, Nat.zero_add] | omega)) ?_; clear hA; intro a hA
         refine st_val hA rfl rfl (by decide) (rn_load tbOk hA rfl rfl rfl rfl ((hr _ hS).elem0 (k := k) encBo_ok hx0 rfl)) ?_; clear hA; intro a hA
         refine st_run tbOk 1 hA (e' := (16, .bool true) :: _) rfl ?_; clear hA; intro a hA
         refine wpList_nil ?_
         replace hA := hA.sel [0, 1, 5, 7, 8, 16] (e' := [(0, .slice (some ⟨b5, o6, none⟩) l.length c), (1, .bool false), (5, .int .i64 ((k : Nat) : Int)), (7, .int .i64 ((l.length : Nat) : Int)), (8, .int .i64 ((k : Nat) : Int)), (16, .bool true)]) rfl
         refine xt_norm ?_
         refine cd_cond_t hA rfl ?_
         refine wp_seq ?_
         refine wp_region_lit ?_
         refine st_run tbOk 2 hA (e' := (4, .int .i64 ((k : Nat) : Int)) :: (17, .int .i64 ((k : Nat) : Int)) :: _) rfl ?_; clear hA; intro a hA
         refine wpList_nil ?_
         replace hA := hA.sel [4] (e' := [(4, .int .i64 ((k : Nat) : Int))]) rfl
         refine xt_norm ?_
         refine wp_ret (xb_ret (xt_ret (xt_ret (xb_ret (xt_ret ?_)))))
         refine ret1 (fn := Try.f21) hA rfl rfl ?_
         exact ⟨vint (idx_some (p := fun y => y == false) hx0 rfl (fun i y hi hy => hb i y hi hy)).symm, hS⟩)
  · first
    | (exfalso; omega)
    | (replace hA := hA.rw 9 (v' := .bool false) rfl (vb_false hc2)
       refine cd_cond_f hA rfl ?_
       refine wp_exit ?_
       refine xt_exit ?_
       refine xt_exit ?_
       refine cd_exit_eq ?_
       refine xt_norm ?_
       refine wp_seq ?_
       refine wp_region_lit ?_
       refine st_run tbOk 1 hA (e' := (4, .int .i64 (-1)) :: _) rfl ?_; clear hA; intro a hA
       refine wpList_nil ?_
       replace hA := hA.sel [4] (e' := [(4, .int .i64 (-1))]) rfl
       refine xt_norm ?_
       refine wp_ret ?_
       refine ret1 (fn := Try.f21) hA rfl rfl ?_
       exact ⟨vint (idx_none (fun i y hy => hb i y (by have := (List.getElem?_eq_some_iff.1 hy).1; omega) hy)).symm, hS⟩)

theorem containsb17 {w0 w : World} {F : List Chunk} (hS : St w0 w F) {v : Value} {l : List Bool} (hr : RdS w0 F 1 v l.length (rows encBo l)) :
    Ret Try.prog 17 #[v, .bool false] w (fun v w' => v = .bool (l.any (fun y => y == false)) ∧ St w0 w' F) := by
  obtain ⟨A, c, rfl, hmc, hcx⟩ := (hr w hS).open'
  refine enter (vs := [.slice A l.length c, .bool false]) 9 Try.func17 rfl rfl (by simp) ?_; intro a hA
  refine wp_seq ?_
  refine wp_region_lit ?_
  refine st_run tbOk 1 hA (e' := (4, .bool false) :: _) rfl ?_; clear hA; intro a hA
  refine wpList_nil ?_
  replace hA := hA.sel [0, 1] (e' := [(0, .slice A l.length c), (1, .bool false)]) rfl
  refine xt_norm ?_
  refine wp_seq ?_
  refine wp_region_lit ?_
  refine st_run tbOk 2 hA (e' := (6, .bool false) :: (5, .slice A l.length c) :: _) rfl ?_; clear hA; intro a hA
  refine st_call0 hA rfl rfl rfl isfn21 rfl rfl (by decide) (indexb21 hS (l := l) (fun w' h => (hr _ h))) ?_
  clear hA hS; rintro v w1 a ⟨rfl, hS⟩ hA
  refine st_run tbOk 2 hA (e' := (4, .bool (decide (idx (fun y => y == false) l ≥ 0))) :: (8, .bool (decide (idx (fun y => y == false) l ≥ 0))) :: _) rfl ?_; clear hA; intro a hA
  refine wpList_nil ?_
  replace hA := hA.sel [4] (e' := [(4, .bool (decide (idx (fun y => y == false) l ≥ 0)))]) rfl
  refine xt_norm ?_
  refine wp_ret ?_
  refine ret1 (fn := Try.f17) hA rfl rfl ?_
  exact ⟨vbool (idx_any _ _), hS⟩

theorem indexFunc19 {w0 w : World} {F : List Chunk} (hS : St w0 w F) {v : Value} {l : List (Int × Int × Int × Option Addr × Nat × List Bool × Option Addr × Nat × List Pkt)} (hr : RdS w0 F 5 v l.length (rows encPart l)) {g : Nat} {first cap : Array Value} {p : (Int × Int × Int × Option Addr × Nat × List Bool × Option Addr × Nat × List Pkt) → Bool} (hg : IsFn Try.prog g) (hp : Pred Try.prog w0 F g first cap (fun x => .agg (encPart x).toArray) p) :
    Ret Try.prog 19 #[v, .func (.func g) first cap] w (fun v w' => v = .int .i64 (idx p l) ∧ St w0 w' F) := by
  obtain ⟨A, c, rfl, hmc, hcx⟩ := (hr w hS).open'
  refine enter (vs := [.slice A l.length c, .func (.func g) first cap]) 19 Try.func19 rfl rfl (by simp) ?_; intro a hA
  refine wp_seq ?_
  refine wp_region_lit ?_
  refine st_run tbOk 1 hA (e' := (4, .int .i64 0) :: _) rfl ?_; clear hA; intro a hA
  refine wpList_nil ?_
  replace hA := hA.sel [0, 1] (e' := [(0, .slice A l.length c), (1, .func (.func g) first cap)]) rfl
  refine xt_norm ?_
  refine wp_seq ?_
  refine wp_seq ?_
  refine wp_region_lit ?_
  refine st_run tbOk 3 hA (e' := (8, .int .i64 0) :: (7, .int .i64 ((l.length : Nat) : Int)) :: (6, .slice A l.length c) :: _) rfl ?_; clear hA; intro a hA
  refine wpList_nil ?_
  replace hA := hA.sel [0, 1, 7, 8] (e' := [(0, .slice A l.length c), (1, .func (.func g) first cap), (7, .int .i64 ((l.length : Nat) : Int)), (8, .int .i64 0)]) rfl
  refine xt_norm ?_
  refine wp_block ?_
  refine wp_loop_ghost (fun m a w => ∃ (k : Nat), m = l.length - k ∧ Has a 19 [(0, .slice A l.length c), (1, .func (.func g) first cap), (7, .int .i64 ((l.length : Nat) : Int)), (8, .int .i64 ((k : Nat) : Int))] ∧ St w0 w (F) ∧ (k ≤ l.length) ∧ (∀ (i : Nat) (y : (Int × Int × Int × Option Addr × Nat × List Bool × Option Addr × Nat × List Pkt)), i < k → l[i]? = some y → p y = false)) (l.length - 0)
    ⟨0, rfl, (hA.sel [0, 1, 7, 8] rfl), hS, Nat.zero_le _, fun i y hi => absurd hi (by omega)⟩ ?_
  clear hA hS; rintro m0 a w1 ⟨k, rfl, hA, hS, hk, hb⟩
  refine wp_seq ?_
  refine wp_region_lit ?_
  refine st_run tbOk 1 hA (e' := (9, .bool (decide (((k : Nat) : Int) < ((l.length : Nat) : Int)))) :: _) rfl ?_; clear hA; intro a hA
  refine wpList_nil ?_
  refine xt_norm ?_
  refine wp_seq ?_
  by_cases hc2 : ((k : Nat) : Int) < ((l.length : Nat) : Int)
  · first
    | (exfalso; omega)
    | (replace hA := hA.rw 9 (v' := .bool true) rfl (vb_true hc2)
       refine cd_cond_t hA rfl ?_
       refine wp_skip ?_
       refine xt_norm ?_
       refine wp_seq ?_
       refine wp_block ?_
       refine wp_seq ?_
       refine wp_region_lit ?_
       refine st_run tbOk 2 hA (e' := (5, .int .i64 ((k : Nat) : Int)) :: (10, .int .i64 ((k : Nat) : Int)) :: _) rfl ?_; clear hA; intro a hA
       refine wpList_nil ?_
       replace hA := hA.sel [0, 1, 5, 7, 8] (e' := [(0, .slice A l.length c), (1, .func (.func g) first cap), (5, .int .i64 ((k : Nat) : Int)), (7, .int .i64 ((l.length : Nat) : Int)), (8, .int .i64 ((k : Nat) : Int))]) rfl
       refine xt_norm ?_
       refine wp_seq ?_
       refine wp_region_lit ?_
       refine st_run tbOk 3 hA (e' := (13, .int .i64 ((k : Nat) : Int)) :: (12, .slice A l.length c) :: (11, .func (.func g) first cap) :: _) rfl ?_; clear hA; intro a hA
       obtain ⟨b3, o4, rfl⟩ := (hr _ hS).isSome (k := k) (by omega)
       refine st_val hA rfl rfl (by decide) (rn_indexAddr tbOk hA k (o4 + (k * 5)) rfl rfl rfl rfl rfl rfl (by rfl) (by omega) (by first | rfl | simp [Nat.mul_one, Nat.zero_add] | omega)) ?_; clear hA; intro a hA
       obtain ⟨x5, hx5⟩ := get_ex (l := l) (k := k) (by omega)
       obtain ⟨x5f0, x5f1, x5f2, x5A3, x5c3, x5b3, x5A6, x5c6, x5b6⟩ := x5
       refine st_val hA rfl rfl (by decide) (rn_loadA tbOk hA ([.int .i64 x5f0, .int .i64 x5f1, .int .u64 x5f2, .slice x5A3 x5b3.length x5c3, .slice x5A6 x5b6.length x5c6]) rfl rfl rfl rfl (by rfl) ((hr _ hS).elem (k := k) encPart_ok hx5)) ?_; clear hA; intro a hA
       refine st_call hA rfl rfl rfl rfl hg rfl rfl (by decide) (hp _ (x5f0, x5f1, x5f2, x5A3, x5c3, x5b3, x5A6, x5c6, x5b6) hS) ?_
       clear hA; rintro v w6 a ⟨rfl, hS'⟩ hA; replace hS : St w0 w6 (F) := hS.trans hS'
       refine wpList_nil ?_
       replace hA := hA.sel [0, 1, 5, 7, 8, 16] (e' := [(0, .slice (some ⟨b3, o4, none⟩) l.length c), (1, .func (.func g) first cap), (5, .int .i64 ((k : Nat) : Int)), (7, .int .i64 ((l.length : Nat) : Int)), (8, .int .i64 ((k : Nat) : Int)), (16, .bool (p (x5f0, x5f1, x5f2, x5A3, x5c3, x5b3, x5A6, x5c6, x5b6)))]) rfl
       refine xt_norm ?_
       by_cases hpx : (p (x5f0, x5f1, x5f2, x5A3, x5c3, x5b3, x5A6, x5c6, x5b6)) = true
       · first
         | (exfalso; omega)
         | (replace hA := hA.rw 16 (v' := .bool true) rfl (vb_t hpx)
            refine cd_cond_t hA rfl ?_
            refine wp_seq ?_
            refine wp_region_lit ?_
            refine st_run tbOk 2 hA (e' := (4, .int .i64 ((k : Nat) : Int)) :: (17, .int .i64 ((k : Nat) : Int)) :: _) rfl ?_; clear hA; intro a hA
            refine wpList_nil ?_
            replace hA := hA.sel [4] (e' := [(4, .int .i64 ((k : Nat) : Int))]) rfl
            refine xt_norm ?_
            refine wp_ret (xb_ret (xt_ret (xt_ret (xb_ret (xt_ret ?_)))))
            refine ret1 (fn := Try.f19) hA rfl rfl ?_
            exact ⟨vint (idx_some hx5 hpx (fun i y hi hy => hb i y hi hy)).symm, hS⟩)
       · first
         | (exfalso; omega)
         | (replace hA := hA.rw 16 (v' := .bool false) rfl (vb_f hpx)
            refine cd_cond_f hA rfl ?_
            refine wp_skip ?_
            refine xb_norm ?_
            refine xt_norm ?_
            refine wp_region_lit ?_
            refine st_run tbOk 1 hA (e' := (18, .int .i64 (IntKind.i64.wrap (((k : Nat) : Int) + 1))) :: _) rfl ?_; clear hA; intro a hA
            replace hA := hA.rw 18 (v' := .int .i64 ((k + 1 : Nat) : Int)) rfl (wr64 (by omega) (by omega) (by omega))
            refine st_run tbOk 1 hA (e' := (8, .int .i64 ((k + 1 : Nat) : Int)) :: _) rfl ?_; clear hA; intro a hA
            refine wpList_nil ?_
            replace hA := hA.sel [0, 1, 7, 8] (e' := [(0, .slice (some ⟨b3, o4, none⟩) l.length c), (1, .func (.func g) first cap), (7, .int .i64 ((l.length : Nat) : Int)), (8, .int .i64 ((k + 1 : Nat) : Int))]) rfl
            exact lp_next _ (by omega) ⟨(k + 1), rfl, (hA.sel [0, 1, 7, 8] rfl), hS, by omega, fun i y hi hy => (Nat.lt_succ_iff_lt_or_eq.1 hi).elim (fun h => hb i y h hy) (fun h => by subst h; rw [hx5] at hy; injection hy with hy; subst hy; simpa using hpx)⟩))
  · first
    | (exfalso; omega)
    | (replace hA := hA.rw 9 (v' := .bool false) rfl (vb_false hc2)
       refine cd_cond_f hA rfl ?_
       refine wp_exit ?_
       refine xt_exit ?_
       refine xt_exit ?_
       refine cd_exit_eq ?_
       refine xt_norm ?_
       refine wp_seq ?_
       refine wp_region_lit ?_
       refine st_run tbOk 1 hA (e' := (4, .int .i64 (-1)) :: _) rfl ?_; clear hA; intro a hA
       refine wpList_nil ?_
       replace hA := hA.sel [4] (e' := [(4, .int .i64 (-1))]) rfl
       refine xt_norm ?_
       refine wp_ret ?_
       refine ret1 (fn := Try.f19) hA rfl rfl ?_
       exact ⟨vint (idx_none (fun i y hy => hb i y (by have := (List.getElem?_eq_some_iff.1 hy).1; omega) hy)).symm, hS⟩)

theorem delete15 {w0 w : World} {F : List Chunk} {C : Chunk} (hS : St w0 w (C :: F)) {v : Value} {l : List (Int × Int × Int × Option Addr × Nat × List Bool × Option Addr × Nat × List Pkt)} (hO : Own 55 5 v l.length (rows encPart l) C) (i j : Nat) (hij : i ≤ j) (hj : j ≤ l.length) :
    Ret Try.prog 15 #[v, .int .i64 ((i : Nat) : Int), .int .i64 ((j : Nat) : Int)] w (fun v w' => ∃ C', Own 55 5 v (l.take i ++ l.drop j).length (rows encPart (l.take i ++ l.drop j)) C' ∧ St w0 w' (C' :: F)) := by
  obtain ⟨A, c, rfl, hmc, hcx⟩ := hO.open'
  refine enter (vs := [.slice A l.length c, .int .i64 ((i : Nat) : Int), .int .i64 ((j : Nat) : Int)]) 33 Try.func15 rfl rfl (by simp) ?_; intro a hA
  refine wp_seq ?_
  refine wp_region_lit ?_
  refine st_run tbOk 1 hA (e' := (6, .slice none 0 0) :: _) rfl ?_; clear hA; intro a hA
  refine wpList_nil ?_
  replace hA := hA.sel [0, 1, 2] (e' := [(0, .slice A l.length c), (1, .int .i64 ((i : Nat) : Int)), (2, .int .i64 ((j : Nat) : Int))]) rfl
  refine xt_norm ?_
  refine wp_seq ?_
  refine wp_region_lit ?_
  refine st_run tbOk 5 hA (e' := (12, .int .i64 ((l.length : Nat) : Int)) :: (11, .slice A l.length c) :: (10, .int .i64 ((j : Nat) : Int)) :: (9, .int .i64 ((i : Nat) : Int)) :: (8, .slice A l.length c) :: _) rfl ?_; clear hA; intro a hA
  refine st_val hA rfl rfl (by decide) (rn_slice_lhm tbOk hA i j l.length rfl rfl rfl rfl rfl rfl rfl rfl (by rfl) (by rfl) (by rfl) (by omega) (by omega) (by omega)) ?_; clear hA; intro a hA
  refine wpList_nil ?_
  replace hA := hA.sel [0, 1, 2] (e' := [(0, .slice A l.length c), (1, .int .i64 ((i : Nat) : Int)), (2, .int .i64 ((j : Nat) : Int))]) rfl
  refine xt_norm ?_
  refine wp_seq ?_
  refine wp_seq ?_
  refine wp_region_lit ?_
  refine st_run tbOk 3 hA (e' := (16, .bool (((i : Nat) : Int) == ((j : Nat) : Int))) :: (15, .int .i64 ((j : Nat) : Int)) :: (14, .int .i64 ((i : Nat) : Int)) :: _) rfl ?_; clear hA; intro a hA
  refine wpList_nil ?_
  replace hA := hA.sel [0, 1, 2, 16] (e' := [(0, .slice A l.length c), (1, .int .i64 ((i : Nat) : Int)), (2, .int .i64 ((j : Nat) : Int)), (16, .bool (((i : Nat) : Int) == ((j : Nat) : Int)))]) rfl
  refine xt_norm ?_
  by_cases hc1 : ((i : Nat) : Int) = ((j : Nat) : Int)
  · first
    | (exfalso; omega)
    | (replace hA := hA.rw 16 (v' := .bool true) rfl (vb_eq_t hc1)
       refine cd_cond_t hA rfl ?_
       refine wp_seq ?_
       refine wp_region_lit ?_
       refine st_run tbOk 2 hA (e' := (6, .slice A l.length c) :: (17, .slice A l.length c) :: _) rfl ?_; clear hA; intro a hA
       refine wpList_nil ?_
       replace hA := hA.sel [6] (e' := [(6, .slice A l.length c)]) rfl
       refine xt_norm ?_
       refine wp_ret (xt_ret ?_)
       refine ret1 (fn := Try.f15) hA rfl rfl ?_
       have e0 : l.take i ++ l.drop j = l := by rw [show j = i by omega, List.take_append_drop]
       exact ⟨C, by rw [e0]; exact hO, hS⟩)
  · first
    | (exfalso; omega)
    | (replace hA := hA.rw 16 (v' := .bool false) rfl (vb_eq_f hc1)
       refine cd_cond_f hA rfl ?_
       refine wp_skip ?_
       refine xt_norm ?_
       refine wp_seq ?_
       refine wp_region_lit ?_
       refine st_run tbOk 3 hA (e' := (7, .int .i64 ((l.length : Nat) : Int)) :: (19, .int .i64 ((l.length : Nat) : Int)) :: (18, .slice A l.length c) :: _) rfl ?_; clear hA; intro a hA
       refine wpList_nil ?_
       replace hA := hA.sel [0, 1, 2, 7] (e' := [(0, .slice A l.length c), (1, .int .i64 ((i : Nat) : Int)), (2, .int .i64 ((j : Nat) : Int)), (7, .int .i64 ((l.length : Nat) : Int))]) rfl
       refine xt_norm ?_
       refine wp_seq ?_
       refine wp_draw (fun w' => St w0 w' (F)) [] [(0, true), (1, true), (2, true), (3, true), (4, true), (5, true), (6, false), (7, true)] mixed (by kernel_rfl) (by rintro c a w ⟨_, _, h, _⟩; cases h) (by rfl) (by kernel_rfl) ?_
       replace hS := hS.drew
       refine dr_run tbOk 2 hA (hS.tail 1 rfl) (e' := (21, .int .i64 ((i : Nat) : Int)) :: (20, .slice A l.length c) :: _) rfl ?_; clear hA; intro a hA
       refine dr_y hA rfl rfl rfl (by decide) (hS.tail 1 rfl) (fun w' hS' => rn_slice_h tbOk hA i rfl rfl rfl rfl rfl rfl (by rfl) (by omega)) ?_; clear hA; intro a hA
       refine dr_run tbOk 2 hA (hS.tail 1 rfl) (e' := (24, .int .i64 ((j : Nat) : Int)) :: (23, .slice A l.length c) :: _) rfl ?_; clear hA; intro a hA
       refine dr_y hA rfl rfl rfl (by decide) (hS.tail 1 rfl) (fun w' hS' => rn_slice_l tbOk hA j rfl rfl rfl rfl rfl rfl (by rfl) (by omega)) ?_; clear hA; intro a hA
       refine dr_b (o := _) rfl ?_
       refine st_append_rm tbOk hA (m := i) (q := ((l.take l.length).drop j).length) (c := c) (xs := (rows encPart l).take (i * 5)) (news := rows encPart ((l.take l.length).drop j)) rfl rfl rfl rfl rfl rfl rfl (hO.head i (by omega)) hS ((hO.rd (hS.own_ 0 rfl)).rslv encPart_ok j l.length c (by omega) (by omega) (by omega) (by omega)) (rows_one encPart_ok _) (by simp; omega) rfl rfl (by decide) ?_
       clear hA hS; intro w2 C3 a hO3 hS hA
       have e1 : i + ((l.take l.length).drop j).length = (l.take i ++ l.drop j).length := by simp; omega
       have e2 : (rows encPart l).take (i * 5) ++ rows encPart ((l.take l.length).drop j) = rows encPart (l.take i ++ l.drop j) := by rw [rows_take encPart_ok, rows_append, List.take_length]
       rw [e2, e1] at hO3
       rw [e1] at hA
       have e3 : (l.take i ++ l.drop j).length ≤ l.length := by simp; omega
       refine dr_nil (.inr (hS.tail 1 rfl)) ?_
       refine dr_run tbOk 1 hA (hS.tail 1 rfl) (e' := (0, .slice A ((l.take i ++ l.drop j).length) c) :: _) rfl ?_; clear hA; intro a hA
       refine dr_end ?_
       replace hA := hA.sel [0, 7] (e' := [(0, .slice A ((l.take i ++ l.drop j).length) c), (7, .int .i64 ((l.length : Nat) : Int))]) rfl
       refine xt_norm ?_
       refine wp_seq ?_
       refine wp_region_lit ?_
       refine st_run tbOk 4 hA (e' := (30, .int .i64 ((l.length : Nat) : Int)) :: (29, .int .i64 (((l.take i ++ l.drop j).length : Nat) : Int)) :: (28, .slice A ((l.take i ++ l.drop j).length) c) :: (27, .slice A ((l.take i ++ l.drop j).length) c) :: _) rfl ?_; clear hA; intro a hA
       refine st_val hA rfl rfl (by decide) (rn_slice_lh tbOk hA ((l.take i ++ l.drop j).length) l.length rfl rfl rfl rfl rfl rfl rfl (by rfl) (by rfl) (by omega) (by omega)) ?_; clear hA; intro a hA
       refine st_clear tbOk hA (h := (l.take i ++ l.drop j).length) (old := l.length) (c := c) rfl rfl rfl rfl rfl rfl (fun u hu => List.all_eq_true.1 (by rfl) u hu) hO3 hS (by omega) (by omega) rfl rfl ?_; clear hS; intro w4 C5 hO5 hS
       refine wpList_nil ?_
       replace hA := hA.sel [0] (e' := [(0, .slice A ((l.take i ++ l.drop j).length) c)]) rfl
       refine xt_norm ?_
       refine wp_seq ?_
       refine wp_region_lit ?_
       refine st_run tbOk 2 hA (e' := (6, .slice A ((l.take i ++ l.drop j).length) c) :: (32, .slice A ((l.take i ++ l.drop j).length) c) :: _) rfl ?_; clear hA; intro a hA
       refine wpList_nil ?_
       replace hA := hA.sel [6] (e' := [(6, .slice A ((l.take i ++ l.drop j).length) c)]) rfl
       refine xt_norm ?_
       refine wp_ret ?_
       refine ret1 (fn := Try.f15) hA rfl rfl ?_
       exact ⟨_, hO5, hS⟩)

theorem clonex16 {w0 w : World} {F : List Chunk} (hS : St w0 w F) {v : Value} {l : List UInt8} (hr : RdSX w0 F 1 v l.length (rows encB l)) (hb : l.length ≤ 140737488351232) :
    Ret Try.prog 16 #[v] w (fun v w' => ∃ A c C, Own 5 1 (.slice A l.length c) l.length (rows encB l) C ∧ v = .slice A l.length c ∧ St w0 w' (C :: F)) := by
  obtain ⟨hl0, ⟨rfl, h0⟩ | ⟨ad, c, rfl, hmc, hcx, hcells⟩⟩ := hr w hS
  all_goals clear hl0
  · obtain rfl := List.eq_nil_of_length_eq_zero h0
    refine enter (vs := [.slice none 0 0]) 8 Try.func16 rfl rfl (by simp) ?_; intro a hA
    refine wp_seq ?_
    refine wp_region_lit ?_
    refine st_run tbOk 1 hA (e' := (2, .slice none 0 0) :: _) rfl ?_; clear hA; intro a hA
    refine wpList_nil ?_
    replace hA := hA.sel [0] (e' := [(0, .slice none 0 0)]) rfl
    refine xt_norm ?_
    refine wp_seq ?_
    refine wp_seq ?_
    refine wp_region_lit ?_
    refine st_run tbOk 2 hA (e' := (4, .bool true) :: (3, .slice none 0 0) :: _) rfl ?_; clear hA; intro a hA
    refine wpList_nil ?_
    replace hA := hA.sel [0, 4] (e' := [(0, .slice none 0 0), (4, .bool true)]) rfl
    refine xt_norm ?_
    refine cd_cond_t hA rfl ?_
    refine wp_seq ?_
    refine wp_region_lit ?_
    refine st_run tbOk 1 hA (e' := (2, .slice none 0 0) :: _) rfl ?_; clear hA; intro a hA
    refine wpList_nil ?_
    replace hA := hA.sel [2] (e' := [(2, .slice none 0 0)]) rfl
    refine xt_norm ?_
    refine wp_ret (xt_ret ?_)
    refine ret1 (fn := Try.f16) hA rfl rfl ?_
    exact ⟨none, 0, [], Own.nil _ _, rfl, hS.nil⟩
  · clear hcells
    refine enter (vs := [.slice (some ad) l.length c]) 8 Try.func16 rfl rfl (by simp) ?_; intro a hA
    refine wp_seq ?_
    refine wp_region_lit ?_
    refine st_run tbOk 1 hA (e' := (2, .slice none 0 0) :: _) rfl ?_; clear hA; intro a hA
    refine wpList_nil ?_
    replace hA := hA.sel [0] (e' := [(0, .slice (some ad) l.length c)]) rfl
    refine xt_norm ?_
    refine wp_seq ?_
    refine wp_seq ?_
    refine wp_region_lit ?_
    refine st_run tbOk 2 hA (e' := (4, .bool false) :: (3, .slice (some ad) l.length c) :: _) rfl ?_; clear hA; intro a hA
    refine wpList_nil ?_
    replace hA := hA.sel [0, 4] (e' := [(0, .slice (some ad) l.length c), (4, .bool false)]) rfl
    refine xt_norm ?_
    refine cd_cond_f hA rfl ?_
    refine wp_skip ?_
    refine xt_norm ?_
    refine wp_seq ?_
    refine wp_region_lit ?_
    refine st_buildSlice tbOk hA hS [] rfl rfl rfl rfl rfl (by decide) (by kernel_rfl) rfl rfl (by decide) ?_; clear hA hS; intro b1 w2 a hS hA
    refine st_run tbOk 1 hA (e' := (6, .slice (some ad) l.length c) :: _) rfl ?_; clear hA; intro a hA
    refine st_append tbOk hA (m := 0) (q := l.length) (xs := rows encB ([] : List UInt8)) (news := rows encB l) rfl rfl rfl rfl rfl rfl rfl rfl (by decide) (Own.full (T := 5) (size := 1) (g := b1) (m := 0) rfl (by decide)) hS ((hr _ (hS.tail 1 rfl))) (rows_one encB_ok _) (maxLen_le (by omega)) (by show (0 + l.length) * 1 ≤ 140737488355328; omega) rfl rfl (by decide) ?_
    clear hA hS; intro v3 w4 C5 a hO5 hS hA
    replace hO5 := Own.app (l := ([] : List UInt8)) (l2 := l) hO5
    replace hO5 : Own 5 1 v3 l.length (rows encB l) C5 := hO5
    obtain ⟨A6, c7, rfl, hmc7, hxc7⟩ := hO5.open'
    refine st_run tbOk 1 hA (e' := (2, .slice A6 l.length c7) :: _) rfl ?_; clear hA; intro a hA
    refine wpList_nil ?_
    replace hA := hA.sel [2] (e' := [(2, .slice A6 l.length c7)]) rfl
    refine xt_norm ?_
    refine wp_ret ?_
    refine ret1 (fn := Try.f16) hA rfl rfl ?_
    exact ⟨_, _, _, hO5, rfl, hS⟩

theorem fndc20 {w0 w : World} {F : List Chunk} (hS : St w0 w F) {bx : Nat} {fr to id : Int} (hc0 : ∀ w', St w0 w' F → w'.cell? ⟨bx, 0, none⟩ = some (.int .i64 fr)) (hc1 : ∀ w', St w0 w' F → w'.cell? ⟨bx, 1, none⟩ = some (.int .i64 to)) (hc2 : ∀ w', St w0 w' F → w'.cell? ⟨bx, 2, none⟩ = some (.int .u64 id)) (x : Part) :
    Ret Try.prog 20 #[.agg #[.int .i64 x.1, .int .i64 x.2.1, .int .u64 x.2.2.1, .slice x.2.2.2.1 x.2.2.2.2.2.1.length x.2.2.2.2.1, .slice x.2.2.2.2.2.2.1 x.2.2.2.2.2.2.2.2.length x.2.2.2.2.2.2.2.1], .pointer (some ⟨bx, 0, none⟩)] w (fun v w' => v = .bool (gkey fr to id x) ∧ St w0 w' F) := by
  refine enter (vs := [.agg #[.int .i64 x.1, .int .i64 x.2.1, .int .u64 x.2.2.1, .slice x.2.2.2.1 x.2.2.2.2.2.1.length x.2.2.2.2.1, .slice x.2.2.2.2.2.2.1 x.2.2.2.2.2.2.2.2.length x.2.2.2.2.2.2.2.1], .pointer (some ⟨bx, 0, none⟩)]) 23 Try.func20 rfl rfl (by simp) ?_; intro a hA
  refine wp_seq ?_
  refine wp_region_lit ?_
  refine st_box hA hS [.int .i64 x.1, .int .i64 x.2.1, .int .u64 x.2.2.1, .slice x.2.2.2.1 x.2.2.2.2.2.1.length x.2.2.2.2.1, .slice x.2.2.2.2.2.2.1 x.2.2.2.2.2.2.2.2.length x.2.2.2.2.2.2.2.1] rfl rfl rfl rfl rfl (by decide) ?_; clear hA hS; intro b1 w2 a hS hA
  refine st_run tbOk 1 hA (e' := (3, .bool false) :: _) rfl ?_; clear hA; intro a hA
  refine wpList_nil ?_
  replace hA := hA.sel [1, 2] (e' := [(1, .pointer (some ⟨bx, 0, none⟩)), (2, .pointer (some ⟨b1, 0, none⟩))]) rfl
  refine xt_norm ?_
  refine wp_seq ?_
  refine wp_region_lit ?_
  refine st_run tbOk 1 hA (e' := (4, .pointer (some ⟨b1, 0, none⟩)) :: _) rfl ?_; clear hA; intro a hA
  refine st_val hA rfl rfl (by decide) (rn_load tbOk hA rfl rfl rfl rfl (cell_row (hS.heapAt 0 rfl) rfl)) ?_; clear hA; intro a hA
  refine st_run tbOk 1 hA (e' := (6, .pointer (some ⟨bx, 0, none⟩)) :: _) rfl ?_; clear hA; intro a hA
  refine st_val hA rfl rfl (by decide) (rn_load tbOk hA rfl rfl rfl rfl (hc0 _ (hS.tail 1 rfl))) ?_; clear hA; intro a hA
  refine st_run tbOk 2 hA (e' := (9, .bool (x.1 == fr)) :: (8, .bool (x.1 == fr)) :: _) rfl ?_; clear hA; intro a hA
  by_cases hc3 : x.1 = fr
  · replace hA := hA.rw 8 (v' := .bool true) rfl (vb_eq_t hc3)
    replace hA := hA.rw 9 (v' := .bool true) rfl (vb_eq_t hc3)
    refine st_run tbOk 1 hA (e' := (10, .pointer (some ⟨b1, 1, none⟩)) :: _) rfl ?_; clear hA; intro a hA
    refine st_val hA rfl rfl (by decide) (rn_load tbOk hA rfl rfl rfl rfl (cell_row (hS.heapAt 0 rfl) rfl)) ?_; clear hA; intro a hA
    refine st_run tbOk 1 hA (e' := (12, .pointer (some ⟨bx, 1, none⟩)) :: _) rfl ?_; clear hA; intro a hA
    refine st_val hA rfl rfl (by decide) (rn_load tbOk hA rfl rfl rfl rfl (hc1 _ (hS.tail 1 rfl))) ?_; clear hA; intro a hA
    refine st_run tbOk 3 hA (e' := (16, .bool (x.2.1 == to)) :: (15, .bool (x.2.1 == to)) :: (14, .bool (x.2.1 == to)) :: _) rfl ?_; clear hA; intro a hA
    by_cases hc4 : x.2.1 = to
    · replace hA := hA.rw 14 (v' := .bool true) rfl (vb_eq_t hc4)
      replace hA := hA.rw 15 (v' := .bool true) rfl (vb_eq_t hc4)
      replace hA := hA.rw 16 (v' := .bool true) rfl (vb_eq_t hc4)
      refine st_run tbOk 1 hA (e' := (17, .pointer (some ⟨b1, 2, none⟩)) :: _) rfl ?_; clear hA; intro a hA
      refine st_val hA rfl rfl (by decide) (rn_load tbOk hA rfl rfl rfl rfl (cell_row (hS.heapAt 0 rfl) rfl)) ?_; clear hA; intro a hA
      refine st_run tbOk 1 hA (e' := (19, .pointer (some ⟨bx, 2, none⟩)) :: _) rfl ?_; clear hA; intro a hA
      refine st_val hA rfl rfl (by decide) (rn_load tbOk hA rfl rfl rfl rfl (hc2 _ (hS.tail 1 rfl))) ?_; clear hA; intro a hA
      refine st_run tbOk 3 hA (e' := (3, .bool (x.2.2.1 == id)) :: (22, .bool (x.2.2.1 == id)) :: (21, .bool (x.2.2.1 == id)) :: _) rfl ?_; clear hA; intro a hA
      refine wpList_nil ?_
      replace hA := hA.sel [3] (e' := [(3, .bool (x.2.2.1 == id))]) rfl
      refine xt_norm ?_
      refine wp_ret ?_
      refine ret1 (fn := Try.f20) hA rfl rfl ?_
      replace hS := hS.drop1
      exact ⟨congrArg Value.bool (by have e1 : x.1 = fr := by assumption
                                     have e2 : x.2.1 = to := by assumption
                                     simp [gkey, e1, e2]), hS⟩
    · replace hA := hA.rw 14 (v' := .bool false) rfl (vb_eq_f hc4)
      replace hA := hA.rw 15 (v' := .bool false) rfl (vb_eq_f hc4)
      replace hA := hA.rw 16 (v' := .bool false) rfl (vb_eq_f hc4)
      refine st_run tbOk 7 hA (e' := (3, .bool false) :: (22, .bool false) :: (21, undef) :: (20, undef) :: (19, undef) :: (18, undef) :: (17, undef) :: _) rfl ?_; clear hA; intro a hA
      refine wpList_nil ?_
      replace hA := hA.sel [3] (e' := [(3, .bool false)]) rfl
      refine xt_norm ?_
      refine wp_ret ?_
      refine ret1 (fn := Try.f20) hA rfl rfl ?_
      replace hS := hS.drop1
      exact ⟨congrArg Value.bool (by simp [gkey]; intros; omega), hS⟩
  · replace hA := hA.rw 8 (v' := .bool false) rfl (vb_eq_f hc3)
    replace hA := hA.rw 9 (v' := .bool false) rfl (vb_eq_f hc3)
    refine st_run tbOk 14 hA (e' := (3, .bool false) :: (22, .bool false) :: (21, undef) :: (20, undef) :: (19, undef) :: (18, undef) :: (17, undef) :: (16, .bool false) :: (15, .bool false) :: (14, undef) :: (13, undef) :: (12, undef) :: (11, undef) :: (10, undef) :: _) rfl ?_; clear hA; intro a hA
    refine wpList_nil ?_
    replace hA := hA.sel [3] (e' := [(3, .bool false)]) rfl
    refine xt_norm ?_
    refine wp_ret ?_
    refine ret1 (fn := Try.f20) hA rfl rfl ?_
    replace hS := hS.drop1
    exact ⟨congrArg Value.bool (by simp [gkey]; intros; omega), hS⟩

theorem fndcP {w0 : World} {F : List Chunk} {bx : Nat} {fr to id : Int} (hc0 : ∀ w', St w0 w' F → w'.cell? ⟨bx, 0, none⟩ = some (.int .i64 fr)) (hc1 : ∀ w', St w0 w' F → w'.cell? ⟨bx, 1, none⟩ = some (.int .i64 to)) (hc2 : ∀ w', St w0 w' F → w'.cell? ⟨bx, 2, none⟩ = some (.int .u64 id)) : Pred Try.prog w0 F 20 #[] #[.pointer (some ⟨bx, 0, none⟩)] (fun x => .agg (encPart x).toArray) (fun x => gkey fr to id x) := by
  intro w x hS
  exact fndc20 (St.refl w) (fun w' h => h.old (hc0 w hS)) (fun w' h => h.old (hc1 w hS)) (fun w' h => h.old (hc2 w hS)) x

theorem find14 {w0 w : World} {F : List Chunk} {C : Chunk} {b : Nat} {ps : List Part} {A : Option Addr} {c : Nat} (hS : St w0 w ([(b, rowO [.slice A ps.length c] 33)] :: C :: F)) (hO : Own 55 5 (.slice A ps.length c) ps.length (rows encPart ps) C) (fr to id i3 i4 : Int) (d : Value) :
    Ret Try.prog 14 #[.pointer (some ⟨b, 0, none⟩), .agg #[.int .i64 fr, .int .i64 to, .int .u64 id, .int .i64 i3, .int .i64 i4, d]] w (fun v w' => v = .int .i64 (idx (fun x => gkey fr to id x) ps) ∧ St w0 w' ([(b, rowO [.slice A ps.length c] 33)] :: C :: F)) := by
  refine enter (vs := [.pointer (some ⟨b, 0, none⟩), .agg #[.int .i64 fr, .int .i64 to, .int .u64 id, .int .i64 i3, .int .i64 i4, d]]) 11 Try.func14 rfl rfl (by simp) ?_; intro a hA
  refine wp_seq ?_
  refine wp_region_lit ?_
  refine st_box hA hS [.int .i64 fr, .int .i64 to, .int .u64 id, .int .i64 i3, .int .i64 i4, d] rfl rfl rfl rfl rfl (by decide) ?_; clear hA hS; intro b1 w2 a hS hA
  refine st_run tbOk 1 hA (e' := (4, .int .i64 0) :: _) rfl ?_; clear hA; intro a hA
  refine wpList_nil ?_
  replace hA := hA.sel [0, 3] (e' := [(0, .pointer (some ⟨b, 0, none⟩)), (3, .pointer (some ⟨b1, 0, none⟩))]) rfl
  refine xt_norm ?_
  refine wp_seq ?_
  refine wp_region_lit ?_
  refine st_run tbOk 3 hA (e' := (7, .pointer (some ⟨b, 0, none⟩)) :: (6, .pointer (some ⟨b, 0, none⟩)) :: (5, .pointer (some ⟨b, 0, none⟩)) :: _) rfl ?_; clear hA; intro a hA
  refine st_val hA rfl rfl (by decide) (rn_load tbOk hA rfl rfl rfl rfl (cell_row (hS.heapAt 1 rfl) rfl)) ?_; clear hA; intro a hA
  refine st_run tbOk 1 hA (e' := (9, .func (.func 20) #[] #[.pointer (some ⟨b1, 0, none⟩)]) :: _) rfl ?_; clear hA; intro a hA
  refine st_call0 hA rfl rfl rfl isfn19 rfl rfl (by decide) (indexFunc19 hS (l := ps) (RdS.own hO 2 rfl) isfn20 (fndcP (bx := b1) (fun w' h => cell_row (h.heapAt 0 rfl) rfl) (fun w' h => cell_row (h.heapAt 0 rfl) rfl) (fun w' h => cell_row (h.heapAt 0 rfl) rfl))) ?_
  clear hA hS; rintro v w3 a ⟨rfl, hS⟩ hA
  refine st_run tbOk 1 hA (e' := (4, .int .i64 (idx (fun x => gkey fr to id x) ps)) :: _) rfl ?_; clear hA; intro a hA
  refine wpList_nil ?_
  replace hA := hA.sel [4] (e' := [(4, .int .i64 (idx (fun x => gkey fr to id x) ps))]) rfl
  refine xt_norm ?_
  refine wp_ret ?_
  refine ret1 (fn := Try.f14) hA rfl rfl ?_
  replace hS := hS.drop1
  replace hS := hS.front 1 (C := C) (L' := [(b, rowO [.slice A ps.length c] 33)] :: F) rfl rfl
  replace hS := hS.front 1 (C := [(b, rowO [.slice A ps.length c] 33)]) (L' := C :: F) rfl rfl
  exact ⟨rfl, hS⟩

theorem waiting10 {w0 w : World} {F : List Chunk} {L D : Chunk} {b : Nat} {vs : List GV} (hS : St w0 w (L :: D :: F)) (hM : GS w0 b vs L D) :
    Ret Try.prog 10 #[.pointer (some ⟨b, 0, none⟩)] w (fun v w' => ∃ L', GS w0 b vs L' D ∧ v = .int .i64 ((vs.length : Nat) : Int) ∧ St w0 w' (L' :: D :: F)) := by
  obtain ⟨ps, v, C, R, hO, rfl, hR, hI, hdd, rfl⟩ := hM
  obtain ⟨A, c, rfl, hmc, hcx⟩ := hO.open'
  replace hS : St w0 w ([(b, rowO [.slice A ps.length c] 33)] :: C :: R :: D :: F) := hS.split3
  refine enter (vs := [.pointer (some ⟨b, 0, none⟩)]) 8 Try.func10 rfl rfl (by simp) ?_; intro a hA
  refine wp_seq ?_
  refine wp_region_lit ?_
  refine st_run tbOk 1 hA (e' := (2, .int .i64 0) :: _) rfl ?_; clear hA; intro a hA
  refine wpList_nil ?_
  replace hA := hA.sel [0] (e' := [(0, .pointer (some ⟨b, 0, none⟩))]) rfl
  refine xt_norm ?_
  refine wp_seq ?_
  refine wp_region_lit ?_
  refine st_run tbOk 3 hA (e' := (5, .pointer (some ⟨b, 0, none⟩)) :: (4, .pointer (some ⟨b, 0, none⟩)) :: (3, .pointer (some ⟨b, 0, none⟩)) :: _) rfl ?_; clear hA; intro a hA
  refine st_val hA rfl rfl (by decide) (rn_load tbOk hA rfl rfl rfl rfl (cell_row (hS.heapAt 0 rfl) rfl)) ?_; clear hA; intro a hA
  refine st_run tbOk 2 hA (e' := (2, .int .i64 ((ps.length : Nat) : Int)) :: (7, .int .i64 ((ps.length : Nat) : Int)) :: _) rfl ?_; clear hA; intro a hA
  refine wpList_nil ?_
  replace hA := hA.sel [2] (e' := [(2, .int .i64 ((ps.length : Nat) : Int))]) rfl
  refine xt_norm ?_
  refine wp_ret ?_
  refine ret1 (fn := Try.f10) hA rfl rfl ?_
  replace hS := hS.front 3 (C := D) (L' := [(b, rowO [.slice A ps.length c] 33)] :: C :: R :: F) rfl rfl
  replace hS := hS.front 3 (C := R) (L' := D :: [(b, rowO [.slice A ps.length c] 33)] :: C :: F) rfl rfl
  replace hS := hS.front 3 (C := C) (L' := R :: D :: [(b, rowO [.slice A ps.length c] 33)] :: F) rfl rfl
  replace hS := hS.front 3 (C := [(b, rowO [.slice A ps.length c] 33)]) (L' := C :: R :: D :: F) rfl rfl
  replace hS := hS.join3
  exact ⟨_, ⟨_, _, _, _, hO, rfl, hR, hI, hdd, rfl⟩, by rw [List.length_map], hS⟩

theorem forget13 {w0 w : World} {F : List Chunk} {L D : Chunk} {b : Nat} {vs : List GV} (hS : St w0 w (L :: D :: F)) (hM : GS w0 b vs L D) :
    Ret Try.prog 13 #[.pointer (some ⟨b, 0, none⟩)] w (fun v w' => ∃ L', GS w0 b [] L' D ∧ v = .tuple #[] ∧ St w0 w' (L' :: D :: F)) := by
  obtain ⟨ps, v, C, R, hO, rfl, hR, hI, hdd, rfl⟩ := hM
  obtain ⟨A, c, rfl, hmc, hcx⟩ := hO.open'
  replace hS : St w0 w ([(b, rowO [.slice A ps.length c] 33)] :: C :: R :: D :: F) := hS.split3
  refine enter (vs := [.pointer (some ⟨b, 0, none⟩)]) 5 Try.func13 rfl rfl (by simp) ?_; intro a hA
  refine wp_region_lit ?_
  refine st_run tbOk 3 hA (e' := (4, .pointer (some ⟨b, 0, none⟩)) :: (3, .pointer (some ⟨b, 0, none⟩)) :: (2, .pointer (some ⟨b, 0, none⟩)) :: _) rfl ?_; clear hA; intro a hA
  refine st_store tbOk hA hS [.slice none 0 0] [.slice none 0 0] rfl rfl rfl rfl rfl rfl (by intro u hu; rw [List.mem_singleton.1 hu]; rfl) (Nat.le_of_ble_eq_true rfl) rfl rfl rfl ?_; clear hS; intro w1 hS
  refine wpList_nil ?_
  replace hA := hA.sel [] (e' := []) rfl
  refine ret0n (fn := Try.f13) hA rfl ?_
  replace hS := hS.nil
  replace hS := hS.nil
  replace hS := hS.front 3 (C := C) (L' := [] :: [] :: [(b, rowO [.slice none 0 0] 33)] :: R :: D :: F) rfl rfl
  replace hS := hS.drop1
  replace hS := hS.front 3 (C := R) (L' := [] :: [] :: [(b, rowO [.slice none 0 0] 33)] :: D :: F) rfl rfl
  replace hS := hS.drop1
  replace hS := hS.front 2 (C := [(b, rowO [.slice none 0 0] 33)]) (L' := [] :: [] :: D :: F) rfl rfl
  replace hS := hS.join3
  exact ⟨_, ⟨[], _, [], [], Own.nil _ _, rfl, rfl, fun x h => (by cases h), fun x h => (by cases h), rfl⟩, rfl, hS⟩

set_option maxHeartbeats 4000000 in
theorem add_no9 {w0 w : World} {F : List Chunk} {L D : Chunk} {b : Nat} {vs : List GV} (hS : St w0 w (L :: D :: F)) (hM : GS w0 b vs L D) (fr to id : Int) (i3 i4 : Int) {d : Value} {bs : List UInt8} (hd : RdSX w0 (D :: F) 1 d bs.length (rows encB bs)) (hm : ¬ (1 ≤ i4 ∧ i4 ≤ 256 ∧ 0 ≤ i3 ∧ i3 < i4 ∧ bs.length ≤ 32768)) :
    Ret Try.prog 9 #[.pointer (some ⟨b, 0, none⟩), .agg #[.int .i64 fr, .int .i64 to, .int .u64 id, .int .i64 i3, .int .i64 i4, d]] w (fun v w' => ∃ L', GS w0 b vs L' D ∧ v = .tuple #[.slice none 0 0, .bool false] ∧ St w0 w' (L' :: D :: F)) := by
  obtain ⟨ps, v, C, R, hO, rfl, hR, hI, hdd, rfl⟩ := hM
  obtain ⟨A, c, rfl, hmc, hcx⟩ := hO.open'
  replace hS : St w0 w ([(b, rowO [.slice A ps.length c] 33)] :: C :: R :: D :: F) := hS.split3
  obtain ⟨B, d', rfl, hmd, hdx⟩ := (hd _ (hS.tail 3 rfl)).open'
  refine enter (vs := [.pointer (some ⟨b, 0, none⟩), .agg #[.int .i64 fr, .int .i64 to, .int .u64 id, .int .i64 i3, .int .i64 i4, .slice B bs.length d']]) 137 Try.func9 rfl rfl (by simp) ?_; intro a hA
  refine wp_seq ?_
  refine wp_region_lit ?_
  refine st_box hA hS [.int .i64 fr, .int .i64 to, .int .u64 id, .int .i64 i3, .int .i64 i4, .slice B bs.length d'] rfl rfl rfl rfl rfl (by decide) ?_; clear hA hS; intro b1 w2 a hS hA
  refine st_run tbOk 2 hA (e' := (5, .bool false) :: (4, .slice none 0 0) :: _) rfl ?_; clear hA; intro a hA
  refine wpList_nil ?_
  replace hA := hA.sel [0, 3] (e' := [(0, .pointer (some ⟨b, 0, none⟩)), (3, .pointer (some ⟨b1, 0, none⟩))]) rfl
  refine xt_norm ?_
  refine wp_seq ?_
  refine wp_seq ?_
  refine wp_region_lit ?_
  refine st_val hA rfl rfl (by decide) (rn_loadA tbOk hA [.int .i64 fr, .int .i64 to, .int .u64 id, .int .i64 i3, .int .i64 i4, .slice B bs.length d'] rfl rfl rfl rfl rfl (cells_row (hS.heapAt 0 rfl) rfl)) ?_; clear hA; intro a hA
  refine st_call0 hA rfl rfl rfl isfn12 rfl rfl (by decide) (may12 hS fr to id i3 i4 B d' bs) ?_
  clear hA hS; rintro v w3 a ⟨rfl, hS⟩ hA
  have hc4 : ¬ (1 ≤ i4 ∧ i4 ≤ 256 ∧ 0 ≤ i3 ∧ i3 < i4 ∧ bs.length ≤ 32768) := hm
  replace hA := hA.rw 11 (v' := .bool false) rfl (vb_false hc4)
  refine st_run tbOk 1 hA (e' := (12, .bool true) :: _) rfl ?_; clear hA; intro a hA
  refine wpList_nil ?_
  replace hA := hA.sel [0, 3, 12] (e' := [(0, .pointer (some ⟨b, 0, none⟩)), (3, .pointer (some ⟨b1, 0, none⟩)), (12, .bool true)]) rfl
  refine xt_norm ?_
  refine cd_cond_t hA rfl ?_
  refine wp_seq ?_
  refine wp_region_lit ?_
  refine st_run tbOk 2 hA (e' := (5, .bool false) :: (4, .slice none 0 0) :: _) rfl ?_; clear hA; intro a hA
  refine wpList_nil ?_
  replace hA := hA.sel [4, 5] (e' := [(4, .slice none 0 0), (5, .bool false)]) rfl
  refine xt_norm ?_
  refine wp_ret (xt_ret ?_)
  refine ret2 (fn := Try.f9) hA rfl rfl rfl ?_
  replace hS := hS.drop1
  replace hS := hS.front 3 (C := D) (L' := [(b, rowO [.slice A ps.length c] 33)] :: C :: R :: F) rfl rfl
  replace hS := hS.front 3 (C := R) (L' := D :: [(b, rowO [.slice A ps.length c] 33)] :: C :: F) rfl rfl
  replace hS := hS.front 3 (C := C) (L' := R :: D :: [(b, rowO [.slice A ps.length c] 33)] :: F) rfl rfl
  replace hS := hS.front 3 (C := [(b, rowO [.slice A ps.length c] 33)]) (L' := C :: R :: D :: F) rfl rfl
  replace hS := hS.join3
  exact ⟨_, ⟨_, _, _, _, hO, rfl, hR, hI, hdd, rfl⟩, rfl, hS⟩

set_option maxHeartbeats 4000000 in
theorem add_hit_rejL9 {w0 w : World} {F : List Chunk} {L D : Chunk} {b : Nat} {vs : List GV} (hS : St w0 w (L :: D :: F)) (hM : GS w0 b vs L D) (fr to id : Int) (ix cn : Nat) {d : Value} {bs : List UInt8} (hd : RdSX w0 (D :: F) 1 d bs.length (rows encB bs)) (h1 : ix < cn) (h2 : cn ≤ 256) (h3 : bs.length ≤ 32768) {k : Nat} {has : List Bool} {dat : List (List UInt8)} (hz : vs[k]? = some (fr, to, id, has, dat)) (hbf : ∀ (i : Nat) (z : GV), i < k → vs[i]? = some z → ¬ vkey fr to id z) (hne : ¬ has.length = cn) :
    Ret Try.prog 9 #[.pointer (some ⟨b, 0, none⟩), .agg #[.int .i64 fr, .int .i64 to, .int .u64 id, .int .i64 ((ix : Nat) : Int), .int .i64 ((cn : Nat) : Int), d]] w (fun v w' => ∃ L', GS w0 b vs L' D ∧ v = .tuple #[.slice none 0 0, .bool false] ∧ St w0 w' (L' :: D :: F)) := by
  obtain ⟨ps, v, C, R, hO, rfl, hR, hI, hdd, rfl⟩ := hM
  obtain ⟨A, c, rfl, hmc, hcx⟩ := hO.open'
  replace hS : St w0 w ([(b, rowO [.slice A ps.length c] 33)] :: C :: R :: D :: F) := hS.split3
  obtain ⟨B, d', rfl, hmd, hdx⟩ := (hd _ (hS.tail 3 rfl)).open'
  obtain ⟨x, hx, hgx⟩ := map_at' rfl hz
  obtain ⟨xf0, xf1, xf2, xA3, xc3, xb3, xA6, xc6, xb6⟩ := x
  simp only [gv, phas, ppk, Prod.mk.injEq] at hgx
  obtain ⟨g1, g2, g3, g4, g5⟩ := hgx
  have g1 := g1.symm; have g2 := g2.symm; have g3 := g3.symm; have g4 := g4.symm
  subst g1; subst g2; subst g3; subst g4; subst g5
  have hkl := (List.getElem?_eq_some_iff.1 hx).1
  have hPI := hI _ (List.mem_of_getElem? hx)
  have hpl : has.length = xb6.length := hPI.hp
  have hhl : has.length ≤ 256 := hPI.l2
  obtain ⟨R1, Ch, Cp, R2, rfl, hR1, hOh, hOp, hR2⟩ := hR.at hx
  replace hOh : Own 4 1 (.slice xA3 has.length xc3) has.length (rows encBo has) Ch := hOh
  replace hOp : Own 38 6 (.slice xA6 xb6.length xc6) xb6.length (rows encPacket xb6) Cp := hOp
  replace hS := hS.front 2 (C := (R1 ++ (Ch ++ (Cp ++ R2)))) (L' := [(b, rowO [.slice A ps.length c] 33)] :: C :: D :: F) rfl rfl
  replace hS := hS.split
  replace hS := hS.front 1 (C := (Ch ++ (Cp ++ R2))) (L' := R1 :: [(b, rowO [.slice A ps.length c] 33)] :: C :: D :: F) rfl rfl
  replace hS := hS.split
  replace hS := hS.front 1 (C := (Cp ++ R2)) (L' := Ch :: R1 :: [(b, rowO [.slice A ps.length c] 33)] :: C :: D :: F) rfl rfl
  replace hS := hS.split
  replace hS := hS.front 6 (C := D) (L' := Cp :: R2 :: Ch :: R1 :: [(b, rowO [.slice A ps.length c] 33)] :: C :: F) rfl rfl
  replace hS := hS.front 2 (C := R2) (L' := D :: Cp :: Ch :: R1 :: [(b, rowO [.slice A ps.length c] 33)] :: C :: F) rfl rfl
  replace hS := hS.front 2 (C := Cp) (L' := R2 :: D :: Ch :: R1 :: [(b, rowO [.slice A ps.length c] 33)] :: C :: F) rfl rfl
  replace hS := hS.front 3 (C := Ch) (L' := Cp :: R2 :: D :: R1 :: [(b, rowO [.slice A ps.length c] 33)] :: C :: F) rfl rfl
  replace hS := hS.front 4 (C := R1) (L' := Ch :: Cp :: R2 :: D :: [(b, rowO [.slice A ps.length c] 33)] :: C :: F) rfl rfl
  replace hS := hS.front 6 (C := C) (L' := R1 :: Ch :: Cp :: R2 :: D :: [(b, rowO [.slice A ps.length c] 33)] :: F) rfl rfl
  replace hS := hS.front 6 (C := [(b, rowO [.slice A ps.length c] 33)]) (L' := C :: R1 :: Ch :: Cp :: R2 :: D :: F) rfl rfl
  refine enter (vs := [.pointer (some ⟨b, 0, none⟩), .agg #[.int .i64 fr, .int .i64 to, .int .u64 id, .int .i64 ((ix : Nat) : Int), .int .i64 ((cn : Nat) : Int), .slice B bs.length d']]) 137 Try.func9 rfl rfl (by simp) ?_; intro a hA
  refine wp_seq ?_
  refine wp_region_lit ?_
  refine st_box hA hS [.int .i64 fr, .int .i64 to, .int .u64 id, .int .i64 ((ix : Nat) : Int), .int .i64 ((cn : Nat) : Int), .slice B bs.length d'] rfl rfl rfl rfl rfl (by decide) ?_; clear hA hS; intro b1 w2 a hS hA
  refine st_run tbOk 2 hA (e' := (5, .bool false) :: (4, .slice none 0 0) :: _) rfl ?_; clear hA; intro a hA
  refine wpList_nil ?_
  replace hA := hA.sel [0, 3] (e' := [(0, .pointer (some ⟨b, 0, none⟩)), (3, .pointer (some ⟨b1, 0, none⟩))]) rfl
  refine xt_norm ?_
  refine wp_seq ?_
  refine wp_seq ?_
  refine wp_region_lit ?_
  refine st_val hA rfl rfl (by decide) (rn_loadA tbOk hA [.int .i64 fr, .int .i64 to, .int .u64 id, .int .i64 ((ix : Nat) : Int), .int .i64 ((cn : Nat) : Int), .slice B bs.length d'] rfl rfl rfl rfl rfl (cells_row (hS.heapAt 0 rfl) rfl)) ?_; clear hA; intro a hA
  refine st_call0 hA rfl rfl rfl isfn12 rfl rfl (by decide) (may12 hS fr to id ((ix : Nat) : Int) ((cn : Nat) : Int) B d' bs) ?_
  clear hA hS; rintro v w3 a ⟨rfl, hS⟩ hA
  have hc4 : 1 ≤ ((cn : Nat) : Int) ∧ ((cn : Nat) : Int) ≤ 256 ∧ 0 ≤ ((ix : Nat) : Int) ∧ ((ix : Nat) : Int) < ((cn : Nat) : Int) ∧ bs.length ≤ 32768 := by omega
  replace hA := hA.rw 11 (v' := .bool true) rfl (vb_true hc4)
  refine st_run tbOk 1 hA (e' := (12, .bool false) :: _) rfl ?_; clear hA; intro a hA
  refine wpList_nil ?_
  replace hA := hA.sel [0, 3, 12] (e' := [(0, .pointer (some ⟨b, 0, none⟩)), (3, .pointer (some ⟨b1, 0, none⟩)), (12, .bool false)]) rfl
  refine xt_norm ?_
  refine cd_cond_f hA rfl ?_
  refine wp_skip ?_
  refine xt_norm ?_
  refine wp_seq ?_
  refine wp_region_lit ?_
  refine st_run tbOk 1 hA (e' := (13, .pointer (some ⟨b, 0, none⟩)) :: _) rfl ?_; clear hA; intro a hA
  refine st_val hA rfl rfl (by decide) (rn_loadA tbOk hA [.int .i64 fr, .int .i64 to, .int .u64 id, .int .i64 ((ix : Nat) : Int), .int .i64 ((cn : Nat) : Int), .slice B bs.length d'] rfl rfl rfl rfl rfl (cells_row (hS.heapAt 0 rfl) rfl)) ?_; clear hA; intro a hA
  replace hS := hS.front 2 (C := C) (L' := [(b1, rowO [.int .i64 fr, .int .i64 to, .int .u64 id, .int .i64 ((ix : Nat) : Int), .int .i64 ((cn : Nat) : Int), .slice B bs.length d'] 38)] :: [(b, rowO [.slice A ps.length c] 33)] :: R1 :: Ch :: Cp :: R2 :: D :: F) rfl rfl
  replace hS := hS.front 2 (C := [(b, rowO [.slice A ps.length c] 33)]) (L' := C :: [(b1, rowO [.int .i64 fr, .int .i64 to, .int .u64 id, .int .i64 ((ix : Nat) : Int), .int .i64 ((cn : Nat) : Int), .slice B bs.length d'] 38)] :: R1 :: Ch :: Cp :: R2 :: D :: F) rfl rfl
  refine st_call0 hA rfl rfl rfl isfn14 rfl rfl (by decide) (find14 hS hO fr to id _ _ _) ?_
  clear hA hS; rintro v w5 a ⟨rfl, hS⟩ hA
  have hix := idx_some (p := fun x => gkey fr to id x) hx (by simp [gkey]) (gkey_no hbf)
  replace hA := hA.rw 15 (v' := .int .i64 ((k : Nat) : Int)) rfl (vint hix)
  replace hS := hS.front 7 (C := D) (L' := [(b, rowO [.slice A ps.length c] 33)] :: C :: [(b1, rowO [.int .i64 fr, .int .i64 to, .int .u64 id, .int .i64 ((ix : Nat) : Int), .int .i64 ((cn : Nat) : Int), .slice B bs.length d'] 38)] :: R1 :: Ch :: Cp :: R2 :: F) rfl rfl
  replace hS := hS.front 7 (C := R2) (L' := D :: [(b, rowO [.slice A ps.length c] 33)] :: C :: [(b1, rowO [.int .i64 fr, .int .i64 to, .int .u64 id, .int .i64 ((ix : Nat) : Int), .int .i64 ((cn : Nat) : Int), .slice B bs.length d'] 38)] :: R1 :: Ch :: Cp :: F) rfl rfl
  replace hS := hS.front 7 (C := Cp) (L' := R2 :: D :: [(b, rowO [.slice A ps.length c] 33)] :: C :: [(b1, rowO [.int .i64 fr, .int .i64 to, .int .u64 id, .int .i64 ((ix : Nat) : Int), .int .i64 ((cn : Nat) : Int), .slice B bs.length d'] 38)] :: R1 :: Ch :: F) rfl rfl
  replace hS := hS.front 7 (C := Ch) (L' := Cp :: R2 :: D :: [(b, rowO [.slice A ps.length c] 33)] :: C :: [(b1, rowO [.int .i64 fr, .int .i64 to, .int .u64 id, .int .i64 ((ix : Nat) : Int), .int .i64 ((cn : Nat) : Int), .slice B bs.length d'] 38)] :: R1 :: F) rfl rfl
  replace hS := hS.front 7 (C := R1) (L' := Ch :: Cp :: R2 :: D :: [(b, rowO [.slice A ps.length c] 33)] :: C :: [(b1, rowO [.int .i64 fr, .int .i64 to, .int .u64 id, .int .i64 ((ix : Nat) : Int), .int .i64 ((cn : Nat) : Int), .slice B bs.length d'] 38)] :: F) rfl rfl
  replace hS := hS.front 7 (C := [(b1, rowO [.int .i64 fr, .int .i64 to, .int .u64 id, .int .i64 ((ix : Nat) : Int), .int .i64 ((cn : Nat) : Int), .slice B bs.length d'] 38)]) (L' := R1 :: Ch :: Cp :: R2 :: D :: [(b, rowO [.slice A ps.length c] 33)] :: C :: F) rfl rfl
  replace hS := hS.front 7 (C := C) (L' := [(b1, rowO [.int .i64 fr, .int .i64 to, .int .u64 id, .int .i64 ((ix : Nat) : Int), .int .i64 ((cn : Nat) : Int), .slice B bs.length d'] 38)] :: R1 :: Ch :: Cp :: R2 :: D :: [(b, rowO [.slice A ps.length c] 33)] :: F) rfl rfl
  replace hS := hS.front 7 (C := [(b, rowO [.slice A ps.length c] 33)]) (L' := C :: [(b1, rowO [.int .i64 fr, .int .i64 to, .int .u64 id, .int .i64 ((ix : Nat) : Int), .int .i64 ((cn : Nat) : Int), .slice B bs.length d'] 38)] :: R1 :: Ch :: Cp :: R2 :: D :: F) rfl rfl
  refine st_run tbOk 1 hA (e' := (6, .int .i64 ((k : Nat) : Int)) :: _) rfl ?_; clear hA; intro a hA
  refine wpList_nil ?_
  replace hA := hA.sel [0, 3, 6] (e' := [(0, .pointer (some ⟨b, 0, none⟩)), (3, .pointer (some ⟨b1, 0, none⟩)), (6, .int .i64 ((k : Nat) : Int))]) rfl
  refine xt_norm ?_
  refine wp_seq ?_
  refine wp_seq ?_
  refine wp_region_lit ?_
  refine st_run tbOk 2 hA (e' := (17, .bool (decide (((k : Nat) : Int) < 0))) :: (16, .int .i64 ((k : Nat) : Int)) :: _) rfl ?_; clear hA; intro a hA
  refine wpList_nil ?_
  replace hA := hA.sel [0, 3, 6, 17] (e' := [(0, .pointer (some ⟨b, 0, none⟩)), (3, .pointer (some ⟨b1, 0, none⟩)), (6, .int .i64 ((k : Nat) : Int)), (17, .bool (decide (((k : Nat) : Int) < 0)))]) rfl
  refine xt_norm ?_
  have hc6 : ¬ (((k : Nat) : Int) < 0) := by omega
  replace hA := hA.rw 17 (v' := .bool false) rfl (vb_false hc6)
  refine cd_cond_f hA rfl ?_
  refine wp_skip ?_
  refine xt_norm ?_
  refine wp_seq ?_
  refine wp_region_lit ?_
  refine st_run tbOk 3 hA (e' := (61, .pointer (some ⟨b, 0, none⟩)) :: (60, .pointer (some ⟨b, 0, none⟩)) :: (59, .pointer (some ⟨b, 0, none⟩)) :: _) rfl ?_; clear hA; intro a hA
  refine st_val hA rfl rfl (by decide) (rn_load tbOk hA rfl rfl rfl rfl (cell_row (hS.heapAt 0 rfl) rfl)) ?_; clear hA; intro a hA
  refine st_run tbOk 1 hA (e' := (63, .int .i64 ((k : Nat) : Int)) :: _) rfl ?_; clear hA; intro a hA
  obtain ⟨b7, o8, rfl⟩ := hO.isSome (k := k) (by omega)
  refine st_val hA rfl rfl (by decide) (rn_indexAddr tbOk hA k (o8 + (k * 5)) rfl rfl rfl rfl rfl rfl (by rfl) (by omega) (by first | rfl | simp [Nat.mul_one, Nat.zero_add] | omega)) ?_; clear hA; intro a hA
  refine st_run tbOk 1 hA (e' := (7, .pointer (some ⟨b7, o8 + (k * 5), none⟩)) :: _) rfl ?_; clear hA; intro a hA
  refine wpList_nil ?_
  replace hA := hA.sel [0, 3, 6, 7] (e' := [(0, .pointer (some ⟨b, 0, none⟩)), (3, .pointer (some ⟨b1, 0, none⟩)), (6, .int .i64 ((k : Nat) : Int)), (7, .pointer (some ⟨b7, o8 + (k * 5), none⟩))]) rfl
  refine xt_norm ?_
  refine wp_seq ?_
  refine wp_seq ?_
  refine wp_draw (fun w' => St w0 w' ([(b, rowO [.slice (some ⟨b7, o8, none⟩) ps.length c] 33)] :: C :: [(b1, rowO [.int .i64 fr, .int .i64 to, .int .u64 id, .int .i64 ((ix : Nat) : Int), .int .i64 ((cn : Nat) : Int), .slice B bs.length d'] 38)] :: R1 :: Ch :: Cp :: R2 :: D :: F)) [] [(0, true), (1, true), (2, true), (3, true), (4, true), (5, true), (6, true), (7, true), (8, true), (9, true), (10, true), (11, true), (12, true), (13, true), (14, true), (15, true), (16, true), (17, true)] mixed (by kernel_rfl) (by rintro c a w ⟨_, _, h, _⟩; cases h) (by rfl) (by kernel_rfl) ?_
  replace hS := hS.drew
  refine dr_run tbOk 3 hA hS (e' := (67, .pointer (some ⟨b7, o8 + (k * 5) + 3, none⟩)) :: (66, .pointer (some ⟨b7, o8 + (k * 5), none⟩)) :: (65, .pointer (some ⟨b7, o8 + (k * 5), none⟩)) :: _) rfl ?_; clear hA; intro a hA
  refine dr_y hA rfl rfl rfl (by decide) hS (fun w' hS' => rn_load tbOk hA rfl rfl rfl rfl ((hO.rd (hS'.own_ 1 rfl)).elemf (k := k) encPart_ok hx (j := 3) rfl)) ?_; clear hA; intro a hA
  refine dr_run tbOk 2 hA hS (e' := (70, .pointer (some ⟨b1, 4, none⟩)) :: (69, .int .i64 ((has.length : Nat) : Int)) :: _) rfl ?_; clear hA; intro a hA
  refine dr_y hA rfl rfl rfl (by decide) hS (fun w' hS' => rn_load tbOk hA rfl rfl rfl rfl (cell_row (hS'.heapAt 2 rfl) rfl)) ?_; clear hA; intro a hA
  refine dr_run tbOk 2 hA hS (e' := (73, .bool (((has.length : Nat) : Int) != ((cn : Nat) : Int))) :: (72, .bool (((has.length : Nat) : Int) != ((cn : Nat) : Int))) :: _) rfl ?_; clear hA; intro a hA
  have hc9 : ¬ (((has.length : Nat) : Int) = ((cn : Nat) : Int)) := by omega
  replace hA := hA.rw 72 (v' := .bool true) rfl (vb_ne_t hc9)
  replace hA := hA.rw 73 (v' := .bool true) rfl (vb_ne_t hc9)
  refine dr_run tbOk 6 hA hS (e' := (79, undef) :: (78, undef) :: (77, undef) :: (76, undef) :: (75, undef) :: (74, undef) :: _) rfl ?_; clear hA; intro a hA
  refine dr_run tbOk 3 hA hS (e' := (82, .bool true) :: (81, undef) :: (80, undef) :: _) rfl ?_; clear hA; intro a hA
  refine dr_end ?_
  replace hA := hA.sel [0, 3, 6, 7, 82] (e' := [(0, .pointer (some ⟨b, 0, none⟩)), (3, .pointer (some ⟨b1, 0, none⟩)), (6, .int .i64 ((k : Nat) : Int)), (7, .pointer (some ⟨b7, o8 + (k * 5), none⟩)), (82, .bool true)]) rfl
  refine xt_norm ?_
  refine cd_cond_t hA rfl ?_
  refine wp_seq ?_
  refine wp_region_lit ?_
  refine st_run tbOk 2 hA (e' := (5, .bool false) :: (4, .slice none 0 0) :: _) rfl ?_; clear hA; intro a hA
  refine wpList_nil ?_
  replace hA := hA.sel [4, 5] (e' := [(4, .slice none 0 0), (5, .bool false)]) rfl
  refine xt_norm ?_
  refine wp_ret (xt_ret ?_)
  refine ret2 (fn := Try.f9) hA rfl rfl rfl ?_
  replace hS := hS.front 2 (C := [(b1, rowO [.int .i64 fr, .int .i64 to, .int .u64 id, .int .i64 ((ix : Nat) : Int), .int .i64 ((cn : Nat) : Int), .slice B bs.length d'] 38)]) (L' := [(b, rowO [.slice (some ⟨b7, o8, none⟩) ps.length c] 33)] :: C :: R1 :: Ch :: Cp :: R2 :: D :: F) rfl rfl
  replace hS := hS.drop1
  replace hS := hS.front 6 (C := D) (L' := [(b, rowO [.slice (some ⟨b7, o8, none⟩) ps.length c] 33)] :: C :: R1 :: Ch :: Cp :: R2 :: F) rfl rfl
  replace hS := hS.front 6 (C := R2) (L' := D :: [(b, rowO [.slice (some ⟨b7, o8, none⟩) ps.length c] 33)] :: C :: R1 :: Ch :: Cp :: F) rfl rfl
  replace hS := hS.front 6 (C := Cp) (L' := R2 :: D :: [(b, rowO [.slice (some ⟨b7, o8, none⟩) ps.length c] 33)] :: C :: R1 :: Ch :: F) rfl rfl
  replace hS := hS.front 6 (C := Ch) (L' := Cp :: R2 :: D :: [(b, rowO [.slice (some ⟨b7, o8, none⟩) ps.length c] 33)] :: C :: R1 :: F) rfl rfl
  replace hS := hS.front 6 (C := R1) (L' := Ch :: Cp :: R2 :: D :: [(b, rowO [.slice (some ⟨b7, o8, none⟩) ps.length c] 33)] :: C :: F) rfl rfl
  replace hS := hS.front 6 (C := C) (L' := R1 :: Ch :: Cp :: R2 :: D :: [(b, rowO [.slice (some ⟨b7, o8, none⟩) ps.length c] 33)] :: F) rfl rfl
  replace hS := hS.front 6 (C := [(b, rowO [.slice (some ⟨b7, o8, none⟩) ps.length c] 33)]) (L' := C :: R1 :: Ch :: Cp :: R2 :: D :: F) rfl rfl
  replace hS := hS.front 5 (C := R2) (L' := [(b, rowO [.slice (some ⟨b7, o8, none⟩) ps.length c] 33)] :: C :: R1 :: Ch :: Cp :: D :: F) rfl rfl
  replace hS := hS.front 5 (C := Cp) (L' := R2 :: [(b, rowO [.slice (some ⟨b7, o8, none⟩) ps.length c] 33)] :: C :: R1 :: Ch :: D :: F) rfl rfl
  replace hS := hS.join
  replace hS := hS.front 4 (C := Ch) (L' := (Cp ++ R2) :: [(b, rowO [.slice (some ⟨b7, o8, none⟩) ps.length c] 33)] :: C :: R1 :: D :: F) rfl rfl
  replace hS := hS.join
  replace hS := hS.front 3 (C := R1) (L' := (Ch ++ (Cp ++ R2)) :: [(b, rowO [.slice (some ⟨b7, o8, none⟩) ps.length c] 33)] :: C :: D :: F) rfl rfl
  replace hS := hS.join
  replace hS := hS.front 2 (C := C) (L' := (R1 ++ (Ch ++ (Cp ++ R2))) :: [(b, rowO [.slice (some ⟨b7, o8, none⟩) ps.length c] 33)] :: D :: F) rfl rfl
  replace hS := hS.front 2 (C := [(b, rowO [.slice (some ⟨b7, o8, none⟩) ps.length c] 33)]) (L' := C :: (R1 ++ (Ch ++ (Cp ++ R2))) :: D :: F) rfl rfl
  replace hS := hS.join3
  exact ⟨_, ⟨_, _, _, _, hO, rfl, (by have h8 := PO.put (y := (fr, to, id, xA3, xc3, has, xA6, xc6, xb6)) hR1 hOh hOp hR2 hkl; rw [set_same hx] at h8; exact h8), hI, hdd, rfl⟩, rfl, hS⟩

set_option maxHeartbeats 4000000 in
theorem add_hit_rejT9 {w0 w : World} {F : List Chunk} {L D : Chunk} {b : Nat} {vs : List GV} (hS : St w0 w (L :: D :: F)) (hM : GS w0 b vs L D) (fr to id : Int) (ix cn : Nat) {d : Value} {bs : List UInt8} (hd : RdSX w0 (D :: F) 1 d bs.length (rows encB bs)) (h1 : ix < cn) (h2 : cn ≤ 256) (h3 : bs.length ≤ 32768) {k : Nat} {has : List Bool} {dat : List (List UInt8)} (hz : vs[k]? = some (fr, to, id, has, dat)) (hbf : ∀ (i : Nat) (z : GV), i < k → vs[i]? = some z → ¬ vkey fr to id z) (hcn : has.length = cn) (hT : has[ix]? = some true) :
    Ret Try.prog 9 #[.pointer (some ⟨b, 0, none⟩), .agg #[.int .i64 fr, .int .i64 to, .int .u64 id, .int .i64 ((ix : Nat) : Int), .int .i64 ((cn : Nat) : Int), d]] w (fun v w' => ∃ L', GS w0 b vs L' D ∧ v = .tuple #[.slice none 0 0, .bool false] ∧ St w0 w' (L' :: D :: F)) := by
  obtain ⟨ps, v, C, R, hO, rfl, hR, hI, hdd, rfl⟩ := hM
  obtain ⟨A, c, rfl, hmc, hcx⟩ := hO.open'
  replace hS : St w0 w ([(b, rowO [.slice A ps.length c] 33)] :: C :: R :: D :: F) := hS.split3
  obtain ⟨B, d', rfl, hmd, hdx⟩ := (hd _ (hS.tail 3 rfl)).open'
  obtain ⟨x, hx, hgx⟩ := map_at' rfl hz
  obtain ⟨xf0, xf1, xf2, xA3, xc3, xb3, xA6, xc6, xb6⟩ := x
  simp only [gv, phas, ppk, Prod.mk.injEq] at hgx
  obtain ⟨g1, g2, g3, g4, g5⟩ := hgx
  have g1 := g1.symm; have g2 := g2.symm; have g3 := g3.symm; have g4 := g4.symm
  subst g1; subst g2; subst g3; subst g4; subst g5
  have hkl := (List.getElem?_eq_some_iff.1 hx).1
  have hPI := hI _ (List.mem_of_getElem? hx)
  have hpl : has.length = xb6.length := hPI.hp
  have hhl : has.length ≤ 256 := hPI.l2
  obtain ⟨R1, Ch, Cp, R2, rfl, hR1, hOh, hOp, hR2⟩ := hR.at hx
  replace hOh : Own 4 1 (.slice xA3 has.length xc3) has.length (rows encBo has) Ch := hOh
  replace hOp : Own 38 6 (.slice xA6 xb6.length xc6) xb6.length (rows encPacket xb6) Cp := hOp
  replace hS := hS.front 2 (C := (R1 ++ (Ch ++ (Cp ++ R2)))) (L' := [(b, rowO [.slice A ps.length c] 33)] :: C :: D :: F) rfl rfl
  replace hS := hS.split
  replace hS := hS.front 1 (C := (Ch ++ (Cp ++ R2))) (L' := R1 :: [(b, rowO [.slice A ps.length c] 33)] :: C :: D :: F) rfl rfl
  replace hS := hS.split
  replace hS := hS.front 1 (C := (Cp ++ R2)) (L' := Ch :: R1 :: [(b, rowO [.slice A ps.length c] 33)] :: C :: D :: F) rfl rfl
  replace hS := hS.split
  replace hS := hS.front 6 (C := D) (L' := Cp :: R2 :: Ch :: R1 :: [(b, rowO [.slice A ps.length c] 33)] :: C :: F) rfl rfl
  replace hS := hS.front 2 (C := R2) (L' := D :: Cp :: Ch :: R1 :: [(b, rowO [.slice A ps.length c] 33)] :: C :: F) rfl rfl
  replace hS := hS.front 2 (C := Cp) (L' := R2 :: D :: Ch :: R1 :: [(b, rowO [.slice A ps.length c] 33)] :: C :: F) rfl rfl
  replace hS := hS.front 3 (C := Ch) (L' := Cp :: R2 :: D :: R1 :: [(b, rowO [.slice A ps.length c] 33)] :: C :: F) rfl rfl
  replace hS := hS.front 4 (C := R1) (L' := Ch :: Cp :: R2 :: D :: [(b, rowO [.slice A ps.length c] 33)] :: C :: F) rfl rfl
  replace hS := hS.front 6 (C := C) (L' := R1 :: Ch :: Cp :: R2 :: D :: [(b, rowO [.slice A ps.length c] 33)] :: F) rfl rfl
  replace hS := hS.front 6 (C := [(b, rowO [.slice A ps.length c] 33)]) (L' := C :: R1 :: Ch :: Cp :: R2 :: D :: F) rfl rfl
  refine enter (vs := [.pointer (some ⟨b, 0, none⟩), .agg #[.int .i64 fr, .int .i64 to, .int .u64 id, .int .i64 ((ix : Nat) : Int), .int .i64 ((cn : Nat) : Int), .slice B bs.length d']]) 137 Try.func9 rfl rfl (by simp) ?_; intro a hA
  refine wp_seq ?_
  refine wp_region_lit ?_
  refine st_box hA hS [.int .i64 fr, .int .i64 to, .int .u64 id, .int .i64 ((ix : Nat) : Int), .int .i64 ((cn : Nat) : Int), .slice B bs.length d'] rfl rfl rfl rfl rfl (by decide) ?_; clear hA hS; intro b1 w2 a hS hA
  refine st_run tbOk 2 hA (e' := (5, .bool false) :: (4, .slice none 0 0) :: _) rfl ?_; clear hA; intro a hA
  refine wpList_nil ?_
  replace hA := hA.sel [0, 3] (e' := [(0, .pointer (some ⟨b, 0, none⟩)), (3, .pointer (some ⟨b1, 0, none⟩))]) rfl
  refine xt_norm ?_
  refine wp_seq ?_
  refine wp_seq ?_
  refine wp_region_lit ?_
  refine st_val hA rfl rfl (by decide) (rn_loadA tbOk hA [.int .i64 fr, .int .i64 to, .int .u64 id, .int .i64 ((ix : Nat) : Int), .int .i64 ((cn : Nat) : Int), .slice B bs.length d'] rfl rfl rfl rfl rfl (cells_row (hS.heapAt 0 rfl) rfl)) ?_; clear hA; intro a hA
  refine st_call0 hA rfl rfl rfl isfn12 rfl rfl (by decide) (may12 hS fr to id ((ix : Nat) : Int) ((cn : Nat) : Int) B d' bs) ?_
  clear hA hS; rintro v w3 a ⟨rfl, hS⟩ hA
  have hc4 : 1 ≤ ((cn : Nat) : Int) ∧ ((cn : Nat) : Int) ≤ 256 ∧ 0 ≤ ((ix : Nat) : Int) ∧ ((ix : Nat) : Int) < ((cn : Nat) : Int) ∧ bs.length ≤ 32768 := by omega
  replace hA := hA.rw 11 (v' := .bool true) rfl (vb_true hc4)
  refine st_run tbOk 1 hA (e' := (12, .bool false) :: _) rfl ?_; clear hA; intro a hA
  refine wpList_nil ?_
  replace hA := hA.sel [0, 3, 12] (e' := [(0, .pointer (some ⟨b, 0, none⟩)), (3, .pointer (some ⟨b1, 0, none⟩)), (12, .bool false)]) rfl
  refine xt_norm ?_
  refine cd_cond_f hA rfl ?_
  refine wp_skip ?_
  refine xt_norm ?_
  refine wp_seq ?_
  refine wp_region_lit ?_
  refine st_run tbOk 1 hA (e' := (13, .pointer (some ⟨b, 0, none⟩)) :: _) rfl ?_; clear hA; intro a hA
  refine st_val hA rfl rfl (by decide) (rn_loadA tbOk hA [.int .i64 fr, .int .i64 to, .int .u64 id, .int .i64 ((ix : Nat) : Int), .int .i64 ((cn : Nat) : Int), .slice B bs.length d'] rfl rfl rfl rfl rfl (cells_row (hS.heapAt 0 rfl) rfl)) ?_; clear hA; intro a hA
  replace hS := hS.front 2 (C := C) (L' := [(b1, rowO [.int .i64 fr, .int .i64 to, .int .u64 id, .int .i64 ((ix : Nat) : Int), .int .i64 ((cn : Nat) : Int), .slice B bs.length d'] 38)] :: [(b, rowO [.slice A ps.length c] 33)] :: R1 :: Ch :: Cp :: R2 :: D :: F) rfl rfl
  replace hS := hS.front 2 (C := [(b, rowO [.slice A ps.length c] 33)]) (L' := C :: [(b1, rowO [.int .i64 fr, .int .i64 to, .int .u64 id, .int .i64 ((ix : Nat) : Int), .int .i64 ((cn : Nat) : Int), .slice B bs.length d'] 38)] :: R1 :: Ch :: Cp :: R2 :: D :: F) rfl rfl
  refine st_call0 hA rfl rfl rfl isfn14 rfl rfl (by decide) (find14 hS hO fr to id _ _ _) ?_
  clear hA hS; rintro v w5 a ⟨rfl, hS⟩ hA
  have hix := idx_some (p := fun x => gkey fr to id x) hx (by simp [gkey]) (gkey_no hbf)
  replace hA := hA.rw 15 (v' := .int .i64 ((k : Nat) : Int)) rfl (vint hix)
  replace hS := hS.front 7 (C := D) (L' := [(b, rowO [.slice A ps.length c] 33)] :: C :: [(b1, rowO [.int .i64 fr, .int .i64 to, .int .u64 id, .int .i64 ((ix : Nat) : Int), .int .i64 ((cn : Nat) : Int), .slice B bs.length d'] 38)] :: R1 :: Ch :: Cp :: R2 :: F) rfl rfl
  replace hS := hS.front 7 (C := R2) (L' := D :: [(b, rowO [.slice A ps.length c] 33)] :: C :: [(b1, rowO [.int .i64 fr, .int .i64 to, .int .u64 id, .int .i64 ((ix : Nat) : Int), .int .i64 ((cn : Nat) : Int), .slice B bs.length d'] 38)] :: R1 :: Ch :: Cp :: F) rfl rfl
  replace hS := hS.front 7 (C := Cp) (L' := R2 :: D :: [(b, rowO [.slice A ps.length c] 33)] :: C :: [(b1, rowO [.int .i64 fr, .int .i64 to, .int .u64 id, .int .i64 ((ix : Nat) : Int), .int .i64 ((cn : Nat) : Int), .slice B bs.length d'] 38)] :: R1 :: Ch :: F) rfl rfl
  replace hS := hS.front 7 (C := Ch) (L' := Cp :: R2 :: D :: [(b, rowO [.slice A ps.length c] 33)] :: C :: [(b1, rowO [.int .i64 fr, .int .i64 to, .int .u64 id, .int .i64 ((ix : Nat) : Int), .int .i64 ((cn : Nat) : Int), .slice B bs.length d'] 38)] :: R1 :: F) rfl rfl
  replace hS := hS.front 7 (C := R1) (L' := Ch :: Cp :: R2 :: D :: [(b, rowO [.slice A ps.length c] 33)] :: C :: [(b1, rowO [.int .i64 fr, .int .i64 to, .int .u64 id, .int .i64 ((ix : Nat) : Int), .int .i64 ((cn : Nat) : Int), .slice B bs.length d'] 38)] :: F) rfl rfl
  replace hS := hS.front 7 (C := [(b1, rowO [.int .i64 fr, .int .i64 to, .int .u64 id, .int .i64 ((ix : Nat) : Int), .int .i64 ((cn : Nat) : Int), .slice B bs.length d'] 38)]) (L' := R1 :: Ch :: Cp :: R2 :: D :: [(b, rowO [.slice A ps.length c] 33)] :: C :: F) rfl rfl
  replace hS := hS.front 7 (C := C) (L' := [(b1, rowO [.int .i64 fr, .int .i64 to, .int .u64 id, .int .i64 ((ix : Nat) : Int), .int .i64 ((cn : Nat) : Int), .slice B bs.length d'] 38)] :: R1 :: Ch :: Cp :: R2 :: D :: [(b, rowO [.slice A ps.length c] 33)] :: F) rfl rfl
  replace hS := hS.front 7 (C := [(b, rowO [.slice A ps.length c] 33)]) (L' := C :: [(b1, rowO [.int .i64 fr, .int .i64 to, .int .u64 id, .int .i64 ((ix : Nat) : Int), .int .i64 ((cn : Nat) : Int), .slice B bs.length d'] 38)] :: R1 :: Ch :: Cp :: R2 :: D :: F) rfl rfl
  refine st_run tbOk 1 hA (e' := (6, .int .i64 ((k : Nat) : Int)) :: _) rfl ?_; clear hA; intro a hA
  refine wpList_nil ?_
  replace hA := hA.sel [0, 3, 6] (e' := [(0, .pointer (some ⟨b, 0, none⟩)), (3, .pointer (some ⟨b1, 0, none⟩)), (6, .int .i64 ((k : Nat) : Int))]) rfl
  refine xt_norm ?_
  refine wp_seq ?_
  refine wp_seq ?_
  refine wp_region_lit ?_
  refine st_run tbOk 2 hA (e' := (17, .bool (decide (((k : Nat) : Int) < 0))) :: (16, .int .i64 ((k : Nat) : Int)) :: _) rfl ?_; clear hA; intro a hA
  refine wpList_nil ?_
  replace hA := hA.sel [0, 3, 6, 17] (e' := [(0, .pointer (some ⟨b, 0, none⟩)), (3, .pointer (some ⟨b1, 0, none⟩)), (6, .int .i64 ((k : Nat) : Int)), (17, .bool (decide (((k : Nat) : Int) < 0)))]) rfl
  refine xt_norm ?_
  have hc6 : ¬ (((k : Nat) : Int) < 0) := by omega
  replace hA := hA.rw 17 (v' := .bool false) rfl (vb_false hc6)
  refine cd_cond_f hA rfl ?_
  refine wp_skip ?_
  refine xt_norm ?_
  refine wp_seq ?_
  refine wp_region_lit ?_
  refine st_run tbOk 3 hA (e' := (61, .pointer (some ⟨b, 0, none⟩)) :: (60, .pointer (some ⟨b, 0, none⟩)) :: (59, .pointer (some ⟨b, 0, none⟩)) :: _) rfl ?_; clear hA; intro a hA
  refine st_val hA rfl rfl (by decide) (rn_load tbOk hA rfl rfl rfl rfl (cell_row (hS.heapAt 0 rfl) rfl)) ?_; clear hA; intro a hA
  refine st_run tbOk 1 hA (e' := (63, .int .i64 ((k : Nat) : Int)) :: _) rfl ?_; clear hA; intro a hA
  obtain ⟨b7, o8, rfl⟩ := hO.isSome (k := k) (by omega)
  refine st_val hA rfl rfl (by decide) (rn_indexAddr tbOk hA k (o8 + (k * 5)) rfl rfl rfl rfl rfl rfl (by rfl) (by omega) (by first | rfl | simp [Nat.mul_one, Nat.zero_add] | omega)) ?_; clear hA; intro a hA
  refine st_run tbOk 1 hA (e' := (7, .pointer (some ⟨b7, o8 + (k * 5), none⟩)) :: _) rfl ?_; clear hA; intro a hA
  refine wpList_nil ?_
  replace hA := hA.sel [0, 3, 6, 7] (e' := [(0, .pointer (some ⟨b, 0, none⟩)), (3, .pointer (some ⟨b1, 0, none⟩)), (6, .int .i64 ((k : Nat) : Int)), (7, .pointer (some ⟨b7, o8 + (k * 5), none⟩))]) rfl
  refine xt_norm ?_
  refine wp_seq ?_
  refine wp_seq ?_
  obtain ⟨b9, o10, rfl⟩ := hOh.isSome (k := ix) (by omega)
  refine wp_draw (fun w' => St w0 w' ([(b, rowO [.slice (some ⟨b7, o8, none⟩) ps.length c] 33)] :: C :: [(b1, rowO [.int .i64 fr, .int .i64 to, .int .u64 id, .int .i64 ((ix : Nat) : Int), .int .i64 ((cn : Nat) : Int), .slice B bs.length d'] 38)] :: R1 :: Ch :: Cp :: R2 :: D :: F)) [] [(0, true), (1, true), (2, true), (3, true), (4, true), (5, true), (6, true), (7, true), (8, true), (9, true), (10, true), (11, true), (12, true), (13, true), (14, true), (15, true), (16, true), (17, true)] mixed (by kernel_rfl) (by rintro c a w ⟨_, _, h, _⟩; cases h) (by rfl) (by kernel_rfl) ?_
  replace hS := hS.drew
  refine dr_run tbOk 3 hA hS (e' := (67, .pointer (some ⟨b7, o8 + (k * 5) + 3, none⟩)) :: (66, .pointer (some ⟨b7, o8 + (k * 5), none⟩)) :: (65, .pointer (some ⟨b7, o8 + (k * 5), none⟩)) :: _) rfl ?_; clear hA; intro a hA
  refine dr_y hA rfl rfl rfl (by decide) hS (fun w' hS' => rn_load tbOk hA rfl rfl rfl rfl ((hO.rd (hS'.own_ 1 rfl)).elemf (k := k) encPart_ok hx (j := 3) rfl)) ?_; clear hA; intro a hA
  refine dr_run tbOk 2 hA hS (e' := (70, .pointer (some ⟨b1, 4, none⟩)) :: (69, .int .i64 ((has.length : Nat) : Int)) :: _) rfl ?_; clear hA; intro a hA
  refine dr_y hA rfl rfl rfl (by decide) hS (fun w' hS' => rn_load tbOk hA rfl rfl rfl rfl (cell_row (hS'.heapAt 2 rfl) rfl)) ?_; clear hA; intro a hA
  refine dr_run tbOk 2 hA hS (e' := (73, .bool (((has.length : Nat) : Int) != ((cn : Nat) : Int))) :: (72, .bool (((has.length : Nat) : Int) != ((cn : Nat) : Int))) :: _) rfl ?_; clear hA; intro a hA
  have hc11 : ((has.length : Nat) : Int) = ((cn : Nat) : Int) := by omega
  replace hA := hA.rw 72 (v' := .bool false) rfl (vb_ne_f hc11)
  replace hA := hA.rw 73 (v' := .bool false) rfl (vb_ne_f hc11)
  refine dr_run tbOk 3 hA hS (e' := (76, .pointer (some ⟨b7, o8 + (k * 5) + 3, none⟩)) :: (75, .pointer (some ⟨b7, o8 + (k * 5), none⟩)) :: (74, .pointer (some ⟨b7, o8 + (k * 5), none⟩)) :: _) rfl ?_; clear hA; intro a hA
  refine dr_y hA rfl rfl rfl (by decide) hS (fun w' hS' => rn_load tbOk hA rfl rfl rfl rfl ((hO.rd (hS'.own_ 1 rfl)).elemf (k := k) encPart_ok hx (j := 3) rfl)) ?_; clear hA; intro a hA
  refine dr_run tbOk 1 hA hS (e' := (78, .pointer (some ⟨b1, 3, none⟩)) :: _) rfl ?_; clear hA; intro a hA
  refine dr_y hA rfl rfl rfl (by decide) hS (fun w' hS' => rn_load tbOk hA rfl rfl rfl rfl (cell_row (hS'.heapAt 2 rfl) rfl)) ?_; clear hA; intro a hA
  replace hA := hA.rw 77 (v' := .slice (some ⟨b9, o10, none⟩) has.length xc3) rfl rfl
  refine dr_y hA rfl rfl rfl (by decide) hS (fun w' hS' => rn_indexAddr tbOk hA ix (o10 + ix) rfl rfl rfl rfl rfl rfl (by rfl) (by omega) (by first | rfl | simp [Nat.mul_one, Nat.zero_add] | omega)) ?_; clear hA; intro a hA
  refine dr_y hA rfl rfl rfl (by decide) hS (fun w' hS' => rn_load tbOk hA rfl rfl rfl rfl ((hOh.rd (hS'.own_ 4 rfl)).elem0 (k := ix) encBo_ok hT rfl)) ?_; clear hA; intro a hA
  refine dr_run tbOk 1 hA hS (e' := (82, .bool true) :: _) rfl ?_; clear hA; intro a hA
  refine dr_end ?_
  replace hA := hA.sel [0, 3, 6, 7, 82] (e' := [(0, .pointer (some ⟨b, 0, none⟩)), (3, .pointer (some ⟨b1, 0, none⟩)), (6, .int .i64 ((k : Nat) : Int)), (7, .pointer (some ⟨b7, o8 + (k * 5), none⟩)), (82, .bool true)]) rfl
  refine xt_norm ?_
  refine cd_cond_t hA rfl ?_
  refine wp_seq ?_
  refine wp_region_lit ?_
  refine st_run tbOk 2 hA (e' := (5, .bool false) :: (4, .slice none 0 0) :: _) rfl ?_; clear hA; intro a hA
  refine wpList_nil ?_
  replace hA := hA.sel [4, 5] (e' := [(4, .slice none 0 0), (5, .bool false)]) rfl
  refine xt_norm ?_
  refine wp_ret (xt_ret ?_)
  refine ret2 (fn := Try.f9) hA rfl rfl rfl ?_
  replace hS := hS.front 2 (C := [(b1, rowO [.int .i64 fr, .int .i64 to, .int .u64 id, .int .i64 ((ix : Nat) : Int), .int .i64 ((cn : Nat) : Int), .slice B bs.length d'] 38)]) (L' := [(b, rowO [.slice (some ⟨b7, o8, none⟩) ps.length c] 33)] :: C :: R1 :: Ch :: Cp :: R2 :: D :: F) rfl rfl
  replace hS := hS.drop1
  replace hS := hS.front 6 (C := D) (L' := [(b, rowO [.slice (some ⟨b7, o8, none⟩) ps.length c] 33)] :: C :: R1 :: Ch :: Cp :: R2 :: F) rfl rfl
  replace hS := hS.front 6 (C := R2) (L' := D :: [(b, rowO [.slice (some ⟨b7, o8, none⟩) ps.length c] 33)] :: C :: R1 :: Ch :: Cp :: F) rfl rfl
  replace hS := hS.front 6 (C := Cp) (L' := R2 :: D :: [(b, rowO [.slice (some ⟨b7, o8, none⟩) ps.length c] 33)] :: C :: R1 :: Ch :: F) rfl rfl
  replace hS := hS.front 6 (C := Ch) (L' := Cp :: R2 :: D :: [(b, rowO [.slice (some ⟨b7, o8, none⟩) ps.length c] 33)] :: C :: R1 :: F) rfl rfl
  replace hS := hS.front 6 (C := R1) (L' := Ch :: Cp :: R2 :: D :: [(b, rowO [.slice (some ⟨b7, o8, none⟩) ps.length c] 33)] :: C :: F) rfl rfl
  replace hS := hS.front 6 (C := C) (L' := R1 :: Ch :: Cp :: R2 :: D :: [(b, rowO [.slice (some ⟨b7, o8, none⟩) ps.length c] 33)] :: F) rfl rfl
  replace hS := hS.front 6 (C := [(b, rowO [.slice (some ⟨b7, o8, none⟩) ps.length c] 33)]) (L' := C :: R1 :: Ch :: Cp :: R2 :: D :: F) rfl rfl
  replace hS := hS.front 5 (C := R2) (L' := [(b, rowO [.slice (some ⟨b7, o8, none⟩) ps.length c] 33)] :: C :: R1 :: Ch :: Cp :: D :: F) rfl rfl
  replace hS := hS.front 5 (C := Cp) (L' := R2 :: [(b, rowO [.slice (some ⟨b7, o8, none⟩) ps.length c] 33)] :: C :: R1 :: Ch :: D :: F) rfl rfl
  replace hS := hS.join
  replace hS := hS.front 4 (C := Ch) (L' := (Cp ++ R2) :: [(b, rowO [.slice (some ⟨b7, o8, none⟩) ps.length c] 33)] :: C :: R1 :: D :: F) rfl rfl
  replace hS := hS.join
  replace hS := hS.front 3 (C := R1) (L' := (Ch ++ (Cp ++ R2)) :: [(b, rowO [.slice (some ⟨b7, o8, none⟩) ps.length c] 33)] :: C :: D :: F) rfl rfl
  replace hS := hS.join
  replace hS := hS.front 2 (C := C) (L' := (R1 ++ (Ch ++ (Cp ++ R2))) :: [(b, rowO [.slice (some ⟨b7, o8, none⟩) ps.length c] 33)] :: D :: F) rfl rfl
  replace hS := hS.front 2 (C := [(b, rowO [.slice (some ⟨b7, o8, none⟩) ps.length c] 33)]) (L' := C :: (R1 ++ (Ch ++ (Cp ++ R2))) :: D :: F) rfl rfl
  replace hS := hS.join3
  exact ⟨_, ⟨_, _, _, _, hO, rfl, (by have h8 := PO.put (y := (fr, to, id, (some ⟨b9, o10, none⟩), xc3, has, xA6, xc6, xb6)) hR1 hOh hOp hR2 hkl; rw [set_same hx] at h8; exact h8), hI, hdd, rfl⟩, rfl, hS⟩

set_option maxHeartbeats 4000000 in
theorem add_hit_put9 {w0 w : World} {F : List Chunk} {L D : Chunk} {b : Nat} {vs : List GV} (hS : St w0 w (L :: D :: F)) (hM : GS w0 b vs L D) (fr to id : Int) (ix cn : Nat) {d : Value} {bs : List UInt8} (hd : RdSX w0 (D :: F) 1 d bs.length (rows encB bs)) (h1 : ix < cn) (h2 : cn ≤ 256) (h3 : bs.length ≤ 32768) {k : Nat} {has : List Bool} {dat : List (List UInt8)} (hz : vs[k]? = some (fr, to, id, has, dat)) (hbf : ∀ (i : Nat) (z : GV), i < k → vs[i]? = some z → ¬ vkey fr to id z) (hcn : has.length = cn) (hF : has[ix]? = some false) (hany : (has.set ix true).any (fun y => y == false) = true) :
    Ret Try.prog 9 #[.pointer (some ⟨b, 0, none⟩), .agg #[.int .i64 fr, .int .i64 to, .int .u64 id, .int .i64 ((ix : Nat) : Int), .int .i64 ((cn : Nat) : Int), d]] w (fun v w' => ∃ L' E, GS w0 b (vs.set k (fr, to, id, has.set ix true, dat.set ix bs)) L' (E ++ D) ∧ v = .tuple #[.slice none 0 0, .bool false] ∧ St w0 w' (L' :: (E ++ D) :: F)) := by
  obtain ⟨ps, v, C, R, hO, rfl, hR, hI, hdd, rfl⟩ := hM
  obtain ⟨A, c, rfl, hmc, hcx⟩ := hO.open'
  replace hS : St w0 w ([(b, rowO [.slice A ps.length c] 33)] :: C :: R :: D :: F) := hS.split3
  obtain ⟨B, d', rfl, hmd, hdx⟩ := (hd _ (hS.tail 3 rfl)).open'
  obtain ⟨x, hx, hgx⟩ := map_at' rfl hz
  obtain ⟨xf0, xf1, xf2, xA3, xc3, xb3, xA6, xc6, xb6⟩ := x
  simp only [gv, phas, ppk, Prod.mk.injEq] at hgx
  obtain ⟨g1, g2, g3, g4, g5⟩ := hgx
  have g1 := g1.symm; have g2 := g2.symm; have g3 := g3.symm; have g4 := g4.symm
  subst g1; subst g2; subst g3; subst g4; subst g5
  have hkl := (List.getElem?_eq_some_iff.1 hx).1
  have hPI := hI _ (List.mem_of_getElem? hx)
  have hpl : has.length = xb6.length := hPI.hp
  have hhl : has.length ≤ 256 := hPI.l2
  obtain ⟨R1, Ch, Cp, R2, rfl, hR1, hOh, hOp, hR2⟩ := hR.at hx
  replace hOh : Own 4 1 (.slice xA3 has.length xc3) has.length (rows encBo has) Ch := hOh
  replace hOp : Own 38 6 (.slice xA6 xb6.length xc6) xb6.length (rows encPacket xb6) Cp := hOp
  replace hS := hS.front 2 (C := (R1 ++ (Ch ++ (Cp ++ R2)))) (L' := [(b, rowO [.slice A ps.length c] 33)] :: C :: D :: F) rfl rfl
  replace hS := hS.split
  replace hS := hS.front 1 (C := (Ch ++ (Cp ++ R2))) (L' := R1 :: [(b, rowO [.slice A ps.length c] 33)] :: C :: D :: F) rfl rfl
  replace hS := hS.split
  replace hS := hS.front 1 (C := (Cp ++ R2)) (L' := Ch :: R1 :: [(b, rowO [.slice A ps.length c] 33)] :: C :: D :: F) rfl rfl
  replace hS := hS.split
  replace hS := hS.front 6 (C := D) (L' := Cp :: R2 :: Ch :: R1 :: [(b, rowO [.slice A ps.length c] 33)] :: C :: F) rfl rfl
  replace hS := hS.front 2 (C := R2) (L' := D :: Cp :: Ch :: R1 :: [(b, rowO [.slice A ps.length c] 33)] :: C :: F) rfl rfl
  replace hS := hS.front 2 (C := Cp) (L' := R2 :: D :: Ch :: R1 :: [(b, rowO [.slice A ps.length c] 33)] :: C :: F) rfl rfl
  replace hS := hS.front 3 (C := Ch) (L' := Cp :: R2 :: D :: R1 :: [(b, rowO [.slice A ps.length c] 33)] :: C :: F) rfl rfl
  replace hS := hS.front 4 (C := R1) (L' := Ch :: Cp :: R2 :: D :: [(b, rowO [.slice A ps.length c] 33)] :: C :: F) rfl rfl
  replace hS := hS.front 6 (C := C) (L' := R1 :: Ch :: Cp :: R2 :: D :: [(b, rowO [.slice A ps.length c] 33)] :: F) rfl rfl
  replace hS := hS.front 6 (C := [(b, rowO [.slice A ps.length c] 33)]) (L' := C :: R1 :: Ch :: Cp :: R2 :: D :: F) rfl rfl
  refine enter (vs := [.pointer (some ⟨b, 0, none⟩), .agg #[.int .i64 fr, .int .i64 to, .int .u64 id, .int .i64 ((ix : Nat) : Int), .int .i64 ((cn : Nat) : Int), .slice B bs.length d']]) 137 Try.func9 rfl rfl (by simp) ?_; intro a hA
  refine wp_seq ?_
  refine wp_region_lit ?_
  refine st_box hA hS [.int .i64 fr, .int .i64 to, .int .u64 id, .int .i64 ((ix : Nat) : Int), .int .i64 ((cn : Nat) : Int), .slice B bs.length d'] rfl rfl rfl rfl rfl (by decide) ?_; clear hA hS; intro b1 w2 a hS hA
  refine st_run tbOk 2 hA (e' := (5, .bool false) :: (4, .slice none 0 0) :: _) rfl ?_; clear hA; intro a hA
  refine wpList_nil ?_
  replace hA := hA.sel [0, 3] (e' := [(0, .pointer (some ⟨b, 0, none⟩)), (3, .pointer (some ⟨b1, 0, none⟩))]) rfl
  refine xt_norm ?_
  refine wp_seq ?_
  refine wp_seq ?_
  refine wp_region_lit ?_
  refine st_val hA rfl rfl (by decide) (rn_loadA tbOk hA [.int .i64 fr, .int .i64 to, .int .u64 id, .int .i64 ((ix : Nat) : Int), .int .i64 ((cn : Nat) : Int), .slice B bs.length d'] rfl rfl rfl rfl rfl (cells_row (hS.heapAt 0 rfl) rfl)) ?_; clear hA; intro a hA
  refine st_call0 hA rfl rfl rfl isfn12 rfl rfl (by decide) (may12 hS fr to id ((ix : Nat) : Int) ((cn : Nat) : Int) B d' bs) ?_
  clear hA hS; rintro v w3 a ⟨rfl, hS⟩ hA
  have hc4 : 1 ≤ ((cn : Nat) : Int) ∧ ((cn : Nat) : Int) ≤ 256 ∧ 0 ≤ ((ix : Nat) : Int) ∧ ((ix : Nat) : Int) < ((cn : Nat) : Int) ∧ bs.length ≤ 32768 := by omega
  replace hA := hA.rw 11 (v' := .bool true) rfl (vb_true hc4)
  refine st_run tbOk 1 hA (e' := (12, .bool false) :: _) rfl ?_; clear hA; intro a hA
  refine wpList_nil ?_
  replace hA := hA.sel [0, 3, 12] (e' := [(0, .pointer (some ⟨b, 0, none⟩)), (3, .pointer (some ⟨b1, 0, none⟩)), (12, .bool false)]) rfl
  refine xt_norm ?_
  refine cd_cond_f hA rfl ?_
  refine wp_skip ?_
  refine xt_norm ?_
  refine wp_seq ?_
  refine wp_region_lit ?_
  refine st_run tbOk 1 hA (e' := (13, .pointer (some ⟨b, 0, none⟩)) :: _) rfl ?_; clear hA; intro a hA
  refine st_val hA rfl rfl (by decide) (rn_loadA tbOk hA [.int .i64 fr, .int .i64 to, .int .u64 id, .int .i64 ((ix : Nat) : Int), .int .i64 ((cn : Nat) : Int), .slice B bs.length d'] rfl rfl rfl rfl rfl (cells_row (hS.heapAt 0 rfl) rfl)) ?_; clear hA; intro a hA
  replace hS := hS.front 2 (C := C) (L' := [(b1, rowO [.int .i64 fr, .int .i64 to, .int .u64 id, .int .i64 ((ix : Nat) : Int), .int .i64 ((cn : Nat) : Int), .slice B bs.length d'] 38)] :: [(b, rowO [.slice A ps.length c] 33)] :: R1 :: Ch :: Cp :: R2 :: D :: F) rfl rfl
  replace hS := hS.front 2 (C := [(b, rowO [.slice A ps.length c] 33)]) (L' := C :: [(b1, rowO [.int .i64 fr, .int .i64 to, .int .u64 id, .int .i64 ((ix : Nat) : Int), .int .i64 ((cn : Nat) : Int), .slice B bs.length d'] 38)] :: R1 :: Ch :: Cp :: R2 :: D :: F) rfl rfl
  refine st_call0 hA rfl rfl rfl isfn14 rfl rfl (by decide) (find14 hS hO fr to id _ _ _) ?_
  clear hA hS; rintro v w5 a ⟨rfl, hS⟩ hA
  have hix := idx_some (p := fun x => gkey fr to id x) hx (by simp [gkey]) (gkey_no hbf)
  replace hA := hA.rw 15 (v' := .int .i64 ((k : Nat) : Int)) rfl (vint hix)
  replace hS := hS.front 7 (C := D) (L' := [(b, rowO [.slice A ps.length c] 33)] :: C :: [(b1, rowO [.int .i64 fr, .int .i64 to, .int .u64 id, .int .i64 ((ix : Nat) : Int), .int .i64 ((cn : Nat) : Int), .slice B bs.length d'] 38)] :: R1 :: Ch :: Cp :: R2 :: F) rfl rfl
  replace hS := hS.front 7 (C := R2) (L' := D :: [(b, rowO [.slice A ps.length c] 33)] :: C :: [(b1, rowO [.int .i64 fr, .int .i64 to, .int .u64 id, .int .i64 ((ix : Nat) : Int), .int .i64 ((cn : Nat) : Int), .slice B bs.length d'] 38)] :: R1 :: Ch :: Cp :: F) rfl rfl
  replace hS := hS.front 7 (C := Cp) (L' := R2 :: D :: [(b, rowO [.slice A ps.length c] 33)] :: C :: [(b1, rowO [.int .i64 fr, .int .i64 to, .int .u64 id, .int .i64 ((ix : Nat) : Int), .int .i64 ((cn : Nat) : Int), .slice B bs.length d'] 38)] :: R1 :: Ch :: F) rfl rfl
  replace hS := hS.front 7 (C := Ch) (L' := Cp :: R2 :: D :: [(b, rowO [.slice A ps.length c] 33)] :: C :: [(b1, rowO [.int .i64 fr, .int .i64 to, .int .u64 id, .int .i64 ((ix : Nat) : Int), .int .i64 ((cn : Nat) : Int), .slice B bs.length d'] 38)] :: R1 :: F) rfl rfl
  replace hS := hS.front 7 (C := R1) (L' := Ch :: Cp :: R2 :: D :: [(b, rowO [.slice A ps.length c] 33)] :: C :: [(b1, rowO [.int .i64 fr, .int .i64 to, .int .u64 id, .int .i64 ((ix : Nat) : Int), .int .i64 ((cn : Nat) : Int), .slice B bs.length d'] 38)] :: F) rfl rfl
  replace hS := hS.front 7 (C := [(b1, rowO [.int .i64 fr, .int .i64 to, .int .u64 id, .int .i64 ((ix : Nat) : Int), .int .i64 ((cn : Nat) : Int), .slice B bs.length d'] 38)]) (L' := R1 :: Ch :: Cp :: R2 :: D :: [(b, rowO [.slice A ps.length c] 33)] :: C :: F) rfl rfl
  replace hS := hS.front 7 (C := C) (L' := [(b1, rowO [.int .i64 fr, .int .i64 to, .int .u64 id, .int .i64 ((ix : Nat) : Int), .int .i64 ((cn : Nat) : Int), .slice B bs.length d'] 38)] :: R1 :: Ch :: Cp :: R2 :: D :: [(b, rowO [.slice A ps.length c] 33)] :: F) rfl rfl
  replace hS := hS.front 7 (C := [(b, rowO [.slice A ps.length c] 33)]) (L' := C :: [(b1, rowO [.int .i64 fr, .int .i64 to, .int .u64 id, .int .i64 ((ix : Nat) : Int), .int .i64 ((cn : Nat) : Int), .slice B bs.length d'] 38)] :: R1 :: Ch :: Cp :: R2 :: D :: F) rfl rfl
  refine st_run tbOk 1 hA (e' := (6, .int .i64 ((k : Nat) : Int)) :: _) rfl ?_; clear hA; intro a hA
  refine wpList_nil ?_
  replace hA := hA.sel [0, 3, 6] (e' := [(0, .pointer (some ⟨b, 0, none⟩)), (3, .pointer (some ⟨b1, 0, none⟩)), (6, .int .i64 ((k : Nat) : Int))]) rfl
  refine xt_norm ?_
  refine wp_seq ?_
  refine wp_seq ?_
  refine wp_region_lit ?_
  refine st_run tbOk 2 hA (e' := (17, .bool (decide (((k : Nat) : Int) < 0))) :: (16, .int .i64 ((k : Nat) : Int)) :: _) rfl ?_; clear hA; intro a hA
  refine wpList_nil ?_
  replace hA := hA.sel [0, 3, 6, 17] (e' := [(0, .pointer (some ⟨b, 0, none⟩)), (3, .pointer (some ⟨b1, 0, none⟩)), (6, .int .i64 ((k : Nat) : Int)), (17, .bool (decide (((k : Nat) : Int) < 0)))]) rfl
  refine xt_norm ?_
  have hc6 : ¬ (((k : Nat) : Int) < 0) := by omega
  replace hA := hA.rw 17 (v' := .bool false) rfl (vb_false hc6)
  refine cd_cond_f hA rfl ?_
  refine wp_skip ?_
  refine xt_norm ?_
  refine wp_seq ?_
  refine wp_region_lit ?_
  refine st_run tbOk 3 hA (e' := (61, .pointer (some ⟨b, 0, none⟩)) :: (60, .pointer (some ⟨b, 0, none⟩)) :: (59, .pointer (some ⟨b, 0, none⟩)) :: _) rfl ?_; clear hA; intro a hA
  refine st_val hA rfl rfl (by decide) (rn_load tbOk hA rfl rfl rfl rfl (cell_row (hS.heapAt 0 rfl) rfl)) ?_; clear hA; intro a hA
  refine st_run tbOk 1 hA (e' := (63, .int .i64 ((k : Nat) : Int)) :: _) rfl ?_; clear hA; intro a hA
  obtain ⟨b7, o8, rfl⟩ := hO.isSome (k := k) (by omega)
  refine st_val hA rfl rfl (by decide) (rn_indexAddr tbOk hA k (o8 + (k * 5)) rfl rfl rfl rfl rfl rfl (by rfl) (by omega) (by first | rfl | simp [Nat.mul_one, Nat.zero_add] | omega)) ?_; clear hA; intro a hA
  refine st_run tbOk 1 hA (e' := (7, .pointer (some ⟨b7, o8 + (k * 5), none⟩)) :: _) rfl ?_; clear hA; intro a hA
  refine wpList_nil ?_
  replace hA := hA.sel [0, 3, 6, 7] (e' := [(0, .pointer (some ⟨b, 0, none⟩)), (3, .pointer (some ⟨b1, 0, none⟩)), (6, .int .i64 ((k : Nat) : Int)), (7, .pointer (some ⟨b7, o8 + (k * 5), none⟩))]) rfl
  refine xt_norm ?_
  refine wp_seq ?_
  refine wp_seq ?_
  obtain ⟨b9, o10, rfl⟩ := hOh.isSome (k := ix) (by omega)
  refine wp_draw (fun w' => St w0 w' ([(b, rowO [.slice (some ⟨b7, o8, none⟩) ps.length c] 33)] :: C :: [(b1, rowO [.int .i64 fr, .int .i64 to, .int .u64 id, .int .i64 ((ix : Nat) : Int), .int .i64 ((cn : Nat) : Int), .slice B bs.length d'] 38)] :: R1 :: Ch :: Cp :: R2 :: D :: F)) [] [(0, true), (1, true), (2, true), (3, true), (4, true), (5, true), (6, true), (7, true), (8, true), (9, true), (10, true), (11, true), (12, true), (13, true), (14, true), (15, true), (16, true), (17, true)] mixed (by kernel_rfl) (by rintro c a w ⟨_, _, h, _⟩; cases h) (by rfl) (by kernel_rfl) ?_
  replace hS := hS.drew
  refine dr_run tbOk 3 hA hS (e' := (67, .pointer (some ⟨b7, o8 + (k * 5) + 3, none⟩)) :: (66, .pointer (some ⟨b7, o8 + (k * 5), none⟩)) :: (65, .pointer (some ⟨b7, o8 + (k * 5), none⟩)) :: _) rfl ?_; clear hA; intro a hA
  refine dr_y hA rfl rfl rfl (by decide) hS (fun w' hS' => rn_load tbOk hA rfl rfl rfl rfl ((hO.rd (hS'.own_ 1 rfl)).elemf (k := k) encPart_ok hx (j := 3) rfl)) ?_; clear hA; intro a hA
  refine dr_run tbOk 2 hA hS (e' := (70, .pointer (some ⟨b1, 4, none⟩)) :: (69, .int .i64 ((has.length : Nat) : Int)) :: _) rfl ?_; clear hA; intro a hA
  refine dr_y hA rfl rfl rfl (by decide) hS (fun w' hS' => rn_load tbOk hA rfl rfl rfl rfl (cell_row (hS'.heapAt 2 rfl) rfl)) ?_; clear hA; intro a hA
  refine dr_run tbOk 2 hA hS (e' := (73, .bool (((has.length : Nat) : Int) != ((cn : Nat) : Int))) :: (72, .bool (((has.length : Nat) : Int) != ((cn : Nat) : Int))) :: _) rfl ?_; clear hA; intro a hA
  have hc11 : ((has.length : Nat) : Int) = ((cn : Nat) : Int) := by omega
  replace hA := hA.rw 72 (v' := .bool false) rfl (vb_ne_f hc11)
  replace hA := hA.rw 73 (v' := .bool false) rfl (vb_ne_f hc11)
  refine dr_run tbOk 3 hA hS (e' := (76, .pointer (some ⟨b7, o8 + (k * 5) + 3, none⟩)) :: (75, .pointer (some ⟨b7, o8 + (k * 5), none⟩)) :: (74, .pointer (some ⟨b7, o8 + (k * 5), none⟩)) :: _) rfl ?_; clear hA; intro a hA
  refine dr_y hA rfl rfl rfl (by decide) hS (fun w' hS' => rn_load tbOk hA rfl rfl rfl rfl ((hO.rd (hS'.own_ 1 rfl)).elemf (k := k) encPart_ok hx (j := 3) rfl)) ?_; clear hA; intro a hA
  refine dr_run tbOk 1 hA hS (e' := (78, .pointer (some ⟨b1, 3, none⟩)) :: _) rfl ?_; clear hA; intro a hA
  refine dr_y hA rfl rfl rfl (by decide) hS (fun w' hS' => rn_load tbOk hA rfl rfl rfl rfl (cell_row (hS'.heapAt 2 rfl) rfl)) ?_; clear hA; intro a hA
  replace hA := hA.rw 77 (v' := .slice (some ⟨b9, o10, none⟩) has.length xc3) rfl rfl
  refine dr_y hA rfl rfl rfl (by decide) hS (fun w' hS' => rn_indexAddr tbOk hA ix (o10 + ix) rfl rfl rfl rfl rfl rfl (by rfl) (by omega) (by first | rfl | simp [Nat.mul_one, Nat.zero_add] | omega)) ?_; clear hA; intro a hA
  refine dr_y hA rfl rfl rfl (by decide) hS (fun w' hS' => rn_load tbOk hA rfl rfl rfl rfl ((hOh.rd (hS'.own_ 4 rfl)).elem0 (k := ix) encBo_ok hF rfl)) ?_; clear hA; intro a hA
  refine dr_run tbOk 1 hA hS (e' := (82, .bool false) :: _) rfl ?_; clear hA; intro a hA
  refine dr_end ?_
  replace hA := hA.sel [0, 3, 6, 7, 82] (e' := [(0, .pointer (some ⟨b, 0, none⟩)), (3, .pointer (some ⟨b1, 0, none⟩)), (6, .int .i64 ((k : Nat) : Int)), (7, .pointer (some ⟨b7, o8 + (k * 5), none⟩)), (82, .bool false)]) rfl
  refine xt_norm ?_
  refine cd_cond_f hA rfl ?_
  refine wp_skip ?_
  refine xt_norm ?_
  refine wp_seq ?_
  replace hS := hS.front 4 (C := Ch) (L' := [(b, rowO [.slice (some ⟨b7, o8, none⟩) ps.length c] 33)] :: C :: [(b1, rowO [.int .i64 fr, .int .i64 to, .int .u64 id, .int .i64 ((ix : Nat) : Int), .int .i64 ((cn : Nat) : Int), .slice B bs.length d'] 38)] :: R1 :: Cp :: R2 :: D :: F) rfl rfl
  refine wp_draw (fun w' => St w0 w' ([(b, rowO [.slice (some ⟨b7, o8, none⟩) ps.length c] 33)] :: C :: [(b1, rowO [.int .i64 fr, .int .i64 to, .int .u64 id, .int .i64 ((ix : Nat) : Int), .int .i64 ((cn : Nat) : Int), .slice B bs.length d'] 38)] :: R1 :: Cp :: R2 :: D :: F)) [7] [(0, true), (1, true), (2, true), (3, true), (4, true), (5, true), (6, true), (7, false)] mixed (by kernel_rfl) (by rintro c a w ⟨_, _, h, _⟩; cases h) (by rfl) (by kernel_rfl) ?_
  replace hS := hS.drew
  refine dr_run tbOk 3 hA (hS.tail 1 rfl) (e' := (85, .pointer (some ⟨b7, o8 + (k * 5) + 3, none⟩)) :: (84, .pointer (some ⟨b7, o8 + (k * 5), none⟩)) :: (83, .pointer (some ⟨b7, o8 + (k * 5), none⟩)) :: _) rfl ?_; clear hA; intro a hA
  refine dr_y hA rfl rfl rfl (by decide) (hS.tail 1 rfl) (fun w' hS' => rn_load tbOk hA rfl rfl rfl rfl ((hO.rd (hS'.own_ 1 rfl)).elemf (k := k) encPart_ok hx (j := 3) rfl)) ?_; clear hA; intro a hA
  refine dr_run tbOk 1 hA (hS.tail 1 rfl) (e' := (87, .pointer (some ⟨b1, 3, none⟩)) :: _) rfl ?_; clear hA; intro a hA
  refine dr_y hA rfl rfl rfl (by decide) (hS.tail 1 rfl) (fun w' hS' => rn_load tbOk hA rfl rfl rfl rfl (cell_row (hS'.heapAt 2 rfl) rfl)) ?_; clear hA; intro a hA
  replace hA := hA.rw 86 (v' := .slice (some ⟨b9, o10, none⟩) has.length xc3) rfl rfl
  refine dr_y hA rfl rfl rfl (by decide) (hS.tail 1 rfl) (fun w' hS' => rn_indexAddr tbOk hA ix (o10 + ix) rfl rfl rfl rfl rfl rfl (by rfl) (by omega) (by first | rfl | simp [Nat.mul_one, Nat.zero_add] | omega)) ?_; clear hA; intro a hA
  refine dr_b (o := _) rfl ?_
  refine st_store_own tbOk hA hOh hS (ix) (o10 + ix) [.bool true] (rows encBo (has.set ix true)) rfl rfl rfl rfl (by rfl) rfl rfl (by intro u hu; rw [List.mem_singleton.1 hu]; rfl) (by simp only [rows_length encBo_ok, rows_length encPacket_ok, List.length_cons, List.length_nil]; omega) (by have := rows_set encBo_ok (x := true) (l := has) (k := ix) (by omega); rw [Nat.mul_one] at this; exact this) rfl rfl ?_; clear hS; intro w12 C13 hO13 hS
  refine dr_nil (.inl (by decide)) ?_
  refine dr_end ?_
  replace hA := hA.sel [0, 3, 6, 7] (e' := [(0, .pointer (some ⟨b, 0, none⟩)), (3, .pointer (some ⟨b1, 0, none⟩)), (6, .int .i64 ((k : Nat) : Int)), (7, .pointer (some ⟨b7, o8 + (k * 5), none⟩))]) rfl
  refine xt_norm ?_
  refine wp_seq ?_
  obtain ⟨b14, o15, rfl⟩ := hOp.isSome (k := ix) (by omega)
  replace hS := hS.front 5 (C := Cp) (L' := C13 :: [(b, rowO [.slice (some ⟨b7, o8, none⟩) ps.length c] 33)] :: C :: [(b1, rowO [.int .i64 fr, .int .i64 to, .int .u64 id, .int .i64 ((ix : Nat) : Int), .int .i64 ((cn : Nat) : Int), .slice B bs.length d'] 38)] :: R1 :: R2 :: D :: F) rfl rfl
  refine wp_draw (fun w' => St w0 w' (C13 :: [(b, rowO [.slice (some ⟨b7, o8, none⟩) ps.length c] 33)] :: C :: [(b1, rowO [.int .i64 fr, .int .i64 to, .int .u64 id, .int .i64 ((ix : Nat) : Int), .int .i64 ((cn : Nat) : Int), .slice B bs.length d'] 38)] :: R1 :: R2 :: D :: F)) [21] [(0, true), (1, true), (2, true), (3, true), (4, true), (5, true), (6, true), (7, true), (8, true), (9, true), (10, true), (11, true), (12, true), (13, true), (14, true), (15, true), (16, true), (17, true), (18, false), (19, true), (20, true), (21, false)] mixed (by kernel_rfl) (by rintro c a w ⟨_, _, h, _⟩; cases h) (by rfl) (by kernel_rfl) ?_
  replace hS := hS.drew
  refine dr_run tbOk 3 hA (hS.tail 1 rfl) (e' := (92, .pointer (some ⟨b7, o8 + (k * 5) + 4, none⟩)) :: (91, .pointer (some ⟨b7, o8 + (k * 5), none⟩)) :: (90, .pointer (some ⟨b7, o8 + (k * 5), none⟩)) :: _) rfl ?_; clear hA; intro a hA
  refine dr_y hA rfl rfl rfl (by decide) (hS.tail 1 rfl) (fun w' hS' => rn_load tbOk hA rfl rfl rfl rfl ((hO.rd (hS'.own_ 2 rfl)).elemf (k := k) encPart_ok hx (j := 4) rfl)) ?_; clear hA; intro a hA
  refine dr_run tbOk 1 hA (hS.tail 1 rfl) (e' := (94, .pointer (some ⟨b1, 3, none⟩)) :: _) rfl ?_; clear hA; intro a hA
  refine dr_y hA rfl rfl rfl (by decide) (hS.tail 1 rfl) (fun w' hS' => rn_load tbOk hA rfl rfl rfl rfl (cell_row (hS'.heapAt 3 rfl) rfl)) ?_; clear hA; intro a hA
  refine dr_run tbOk 1 hA (hS.tail 1 rfl) (e' := (96, .pointer (some ⟨b1, 0, none⟩)) :: _) rfl ?_; clear hA; intro a hA
  refine dr_y hA rfl rfl rfl (by decide) (hS.tail 1 rfl) (fun w' hS' => rn_load tbOk hA rfl rfl rfl rfl (cell_row (hS'.heapAt 3 rfl) rfl)) ?_; clear hA; intro a hA
  refine dr_run tbOk 1 hA (hS.tail 1 rfl) (e' := (98, .pointer (some ⟨b1, 1, none⟩)) :: _) rfl ?_; clear hA; intro a hA
  refine dr_y hA rfl rfl rfl (by decide) (hS.tail 1 rfl) (fun w' hS' => rn_load tbOk hA rfl rfl rfl rfl (cell_row (hS'.heapAt 3 rfl) rfl)) ?_; clear hA; intro a hA
  refine dr_run tbOk 1 hA (hS.tail 1 rfl) (e' := (100, .pointer (some ⟨b1, 2, none⟩)) :: _) rfl ?_; clear hA; intro a hA
  refine dr_y hA rfl rfl rfl (by decide) (hS.tail 1 rfl) (fun w' hS' => rn_load tbOk hA rfl rfl rfl rfl (cell_row (hS'.heapAt 3 rfl) rfl)) ?_; clear hA; intro a hA
  refine dr_run tbOk 1 hA (hS.tail 1 rfl) (e' := (102, .pointer (some ⟨b1, 3, none⟩)) :: _) rfl ?_; clear hA; intro a hA
  refine dr_y hA rfl rfl rfl (by decide) (hS.tail 1 rfl) (fun w' hS' => rn_load tbOk hA rfl rfl rfl rfl (cell_row (hS'.heapAt 3 rfl) rfl)) ?_; clear hA; intro a hA
  refine dr_run tbOk 1 hA (hS.tail 1 rfl) (e' := (104, .pointer (some ⟨b1, 4, none⟩)) :: _) rfl ?_; clear hA; intro a hA
  refine dr_y hA rfl rfl rfl (by decide) (hS.tail 1 rfl) (fun w' hS' => rn_load tbOk hA rfl rfl rfl rfl (cell_row (hS'.heapAt 3 rfl) rfl)) ?_; clear hA; intro a hA
  refine dr_run tbOk 1 hA (hS.tail 1 rfl) (e' := (106, .pointer (some ⟨b1, 5, none⟩)) :: _) rfl ?_; clear hA; intro a hA
  refine dr_y hA rfl rfl rfl (by decide) (hS.tail 1 rfl) (fun w' hS' => rn_load tbOk hA rfl rfl rfl rfl (cell_row (hS'.heapAt 3 rfl) rfl)) ?_; clear hA; intro a hA
  refine dr_b (o := _) rfl ?_
  refine st_call0 hA rfl rfl rfl isfn16 rfl rfl (by decide) (clonex16 hS (l := bs) (fun w' h => (hd _ (h.tail 7 rfl))) (by first | omega | (simp; omega))) ?_
  clear hA hS; rintro _ w19 a ⟨A16, c17, C18, hOC18, rfl, hS⟩ hA
  refine dr_nil (.inr (hS.tail 2 rfl)) ?_
  refine dr_y hA rfl rfl rfl (by decide) (hS.tail 2 rfl) (fun w' hS' => rn_build tbOk hA rfl rfl rfl rfl rfl rfl rfl) ?_; clear hA; intro a hA
  replace hA := hA.rw 93 (v' := .slice (some ⟨b14, o15, none⟩) xb6.length xc6) rfl rfl
  refine dr_y hA rfl rfl rfl (by decide) (hS.tail 2 rfl) (fun w' hS' => rn_indexAddr tbOk hA ix (o15 + (ix * 6)) rfl rfl rfl rfl rfl rfl (by rfl) (by omega) (by first | rfl | simp [Nat.mul_one, Nat.zero_add] | omega)) ?_; clear hA; intro a hA
  refine dr_b (o := _) rfl ?_
  replace hS := hS.front 1 (C := Cp) (L' := C18 :: C13 :: [(b, rowO [.slice (some ⟨b7, o8, none⟩) ps.length c] 33)] :: C :: [(b1, rowO [.int .i64 fr, .int .i64 to, .int .u64 id, .int .i64 ((ix : Nat) : Int), .int .i64 ((cn : Nat) : Int), .slice B bs.length d'] 38)] :: R1 :: R2 :: D :: F) rfl rfl
  refine st_store_own tbOk hA hOp hS ((ix * 6)) (o15 + (ix * 6)) [.int .i64 fr, .int .i64 to, .int .u64 id, .int .i64 ((ix : Nat) : Int), .int .i64 ((cn : Nat) : Int), .slice A16 bs.length c17] (rows encPacket (xb6.set ix (fr, to, id, ((ix : Nat) : Int), ((cn : Nat) : Int), A16, c17, bs))) rfl rfl rfl rfl (by rfl) rfl rfl (by exact encPacket_ok.one (fr, to, id, ((ix : Nat) : Int), ((cn : Nat) : Int), A16, c17, bs)) (by simp only [rows_length encBo_ok, rows_length encPacket_ok, List.length_cons, List.length_nil]; omega) (rows_set encPacket_ok (x := (fr, to, id, ((ix : Nat) : Int), ((cn : Nat) : Int), A16, c17, bs)) (l := xb6) (k := ix) (by omega)) rfl rfl ?_; clear hS; intro w20 C21 hO21 hS
  refine dr_nil (.inl (by decide)) ?_
  refine dr_end ?_
  replace hA := hA.sel [0, 6, 7] (e' := [(0, .pointer (some ⟨b, 0, none⟩)), (6, .int .i64 ((k : Nat) : Int)), (7, .pointer (some ⟨b7, o8 + (k * 5), none⟩))]) rfl
  refine xt_norm ?_
  refine wp_seq ?_
  refine wp_seq ?_
  refine wp_region_lit ?_
  refine st_run tbOk 3 hA (e' := (113, .pointer (some ⟨b7, o8 + (k * 5) + 3, none⟩)) :: (112, .pointer (some ⟨b7, o8 + (k * 5), none⟩)) :: (111, .pointer (some ⟨b7, o8 + (k * 5), none⟩)) :: _) rfl ?_; clear hA; intro a hA
  refine st_val hA rfl rfl (by decide) (rn_load tbOk hA rfl rfl rfl rfl ((hO.rd (hS.own_ 4 rfl)).elemf (k := k) encPart_ok hx (j := 3) rfl)) ?_; clear hA; intro a hA
  have hOh2 : Own 4 1 (.slice (some ⟨b9, o10, none⟩) (has.set ix true).length xc3) (has.set ix true).length (rows encBo (has.set ix true)) C13 := by rw [List.length_set]; exact hO13
  replace hA := hA.rw 114 (v' := .slice (some ⟨b9, o10, none⟩) ((has.set ix true).length) xc3) rfl (by rw [List.length_set])
  refine st_call0 hA rfl rfl rfl isfn17 rfl rfl (by decide) (containsb17 hS (l := has.set ix true) (RdS.own hOh2 2 rfl)) ?_
  clear hA hS; rintro v w22 a ⟨rfl, hS⟩ hA
  replace hA := hA.rw 115 (v' := .bool true) rfl (congrArg Value.bool hany)
  refine wpList_nil ?_
  replace hA := hA.sel [0, 6, 7, 115] (e' := [(0, .pointer (some ⟨b, 0, none⟩)), (6, .int .i64 ((k : Nat) : Int)), (7, .pointer (some ⟨b7, o8 + (k * 5), none⟩)), (115, .bool true)]) rfl
  refine xt_norm ?_
  refine cd_cond_t hA rfl ?_
  refine wp_seq ?_
  refine wp_region_lit ?_
  refine st_run tbOk 2 hA (e' := (5, .bool false) :: (4, .slice none 0 0) :: _) rfl ?_; clear hA; intro a hA
  refine wpList_nil ?_
  replace hA := hA.sel [4, 5] (e' := [(4, .slice none 0 0), (5, .bool false)]) rfl
  refine xt_norm ?_
  refine wp_ret (xt_ret ?_)
  refine ret2 (fn := Try.f9) hA rfl rfl rfl ?_
  have hOp2 : Own 38 6 (.slice (some ⟨b14, o15, none⟩) (xb6.set ix (fr, to, id, ((ix : Nat) : Int), ((cn : Nat) : Int), A16, c17, bs)).length xc6) (xb6.set ix (fr, to, id, ((ix : Nat) : Int), ((cn : Nat) : Int), A16, c17, bs)).length (rows encPacket (xb6.set ix (fr, to, id, ((ix : Nat) : Int), ((cn : Nat) : Int), A16, c17, bs))) C21 := by rw [List.length_set]; exact hO21
  replace hS := hS.front 8 (C := D) (L' := C21 :: C18 :: C13 :: [(b, rowO [.slice (some ⟨b7, o8, none⟩) ps.length c] 33)] :: C :: [(b1, rowO [.int .i64 fr, .int .i64 to, .int .u64 id, .int .i64 ((ix : Nat) : Int), .int .i64 ((cn : Nat) : Int), .slice B bs.length d'] 38)] :: R1 :: R2 :: F) rfl rfl
  replace hS := hS.front 2 (C := C18) (L' := D :: C21 :: C13 :: [(b, rowO [.slice (some ⟨b7, o8, none⟩) ps.length c] 33)] :: C :: [(b1, rowO [.int .i64 fr, .int .i64 to, .int .u64 id, .int .i64 ((ix : Nat) : Int), .int .i64 ((cn : Nat) : Int), .slice B bs.length d'] 38)] :: R1 :: R2 :: F) rfl rfl
  replace hS := hS.join
  have hdE := (DD.new (w0 := w0) hOC18).right (E := D)
  have hPI2 : PI (fr, to, id, (some ⟨b9, o10, none⟩), xc3, has.set ix true, (some ⟨b14, o15, none⟩), xc6, xb6.set ix (fr, to, id, ((ix : Nat) : Int), ((cn : Nat) : Int), A16, c17, bs)) := hPI.put (by omega) (by omega) (by omega) _ _
  have hpd : ∀ y ∈ xb6.set ix (fr, to, id, ((ix : Nat) : Int), ((cn : Nat) : Int), A16, c17, bs), encPacket_dd w0 (C18 ++ D) y := fun y hy => (List.mem_or_eq_of_mem_set hy).elim (fun hy => encPacket_left ((hdd _ (List.mem_of_getElem? hx)) y hy)) (fun e => by rw [e]; exact hdE)
  replace hS := hS.front 5 (C := [(b1, rowO [.int .i64 fr, .int .i64 to, .int .u64 id, .int .i64 ((ix : Nat) : Int), .int .i64 ((cn : Nat) : Int), .slice B bs.length d'] 38)]) (L' := (C18 ++ D) :: C21 :: C13 :: [(b, rowO [.slice (some ⟨b7, o8, none⟩) ps.length c] 33)] :: C :: R1 :: R2 :: F) rfl rfl
  replace hS := hS.drop1
  replace hS := hS.front 6 (C := R2) (L' := (C18 ++ D) :: C21 :: C13 :: [(b, rowO [.slice (some ⟨b7, o8, none⟩) ps.length c] 33)] :: C :: R1 :: F) rfl rfl
  replace hS := hS.front 2 (C := C21) (L' := R2 :: (C18 ++ D) :: C13 :: [(b, rowO [.slice (some ⟨b7, o8, none⟩) ps.length c] 33)] :: C :: R1 :: F) rfl rfl
  replace hS := hS.front 3 (C := C13) (L' := C21 :: R2 :: (C18 ++ D) :: [(b, rowO [.slice (some ⟨b7, o8, none⟩) ps.length c] 33)] :: C :: R1 :: F) rfl rfl
  replace hS := hS.front 6 (C := R1) (L' := C13 :: C21 :: R2 :: (C18 ++ D) :: [(b, rowO [.slice (some ⟨b7, o8, none⟩) ps.length c] 33)] :: C :: F) rfl rfl
  replace hS := hS.front 6 (C := C) (L' := R1 :: C13 :: C21 :: R2 :: (C18 ++ D) :: [(b, rowO [.slice (some ⟨b7, o8, none⟩) ps.length c] 33)] :: F) rfl rfl
  replace hS := hS.front 6 (C := [(b, rowO [.slice (some ⟨b7, o8, none⟩) ps.length c] 33)]) (L' := C :: R1 :: C13 :: C21 :: R2 :: (C18 ++ D) :: F) rfl rfl
  replace hS := hS.front 5 (C := R2) (L' := [(b, rowO [.slice (some ⟨b7, o8, none⟩) ps.length c] 33)] :: C :: R1 :: C13 :: C21 :: (C18 ++ D) :: F) rfl rfl
  replace hS := hS.front 5 (C := C21) (L' := R2 :: [(b, rowO [.slice (some ⟨b7, o8, none⟩) ps.length c] 33)] :: C :: R1 :: C13 :: (C18 ++ D) :: F) rfl rfl
  replace hS := hS.join
  replace hS := hS.front 4 (C := C13) (L' := (C21 ++ R2) :: [(b, rowO [.slice (some ⟨b7, o8, none⟩) ps.length c] 33)] :: C :: R1 :: (C18 ++ D) :: F) rfl rfl
  replace hS := hS.join
  replace hS := hS.front 3 (C := R1) (L' := (C13 ++ (C21 ++ R2)) :: [(b, rowO [.slice (some ⟨b7, o8, none⟩) ps.length c] 33)] :: C :: (C18 ++ D) :: F) rfl rfl
  replace hS := hS.join
  replace hS := hS.front 2 (C := C) (L' := (R1 ++ (C13 ++ (C21 ++ R2))) :: [(b, rowO [.slice (some ⟨b7, o8, none⟩) ps.length c] 33)] :: (C18 ++ D) :: F) rfl rfl
  replace hS := hS.front 2 (C := [(b, rowO [.slice (some ⟨b7, o8, none⟩) ps.length c] 33)]) (L' := C :: (R1 ++ (C13 ++ (C21 ++ R2))) :: (C18 ++ D) :: F) rfl rfl
  replace hS := hS.join3
  have hOO : Own 55 5 (.slice (some ⟨b7, o8, none⟩) (ps).length c) ((ps).set k (fr, to, id, (some ⟨b9, o10, none⟩), xc3, has.set ix true, (some ⟨b14, o15, none⟩), xc6, xb6.set ix (fr, to, id, ((ix : Nat) : Int), ((cn : Nat) : Int), A16, c17, bs))).length (rows encPart ((ps).set k (fr, to, id, (some ⟨b9, o10, none⟩), xc3, has.set ix true, (some ⟨b14, o15, none⟩), xc6, xb6.set ix (fr, to, id, ((ix : Nat) : Int), ((cn : Nat) : Int), A16, c17, bs)))) C := by rw [List.length_set, rows_same hx (by simp [encPart])]; exact hO
  have hmp : ((ps).set k (fr, to, id, (some ⟨b9, o10, none⟩), xc3, has.set ix true, (some ⟨b14, o15, none⟩), xc6, xb6.set ix (fr, to, id, ((ix : Nat) : Int), ((cn : Nat) : Int), A16, c17, bs))).map gv = (ps.map gv).set k (fr, to, id, has.set ix true, (xb6.map pdat).set ix bs) := by rw [List.map_set]; all_goals (first | rfl | (simp only [gv, phas, ppk, List.map_set]; rfl))
  exact ⟨_, C18, ⟨_, _, _, _, hOO, rfl, PO.put (y := (fr, to, id, (some ⟨b9, o10, none⟩), xc3, has.set ix true, (some ⟨b14, o15, none⟩), xc6, xb6.set ix (fr, to, id, ((ix : Nat) : Int), ((cn : Nat) : Int), A16, c17, bs))) hR1 hOh2 hOp2 hR2 hkl, set_all hI hPI2, part_dd (k := k) (x := (fr, to, id, (some ⟨b9, o10, none⟩), xc3, has.set ix true, (some ⟨b14, o15, none⟩), xc6, xb6.set ix (fr, to, id, ((ix : Nat) : Int), ((cn : Nat) : Int), A16, c17, bs))) hdd rfl (hdd _ (List.mem_of_getElem? hx)) hdE, hmp⟩, rfl, hS⟩

set_option maxHeartbeats 4000000 in
theorem add_hit_full9 {w0 w : World} {F : List Chunk} {L D : Chunk} {b : Nat} {vs : List GV} (hS : St w0 w (L :: D :: F)) (hM : GS w0 b vs L D) (fr to id : Int) (ix cn : Nat) {d : Value} {bs : List UInt8} (hd : RdSX w0 (D :: F) 1 d bs.length (rows encB bs)) (h1 : ix < cn) (h2 : cn ≤ 256) (h3 : bs.length ≤ 32768) {k : Nat} {has : List Bool} {dat : List (List UInt8)} (hz : vs[k]? = some (fr, to, id, has, dat)) (hbf : ∀ (i : Nat) (z : GV), i < k → vs[i]? = some z → ¬ vkey fr to id z) (hcn : has.length = cn) (hF : has[ix]? = some false) (hany : (has.set ix true).any (fun y => y == false) = false) :
    Ret Try.prog 9 #[.pointer (some ⟨b, 0, none⟩), .agg #[.int .i64 fr, .int .i64 to, .int .u64 id, .int .i64 ((ix : Nat) : Int), .int .i64 ((cn : Nat) : Int), d]] w (fun v w' => ∃ L' E C v1, GS w0 b (vs.take k ++ vs.drop (k + 1)) L' (E ++ D) ∧ Own 5 1 v1 ((dat.set ix bs).flatten).length (rows encB ((dat.set ix bs).flatten)) C ∧ v = .tuple #[v1, .bool true] ∧ St w0 w' (L' :: (E ++ D) :: C :: F)) := by
  obtain ⟨ps, v, C, R, hO, rfl, hR, hI, hdd, rfl⟩ := hM
  obtain ⟨A, c, rfl, hmc, hcx⟩ := hO.open'
  replace hS : St w0 w ([(b, rowO [.slice A ps.length c] 33)] :: C :: R :: D :: F) := hS.split3
  obtain ⟨B, d', rfl, hmd, hdx⟩ := (hd _ (hS.tail 3 rfl)).open'
  obtain ⟨x, hx, hgx⟩ := map_at' rfl hz
  obtain ⟨xf0, xf1, xf2, xA3, xc3, xb3, xA6, xc6, xb6⟩ := x
  simp only [gv, phas, ppk, Prod.mk.injEq] at hgx
  obtain ⟨g1, g2, g3, g4, g5⟩ := hgx
  have g1 := g1.symm; have g2 := g2.symm; have g3 := g3.symm; have g4 := g4.symm
  subst g1; subst g2; subst g3; subst g4; subst g5
  have hkl := (List.getElem?_eq_some_iff.1 hx).1
  have hPI := hI _ (List.mem_of_getElem? hx)
  have hpl : has.length = xb6.length := hPI.hp
  have hhl : has.length ≤ 256 := hPI.l2
  obtain ⟨R1, Ch, Cp, R2, rfl, hR1, hOh, hOp, hR2⟩ := hR.at hx
  replace hOh : Own 4 1 (.slice xA3 has.length xc3) has.length (rows encBo has) Ch := hOh
  replace hOp : Own 38 6 (.slice xA6 xb6.length xc6) xb6.length (rows encPacket xb6) Cp := hOp
  replace hS := hS.front 2 (C := (R1 ++ (Ch ++ (Cp ++ R2)))) (L' := [(b, rowO [.slice A ps.length c] 33)] :: C :: D :: F) rfl rfl
  replace hS := hS.split
  replace hS := hS.front 1 (C := (Ch ++ (Cp ++ R2))) (L' := R1 :: [(b, rowO [.slice A ps.length c] 33)] :: C :: D :: F) rfl rfl
  replace hS := hS.split
  replace hS := hS.front 1 (C := (Cp ++ R2)) (L' := Ch :: R1 :: [(b, rowO [.slice A ps.length c] 33)] :: C :: D :: F) rfl rfl
  replace hS := hS.split
  replace hS := hS.front 6 (C := D) (L' := Cp :: R2 :: Ch :: R1 :: [(b, rowO [.slice A ps.length c] 33)] :: C :: F) rfl rfl
  replace hS := hS.front 2 (C := R2) (L' := D :: Cp :: Ch :: R1 :: [(b, rowO [.slice A ps.length c] 33)] :: C :: F) rfl rfl
  replace hS := hS.front 2 (C := Cp) (L' := R2 :: D :: Ch :: R1 :: [(b, rowO [.slice A ps.length c] 33)] :: C :: F) rfl rfl
  replace hS := hS.front 3 (C := Ch) (L' := Cp :: R2 :: D :: R1 :: [(b, rowO [.slice A ps.length c] 33)] :: C :: F) rfl rfl
  replace hS := hS.front 4 (C := R1) (L' := Ch :: Cp :: R2 :: D :: [(b, rowO [.slice A ps.length c] 33)] :: C :: F) rfl rfl
  replace hS := hS.front 6 (C := C) (L' := R1 :: Ch :: Cp :: R2 :: D :: [(b, rowO [.slice A ps.length c] 33)] :: F) rfl rfl
  replace hS := hS.front 6 (C := [(b, rowO [.slice A ps.length c] 33)]) (L' := C :: R1 :: Ch :: Cp :: R2 :: D :: F) rfl rfl
  refine enter (vs := [.pointer (some ⟨b, 0, none⟩), .agg #[.int .i64 fr, .int .i64 to, .int .u64 id, .int .i64 ((ix : Nat) : Int), .int .i64 ((cn : Nat) : Int), .slice B bs.length d']]) 137 Try.func9 rfl rfl (by simp) ?_; intro a hA
  refine wp_seq ?_
  refine wp_region_lit ?_
  refine st_box hA hS [.int .i64 fr, .int .i64 to, .int .u64 id, .int .i64 ((ix : Nat) : Int), .int .i64 ((cn : Nat) : Int), .slice B bs.length d'] rfl rfl rfl rfl rfl (by decide) ?_; clear hA hS; intro b1 w2 a hS hA
  refine st_run tbOk 2 hA (e' := (5, .bool false) :: (4, .slice none 0 0) :: _) rfl ?_; clear hA; intro a hA
  refine wpList_nil ?_
  replace hA := hA.sel [0, 3] (e' := [(0, .pointer (some ⟨b, 0, none⟩)), (3, .pointer (some ⟨b1, 0, none⟩))]) rfl
  refine xt_norm ?_
  refine wp_seq ?_
  refine wp_seq ?_
  refine wp_region_lit ?_
  refine st_val hA rfl rfl (by decide) (rn_loadA tbOk hA [.int .i64 fr, .int .i64 to, .int .u64 id, .int .i64 ((ix : Nat) : Int), .int .i64 ((cn : Nat) : Int), .slice B bs.length d'] rfl rfl rfl rfl rfl (cells_row (hS.heapAt 0 rfl) rfl)) ?_; clear hA; intro a hA
  refine st_call0 hA rfl rfl rfl isfn12 rfl rfl (by decide) (may12 hS fr to id ((ix : Nat) : Int) ((cn : Nat) : Int) B d' bs) ?_
  clear hA hS; rintro v w3 a ⟨rfl, hS⟩ hA
  have hc4 : 1 ≤ ((cn : Nat) : Int) ∧ ((cn : Nat) : Int) ≤ 256 ∧ 0 ≤ ((ix : Nat) : Int) ∧ ((ix : Nat) : Int) < ((cn : Nat) : Int) ∧ bs.length ≤ 32768 := by omega
  replace hA := hA.rw 11 (v' := .bool true) rfl (vb_true hc4)
  refine st_run tbOk 1 hA (e' := (12, .bool false) :: _) rfl ?_; clear hA; intro a hA
  refine wpList_nil ?_
  replace hA := hA.sel [0, 3, 12] (e' := [(0, .pointer (some ⟨b, 0, none⟩)), (3, .pointer (some ⟨b1, 0, none⟩)), (12, .bool false)]) rfl
  refine xt_norm ?_
  refine cd_cond_f hA rfl ?_
  refine wp_skip ?_
  refine xt_norm ?_
  refine wp_seq ?_
  refine wp_region_lit ?_
  refine st_run tbOk 1 hA (e' := (13, .pointer (some ⟨b, 0, none⟩)) :: _) rfl ?_; clear hA; intro a hA
  refine st_val hA rfl rfl (by decide) (rn_loadA tbOk hA [.int .i64 fr, .int .i64 to, .int .u64 id, .int .i64 ((ix : Nat) : Int), .int .i64 ((cn : Nat) : Int), .slice B bs.length d'] rfl rfl rfl rfl rfl (cells_row (hS.heapAt 0 rfl) rfl)) ?_; clear hA; intro a hA
  replace hS := hS.front 2 (C := C) (L' := [(b1, rowO [.int .i64 fr, .int .i64 to, .int .u64 id, .int .i64 ((ix : Nat) : Int), .int .i64 ((cn : Nat) : Int), .slice B bs.length d'] 38)] :: [(b, rowO [.slice A ps.length c] 33)] :: R1 :: Ch :: Cp :: R2 :: D :: F) rfl rfl
  replace hS := hS.front 2 (C := [(b, rowO [.slice A ps.length c] 33)]) (L' := C :: [(b1, rowO [.int .i64 fr, .int .i64 to, .int .u64 id, .int .i64 ((ix : Nat) : Int), .int .i64 ((cn : Nat) : Int), .slice B bs.length d'] 38)] :: R1 :: Ch :: Cp :: R2 :: D :: F) rfl rfl
  refine st_call0 hA rfl rfl rfl isfn14 rfl rfl (by decide) (find14 hS hO fr to id _ _ _) ?_
  clear hA hS; rintro v w5 a ⟨rfl, hS⟩ hA
  have hix := idx_some (p := fun x => gkey fr to id x) hx (by simp [gkey]) (gkey_no hbf)
  replace hA := hA.rw 15 (v' := .int .i64 ((k : Nat) : Int)) rfl (vint hix)
  replace hS := hS.front 7 (C := D) (L' := [(b, rowO [.slice A ps.length c] 33)] :: C :: [(b1, rowO [.int .i64 fr, .int .i64 to, .int .u64 id, .int .i64 ((ix : Nat) : Int), .int .i64 ((cn : Nat) : Int), .slice B bs.length d'] 38)] :: R1 :: Ch :: Cp :: R2 :: F) rfl rfl
  replace hS := hS.front 7 (C := R2) (L' := D :: [(b, rowO [.slice A ps.length c] 33)] :: C :: [(b1, rowO [.int .i64 fr, .int .i64 to, .int .u64 id, .int .i64 ((ix : Nat) : Int), .int .i64 ((cn : Nat) : Int), .slice B bs.length d'] 38)] :: R1 :: Ch :: Cp :: F) rfl rfl
  replace hS := hS.front 7 (C := Cp) (L' := R2 :: D :: [(b, rowO [.slice A ps.length c] 33)] :: C :: [(b1, rowO [.int .i64 fr, .int .i64 to, .int .u64 id, .int .i64 ((ix : Nat) : Int), .int .i64 ((cn : Nat) : Int), .slice B bs.length d'] 38)] :: R1 :: Ch :: F) rfl rfl
  replace hS := hS.front 7 (C := Ch) (L' := Cp :: R2 :: D :: [(b, rowO [.slice A ps.length c] 33)] :: C :: [(b1, rowO [.int .i64 fr, .int .i64 to, .int .u64 id, .int .i64 ((ix : Nat) : Int), .int .i64 ((cn : Nat) : Int), .slice B bs.length d'] 38)] :: R1 :: F) rfl rfl
  replace hS := hS.front 7 (C := R1) (L' := Ch :: Cp :: R2 :: D :: [(b, rowO [.slice A ps.length c] 33)] :: C :: [(b1, rowO [.int .i64 fr, .int .i64 to, .int .u64 id, .int .i64 ((ix : Nat) : Int), .int .i64 ((cn : Nat) : Int), .slice B bs.length d'] 38)] :: F) rfl rfl
  replace hS := hS.front 7 (C := [(b1, rowO [.int .i64 fr, .int .i64 to, .int .u64 id, .int .i64 ((ix : Nat) : Int), .int .i64 ((cn : Nat) : Int), .slice B bs.length d'] 38)]) (L' := R1 :: Ch :: Cp :: R2 :: D :: [(b, rowO [.slice A ps.length c] 33)] :: C :: F) rfl rfl
  replace hS := hS.front 7 (C := C) (L' := [(b1, rowO [.int .i64 fr, .int .i64 to, .int .u64 id, .int .i64 ((ix : Nat) : Int), .int .i64 ((cn : Nat) : Int), .slice B bs.length d'] 38)] :: R1 :: Ch :: Cp :: R2 :: D :: [(b, rowO [.slice A ps.length c] 33)] :: F) rfl rfl
  replace hS := hS.front 7 (C := [(b, rowO [.slice A ps.length c] 33)]) (L' := C :: [(b1, rowO [.int .i64 fr, .int .i64 to, .int .u64 id, .int .i64 ((ix : Nat) : Int), .int .i64 ((cn : Nat) : Int), .slice B bs.length d'] 38)] :: R1 :: Ch :: Cp :: R2 :: D :: F) rfl rfl
  refine st_run tbOk 1 hA (e' := (6, .int .i64 ((k : Nat) : Int)) :: _) rfl ?_; clear hA; intro a hA
  refine wpList_nil ?_
  replace hA := hA.sel [0, 3, 6] (e' := [(0, .pointer (some ⟨b, 0, none⟩)), (3, .pointer (some ⟨b1, 0, none⟩)), (6, .int .i64 ((k : Nat) : Int))]) rfl
  refine xt_norm ?_
  refine wp_seq ?_
  refine wp_seq ?_
  refine wp_region_lit ?_
  refine st_run tbOk 2 hA (e' := (17, .bool (decide (((k : Nat) : Int) < 0))) :: (16, .int .i64 ((k : Nat) : Int)) :: _) rfl ?_; clear hA; intro a hA
  refine wpList_nil ?_
  replace hA := hA.sel [0, 3, 6, 17] (e' := [(0, .pointer (some ⟨b, 0, none⟩)), (3, .pointer (some ⟨b1, 0, none⟩)), (6, .int .i64 ((k : Nat) : Int)), (17, .bool (decide (((k : Nat) : Int) < 0)))]) rfl
  refine xt_norm ?_
  have hc6 : ¬ (((k : Nat) : Int) < 0) := by omega
  replace hA := hA.rw 17 (v' := .bool false) rfl (vb_false hc6)
  refine cd_cond_f hA rfl ?_
  refine wp_skip ?_
  refine xt_norm ?_
  refine wp_seq ?_
  refine wp_region_lit ?_
  refine st_run tbOk 3 hA (e' := (61, .pointer (some ⟨b, 0, none⟩)) :: (60, .pointer (some ⟨b, 0, none⟩)) :: (59, .pointer (some ⟨b, 0, none⟩)) :: _) rfl ?_; clear hA; intro a hA
  refine st_val hA rfl rfl (by decide) (rn_load tbOk hA rfl rfl rfl rfl (cell_row (hS.heapAt 0 rfl) rfl)) ?_; clear hA; intro a hA
  refine st_run tbOk 1 hA (e' := (63, .int .i64 ((k : Nat) : Int)) :: _) rfl ?_; clear hA; intro a hA
  obtain ⟨b7, o8, rfl⟩ := hO.isSome (k := k) (by omega)
  refine st_val hA rfl rfl (by decide) (rn_indexAddr tbOk hA k (o8 + (k * 5)) rfl rfl rfl rfl rfl rfl (by rfl) (by omega) (by first | rfl | simp [Nat.mul_one, Nat.zero_add] | omega)) ?_; clear hA; intro a hA
  refine st_run tbOk 1 hA (e' := (7, .pointer (some ⟨b7, o8 + (k * 5), none⟩)) :: _) rfl ?_; clear hA; intro a hA
  refine wpList_nil ?_
  replace hA := hA.sel [0, 3, 6, 7] (e' := [(0, .pointer (some ⟨b, 0, none⟩)), (3, .pointer (some ⟨b1, 0, none⟩)), (6, .int .i64 ((k : Nat) : Int)), (7, .pointer (some ⟨b7, o8 + (k * 5), none⟩))]) rfl
  refine xt_norm ?_
  refine wp_seq ?_
  refine wp_seq ?_
  obtain ⟨b9, o10, rfl⟩ := hOh.isSome (k := ix) (by omega)
  refine wp_draw (fun w' => St w0 w' ([(b, rowO [.slice (some ⟨b7, o8, none⟩) ps.length c] 33)] :: C :: [(b1, rowO [.int .i64 fr, .int .i64 to, .int .u64 id, .int .i64 ((ix : Nat) : Int), .int .i64 ((cn : Nat) : Int), .slice B bs.length d'] 38)] :: R1 :: Ch :: Cp :: R2 :: D :: F)) [] [(0, true), (1, true), (2, true), (3, true), (4, true), (5, true), (6, true), (7, true), (8, true), (9, true), (10, true), (11, true), (12, true), (13, true), (14, true), (15, true), (16, true), (17, true)] mixed (by kernel_rfl) (by rintro c a w ⟨_, _, h, _⟩; cases h) (by rfl) (by kernel_rfl) ?_
  replace hS := hS.drew
  refine dr_run tbOk 3 hA hS (e' := (67, .pointer (some ⟨b7, o8 + (k * 5) + 3, none⟩)) :: (66, .pointer (some ⟨b7, o8 + (k * 5), none⟩)) :: (65, .pointer (some ⟨b7, o8 + (k * 5), none⟩)) :: _) rfl ?_; clear hA; intro a hA
  refine dr_y hA rfl rfl rfl (by decide) hS (fun w' hS' => rn_load tbOk hA rfl rfl rfl rfl ((hO.rd (hS'.own_ 1 rfl)).elemf (k := k) encPart_ok hx (j := 3) rfl)) ?_; clear hA; intro a hA
  refine dr_run tbOk 2 hA hS (e' := (70, .pointer (some ⟨b1, 4, none⟩)) :: (69, .int .i64 ((has.length : Nat) : Int)) :: _) rfl ?_; clear hA; intro a hA
  refine dr_y hA rfl rfl rfl (by decide) hS (fun w' hS' => rn_load tbOk hA rfl rfl rfl rfl (cell_row (hS'.heapAt 2 rfl) rfl)) ?_; clear hA; intro a hA
  refine dr_run tbOk 2 hA hS (e' := (73, .bool (((has.length : Nat) : Int) != ((cn : Nat) : Int))) :: (72, .bool (((has.length : Nat) : Int) != ((cn : Nat) : Int))) :: _) rfl ?_; clear hA; intro a hA
  have hc11 : ((has.length : Nat) : Int) = ((cn : Nat) : Int) := by omega
  replace hA := hA.rw 72 (v' := .bool false) rfl (vb_ne_f hc11)
  replace hA := hA.rw 73 (v' := .bool false) rfl (vb_ne_f hc11)
  refine dr_run tbOk 3 hA hS (e' := (76, .pointer (some ⟨b7, o8 + (k * 5) + 3, none⟩)) :: (75, .pointer (some ⟨b7, o8 + (k * 5), none⟩)) :: (74, .pointer (some ⟨b7, o8 + (k * 5), none⟩)) :: _) rfl ?_; clear hA; intro a hA
  refine dr_y hA rfl rfl rfl (by decide) hS (fun w' hS' => rn_load tbOk hA rfl rfl rfl rfl ((hO.rd (hS'.own_ 1 rfl)).elemf (k := k) encPart_ok hx (j := 3) rfl)) ?_; clear hA; intro a hA
  refine dr_run tbOk 1 hA hS (e' := (78, .pointer (some ⟨b1, 3, none⟩)) :: _) rfl ?_; clear hA; intro a hA
  refine dr_y hA rfl rfl rfl (by decide) hS (fun w' hS' => rn_load tbOk hA rfl rfl rfl rfl (cell_row (hS'.heapAt 2 rfl) rfl)) ?_; clear hA; intro a hA
  replace hA := hA.rw 77 (v' := .slice (some ⟨b9, o10, none⟩) has.length xc3) rfl rfl
  refine dr_y hA rfl rfl rfl (by decide) hS (fun w' hS' => rn_indexAddr tbOk hA ix (o10 + ix) rfl rfl rfl rfl rfl rfl (by rfl) (by omega) (by first | rfl | simp [Nat.mul_one, Nat.zero_add] | omega)) ?_; clear hA; intro a hA
  refine dr_y hA rfl rfl rfl (by decide) hS (fun w' hS' => rn_load tbOk hA rfl rfl rfl rfl ((hOh.rd (hS'.own_ 4 rfl)).elem0 (k := ix) encBo_ok hF rfl)) ?_; clear hA; intro a hA
  refine dr_run tbOk 1 hA hS (e' := (82, .bool false) :: _) rfl ?_; clear hA; intro a hA
  refine dr_end ?_
  replace hA := hA.sel [0, 3, 6, 7, 82] (e' := [(0, .pointer (some ⟨b, 0, none⟩)), (3, .pointer (some ⟨b1, 0, none⟩)), (6, .int .i64 ((k : Nat) : Int)), (7, .pointer (some ⟨b7, o8 + (k * 5), none⟩)), (82, .bool false)]) rfl
  refine xt_norm ?_
  refine cd_cond_f hA rfl ?_
  refine wp_skip ?_
  refine xt_norm ?_
  refine wp_seq ?_
  replace hS := hS.front 4 (C := Ch) (L' := [(b, rowO [.slice (some ⟨b7, o8, none⟩) ps.length c] 33)] :: C :: [(b1, rowO [.int .i64 fr, .int .i64 to, .int .u64 id, .int .i64 ((ix : Nat) : Int), .int .i64 ((cn : Nat) : Int), .slice B bs.length d'] 38)] :: R1 :: Cp :: R2 :: D :: F) rfl rfl
  refine wp_draw (fun w' => St w0 w' ([(b, rowO [.slice (some ⟨b7, o8, none⟩) ps.length c] 33)] :: C :: [(b1, rowO [.int .i64 fr, .int .i64 to, .int .u64 id, .int .i64 ((ix : Nat) : Int), .int .i64 ((cn : Nat) : Int), .slice B bs.length d'] 38)] :: R1 :: Cp :: R2 :: D :: F)) [7] [(0, true), (1, true), (2, true), (3, true), (4, true), (5, true), (6, true), (7, false)] mixed (by kernel_rfl) (by rintro c a w ⟨_, _, h, _⟩; cases h) (by rfl) (by kernel_rfl) ?_
  replace hS := hS.drew
  refine dr_run tbOk 3 hA (hS.tail 1 rfl) (e' := (85, .pointer (some ⟨b7, o8 + (k * 5) + 3, none⟩)) :: (84, .pointer (some ⟨b7, o8 + (k * 5), none⟩)) :: (83, .pointer (some ⟨b7, o8 + (k * 5), none⟩)) :: _) rfl ?_; clear hA; intro a hA
  refine dr_y hA rfl rfl rfl (by decide) (hS.tail 1 rfl) (fun w' hS' => rn_load tbOk hA rfl rfl rfl rfl ((hO.rd (hS'.own_ 1 rfl)).elemf (k := k) encPart_ok hx (j := 3) rfl)) ?_; clear hA; intro a hA
  refine dr_run tbOk 1 hA (hS.tail 1 rfl) (e' := (87, .pointer (some ⟨b1, 3, none⟩)) :: _) rfl ?_; clear hA; intro a hA
  refine dr_y hA rfl rfl rfl (by decide) (hS.tail 1 rfl) (fun w' hS' => rn_load tbOk hA rfl rfl rfl rfl (cell_row (hS'.heapAt 2 rfl) rfl)) ?_; clear hA; intro a hA
  replace hA := hA.rw 86 (v' := .slice (some ⟨b9, o10, none⟩) has.length xc3) rfl rfl
  refine dr_y hA rfl rfl rfl (by decide) (hS.tail 1 rfl) (fun w' hS' => rn_indexAddr tbOk hA ix (o10 + ix) rfl rfl rfl rfl rfl rfl (by rfl) (by omega) (by first | rfl | simp [Nat.mul_one, Nat.zero_add] | omega)) ?_; clear hA; intro a hA
  refine dr_b (o := _) rfl ?_
  refine st_store_own tbOk hA hOh hS (ix) (o10 + ix) [.bool true] (rows encBo (has.set ix true)) rfl rfl rfl rfl (by rfl) rfl rfl (by intro u hu; rw [List.mem_singleton.1 hu]; rfl) (by simp only [rows_length encBo_ok, rows_length encPacket_ok, List.length_cons, List.length_nil]; omega) (by have := rows_set encBo_ok (x := true) (l := has) (k := ix) (by omega); rw [Nat.mul_one] at this; exact this) rfl rfl ?_; clear hS; intro w12 C13 hO13 hS
  refine dr_nil (.inl (by decide)) ?_
  refine dr_end ?_
  replace hA := hA.sel [0, 3, 6, 7] (e' := [(0, .pointer (some ⟨b, 0, none⟩)), (3, .pointer (some ⟨b1, 0, none⟩)), (6, .int .i64 ((k : Nat) : Int)), (7, .pointer (some ⟨b7, o8 + (k * 5), none⟩))]) rfl
  refine xt_norm ?_
  refine wp_seq ?_
  obtain ⟨b14, o15, rfl⟩ := hOp.isSome (k := ix) (by omega)
  replace hS := hS.front 5 (C := Cp) (L' := C13 :: [(b, rowO [.slice (some ⟨b7, o8, none⟩) ps.length c] 33)] :: C :: [(b1, rowO [.int .i64 fr, .int .i64 to, .int .u64 id, .int .i64 ((ix : Nat) : Int), .int .i64 ((cn : Nat) : Int), .slice B bs.length d'] 38)] :: R1 :: R2 :: D :: F) rfl rfl
  refine wp_draw (fun w' => St w0 w' (C13 :: [(b, rowO [.slice (some ⟨b7, o8, none⟩) ps.length c] 33)] :: C :: [(b1, rowO [.int .i64 fr, .int .i64 to, .int .u64 id, .int .i64 ((ix : Nat) : Int), .int .i64 ((cn : Nat) : Int), .slice B bs.length d'] 38)] :: R1 :: R2 :: D :: F)) [21] [(0, true), (1, true), (2, true), (3, true), (4, true), (5, true), (6, true), (7, true), (8, true), (9, true), (10, true), (11, true), (12, true), (13, true), (14, true), (15, true), (16, true), (17, true), (18, false), (19, true), (20, true), (21, false)] mixed (by kernel_rfl) (by rintro c a w ⟨_, _, h, _⟩; cases h) (by rfl) (by kernel_rfl) ?_
  replace hS := hS.drew
  refine dr_run tbOk 3 hA (hS.tail 1 rfl) (e' := (92, .pointer (some ⟨b7, o8 + (k * 5) + 4, none⟩)) :: (91, .pointer (some ⟨b7, o8 + (k * 5), none⟩)) :: (90, .pointer (some ⟨b7, o8 + (k * 5), none⟩)) :: _) rfl ?_; clear hA; intro a hA
  refine dr_y hA rfl rfl rfl (by decide) (hS.tail 1 rfl) (fun w' hS' => rn_load tbOk hA rfl rfl rfl rfl ((hO.rd (hS'.own_ 2 rfl)).elemf (k := k) encPart_ok hx (j := 4) rfl)) ?_; clear hA; intro a hA
  refine dr_run tbOk 1 hA (hS.tail 1 rfl) (e' := (94, .pointer (some ⟨b1, 3, none⟩)) :: _) rfl ?_; clear hA; intro a hA
  refine dr_y hA rfl rfl rfl (by decide) (hS.tail 1 rfl) (fun w' hS' => rn_load tbOk hA rfl rfl rfl rfl (cell_row (hS'.heapAt 3 rfl) rfl)) ?_; clear hA; intro a hA
  refine dr_run tbOk 1 hA (hS.tail 1 rfl) (e' := (96, .pointer (some ⟨b1, 0, none⟩)) :: _) rfl ?_; clear hA; intro a hA
  refine dr_y hA rfl rfl rfl (by decide) (hS.tail 1 rfl) (fun w' hS' => rn_load tbOk hA rfl rfl rfl rfl (cell_row (hS'.heapAt 3 rfl) rfl)) ?_; clear hA; intro a hA
  refine dr_run tbOk 1 hA (hS.tail 1 rfl) (e' := (98, .pointer (some ⟨b1, 1, none⟩)) :: _) rfl ?_; clear hA; intro a hA
  refine dr_y hA rfl rfl rfl (by decide) (hS.tail 1 rfl) (fun w' hS' => rn_load tbOk hA rfl rfl rfl rfl (cell_row (hS'.heapAt 3 rfl) rfl)) ?_; clear hA; intro a hA
  refine dr_run tbOk 1 hA (hS.tail 1 rfl) (e' := (100, .pointer (some ⟨b1, 2, none⟩)) :: _) rfl ?_; clear hA; intro a hA
  refine dr_y hA rfl rfl rfl (by decide) (hS.tail 1 rfl) (fun w' hS' => rn_load tbOk hA rfl rfl rfl rfl (cell_row (hS'.heapAt 3 rfl) rfl)) ?_; clear hA; intro a hA
  refine dr_run tbOk 1 hA (hS.tail 1 rfl) (e' := (102, .pointer (some ⟨b1, 3, none⟩)) :: _) rfl ?_; clear hA; intro a hA
  refine dr_y hA rfl rfl rfl (by decide) (hS.tail 1 rfl) (fun w' hS' => rn_load tbOk hA rfl rfl rfl rfl (cell_row (hS'.heapAt 3 rfl) rfl)) ?_; clear hA; intro a hA
  refine dr_run tbOk 1 hA (hS.tail 1 rfl) (e' := (104, .pointer (some ⟨b1, 4, none⟩)) :: _) rfl ?_; clear hA; intro a hA
  refine dr_y hA rfl rfl rfl (by decide) (hS.tail 1 rfl) (fun w' hS' => rn_load tbOk hA rfl rfl rfl rfl (cell_row (hS'.heapAt 3 rfl) rfl)) ?_; clear hA; intro a hA
  refine dr_run tbOk 1 hA (hS.tail 1 rfl) (e' := (106, .pointer (some ⟨b1, 5, none⟩)) :: _) rfl ?_; clear hA; intro a hA
  refine dr_y hA rfl rfl rfl (by decide) (hS.tail 1 rfl) (fun w' hS' => rn_load tbOk hA rfl rfl rfl rfl (cell_row (hS'.heapAt 3 rfl) rfl)) ?_; clear hA; intro a hA
  refine dr_b (o := _) rfl ?_
  refine st_call0 hA rfl rfl rfl isfn16 rfl rfl (by decide) (clonex16 hS (l := bs) (fun w' h => (hd _ (h.tail 7 rfl))) (by first | omega | (simp; omega))) ?_
  clear hA hS; rintro _ w19 a ⟨A16, c17, C18, hOC18, rfl, hS⟩ hA
  refine dr_nil (.inr (hS.tail 2 rfl)) ?_
  refine dr_y hA rfl rfl rfl (by decide) (hS.tail 2 rfl) (fun w' hS' => rn_build tbOk hA rfl rfl rfl rfl rfl rfl rfl) ?_; clear hA; intro a hA
  replace hA := hA.rw 93 (v' := .slice (some ⟨b14, o15, none⟩) xb6.length xc6) rfl rfl
  refine dr_y hA rfl rfl rfl (by decide) (hS.tail 2 rfl) (fun w' hS' => rn_indexAddr tbOk hA ix (o15 + (ix * 6)) rfl rfl rfl rfl rfl rfl (by rfl) (by omega) (by first | rfl | simp [Nat.mul_one, Nat.zero_add] | omega)) ?_; clear hA; intro a hA
  refine dr_b (o := _) rfl ?_
  replace hS := hS.front 1 (C := Cp) (L' := C18 :: C13 :: [(b, rowO [.slice (some ⟨b7, o8, none⟩) ps.length c] 33)] :: C :: [(b1, rowO [.int .i64 fr, .int .i64 to, .int .u64 id, .int .i64 ((ix : Nat) : Int), .int .i64 ((cn : Nat) : Int), .slice B bs.length d'] 38)] :: R1 :: R2 :: D :: F) rfl rfl
  refine st_store_own tbOk hA hOp hS ((ix * 6)) (o15 + (ix * 6)) [.int .i64 fr, .int .i64 to, .int .u64 id, .int .i64 ((ix : Nat) : Int), .int .i64 ((cn : Nat) : Int), .slice A16 bs.length c17] (rows encPacket (xb6.set ix (fr, to, id, ((ix : Nat) : Int), ((cn : Nat) : Int), A16, c17, bs))) rfl rfl rfl rfl (by rfl) rfl rfl (by exact encPacket_ok.one (fr, to, id, ((ix : Nat) : Int), ((cn : Nat) : Int), A16, c17, bs)) (by simp only [rows_length encBo_ok, rows_length encPacket_ok, List.length_cons, List.length_nil]; omega) (rows_set encPacket_ok (x := (fr, to, id, ((ix : Nat) : Int), ((cn : Nat) : Int), A16, c17, bs)) (l := xb6) (k := ix) (by omega)) rfl rfl ?_; clear hS; intro w20 C21 hO21 hS
  refine dr_nil (.inl (by decide)) ?_
  refine dr_end ?_
  replace hA := hA.sel [0, 6, 7] (e' := [(0, .pointer (some ⟨b, 0, none⟩)), (6, .int .i64 ((k : Nat) : Int)), (7, .pointer (some ⟨b7, o8 + (k * 5), none⟩))]) rfl
  refine xt_norm ?_
  refine wp_seq ?_
  refine wp_seq ?_
  refine wp_region_lit ?_
  refine st_run tbOk 3 hA (e' := (113, .pointer (some ⟨b7, o8 + (k * 5) + 3, none⟩)) :: (112, .pointer (some ⟨b7, o8 + (k * 5), none⟩)) :: (111, .pointer (some ⟨b7, o8 + (k * 5), none⟩)) :: _) rfl ?_; clear hA; intro a hA
  refine st_val hA rfl rfl (by decide) (rn_load tbOk hA rfl rfl rfl rfl ((hO.rd (hS.own_ 4 rfl)).elemf (k := k) encPart_ok hx (j := 3) rfl)) ?_; clear hA; intro a hA
  have hOh2 : Own 4 1 (.slice (some ⟨b9, o10, none⟩) (has.set ix true).length xc3) (has.set ix true).length (rows encBo (has.set ix true)) C13 := by rw [List.length_set]; exact hO13
  replace hA := hA.rw 114 (v' := .slice (some ⟨b9, o10, none⟩) ((has.set ix true).length) xc3) rfl (by rw [List.length_set])
  refine st_call0 hA rfl rfl rfl isfn17 rfl rfl (by decide) (containsb17 hS (l := has.set ix true) (RdS.own hOh2 2 rfl)) ?_
  clear hA hS; rintro v w22 a ⟨rfl, hS⟩ hA
  replace hA := hA.rw 115 (v' := .bool false) rfl (congrArg Value.bool hany)
  refine wpList_nil ?_
  replace hA := hA.sel [0, 6, 7, 115] (e' := [(0, .pointer (some ⟨b, 0, none⟩)), (6, .int .i64 ((k : Nat) : Int)), (7, .pointer (some ⟨b7, o8 + (k * 5), none⟩)), (115, .bool false)]) rfl
  refine xt_norm ?_
  refine cd_cond_f hA rfl ?_
  refine wp_skip ?_
  refine xt_norm ?_
  refine wp_seq ?_
  refine wp_region_lit ?_
  refine st_run tbOk 3 hA (e' := (119, .pointer (some ⟨b7, o8 + (k * 5) + 4, none⟩)) :: (118, .pointer (some ⟨b7, o8 + (k * 5), none⟩)) :: (117, .pointer (some ⟨b7, o8 + (k * 5), none⟩)) :: _) rfl ?_; clear hA; intro a hA
  refine st_val hA rfl rfl (by decide) (rn_load tbOk hA rfl rfl rfl rfl ((hO.rd (hS.own_ 4 rfl)).elemf (k := k) encPart_ok hx (j := 4) rfl)) ?_; clear hA; intro a hA
  have hOp2 : Own 38 6 (.slice (some ⟨b14, o15, none⟩) (xb6.set ix (fr, to, id, ((ix : Nat) : Int), ((cn : Nat) : Int), A16, c17, bs)).length xc6) (xb6.set ix (fr, to, id, ((ix : Nat) : Int), ((cn : Nat) : Int), A16, c17, bs)).length (rows encPacket (xb6.set ix (fr, to, id, ((ix : Nat) : Int), ((cn : Nat) : Int), A16, c17, bs))) C21 := by rw [List.length_set]; exact hO21
  replace hA := hA.rw 120 (v' := .slice (some ⟨b14, o15, none⟩) ((xb6.set ix (fr, to, id, ((ix : Nat) : Int), ((cn : Nat) : Int), A16, c17, bs)).length) xc6) rfl (by rw [List.length_set])
  replace hS := hS.front 8 (C := D) (L' := C21 :: C18 :: C13 :: [(b, rowO [.slice (some ⟨b7, o8, none⟩) ps.length c] 33)] :: C :: [(b1, rowO [.int .i64 fr, .int .i64 to, .int .u64 id, .int .i64 ((ix : Nat) : Int), .int .i64 ((cn : Nat) : Int), .slice B bs.length d'] 38)] :: R1 :: R2 :: F) rfl rfl
  replace hS := hS.front 2 (C := C18) (L' := D :: C21 :: C13 :: [(b, rowO [.slice (some ⟨b7, o8, none⟩) ps.length c] 33)] :: C :: [(b1, rowO [.int .i64 fr, .int .i64 to, .int .u64 id, .int .i64 ((ix : Nat) : Int), .int .i64 ((cn : Nat) : Int), .slice B bs.length d'] 38)] :: R1 :: R2 :: F) rfl rfl
  replace hS := hS.join
  have hdE := (DD.new (w0 := w0) hOC18).right (E := D)
  have hPI2 : PI (fr, to, id, (some ⟨b9, o10, none⟩), xc3, has.set ix true, (some ⟨b14, o15, none⟩), xc6, xb6.set ix (fr, to, id, ((ix : Nat) : Int), ((cn : Nat) : Int), A16, c17, bs)) := hPI.put (by omega) (by omega) (by omega) _ _
  have hpd : ∀ y ∈ xb6.set ix (fr, to, id, ((ix : Nat) : Int), ((cn : Nat) : Int), A16, c17, bs), encPacket_dd w0 (C18 ++ D) y := fun y hy => (List.mem_or_eq_of_mem_set hy).elim (fun hy => encPacket_left ((hdd _ (List.mem_of_getElem? hx)) y hy)) (fun e => by rw [e]; exact hdE)
  refine st_call0 hA rfl rfl rfl isfn18 rfl rfl (by decide) (join18 hS (ps := xb6.set ix (fr, to, id, ((ix : Nat) : Int), ((cn : Nat) : Int), A16, c17, bs)) (RdS.own hOp2 1 rfl) hpd) ?_
  clear hA hS; rintro _ w23 a ⟨C25, v24, ou28, hO25, hjC25, hS⟩ hA
  obtain ⟨A26, c27, rfl, hmc27, hxc27⟩ := hO25.open'
  obtain ⟨-, rfl, rfl⟩ := hjC25.resolve_right (fun h => h.1 (hPI2.allfit hany))
  refine st_run tbOk 5 hA (e' := (9, .bool (decide ((((xb6.set ix (fr, to, id, ((ix : Nat) : Int), ((cn : Nat) : Int), A16, c17, bs)).length : Nat) : Int) > 0))) :: (8, .slice A26 ((cat (xb6.set ix (fr, to, id, ((ix : Nat) : Int), ((cn : Nat) : Int), A16, c17, bs)) (xb6.set ix (fr, to, id, ((ix : Nat) : Int), ((cn : Nat) : Int), A16, c17, bs)).length).length) c27) :: (123, .bool (decide ((((xb6.set ix (fr, to, id, ((ix : Nat) : Int), ((cn : Nat) : Int), A16, c17, bs)).length : Nat) : Int) > 0))) :: (122, .slice A26 ((cat (xb6.set ix (fr, to, id, ((ix : Nat) : Int), ((cn : Nat) : Int), A16, c17, bs)) (xb6.set ix (fr, to, id, ((ix : Nat) : Int), ((cn : Nat) : Int), A16, c17, bs)).length).length) c27) :: (116, .tuple #[.slice A26 ((cat (xb6.set ix (fr, to, id, ((ix : Nat) : Int), ((cn : Nat) : Int), A16, c17, bs)) (xb6.set ix (fr, to, id, ((ix : Nat) : Int), ((cn : Nat) : Int), A16, c17, bs)).length).length) c27, .bool (decide ((((xb6.set ix (fr, to, id, ((ix : Nat) : Int), ((cn : Nat) : Int), A16, c17, bs)).length : Nat) : Int) > 0))]) :: _) rfl ?_; clear hA; intro a hA
  refine wpList_nil ?_
  replace hA := hA.sel [0, 6, 8, 9] (e' := [(0, .pointer (some ⟨b, 0, none⟩)), (6, .int .i64 ((k : Nat) : Int)), (8, .slice A26 ((cat (xb6.set ix (fr, to, id, ((ix : Nat) : Int), ((cn : Nat) : Int), A16, c17, bs)) (xb6.set ix (fr, to, id, ((ix : Nat) : Int), ((cn : Nat) : Int), A16, c17, bs)).length).length) c27), (9, .bool (decide ((((xb6.set ix (fr, to, id, ((ix : Nat) : Int), ((cn : Nat) : Int), A16, c17, bs)).length : Nat) : Int) > 0)))]) rfl
  refine xt_norm ?_
  refine wp_seq ?_
  refine wp_region_lit ?_
  refine st_run tbOk 4 hA (e' := (127, .pointer (some ⟨b, 0, none⟩)) :: (126, .pointer (some ⟨b, 0, none⟩)) :: (125, .pointer (some ⟨b, 0, none⟩)) :: (124, .pointer (some ⟨b, 0, none⟩)) :: _) rfl ?_; clear hA; intro a hA
  refine st_val hA rfl rfl (by decide) (rn_load tbOk hA rfl rfl rfl rfl (cell_row (hS.heapAt 4 rfl) rfl)) ?_; clear hA; intro a hA
  refine st_run tbOk 3 hA (e' := (131, .int .i64 (IntKind.i64.wrap (((k : Nat) : Int) + 1))) :: (130, .int .i64 ((k : Nat) : Int)) :: (129, .int .i64 ((k : Nat) : Int)) :: _) rfl ?_; clear hA; intro a hA
  replace hA := hA.rw 131 (v' := .int .i64 ((k + 1 : Nat) : Int)) rfl (wr64 (by omega) (by omega) (by omega))
  replace hS := hS.front 5 (C := C) (L' := C25 :: (C18 ++ D) :: C21 :: C13 :: [(b, rowO [.slice (some ⟨b7, o8, none⟩) ps.length c] 33)] :: [(b1, rowO [.int .i64 fr, .int .i64 to, .int .u64 id, .int .i64 ((ix : Nat) : Int), .int .i64 ((cn : Nat) : Int), .slice B bs.length d'] 38)] :: R1 :: R2 :: F) rfl rfl
  refine st_call0 hA rfl rfl rfl isfn15 rfl rfl (by decide) (delete15 hS (l := ps) hO k (k + 1) (by omega) (by first | omega | (simp; omega))) ?_
  clear hA hS; rintro v29 w30 a ⟨C31, hO31, hS⟩ hA
  obtain ⟨A32, c33, rfl, hmc33, hxc33⟩ := hO31.open'
  refine st_run tbOk 2 hA (e' := (134, .pointer (some ⟨b, 0, none⟩)) :: (133, .pointer (some ⟨b, 0, none⟩)) :: _) rfl ?_; clear hA; intro a hA
  replace hS := hS.front 5 (C := [(b, rowO [.slice (some ⟨b7, o8, none⟩) ps.length c] 33)]) (L' := C31 :: C25 :: (C18 ++ D) :: C21 :: C13 :: [(b1, rowO [.int .i64 fr, .int .i64 to, .int .u64 id, .int .i64 ((ix : Nat) : Int), .int .i64 ((cn : Nat) : Int), .slice B bs.length d'] 38)] :: R1 :: R2 :: F) rfl rfl
  refine st_store tbOk hA hS [.slice A32 ((ps.take k ++ ps.drop (k + 1)).length) c33] [.slice A32 ((ps.take k ++ ps.drop (k + 1)).length) c33] rfl rfl rfl rfl rfl rfl (by intro u hu; rw [List.mem_singleton.1 hu]; rfl) (Nat.le_of_ble_eq_true rfl) rfl rfl rfl ?_; clear hS; intro w34 hS
  refine wpList_nil ?_
  replace hA := hA.sel [8, 9] (e' := [(8, .slice A26 ((cat (xb6.set ix (fr, to, id, ((ix : Nat) : Int), ((cn : Nat) : Int), A16, c17, bs)) (xb6.set ix (fr, to, id, ((ix : Nat) : Int), ((cn : Nat) : Int), A16, c17, bs)).length).length) c27), (9, .bool (decide ((((xb6.set ix (fr, to, id, ((ix : Nat) : Int), ((cn : Nat) : Int), A16, c17, bs)).length : Nat) : Int) > 0)))]) rfl
  refine xt_norm ?_
  refine wp_seq ?_
  refine wp_region_lit ?_
  refine st_run tbOk 4 hA (e' := (5, .bool (decide ((((xb6.set ix (fr, to, id, ((ix : Nat) : Int), ((cn : Nat) : Int), A16, c17, bs)).length : Nat) : Int) > 0))) :: (4, .slice A26 ((cat (xb6.set ix (fr, to, id, ((ix : Nat) : Int), ((cn : Nat) : Int), A16, c17, bs)) (xb6.set ix (fr, to, id, ((ix : Nat) : Int), ((cn : Nat) : Int), A16, c17, bs)).length).length) c27) :: (136, .bool (decide ((((xb6.set ix (fr, to, id, ((ix : Nat) : Int), ((cn : Nat) : Int), A16, c17, bs)).length : Nat) : Int) > 0))) :: (135, .slice A26 ((cat (xb6.set ix (fr, to, id, ((ix : Nat) : Int), ((cn : Nat) : Int), A16, c17, bs)) (xb6.set ix (fr, to, id, ((ix : Nat) : Int), ((cn : Nat) : Int), A16, c17, bs)).length).length) c27) :: _) rfl ?_; clear hA; intro a hA
  refine wpList_nil ?_
  replace hA := hA.sel [4, 5] (e' := [(4, .slice A26 ((cat (xb6.set ix (fr, to, id, ((ix : Nat) : Int), ((cn : Nat) : Int), A16, c17, bs)) (xb6.set ix (fr, to, id, ((ix : Nat) : Int), ((cn : Nat) : Int), A16, c17, bs)).length).length) c27), (5, .bool (decide ((((xb6.set ix (fr, to, id, ((ix : Nat) : Int), ((cn : Nat) : Int), A16, c17, bs)).length : Nat) : Int) > 0)))]) rfl
  refine xt_norm ?_
  refine wp_ret ?_
  refine ret2 (fn := Try.f9) hA rfl rfl rfl ?_
  replace hS := hS.front 4 (C := C21) (L' := [(b, rowO [.slice A32 ((ps.take k ++ ps.drop (k + 1)).length) c33] 33)] :: C31 :: C25 :: (C18 ++ D) :: C13 :: [(b1, rowO [.int .i64 fr, .int .i64 to, .int .u64 id, .int .i64 ((ix : Nat) : Int), .int .i64 ((cn : Nat) : Int), .slice B bs.length d'] 38)] :: R1 :: R2 :: F) rfl rfl
  replace hS := hS.drop1
  replace hS := hS.front 4 (C := C13) (L' := [(b, rowO [.slice A32 ((ps.take k ++ ps.drop (k + 1)).length) c33] 33)] :: C31 :: C25 :: (C18 ++ D) :: [(b1, rowO [.int .i64 fr, .int .i64 to, .int .u64 id, .int .i64 ((ix : Nat) : Int), .int .i64 ((cn : Nat) : Int), .slice B bs.length d'] 38)] :: R1 :: R2 :: F) rfl rfl
  replace hS := hS.drop1
  replace hS := hS.front 4 (C := [(b1, rowO [.int .i64 fr, .int .i64 to, .int .u64 id, .int .i64 ((ix : Nat) : Int), .int .i64 ((cn : Nat) : Int), .slice B bs.length d'] 38)]) (L' := [(b, rowO [.slice A32 ((ps.take k ++ ps.drop (k + 1)).length) c33] 33)] :: C31 :: C25 :: (C18 ++ D) :: R1 :: R2 :: F) rfl rfl
  replace hS := hS.drop1
  replace hS := hS.front 2 (C := C25) (L' := [(b, rowO [.slice A32 ((ps.take k ++ ps.drop (k + 1)).length) c33] 33)] :: C31 :: (C18 ++ D) :: R1 :: R2 :: F) rfl rfl
  replace hS := hS.front 3 (C := (C18 ++ D)) (L' := C25 :: [(b, rowO [.slice A32 ((ps.take k ++ ps.drop (k + 1)).length) c33] 33)] :: C31 :: R1 :: R2 :: F) rfl rfl
  replace hS := hS.front 5 (C := R2) (L' := (C18 ++ D) :: C25 :: [(b, rowO [.slice A32 ((ps.take k ++ ps.drop (k + 1)).length) c33] 33)] :: C31 :: R1 :: F) rfl rfl
  replace hS := hS.front 5 (C := R1) (L' := R2 :: (C18 ++ D) :: C25 :: [(b, rowO [.slice A32 ((ps.take k ++ ps.drop (k + 1)).length) c33] 33)] :: C31 :: F) rfl rfl
  replace hS := hS.front 5 (C := C31) (L' := R1 :: R2 :: (C18 ++ D) :: C25 :: [(b, rowO [.slice A32 ((ps.take k ++ ps.drop (k + 1)).length) c33] 33)] :: F) rfl rfl
  replace hS := hS.front 5 (C := [(b, rowO [.slice A32 ((ps.take k ++ ps.drop (k + 1)).length) c33] 33)]) (L' := C31 :: R1 :: R2 :: (C18 ++ D) :: C25 :: F) rfl rfl
  replace hS := hS.front 5 (C := C25) (L' := [(b, rowO [.slice A32 ((ps.take k ++ ps.drop (k + 1)).length) c33] 33)] :: C31 :: R1 :: R2 :: (C18 ++ D) :: F) rfl rfl
  replace hS := hS.front 5 (C := (C18 ++ D)) (L' := C25 :: [(b, rowO [.slice A32 ((ps.take k ++ ps.drop (k + 1)).length) c33] 33)] :: C31 :: R1 :: R2 :: F) rfl rfl
  replace hS := hS.front 5 (C := R2) (L' := (C18 ++ D) :: C25 :: [(b, rowO [.slice A32 ((ps.take k ++ ps.drop (k + 1)).length) c33] 33)] :: C31 :: R1 :: F) rfl rfl
  replace hS := hS.front 5 (C := R1) (L' := R2 :: (C18 ++ D) :: C25 :: [(b, rowO [.slice A32 ((ps.take k ++ ps.drop (k + 1)).length) c33] 33)] :: C31 :: F) rfl rfl
  replace hS := hS.join
  replace hS := hS.front 4 (C := C31) (L' := (R1 ++ R2) :: (C18 ++ D) :: C25 :: [(b, rowO [.slice A32 ((ps.take k ++ ps.drop (k + 1)).length) c33] 33)] :: F) rfl rfl
  replace hS := hS.front 4 (C := [(b, rowO [.slice A32 ((ps.take k ++ ps.drop (k + 1)).length) c33] 33)]) (L' := C31 :: (R1 ++ R2) :: (C18 ++ D) :: C25 :: F) rfl rfl
  replace hS := hS.join3
  have hmp : (ps.take k ++ ps.drop (k + 1)).map gv = (ps.map gv).take k ++ (ps.map gv).drop (k + 1) := by rw [List.map_append, List.map_take, List.map_drop]; all_goals (first | rfl | (simp only [gv, phas, ppk, List.map_set]; rfl))
  have hcd : cat (xb6.set ix (fr, to, id, ((ix : Nat) : Int), ((cn : Nat) : Int), A16, c17, bs)) (xb6.set ix (fr, to, id, ((ix : Nat) : Int), ((cn : Nat) : Int), A16, c17, bs)).length = ((xb6.map pdat).set ix bs).flatten := by rw [cat_dat, List.map_set]; rfl
  have hpos : decide ((((xb6.set ix (fr, to, id, ((ix : Nat) : Int), ((cn : Nat) : Int), A16, c17, bs)).length : Nat) : Int) > 0) = true := decide_eq_true (by rw [List.length_set]; omega)
  rw [hcd] at hO25
  exact ⟨_, C18, _, _, ⟨_, _, _, _, hO31, rfl, PO.app hR1 hR2, sub_all hI, encs_left (sub_all hdd), hmp⟩, hO25, by rw [hcd, hpos], hS⟩

end Go.Proofs.Ytbfdppfddlilgaa
