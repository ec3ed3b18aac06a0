import Derived.Test.YtjgcdlkbgneldaaProg
import Derived.Test.YtjgcdlkbgneldaaSK13
set_option linter.unusedVariables false
set_option linter.unusedSimpArgs false
set_option maxRecDepth 4000
namespace Go.Proofs.Ytjgcdlkbgneldaa
open Go Go.SK
theorem mixed : Try.prog.follows .mixedOrders = true := by kernel_rfl
theorem isfn5 : IsFn Try.prog 5 := fun args w => by kernel_rfl
theorem isfn6 : IsFn Try.prog 6 := fun args w => by kernel_rfl
theorem isfn7 : IsFn Try.prog 7 := fun args w => by kernel_rfl
theorem isfn8 : IsFn Try.prog 8 := fun args w => by kernel_rfl
noncomputable def tb : List TI := [
  ⟨3, Try.t3.desc, 1, 8, .int .i64 0⟩,
  ⟨4, Try.t4.desc, 1, 1, .bool false⟩,
  ⟨5, Try.t5.desc, 1, 1, .int .u8 0⟩,
  ⟨9, Try.t9.desc, 1, 16, .string (⟨#[]⟩ : ByteArray)⟩,
  ⟨22, Try.t22.desc, 1, 24, .slice none 0 0⟩,
  ⟨24, Try.t24.desc, 1, 8, .int .u64 0⟩,
  ⟨25, Try.t25.desc, 1, 24, .slice none 0 0⟩,
  ⟨27, Try.t26.desc, 6, 64, .agg #[.int .i64 0, .int .i64 0, .int .u64 0, .int .i64 0, .int .i64 0, .slice none 0 0]⟩,
  ⟨33, Try.t32.desc, 1, 16, .nilIface⟩,
  ⟨37, Try.t3.desc, 1, 8, .int .i64 0⟩]
theorem tbOk : TabOk Try.prog tb := ⟨
  ⟨by kernel_rfl, Try.t3, by kernel_rfl, by kernel_rfl, by kernel_rfl, by kernel_rfl⟩,
  ⟨by kernel_rfl, Try.t4, by kernel_rfl, by kernel_rfl, by kernel_rfl, by kernel_rfl⟩,
  ⟨by kernel_rfl, Try.t5, by kernel_rfl, by kernel_rfl, by kernel_rfl, by kernel_rfl⟩,
  ⟨by kernel_rfl, Try.t9, by kernel_rfl, by kernel_rfl, by kernel_rfl, by kernel_rfl⟩,
  ⟨by kernel_rfl, Try.t22, by kernel_rfl, by kernel_rfl, by kernel_rfl, by kernel_rfl⟩,
  ⟨by kernel_rfl, Try.t24, by kernel_rfl, by kernel_rfl, by kernel_rfl, by kernel_rfl⟩,
  ⟨by kernel_rfl, Try.t25, by kernel_rfl, by kernel_rfl, by kernel_rfl, by kernel_rfl⟩,
  ⟨by kernel_rfl, Try.t27, by kernel_rfl, by kernel_rfl, by kernel_rfl, by kernel_rfl⟩,
  ⟨by kernel_rfl, Try.t33, by kernel_rfl, by kernel_rfl, by kernel_rfl, by kernel_rfl⟩,
  ⟨by kernel_rfl, Try.t37, by kernel_rfl, by kernel_rfl, by kernel_rfl, by kernel_rfl⟩,
  trivial⟩
def encPacket (x : Int × Int × Int × Int × Int × Option Addr × Nat × List UInt8) : List Value := [.int .i64 x.1, .int .i64 x.2.1, .int .u64 x.2.2.1, .int .i64 x.2.2.2.1, .int .i64 x.2.2.2.2.1, .slice x.2.2.2.2.2.1 x.2.2.2.2.2.2.2.length x.2.2.2.2.2.2.1]
theorem encPacket_ok : Enc encPacket 6 := ⟨fun _ => rfl, fun x u hu => by simp only [encPacket, List.mem_cons, List.not_mem_nil, or_false] at hu; rcases hu with rfl | rfl | rfl | rfl | rfl | rfl <;> rfl⟩
def encPacket_dd (w0 : World) (D : Chunk) (x : Int × Int × Int × Int × Int × Option Addr × Nat × List UInt8) : Prop := DD w0 D x.2.2.2.2.2.1 x.2.2.2.2.2.2.1 x.2.2.2.2.2.2.2
theorem encPacket_left {w0 : World} {D E : Chunk} {x : Int × Int × Int × Int × Int × Option Addr × Nat × List UInt8} (h : encPacket_dd w0 D x) : encPacket_dd w0 (E ++ D) x := DD.left h
theorem encPacket_lefts {w0 : World} {D E : Chunk} {l : List (Int × Int × Int × Int × Int × Option Addr × Nat × List UInt8)} (h : ∀ x ∈ l, encPacket_dd w0 D x) : ∀ x ∈ l, encPacket_dd w0 (E ++ D) x := fun x hx => encPacket_left (h x hx)

abbrev Pkt := Int × Int × Int × Int × Int × Option Addr × Nat × List UInt8
def pdat (x : Pkt) : List UInt8 := x.2.2.2.2.2.2.2
def nP (l : List UInt8) (s : Nat) : Nat := max 1 ((l.length + s - 1) / s)
def piece (l : List UInt8) (s i : Nat) : List UInt8 := (l.take (min ((i + 1) * s) l.length)).drop (min (i * s) l.length)
def isPk (l : List UInt8) (fr to id : Int) (s i : Nat) (x : Pkt) : Prop := ∃ A c, x = (fr, to, id, ((i : Nat) : Int), ((nP l s : Nat) : Int), A, c, piece l s i)
theorem piece_len (l : List UInt8) (s i : Nat) : (piece l s i).length = min ((i + 1) * s) l.length - min (i * s) l.length := by
  rw [piece, List.length_drop, List.length_take]; omega
theorem piece_le (l : List UInt8) (s i : Nat) : (piece l s i).length ≤ s := by
  rw [piece_len, Nat.succ_mul]; omega
theorem nP_pos (l : List UInt8) (s : Nat) : 1 ≤ nP l s := Nat.le_max_left _ _
/-- All but the last one are full; the last one ends where the bytes end. -/
theorem nP_up {l : List UInt8} {s : Nat} (hs : 1 ≤ s) : l.length ≤ nP l s * s := by
  have h1 : (l.length + s - 1) / s ≤ nP l s := Nat.le_max_right _ _
  have h2 := Nat.div_add_mod (l.length + s - 1) s
  have h3 := Nat.mod_lt (l.length + s - 1) (show 0 < s by omega)
  have h4 : (l.length + s - 1) / s * s ≤ nP l s * s := Nat.mul_le_mul_right s h1
  rw [Nat.mul_comm] at h2
  omega
theorem nP_low {l : List UInt8} {s i : Nat} (hs : 1 ≤ s) (hi : i + 1 < nP l s) : (i + 1) * s < l.length := by
  have h0 : i + 1 < (l.length + s - 1) / s := by
    unfold nP at hi; omega
  have h1 : i + 2 ≤ (l.length + s - 1) / s := h0
  have h2 := Nat.div_add_mod (l.length + s - 1) s
  have h4 : (i + 2) * s ≤ (l.length + s - 1) / s * s := Nat.mul_le_mul_right s h1
  have h5 : (i + 2) * s = (i + 1) * s + s := Nat.succ_mul (i + 1) s
  rw [Nat.mul_comm] at h2
  omega
theorem piece_full {l : List UInt8} {s i : Nat} (hs : 1 ≤ s) (hi : i + 1 < nP l s) : (piece l s i).length = s := by
  have h := nP_low hs hi
  have h5 : (i + 1) * s = i * s + s := Nat.succ_mul i s
  rw [piece_len]; omega
theorem take_piece (l : List UInt8) (s i : Nat) : l.take (i * s) ++ piece l s i = l.take ((i + 1) * s) := by
  have h5 : (i + 1) * s = i * s + s := Nat.succ_mul i s
  rw [piece]
  by_cases h : l.length ≤ i * s
  · rw [Nat.min_eq_right h, Nat.min_eq_right (by omega), List.take_of_length_le (by omega), List.take_of_length_le (Nat.le_refl _), List.drop_eq_nil_of_le (Nat.le_refl _), List.append_nil, List.take_of_length_le (by omega)]
  · rw [Nat.min_eq_left (by omega)]
    have e1 : l.take (min ((i + 1) * s) l.length) = l.take ((i + 1) * s) := by
      by_cases h2 : l.length ≤ (i + 1) * s
      · rw [Nat.min_eq_right h2, List.take_of_length_le (Nat.le_refl _), List.take_of_length_le h2]
      · rw [Nat.min_eq_left (by omega)]
    rw [e1]
    have e2 : l.take (i * s) = (l.take ((i + 1) * s)).take (i * s) := by rw [List.take_take, Nat.min_eq_left (by omega)]
    rw [e2, List.take_append_drop]
/-- The data of the first ones, one behind the other. -/
def cat (ps : List Pkt) (k : Nat) : List UInt8 := ((ps.take k).map pdat).flatten
theorem cat_zero (ps : List Pkt) : cat ps 0 = [] := rfl
theorem cat_succ {ps : List Pkt} {k : Nat} {x : Pkt} (hx : ps[k]? = some x) : cat ps k ++ pdat x = cat ps (k + 1) := by
  rw [cat, cat, List.take_add_one, hx, List.map_append, List.flatten_append]; simp
theorem cat_split {l : List UInt8} {fr to id : Int} {s : Nat} {ps : List Pkt} (h : ∀ (i : Nat) (x : Pkt), ps[i]? = some x → isPk l fr to id s i x) : ∀ k, k ≤ ps.length → cat ps k = l.take (k * s)
  | 0, _ => by rw [cat_zero, Nat.zero_mul, List.take_zero]
  | k + 1, hk => by
    obtain ⟨x, hx⟩ := get_ex (l := ps) (k := k) (by omega)
    obtain ⟨A, c, e⟩ := h k x hx
    have h2 : pdat x = piece l s k := by rw [e]; rfl
    rw [← cat_succ hx, cat_split h k (by omega), h2, take_piece]
theorem cat_all {l : List UInt8} {fr to id : Int} {s : Nat} {ps : List Pkt} (hs : 1 ≤ s) (hn : ps.length = nP l s) (h : ∀ (i : Nat) (x : Pkt), ps[i]? = some x → isPk l fr to id s i x) : cat ps ps.length = l := by
  rw [cat_split h _ (Nat.le_refl _), hn, List.take_of_length_le (nP_up hs)]
/-- What Join asks of a packet at its place. -/
def fits (ps : List Pkt) (p0 x : Pkt) (k : Nat) : Prop := (1 ≤ x.2.2.2.2.1 ∧ x.2.2.2.2.1 ≤ 256 ∧ 0 ≤ x.2.2.2.1 ∧ x.2.2.2.1 < x.2.2.2.2.1 ∧ (pdat x).length ≤ 32768) ∧ x.2.2.2.1 = ((k : Nat) : Int) ∧ x.2.2.2.2.1 = ((ps.length : Nat) : Int) ∧ x.2.2.1 = p0.2.2.1 ∧ x.1 = p0.1 ∧ x.2.1 = p0.2.1
theorem fits_split {l : List UInt8} {fr to id : Int} {s : Nat} {ps : List Pkt} (hs : s ≤ 32768) (hn : ps.length = nP l s) (h256 : nP l s ≤ 256) (h : ∀ (i : Nat) (x : Pkt), ps[i]? = some x → isPk l fr to id s i x) : ∀ (i : Nat) (x p0 : Pkt), ps[i]? = some x → ps[0]? = some p0 → fits ps p0 x i := fun i x p0 hx h0 => by
  obtain ⟨A, c, e⟩ := h i x hx
  obtain ⟨A0, c0, e0⟩ := h 0 p0 h0
  have hi := (List.getElem?_eq_some_iff.1 hx).1
  have := piece_le l s i
  have := nP_pos l s
  subst e; subst e0
  refine ⟨⟨?_, ?_, ?_, ?_, ?_⟩, rfl, ?_, rfl, rfl, rfl⟩
  · simp only; omega
  · simp only; omega
  · simp only; omega
  · simp only; omega
  · show (piece l s i).length ≤ 32768; omega
  · simp only [hn]

theorem may6 {w0 w : World} {F : List Chunk} (hS : St w0 w F) (x0 x1 x2 x3 x4 : Int) (A : Option Addr) (c : Nat) (bs : List UInt8) :
    Ret Try.prog 6 #[.agg #[.int .i64 x0, .int .i64 x1, .int .u64 x2, .int .i64 x3, .int .i64 x4, .slice A bs.length c]] w (fun v w' => v = .bool (decide (1 ≤ x4 ∧ x4 ≤ 256 ∧ 0 ≤ x3 ∧ x3 < x4 ∧ bs.length ≤ 32768)) ∧ St w0 w' F) := by
  refine enter (vs := [.agg #[.int .i64 x0, .int .i64 x1, .int .u64 x2, .int .i64 x3, .int .i64 x4, .slice A bs.length c]]) 29 Try.func6 rfl rfl (by simp) ?_; intro a hA
  refine wp_seq ?_
  refine wp_region_lit ?_
  refine st_box hA hS [.int .i64 x0, .int .i64 x1, .int .u64 x2, .int .i64 x3, .int .i64 x4, .slice A bs.length c] rfl rfl rfl rfl rfl (by decide) ?_; clear hA hS; intro b1 w2 a hS hA
  refine st_run tbOk 1 hA (e' := (2, .bool false) :: _) rfl ?_; clear hA; intro a hA
  refine wpList_nil ?_
  replace hA := hA.sel [1] (e' := [(1, .pointer (some ⟨b1, 0, none⟩))]) rfl
  refine xt_norm ?_
  refine wp_seq ?_
  refine wp_region_lit ?_
  refine st_run tbOk 1 hA (e' := (3, .pointer (some ⟨b1, 4, none⟩)) :: _) rfl ?_; clear hA; intro a hA
  refine st_val hA rfl rfl (by decide) (rn_load tbOk hA rfl rfl rfl rfl (cell_row (hS.heapAt 0 rfl) rfl)) ?_; clear hA; intro a hA
  refine st_run tbOk 2 hA (e' := (6, .bool (decide (x4 ≥ 1))) :: (5, .bool (decide (x4 ≥ 1))) :: _) rfl ?_; clear hA; intro a hA
  by_cases hc3 : x4 ≥ 1
  · first
    | (exfalso; omega)
    | (replace hA := hA.rw 5 (v' := .bool true) rfl (vb_true hc3)
       replace hA := hA.rw 6 (v' := .bool true) rfl (vb_true hc3)
       refine st_run tbOk 1 hA (e' := (7, .pointer (some ⟨b1, 4, none⟩)) :: _) rfl ?_; clear hA; intro a hA
       refine st_val hA rfl rfl (by decide) (rn_load tbOk hA rfl rfl rfl rfl (cell_row (hS.heapAt 0 rfl) rfl)) ?_; clear hA; intro a hA
       refine st_run tbOk 3 hA (e' := (11, .bool (decide (x4 ≤ 256))) :: (10, .bool (decide (x4 ≤ 256))) :: (9, .bool (decide (x4 ≤ 256))) :: _) rfl ?_; clear hA; intro a hA
       by_cases hc4 : x4 ≤ 256
       · first
         | (exfalso; omega)
         | (replace hA := hA.rw 9 (v' := .bool true) rfl (vb_true hc4)
            replace hA := hA.rw 10 (v' := .bool true) rfl (vb_true hc4)
            replace hA := hA.rw 11 (v' := .bool true) rfl (vb_true hc4)
            refine st_run tbOk 1 hA (e' := (12, .pointer (some ⟨b1, 3, none⟩)) :: _) rfl ?_; clear hA; intro a hA
            refine st_val hA rfl rfl (by decide) (rn_load tbOk hA rfl rfl rfl rfl (cell_row (hS.heapAt 0 rfl) rfl)) ?_; clear hA; intro a hA
            refine st_run tbOk 3 hA (e' := (16, .bool (decide (x3 ≥ 0))) :: (15, .bool (decide (x3 ≥ 0))) :: (14, .bool (decide (x3 ≥ 0))) :: _) rfl ?_; clear hA; intro a hA
            by_cases hc5 : x3 ≥ 0
            · first
              | (exfalso; omega)
              | (replace hA := hA.rw 14 (v' := .bool true) rfl (vb_true hc5)
                 replace hA := hA.rw 15 (v' := .bool true) rfl (vb_true hc5)
                 replace hA := hA.rw 16 (v' := .bool true) rfl (vb_true hc5)
                 refine st_run tbOk 1 hA (e' := (17, .pointer (some ⟨b1, 3, none⟩)) :: _) rfl ?_; clear hA; intro a hA
                 refine st_val hA rfl rfl (by decide) (rn_load tbOk hA rfl rfl rfl rfl (cell_row (hS.heapAt 0 rfl) rfl)) ?_; clear hA; intro a hA
                 refine st_run tbOk 1 hA (e' := (19, .pointer (some ⟨b1, 4, none⟩)) :: _) rfl ?_; clear hA; intro a hA
                 refine st_val hA rfl rfl (by decide) (rn_load tbOk hA rfl rfl rfl rfl (cell_row (hS.heapAt 0 rfl) rfl)) ?_; clear hA; intro a hA
                 refine st_run tbOk 3 hA (e' := (23, .bool (decide (x3 < x4))) :: (22, .bool (decide (x3 < x4))) :: (21, .bool (decide (x3 < x4))) :: _) rfl ?_; clear hA; intro a hA
                 by_cases hc6 : x3 < x4
                 · first
                   | (exfalso; omega)
                   | (replace hA := hA.rw 21 (v' := .bool true) rfl (vb_true hc6)
                      replace hA := hA.rw 22 (v' := .bool true) rfl (vb_true hc6)
                      replace hA := hA.rw 23 (v' := .bool true) rfl (vb_true hc6)
                      refine st_run tbOk 1 hA (e' := (24, .pointer (some ⟨b1, 5, none⟩)) :: _) rfl ?_; clear hA; intro a hA
                      refine st_val hA rfl rfl (by decide) (rn_load tbOk hA rfl rfl rfl rfl (cell_row (hS.heapAt 0 rfl) rfl)) ?_; clear hA; intro a hA
                      refine st_run tbOk 4 hA (e' := (2, .bool (decide (((bs.length : Nat) : Int) ≤ 32768))) :: (28, .bool (decide (((bs.length : Nat) : Int) ≤ 32768))) :: (27, .bool (decide (((bs.length : Nat) : Int) ≤ 32768))) :: (26, .int .i64 ((bs.length : Nat) : Int)) :: _) rfl ?_; clear hA; intro a hA
                      refine wpList_nil ?_
                      replace hA := hA.sel [2] (e' := [(2, .bool (decide (((bs.length : Nat) : Int) ≤ 32768)))]) rfl
                      refine xt_norm ?_
                      refine wp_ret ?_
                      refine ret1 (fn := Try.f6) hA rfl rfl ?_
                      replace hS := hS.drop1
                      exact ⟨congrArg Value.bool (by rw [decide_eq_decide]; omega), hS⟩)
                 · first
                   | (exfalso; omega)
                   | (replace hA := hA.rw 21 (v' := .bool false) rfl (vb_false hc6)
                      replace hA := hA.rw 22 (v' := .bool false) rfl (vb_false hc6)
                      replace hA := hA.rw 23 (v' := .bool false) rfl (vb_false hc6)
                      refine st_run tbOk 6 hA (e' := (2, .bool false) :: (28, .bool false) :: (27, undef) :: (26, undef) :: (25, undef) :: (24, undef) :: _) rfl ?_; clear hA; intro a hA
                      refine wpList_nil ?_
                      replace hA := hA.sel [2] (e' := [(2, .bool false)]) rfl
                      refine xt_norm ?_
                      refine wp_ret ?_
                      refine ret1 (fn := Try.f6) hA rfl rfl ?_
                      replace hS := hS.drop1
                      exact ⟨congrArg Value.bool (by rw [eq_comm, decide_eq_false]; omega), hS⟩))
            · first
              | (exfalso; omega)
              | (replace hA := hA.rw 14 (v' := .bool false) rfl (vb_false hc5)
                 replace hA := hA.rw 15 (v' := .bool false) rfl (vb_false hc5)
                 replace hA := hA.rw 16 (v' := .bool false) rfl (vb_false hc5)
                 refine st_run tbOk 13 hA (e' := (2, .bool false) :: (28, .bool false) :: (27, undef) :: (26, undef) :: (25, undef) :: (24, undef) :: (23, .bool false) :: (22, .bool false) :: (21, undef) :: (20, undef) :: (19, undef) :: (18, undef) :: (17, undef) :: _) rfl ?_; clear hA; intro a hA
                 refine wpList_nil ?_
                 replace hA := hA.sel [2] (e' := [(2, .bool false)]) rfl
                 refine xt_norm ?_
                 refine wp_ret ?_
                 refine ret1 (fn := Try.f6) hA rfl rfl ?_
                 replace hS := hS.drop1
                 exact ⟨congrArg Value.bool (by rw [eq_comm, decide_eq_false]; omega), hS⟩))
       · first
         | (exfalso; omega)
         | (replace hA := hA.rw 9 (v' := .bool false) rfl (vb_false hc4)
            replace hA := hA.rw 10 (v' := .bool false) rfl (vb_false hc4)
            replace hA := hA.rw 11 (v' := .bool false) rfl (vb_false hc4)
            refine st_run tbOk 18 hA (e' := (2, .bool false) :: (28, .bool false) :: (27, undef) :: (26, undef) :: (25, undef) :: (24, undef) :: (23, .bool false) :: (22, .bool false) :: (21, undef) :: (20, undef) :: (19, undef) :: (18, undef) :: (17, undef) :: (16, .bool false) :: (15, .bool false) :: (14, undef) :: (13, undef) :: (12, undef) :: _) rfl ?_; clear hA; intro a hA
            refine wpList_nil ?_
            replace hA := hA.sel [2] (e' := [(2, .bool false)]) rfl
            refine xt_norm ?_
            refine wp_ret ?_
            refine ret1 (fn := Try.f6) hA rfl rfl ?_
            replace hS := hS.drop1
            exact ⟨congrArg Value.bool (by rw [eq_comm, decide_eq_false]; omega), hS⟩))
  · first
    | (exfalso; omega)
    | (replace hA := hA.rw 5 (v' := .bool false) rfl (vb_false hc3)
       replace hA := hA.rw 6 (v' := .bool false) rfl (vb_false hc3)
       refine st_run tbOk 23 hA (e' := (2, .bool false) :: (28, .bool false) :: (27, undef) :: (26, undef) :: (25, undef) :: (24, undef) :: (23, .bool false) :: (22, .bool false) :: (21, undef) :: (20, undef) :: (19, undef) :: (18, undef) :: (17, undef) :: (16, .bool false) :: (15, .bool false) :: (14, undef) :: (13, undef) :: (12, undef) :: (11, .bool false) :: (10, .bool false) :: (9, undef) :: (8, undef) :: (7, undef) :: _) rfl ?_; clear hA; intro a hA
       refine wpList_nil ?_
       replace hA := hA.sel [2] (e' := [(2, .bool false)]) rfl
       refine xt_norm ?_
       refine wp_ret ?_
       refine ret1 (fn := Try.f6) hA rfl rfl ?_
       replace hS := hS.drop1
       exact ⟨congrArg Value.bool (by rw [eq_comm, decide_eq_false]; omega), hS⟩)

theorem split_arg8 {w0 w : World} {F : List Chunk} (hS : St w0 w F) {v : Value} {l : List UInt8} (hr : RdS w0 F 1 v l.length (rows encB l)) (fr to id : Int) (s : Int) (h1 : s < 1 ∨ 32768 < s) :
    Ret Try.prog 8 #[v, .int .i64 fr, .int .i64 to, .int .u64 id, .int .i64 s] w (fun v w' => v = .tuple #[.slice none 0 0, .iface 37 (.int .i64 4)] ∧ St w0 w' F) := by
  obtain ⟨A, c, rfl, hmc, hcx⟩ := (hr w hS).open'
  refine enter (vs := [.slice A l.length c, .int .i64 fr, .int .i64 to, .int .u64 id, .int .i64 s]) 69 Try.func8 rfl rfl (by simp) ?_; intro a hA
  refine wp_seq ?_
  refine wp_region_lit ?_
  refine st_run tbOk 2 hA (e' := (11, .nilIface) :: (10, .slice none 0 0) :: _) rfl ?_; clear hA; intro a hA
  refine wpList_nil ?_
  replace hA := hA.sel [0, 1, 2, 3, 4] (e' := [(0, .slice A l.length c), (1, .int .i64 fr), (2, .int .i64 to), (3, .int .u64 id), (4, .int .i64 s)]) rfl
  refine xt_norm ?_
  refine wp_seq ?_
  refine wp_seq ?_
  refine wp_region_lit ?_
  refine st_run tbOk 3 hA (e' := (18, .bool (decide (s < 1))) :: (17, .bool (decide (s < 1))) :: (16, .int .i64 s) :: _) rfl ?_; clear hA; intro a hA
  by_cases hc1 : s < 1
  · first
    | (exfalso; omega)
    | (replace hA := hA.rw 17 (v' := .bool true) rfl (vb_true hc1)
       replace hA := hA.rw 18 (v' := .bool true) rfl (vb_true hc1)
       refine st_run tbOk 3 hA (e' := (21, .bool true) :: (20, undef) :: (19, undef) :: _) rfl ?_; clear hA; intro a hA
       refine wpList_nil ?_
       replace hA := hA.sel [0, 1, 2, 3, 4, 21] (e' := [(0, .slice A l.length c), (1, .int .i64 fr), (2, .int .i64 to), (3, .int .u64 id), (4, .int .i64 s), (21, .bool true)]) rfl
       refine xt_norm ?_
       refine cd_cond_t hA rfl ?_
       refine wp_seq ?_
       refine wp_region_lit ?_
       refine st_run tbOk 3 hA (e' := (11, .iface 37 (.int .i64 4)) :: (10, .slice none 0 0) :: (22, .iface 37 (.int .i64 4)) :: _) rfl ?_; clear hA; intro a hA
       refine wpList_nil ?_
       replace hA := hA.sel [10, 11] (e' := [(10, .slice none 0 0), (11, .iface 37 (.int .i64 4))]) rfl
       refine xt_norm ?_
       refine wp_ret (xt_ret ?_)
       refine ret2 (fn := Try.f8) hA rfl rfl rfl ?_
       exact ⟨rfl, hS⟩)
  · first
    | (exfalso; omega)
    | (replace hA := hA.rw 17 (v' := .bool false) rfl (vb_false hc1)
       replace hA := hA.rw 18 (v' := .bool false) rfl (vb_false hc1)
       refine st_run tbOk 3 hA (e' := (21, .bool (decide (s > 32768))) :: (20, .bool (decide (s > 32768))) :: (19, .int .i64 s) :: _) rfl ?_; clear hA; intro a hA
       refine wpList_nil ?_
       replace hA := hA.sel [0, 1, 2, 3, 4, 21] (e' := [(0, .slice A l.length c), (1, .int .i64 fr), (2, .int .i64 to), (3, .int .u64 id), (4, .int .i64 s), (21, .bool (decide (s > 32768)))]) rfl
       refine xt_norm ?_
       by_cases hc2 : s > 32768
       · first
         | (exfalso; omega)
         | (replace hA := hA.rw 21 (v' := .bool true) rfl (vb_true hc2)
            refine cd_cond_t hA rfl ?_
            refine wp_seq ?_
            refine wp_region_lit ?_
            refine st_run tbOk 3 hA (e' := (11, .iface 37 (.int .i64 4)) :: (10, .slice none 0 0) :: (22, .iface 37 (.int .i64 4)) :: _) rfl ?_; clear hA; intro a hA
            refine wpList_nil ?_
            replace hA := hA.sel [10, 11] (e' := [(10, .slice none 0 0), (11, .iface 37 (.int .i64 4))]) rfl
            refine xt_norm ?_
            refine wp_ret (xt_ret ?_)
            refine ret2 (fn := Try.f8) hA rfl rfl rfl ?_
            exact ⟨rfl, hS⟩)
       · first
         | (exfalso; omega)
         | (replace hA := hA.rw 21 (v' := .bool false) rfl (vb_false hc2)
            refine cd_cond_f hA rfl ?_
            refine wp_skip ?_
            refine xt_norm ?_
            refine wp_seq ?_
            refine wp_region_lit ?_
            refine st_run tbOk 4 hA (e' := (26, .int .i64 (IntKind.i64.wrap (((l.length : Nat) : Int) + s))) :: (25, .int .i64 s) :: (24, .int .i64 ((l.length : Nat) : Int)) :: (23, .slice A l.length c) :: _) rfl ?_; clear hA; intro a hA
            replace hA := hA.rw 26 (v' := .int .i64 (((l.length : Nat) : Int) + s)) rfl (wr64 (by omega) (by omega) (by omega))
            refine st_run tbOk 1 hA (e' := (27, .int .i64 (IntKind.i64.wrap ((((l.length : Nat) : Int) + s) - 1))) :: _) rfl ?_; clear hA; intro a hA
            replace hA := hA.rw 27 (v' := .int .i64 ((((l.length : Nat) : Int) + s) - 1)) rfl (wr64 (by omega) (by omega) (by omega))
            replace hA := hA.rw 27 (v' := .int .i64 ((l.length + s - 1 : Nat) : Int)) rfl (vint (by omega))
            refine st_run tbOk 1 hA (e' := (28, .int .i64 s) :: _) rfl ?_; clear hA; intro a hA
            refine st_val hA rfl rfl (by decide) (rn_quo hA rfl rfl rfl (by omega)) ?_; clear hA; intro a hA
            refine st_run tbOk 1 hA (e' := (30, .int .i64 (if IntKind.i64.wrap (((l.length + s - 1 : Nat) : Int).tdiv s) > 1 then IntKind.i64.wrap (((l.length + s - 1 : Nat) : Int).tdiv s) else 1)) :: _) rfl ?_; clear hA; intro a hA
            replace hA := hA.rw 30 (v' := .int .i64 ((nP l s : Nat) : Int)) rfl (vint (by unfold nP; split <;> omega))
            refine st_run tbOk 1 hA (e' := (12, .int .i64 ((nP l s : Nat) : Int)) :: _) rfl ?_; clear hA; intro a hA
            refine wpList_nil ?_
            replace hA := hA.sel [0, 1, 2, 3, 4, 12] (e' := [(0, .slice A l.length c), (1, .int .i64 fr), (2, .int .i64 to), (3, .int .u64 id), (4, .int .i64 s), (12, .int .i64 ((nP l s : Nat) : Int))]) rfl
            refine xt_norm ?_
            refine wp_seq ?_
            refine wp_seq ?_
            refine wp_region_lit ?_
            refine st_run tbOk 2 hA (e' := (32, .bool (decide (((nP l s : Nat) : Int) > 256))) :: (31, .int .i64 ((nP l s : Nat) : Int)) :: _) rfl ?_; clear hA; intro a hA
            refine wpList_nil ?_
            replace hA := hA.sel [0, 1, 2, 3, 4, 12, 32] (e' := [(0, .slice A l.length c), (1, .int .i64 fr), (2, .int .i64 to), (3, .int .u64 id), (4, .int .i64 s), (12, .int .i64 ((nP l s : Nat) : Int)), (32, .bool (decide (((nP l s : Nat) : Int) > 256)))]) rfl
            refine xt_norm ?_
            by_cases hc3 : ((nP l s : Nat) : Int) > 256
            · first
              | (exfalso; omega)
              | (replace hA := hA.rw 32 (v' := .bool true) rfl (vb_true hc3)
                 refine cd_cond_t hA rfl ?_
                 refine wp_seq ?_
                 refine wp_region_lit ?_
                 refine st_run tbOk 3 hA (e' := (11, .iface 37 (.int .i64 13)) :: (10, .slice none 0 0) :: (33, .iface 37 (.int .i64 13)) :: _) rfl ?_; clear hA; intro a hA
                 refine wpList_nil ?_
                 replace hA := hA.sel [10, 11] (e' := [(10, .slice none 0 0), (11, .iface 37 (.int .i64 13))]) rfl
                 refine xt_norm ?_
                 refine wp_ret (xt_ret ?_)
                 refine ret2 (fn := Try.f8) hA rfl rfl rfl ?_
                 exact ⟨rfl, hS⟩)
            · first
              | (exfalso; omega)
              | (replace hA := hA.rw 32 (v' := .bool false) rfl (vb_false hc3)
                 refine cd_cond_f hA rfl ?_
                 refine wp_skip ?_
                 refine xt_norm ?_
                 refine wp_seq ?_
                 refine wp_region_lit ?_
                 refine st_run tbOk 1 hA (e' := (34, .int .i64 ((nP l s : Nat) : Int)) :: _) rfl ?_; clear hA; intro a hA
                 refine st_makeSlice tbOk hA hS (nP l s) encPacket_ok (by decide) (0, 0, 0, 0, 0, none, 0, ([] : List UInt8)) rfl rfl rfl rfl rfl rfl rfl rfl (by show 64 * (nP l s) ≤ 281474976710656; omega) (by omega) rfl rfl (by decide) ?_; clear hA hS; intro b4 w5 a hS hA
                 obtain ⟨C6, hO6, hS⟩ : ∃ C, Own 27 6 (.slice (some ⟨b4, 0, none⟩) (nP l s) (nP l s)) (nP l s) (rows encPacket (List.replicate (nP l s) (0, 0, 0, 0, 0, none, 0, ([] : List UInt8)))) C ∧ St w0 w5 (C :: F) := ⟨_, Own.full (by rw [rows_length encPacket_ok, List.length_replicate]) (by show (nP l s) ≤ 9223372036854775807; omega), hS⟩
                 generalize (some (⟨b4, 0, none⟩ : Addr)) = A7 at hO6 hA
                 refine st_run tbOk 1 hA (e' := (13, .slice A7 (nP l s) (nP l s)) :: _) rfl ?_; clear hA; intro a hA
                 refine wpList_nil ?_
                 replace hA := hA.sel [0, 1, 2, 3, 4, 12, 13] (e' := [(0, .slice A l.length c), (1, .int .i64 fr), (2, .int .i64 to), (3, .int .u64 id), (4, .int .i64 s), (12, .int .i64 ((nP l s : Nat) : Int)), (13, .slice A7 (nP l s) (nP l s))]) rfl
                 refine xt_norm ?_
                 refine wp_seq ?_
                 refine wp_seq ?_
                 refine wp_region_lit ?_
                 refine st_run tbOk 3 hA (e' := (38, .int .i64 0) :: (37, .int .i64 ((nP l s : Nat) : Int)) :: (36, .slice A7 (nP l s) (nP l s)) :: _) rfl ?_; clear hA; intro a hA
                 refine wpList_nil ?_
                 replace hA := hA.sel [0, 1, 2, 3, 4, 12, 13, 37, 38] (e' := [(0, .slice A l.length c), (1, .int .i64 fr), (2, .int .i64 to), (3, .int .u64 id), (4, .int .i64 s), (12, .int .i64 ((nP l s : Nat) : Int)), (13, .slice A7 (nP l s) (nP l s)), (37, .int .i64 ((nP l s : Nat) : Int)), (38, .int .i64 0)]) rfl
                 refine xt_norm ?_
                 refine wp_block ?_
                 replace hS := hS.nil
                 replace hS := hS.front 1 (C := C6) (L' := [] :: F) rfl rfl
                 have hrl : (List.replicate (nP l s) ((0, 0, 0, 0, 0, none, 0, ([] : List UInt8)) : Pkt)).length = nP l s := List.length_replicate
                 replace hA := hA.rw 13 (v' := .slice A7 ((List.replicate (nP l s) ((0, 0, 0, 0, 0, none, 0, ([] : List UInt8)) : Pkt)).length) (nP l s)) rfl (by rw [hrl])
                 have hO0 : Own 27 6 (.slice A7 (List.replicate (nP l s) ((0, 0, 0, 0, 0, none, 0, ([] : List UInt8)) : Pkt)).length (nP l s)) (List.replicate (nP l s) ((0, 0, 0, 0, 0, none, 0, ([] : List UInt8)) : Pkt)).length (rows encPacket (List.replicate (nP l s) ((0, 0, 0, 0, 0, none, 0, ([] : List UInt8)) : Pkt))) C6 := by rw [hrl]; exact hO6
                 refine wp_loop_ghost (fun m a w => ∃ (k : Nat) (ps : List Pkt) (Ap : Option Addr) (cp : Nat) (C : Chunk) (D : Chunk), m = nP l s - k ∧ Has a 69 [(0, .slice A l.length c), (1, .int .i64 fr), (2, .int .i64 to), (3, .int .u64 id), (4, .int .i64 s), (12, .int .i64 ((nP l s : Nat) : Int)), (13, .slice Ap ps.length cp), (37, .int .i64 ((nP l s : Nat) : Int)), (38, .int .i64 ((k : Nat) : Int))] ∧ St w0 w (C :: D :: F) ∧ (k ≤ nP l s) ∧ (ps.length = nP l s) ∧ (∀ (i : Nat) (x : Pkt), i < k → ps[i]? = some x → isPk l fr to id s i x) ∧ (∀ x ∈ ps, encPacket_dd w0 D x) ∧ (Own 27 6 (.slice Ap ps.length cp) ps.length (rows encPacket ps) C)) (nP l s - 0)
                   ⟨0, (List.replicate (nP l s) ((0, 0, 0, 0, 0, none, 0, ([] : List UInt8)) : Pkt)), A7, (nP l s), C6, ([]), rfl, (hA.sel [0, 1, 2, 3, 4, 12, 13, 37, 38] rfl), hS, Nat.zero_le _, hrl, (fun i x hi => absurd hi (by omega)), (fun x hx => by rw [List.eq_of_mem_replicate hx]; exact DD.nil), hO0⟩ ?_
                 clear hA hS; rintro m0 a w8 ⟨k, ps, Ap, cp, C, D, rfl, hA, hS, hk, hpl, hall, hdd, hP⟩
                 have hk1 : (k + 1) * s = k * s + s := Nat.succ_mul k s
                 refine wp_seq ?_
                 refine wp_region_lit ?_
                 refine st_run tbOk 1 hA (e' := (39, .bool (decide (((k : Nat) : Int) < ((nP l s : Nat) : Int)))) :: _) rfl ?_; clear hA; intro a hA
                 refine wpList_nil ?_
                 refine xt_norm ?_
                 refine wp_seq ?_
                 by_cases hc9 : ((k : Nat) : Int) < ((nP l s : Nat) : Int)
                 · first
                   | (exfalso; omega)
                   | (replace hA := hA.rw 39 (v' := .bool true) rfl (vb_true hc9)
                      refine cd_cond_t hA rfl ?_
                      refine wp_skip ?_
                      refine xt_norm ?_
                      refine wp_seq ?_
                      refine wp_block ?_
                      refine wp_seq ?_
                      refine wp_region_lit ?_
                      refine st_run tbOk 2 hA (e' := (14, .int .i64 ((k : Nat) : Int)) :: (40, .int .i64 ((k : Nat) : Int)) :: _) rfl ?_; clear hA; intro a hA
                      refine wpList_nil ?_
                      replace hA := hA.sel [0, 1, 2, 3, 4, 12, 13, 14, 37, 38] (e' := [(0, .slice A l.length c), (1, .int .i64 fr), (2, .int .i64 to), (3, .int .u64 id), (4, .int .i64 s), (12, .int .i64 ((nP l s : Nat) : Int)), (13, .slice Ap ps.length cp), (14, .int .i64 ((k : Nat) : Int)), (37, .int .i64 ((nP l s : Nat) : Int)), (38, .int .i64 ((k : Nat) : Int))]) rfl
                      refine xt_norm ?_
                      refine wp_seq ?_
                      refine wp_region_lit ?_
                      have hks : k * s ≤ 256 * 32768 := Nat.mul_le_mul (by omega) (by omega)
                      refine st_run tbOk 4 hA (e' := (44, .int .i64 (IntKind.i64.wrap (((k : Nat) : Int) * s))) :: (43, .int .i64 s) :: (42, .int .i64 ((k : Nat) : Int)) :: (41, .slice A l.length c) :: _) rfl ?_; clear hA; intro a hA
                      replace hA := hA.rw 44 (v' := .int .i64 (((k : Nat) : Int) * s)) rfl (wr64 (by omega) (by omega) (by omega))
                      refine st_run tbOk 3 hA (e' := (47, .int .i64 (if ((l.length : Nat) : Int) < ((k : Nat) : Int) * s then ((l.length : Nat) : Int) else ((k : Nat) : Int) * s)) :: (46, .int .i64 ((l.length : Nat) : Int)) :: (45, .slice A l.length c) :: _) rfl ?_; clear hA; intro a hA
                      replace hA := hA.rw 47 (v' := .int .i64 ((min (k * s) l.length : Nat) : Int)) rfl (vint (by split <;> omega))
                      refine st_run tbOk 2 hA (e' := (49, .int .i64 (IntKind.i64.wrap (((k : Nat) : Int) + 1))) :: (48, .int .i64 ((k : Nat) : Int)) :: _) rfl ?_; clear hA; intro a hA
                      replace hA := hA.rw 49 (v' := .int .i64 ((k + 1 : Nat) : Int)) rfl (wr64 (by omega) (by omega) (by omega))
                      refine st_run tbOk 2 hA (e' := (51, .int .i64 (IntKind.i64.wrap (((k + 1 : Nat) : Int) * s))) :: (50, .int .i64 s) :: _) rfl ?_; clear hA; intro a hA
                      replace hA := hA.rw 51 (v' := .int .i64 (((k + 1 : Nat) : Int) * s)) rfl (wr64 (by omega) (by omega) (by omega))
                      refine st_run tbOk 3 hA (e' := (54, .int .i64 (if ((l.length : Nat) : Int) < ((k + 1 : Nat) : Int) * s then ((l.length : Nat) : Int) else ((k + 1 : Nat) : Int) * s)) :: (53, .int .i64 ((l.length : Nat) : Int)) :: (52, .slice A l.length c) :: _) rfl ?_; clear hA; intro a hA
                      replace hA := hA.rw 54 (v' := .int .i64 ((min ((k + 1) * s) l.length : Nat) : Int)) rfl (vint (by split <;> omega))
                      refine st_val hA rfl rfl (by decide) (rn_slice_lh tbOk hA (min (k * s) l.length) (min ((k + 1) * s) l.length) rfl rfl rfl rfl rfl rfl rfl (by rfl) (by rfl) (by omega) (by omega)) ?_; clear hA; intro a hA
                      refine st_run tbOk 1 hA (e' := (15, slv A (min (k * s) l.length) (min ((k + 1) * s) l.length) c 1) :: _) rfl ?_; clear hA; intro a hA
                      refine wpList_nil ?_
                      replace hA := hA.sel [0, 1, 2, 3, 4, 12, 13, 14, 15, 37, 38] (e' := [(0, .slice A l.length c), (1, .int .i64 fr), (2, .int .i64 to), (3, .int .u64 id), (4, .int .i64 s), (12, .int .i64 ((nP l s : Nat) : Int)), (13, .slice Ap ps.length cp), (14, .int .i64 ((k : Nat) : Int)), (15, slv A (min (k * s) l.length) (min ((k + 1) * s) l.length) c 1), (37, .int .i64 ((nP l s : Nat) : Int)), (38, .int .i64 ((k : Nat) : Int))]) rfl
                      refine xt_norm ?_
                      refine wp_region_lit ?_
                      refine st_run tbOk 8 hA (e' := (63, slv A (min (k * s) l.length) (min ((k + 1) * s) l.length) c 1) :: (62, .int .i64 ((nP l s : Nat) : Int)) :: (61, .int .i64 ((k : Nat) : Int)) :: (60, .int .u64 id) :: (59, .int .i64 to) :: (58, .int .i64 fr) :: (57, .int .i64 ((k : Nat) : Int)) :: (56, .slice Ap ps.length cp) :: _) rfl ?_; clear hA; intro a hA
                      replace hS := hS.nil
                      refine st_append tbOk hA (m := 0) (q := ((l.take (min ((k + 1) * s) l.length)).drop (min (k * s) l.length)).length) (xs := rows encB ([] : List UInt8)) (news := rows encB ((l.take (min ((k + 1) * s) l.length)).drop (min (k * s) l.length))) rfl rfl rfl rfl rfl rfl rfl rfl (by decide) (Own.nil 5 1) hS (((hr _ (hS.tail 3 rfl)).rslv encB_ok (min (k * s) l.length) (min ((k + 1) * s) l.length) c (by omega) (by omega) (by omega) (by omega)).x) (rows_one encB_ok _) (maxLen_le (by first | omega | (have h9 := piece_le l s k; rw [piece] at h9; omega))) (by show (0 + ((l.take (min ((k + 1) * s) l.length)).drop (min (k * s) l.length)).length) * 1 ≤ 140737488355328; first | omega | (have h9 := piece_le l s k; rw [piece] at h9; omega)) rfl rfl (by decide) ?_
                      clear hA hS; intro v10 w11 C12 a hO12 hS hA
                      replace hO12 := Own.app (l := ([] : List UInt8)) (l2 := (l.take (min ((k + 1) * s) l.length)).drop (min (k * s) l.length)) hO12
                      replace hO12 : Own 5 1 v10 ((l.take (min ((k + 1) * s) l.length)).drop (min (k * s) l.length)).length (rows encB ((l.take (min ((k + 1) * s) l.length)).drop (min (k * s) l.length))) C12 := hO12
                      obtain ⟨A13, c14, rfl, hmc14, hxc14⟩ := hO12.open'
                      have hl : (l.take (min ((k + 1) * s) l.length)).drop (min (k * s) l.length) = piece l s k := rfl
                      rw [hl] at hO12; rw [hl] at hA
                      refine st_val hA rfl rfl (by decide) (rn_build tbOk hA rfl rfl rfl rfl rfl rfl rfl) ?_; clear hA; intro a hA
                      obtain ⟨b15, o16, rfl⟩ := hP.isSome (k := k) (by omega)
                      refine st_val hA rfl rfl (by decide) (rn_indexAddr tbOk hA k (o16 + (k * 6)) rfl rfl rfl rfl rfl rfl (by rfl) (by omega) (by first | rfl | simp [Nat.mul_one, Nat.zero_add] | omega)) ?_; clear hA; intro a hA
                      obtain ⟨px, hpx⟩ := get_ex (l := ps) (k := k) (by omega)
                      replace hS := hS.front 1 (C := C) (L' := C12 :: D :: F) rfl rfl
                      refine st_store_own tbOk hA hP hS ((k * 6)) (o16 + (k * 6)) [.int .i64 fr, .int .i64 to, .int .u64 id, .int .i64 ((k : Nat) : Int), .int .i64 ((nP l s : Nat) : Int), .slice A13 ((piece l s k).length) c14] (rows encPacket (ps.set k (fr, to, id, ((k : Nat) : Int), ((nP l s : Nat) : Int), A13, c14, (piece l s k)))) rfl rfl rfl rfl (by rfl) rfl rfl (by exact encPacket_ok.one (fr, to, id, ((k : Nat) : Int), ((nP l s : Nat) : Int), A13, c14, (piece l s k))) (by simp only [rows_length encPacket_ok]; simp; omega) (rows_setf encPacket_ok (fr, to, id, ((k : Nat) : Int), ((nP l s : Nat) : Int), A13, c14, (piece l s k)) (show ps[k]? = some _ from hpx) 0 [.int .i64 fr, .int .i64 to, .int .u64 id, .int .i64 ((k : Nat) : Int), .int .i64 ((nP l s : Nat) : Int), .slice A13 ((piece l s k).length) c14] (Nat.le_of_ble_eq_true rfl) rfl) rfl rfl ?_; clear hS; intro w17 C18 hO18 hS
                      refine wpList_nil ?_
                      replace hA := hA.sel [0, 1, 2, 3, 4, 12, 13, 37, 38] (e' := [(0, .slice A l.length c), (1, .int .i64 fr), (2, .int .i64 to), (3, .int .u64 id), (4, .int .i64 s), (12, .int .i64 ((nP l s : Nat) : Int)), (13, .slice (some ⟨b15, o16, none⟩) ps.length cp), (37, .int .i64 ((nP l s : Nat) : Int)), (38, .int .i64 ((k : Nat) : Int))]) rfl
                      refine xb_norm ?_
                      refine xt_norm ?_
                      refine wp_region_lit ?_
                      refine st_run tbOk 1 hA (e' := (67, .int .i64 (IntKind.i64.wrap (((k : Nat) : Int) + 1))) :: _) rfl ?_; clear hA; intro a hA
                      replace hA := hA.rw 67 (v' := .int .i64 ((k + 1 : Nat) : Int)) rfl (wr64 (by omega) (by omega) (by omega))
                      refine st_run tbOk 1 hA (e' := (38, .int .i64 ((k + 1 : Nat) : Int)) :: _) rfl ?_; clear hA; intro a hA
                      refine wpList_nil ?_
                      replace hA := hA.sel [0, 1, 2, 3, 4, 12, 13, 37, 38] (e' := [(0, .slice A l.length c), (1, .int .i64 fr), (2, .int .i64 to), (3, .int .u64 id), (4, .int .i64 s), (12, .int .i64 ((nP l s : Nat) : Int)), (13, .slice (some ⟨b15, o16, none⟩) ps.length cp), (37, .int .i64 ((nP l s : Nat) : Int)), (38, .int .i64 ((k + 1 : Nat) : Int))]) rfl
                      replace hS := hS.front 2 (C := D) (L' := C18 :: C12 :: F) rfl rfl
                      replace hS := hS.front 2 (C := C12) (L' := D :: C18 :: F) rfl rfl
                      replace hS := hS.join
                      replace hS := hS.front 1 (C := C18) (L' := (C12 ++ D) :: F) rfl rfl
                      have hdn := (DD.new (w0 := w0) hO12).right (E := D)
                      have hkp : k < ps.length := by omega
                      replace hA := hA.rw 13 (v' := .slice (some ⟨b15, o16, none⟩) ((ps.set k (fr, to, id, ((k : Nat) : Int), ((nP l s : Nat) : Int), A13, c14, (piece l s k))).length) cp) rfl (by rw [List.length_set])
                      exact lp_next _ (by omega) ⟨(k + 1), (ps.set k (fr, to, id, ((k : Nat) : Int), ((nP l s : Nat) : Int), A13, c14, (piece l s k))), (some ⟨b15, o16, none⟩), cp, C18, (C12 ++ D), rfl, (hA.sel [0, 1, 2, 3, 4, 12, 13, 37, 38] rfl), hS, by omega, (by rw [List.length_set]; omega), (fun i x hi hx => by
                            by_cases hik : i = k
                            · subst hik
                              rw [List.getElem?_set_self hkp] at hx
                              injection hx with hx
                              subst hx
                              exact ⟨_, _, rfl⟩
                            · rw [List.getElem?_set_ne (Ne.symm hik)] at hx
                              exact hall i x (by omega) hx), (fun x hx => by
                            rcases List.mem_or_eq_of_mem_set hx with hx | rfl
                            · exact encPacket_left (hdd x hx)
                            · exact hdn), (by rw [List.length_set]; exact hO18)⟩)
                 · first
                   | (exfalso; omega)
                   | (replace hA := hA.rw 39 (v' := .bool false) rfl (vb_false hc9)
                      refine cd_cond_f hA rfl ?_
                      refine wp_exit ?_
                      refine xt_exit ?_
                      refine xt_exit ?_
                      refine cd_exit_eq ?_
                      refine xt_norm ?_
                      refine wp_seq ?_
                      refine wp_region_lit ?_
                      refine st_run tbOk 3 hA (e' := (11, .nilIface) :: (10, .slice Ap ps.length cp) :: (68, .slice Ap ps.length cp) :: _) rfl ?_; clear hA; intro a hA
                      refine wpList_nil ?_
                      replace hA := hA.sel [10, 11] (e' := [(10, .slice Ap ps.length cp), (11, .nilIface)]) rfl
                      refine xt_norm ?_
                      refine wp_ret ?_
                      refine ret2 (fn := Try.f8) hA rfl rfl rfl ?_
                      replace hS := hS.drop1
                      replace hS := hS.drop1
                      exact ⟨rfl, hS⟩))))

theorem split_many8 {w0 w : World} {F : List Chunk} (hS : St w0 w F) {v : Value} {l : List UInt8} (hr : RdS w0 F 1 v l.length (rows encB l)) (fr to id : Int) (s : Nat) (h1 : 1 ≤ s) (h2 : s ≤ 32768) (h3 : 256 < nP l s) (hlb : l.length ≤ 281474976710656) :
    Ret Try.prog 8 #[v, .int .i64 fr, .int .i64 to, .int .u64 id, .int .i64 ((s : Nat) : Int)] w (fun v w' => v = .tuple #[.slice none 0 0, .iface 37 (.int .i64 13)] ∧ St w0 w' F) := by
  obtain ⟨A, c, rfl, hmc, hcx⟩ := (hr w hS).open'
  refine enter (vs := [.slice A l.length c, .int .i64 fr, .int .i64 to, .int .u64 id, .int .i64 ((s : Nat) : Int)]) 69 Try.func8 rfl rfl (by simp) ?_; intro a hA
  refine wp_seq ?_
  refine wp_region_lit ?_
  refine st_run tbOk 2 hA (e' := (11, .nilIface) :: (10, .slice none 0 0) :: _) rfl ?_; clear hA; intro a hA
  refine wpList_nil ?_
  replace hA := hA.sel [0, 1, 2, 3, 4] (e' := [(0, .slice A l.length c), (1, .int .i64 fr), (2, .int .i64 to), (3, .int .u64 id), (4, .int .i64 ((s : Nat) : Int))]) rfl
  refine xt_norm ?_
  refine wp_seq ?_
  refine wp_seq ?_
  refine wp_region_lit ?_
  refine st_run tbOk 3 hA (e' := (18, .bool (decide (((s : Nat) : Int) < 1))) :: (17, .bool (decide (((s : Nat) : Int) < 1))) :: (16, .int .i64 ((s : Nat) : Int)) :: _) rfl ?_; clear hA; intro a hA
  have hc1 : ¬ (((s : Nat) : Int) < 1) := by omega
  replace hA := hA.rw 17 (v' := .bool false) rfl (vb_false hc1)
  replace hA := hA.rw 18 (v' := .bool false) rfl (vb_false hc1)
  refine st_run tbOk 3 hA (e' := (21, .bool (decide (((s : Nat) : Int) > 32768))) :: (20, .bool (decide (((s : Nat) : Int) > 32768))) :: (19, .int .i64 ((s : Nat) : Int)) :: _) rfl ?_; clear hA; intro a hA
  refine wpList_nil ?_
  replace hA := hA.sel [0, 1, 2, 3, 4, 21] (e' := [(0, .slice A l.length c), (1, .int .i64 fr), (2, .int .i64 to), (3, .int .u64 id), (4, .int .i64 ((s : Nat) : Int)), (21, .bool (decide (((s : Nat) : Int) > 32768)))]) rfl
  refine xt_norm ?_
  have hc2 : ¬ (((s : Nat) : Int) > 32768) := by omega
  replace hA := hA.rw 21 (v' := .bool false) rfl (vb_false hc2)
  refine cd_cond_f hA rfl ?_
  refine wp_skip ?_
  refine xt_norm ?_
  refine wp_seq ?_
  refine wp_region_lit ?_
  refine st_run tbOk 4 hA (e' := (26, .int .i64 (IntKind.i64.wrap (((l.length : Nat) : Int) + ((s : Nat) : Int)))) :: (25, .int .i64 ((s : Nat) : Int)) :: (24, .int .i64 ((l.length : Nat) : Int)) :: (23, .slice A l.length c) :: _) rfl ?_; clear hA; intro a hA
  replace hA := hA.rw 26 (v' := .int .i64 ((l.length + s : Nat) : Int)) rfl (wr64 (by omega) (by omega) (by omega))
  refine st_run tbOk 1 hA (e' := (27, .int .i64 (IntKind.i64.wrap (((l.length + s : Nat) : Int) - 1))) :: _) rfl ?_; clear hA; intro a hA
  replace hA := hA.rw 27 (v' := .int .i64 (((l.length + s : Nat) : Int) - 1)) rfl (wr64 (by omega) (by omega) (by omega))
  replace hA := hA.rw 27 (v' := .int .i64 ((l.length + s - 1 : Nat) : Int)) rfl (vint (by omega))
  refine st_run tbOk 1 hA (e' := (28, .int .i64 ((s : Nat) : Int)) :: _) rfl ?_; clear hA; intro a hA
  refine st_val hA rfl rfl (by decide) (rn_quo hA rfl rfl rfl (by omega)) ?_; clear hA; intro a hA
  have hdv3 := Nat.div_le_self (l.length + s - 1) s
  replace hA := hA.rw 29 (v' := .int .i64 (((l.length + s - 1) / s : Nat) : Int)) rfl (wr64 (Int.ofNat_tdiv _ _).symm (Int.le_trans (show (-9223372036854775808 : Int) ≤ 0 by decide) (Int.natCast_nonneg _)) (by omega))
  refine st_run tbOk 1 hA (e' := (30, .int .i64 (if (((l.length + s - 1) / s : Nat) : Int) > 1 then (((l.length + s - 1) / s : Nat) : Int) else 1)) :: _) rfl ?_; clear hA; intro a hA
  replace hA := hA.rw 30 (v' := .int .i64 ((nP l s : Nat) : Int)) rfl (vint (by unfold nP; split <;> omega))
  refine st_run tbOk 1 hA (e' := (12, .int .i64 ((nP l s : Nat) : Int)) :: _) rfl ?_; clear hA; intro a hA
  refine wpList_nil ?_
  replace hA := hA.sel [0, 1, 2, 3, 4, 12] (e' := [(0, .slice A l.length c), (1, .int .i64 fr), (2, .int .i64 to), (3, .int .u64 id), (4, .int .i64 ((s : Nat) : Int)), (12, .int .i64 ((nP l s : Nat) : Int))]) rfl
  refine xt_norm ?_
  refine wp_seq ?_
  refine wp_seq ?_
  refine wp_region_lit ?_
  refine st_run tbOk 2 hA (e' := (32, .bool (decide (((nP l s : Nat) : Int) > 256))) :: (31, .int .i64 ((nP l s : Nat) : Int)) :: _) rfl ?_; clear hA; intro a hA
  refine wpList_nil ?_
  replace hA := hA.sel [0, 1, 2, 3, 4, 12, 32] (e' := [(0, .slice A l.length c), (1, .int .i64 fr), (2, .int .i64 to), (3, .int .u64 id), (4, .int .i64 ((s : Nat) : Int)), (12, .int .i64 ((nP l s : Nat) : Int)), (32, .bool (decide (((nP l s : Nat) : Int) > 256)))]) rfl
  refine xt_norm ?_
  have hc4 : ((nP l s : Nat) : Int) > 256 := by omega
  replace hA := hA.rw 32 (v' := .bool true) rfl (vb_true hc4)
  refine cd_cond_t hA rfl ?_
  refine wp_seq ?_
  refine wp_region_lit ?_
  refine st_run tbOk 3 hA (e' := (11, .iface 37 (.int .i64 13)) :: (10, .slice none 0 0) :: (33, .iface 37 (.int .i64 13)) :: _) rfl ?_; clear hA; intro a hA
  refine wpList_nil ?_
  replace hA := hA.sel [10, 11] (e' := [(10, .slice none 0 0), (11, .iface 37 (.int .i64 13))]) rfl
  refine xt_norm ?_
  refine wp_ret (xt_ret ?_)
  refine ret2 (fn := Try.f8) hA rfl rfl rfl ?_
  exact ⟨rfl, hS⟩

theorem split_ok8 {w0 w : World} {F : List Chunk} (hS : St w0 w F) {v : Value} {l : List UInt8} (hr : RdS w0 F 1 v l.length (rows encB l)) (fr to id : Int) (s : Nat) (h1 : 1 ≤ s) (h2 : s ≤ 32768) (h3 : nP l s ≤ 256) (hlb : l.length ≤ 281474976710656) :
    Ret Try.prog 8 #[v, .int .i64 fr, .int .i64 to, .int .u64 id, .int .i64 ((s : Nat) : Int)] w (fun v w' => ∃ v1 ps C D, Own 27 6 v1 ps.length (rows encPacket ps) C ∧ ps.length = nP l s ∧ (∀ (i : Nat) (x : Pkt), ps[i]? = some x → isPk l fr to id s i x) ∧ (∀ x ∈ ps, encPacket_dd w0 D x) ∧ v = .tuple #[v1, .nilIface] ∧ St w0 w' (C :: D :: F)) := by
  obtain ⟨A, c, rfl, hmc, hcx⟩ := (hr w hS).open'
  refine enter (vs := [.slice A l.length c, .int .i64 fr, .int .i64 to, .int .u64 id, .int .i64 ((s : Nat) : Int)]) 69 Try.func8 rfl rfl (by simp) ?_; intro a hA
  refine wp_seq ?_
  refine wp_region_lit ?_
  refine st_run tbOk 2 hA (e' := (11, .nilIface) :: (10, .slice none 0 0) :: _) rfl ?_; clear hA; intro a hA
  refine wpList_nil ?_
  replace hA := hA.sel [0, 1, 2, 3, 4] (e' := [(0, .slice A l.length c), (1, .int .i64 fr), (2, .int .i64 to), (3, .int .u64 id), (4, .int .i64 ((s : Nat) : Int))]) rfl
  refine xt_norm ?_
  refine wp_seq ?_
  refine wp_seq ?_
  refine wp_region_lit ?_
  refine st_run tbOk 3 hA (e' := (18, .bool (decide (((s : Nat) : Int) < 1))) :: (17, .bool (decide (((s : Nat) : Int) < 1))) :: (16, .int .i64 ((s : Nat) : Int)) :: _) rfl ?_; clear hA; intro a hA
  have hc1 : ¬ (((s : Nat) : Int) < 1) := by omega
  replace hA := hA.rw 17 (v' := .bool false) rfl (vb_false hc1)
  replace hA := hA.rw 18 (v' := .bool false) rfl (vb_false hc1)
  refine st_run tbOk 3 hA (e' := (21, .bool (decide (((s : Nat) : Int) > 32768))) :: (20, .bool (decide (((s : Nat) : Int) > 32768))) :: (19, .int .i64 ((s : Nat) : Int)) :: _) rfl ?_; clear hA; intro a hA
  refine wpList_nil ?_
  replace hA := hA.sel [0, 1, 2, 3, 4, 21] (e' := [(0, .slice A l.length c), (1, .int .i64 fr), (2, .int .i64 to), (3, .int .u64 id), (4, .int .i64 ((s : Nat) : Int)), (21, .bool (decide (((s : Nat) : Int) > 32768)))]) rfl
  refine xt_norm ?_
  have hc2 : ¬ (((s : Nat) : Int) > 32768) := by omega
  replace hA := hA.rw 21 (v' := .bool false) rfl (vb_false hc2)
  refine cd_cond_f hA rfl ?_
  refine wp_skip ?_
  refine xt_norm ?_
  refine wp_seq ?_
  refine wp_region_lit ?_
  refine st_run tbOk 4 hA (e' := (26, .int .i64 (IntKind.i64.wrap (((l.length : Nat) : Int) + ((s : Nat) : Int)))) :: (25, .int .i64 ((s : Nat) : Int)) :: (24, .int .i64 ((l.length : Nat) : Int)) :: (23, .slice A l.length c) :: _) rfl ?_; clear hA; intro a hA
  replace hA := hA.rw 26 (v' := .int .i64 ((l.length + s : Nat) : Int)) rfl (wr64 (by omega) (by omega) (by omega))
  refine st_run tbOk 1 hA (e' := (27, .int .i64 (IntKind.i64.wrap (((l.length + s : Nat) : Int) - 1))) :: _) rfl ?_; clear hA; intro a hA
  replace hA := hA.rw 27 (v' := .int .i64 (((l.length + s : Nat) : Int) - 1)) rfl (wr64 (by omega) (by omega) (by omega))
  replace hA := hA.rw 27 (v' := .int .i64 ((l.length + s - 1 : Nat) : Int)) rfl (vint (by omega))
  refine st_run tbOk 1 hA (e' := (28, .int .i64 ((s : Nat) : Int)) :: _) rfl ?_; clear hA; intro a hA
  refine st_val hA rfl rfl (by decide) (rn_quo hA rfl rfl rfl (by omega)) ?_; clear hA; intro a hA
  have hdv3 := Nat.div_le_self (l.length + s - 1) s
  replace hA := hA.rw 29 (v' := .int .i64 (((l.length + s - 1) / s : Nat) : Int)) rfl (wr64 (Int.ofNat_tdiv _ _).symm (Int.le_trans (show (-9223372036854775808 : Int) ≤ 0 by decide) (Int.natCast_nonneg _)) (by omega))
  refine st_run tbOk 1 hA (e' := (30, .int .i64 (if (((l.length + s - 1) / s : Nat) : Int) > 1 then (((l.length + s - 1) / s : Nat) : Int) else 1)) :: _) rfl ?_; clear hA; intro a hA
  replace hA := hA.rw 30 (v' := .int .i64 ((nP l s : Nat) : Int)) rfl (vint (by unfold nP; split <;> omega))
  refine st_run tbOk 1 hA (e' := (12, .int .i64 ((nP l s : Nat) : Int)) :: _) rfl ?_; clear hA; intro a hA
  refine wpList_nil ?_
  replace hA := hA.sel [0, 1, 2, 3, 4, 12] (e' := [(0, .slice A l.length c), (1, .int .i64 fr), (2, .int .i64 to), (3, .int .u64 id), (4, .int .i64 ((s : Nat) : Int)), (12, .int .i64 ((nP l s : Nat) : Int))]) rfl
  refine xt_norm ?_
  refine wp_seq ?_
  refine wp_seq ?_
  refine wp_region_lit ?_
  refine st_run tbOk 2 hA (e' := (32, .bool (decide (((nP l s : Nat) : Int) > 256))) :: (31, .int .i64 ((nP l s : Nat) : Int)) :: _) rfl ?_; clear hA; intro a hA
  refine wpList_nil ?_
  replace hA := hA.sel [0, 1, 2, 3, 4, 12, 32] (e' := [(0, .slice A l.length c), (1, .int .i64 fr), (2, .int .i64 to), (3, .int .u64 id), (4, .int .i64 ((s : Nat) : Int)), (12, .int .i64 ((nP l s : Nat) : Int)), (32, .bool (decide (((nP l s : Nat) : Int) > 256)))]) rfl
  refine xt_norm ?_
  have hc4 : ¬ (((nP l s : Nat) : Int) > 256) := by omega
  replace hA := hA.rw 32 (v' := .bool false) rfl (vb_false hc4)
  refine cd_cond_f hA rfl ?_
  refine wp_skip ?_
  refine xt_norm ?_
  refine wp_seq ?_
  refine wp_region_lit ?_
  refine st_run tbOk 1 hA (e' := (34, .int .i64 ((nP l s : Nat) : Int)) :: _) rfl ?_; clear hA; intro a hA
  refine st_makeSlice tbOk hA hS (nP l s) encPacket_ok (by decide) (0, 0, 0, 0, 0, none, 0, ([] : List UInt8)) rfl rfl rfl rfl rfl rfl rfl rfl (by show 64 * (nP l s) ≤ 281474976710656; omega) (by omega) rfl rfl (by decide) ?_; clear hA hS; intro b5 w6 a hS hA
  obtain ⟨C7, hO7, hS⟩ : ∃ C, Own 27 6 (.slice (some ⟨b5, 0, none⟩) (nP l s) (nP l s)) (nP l s) (rows encPacket (List.replicate (nP l s) (0, 0, 0, 0, 0, none, 0, ([] : List UInt8)))) C ∧ St w0 w6 (C :: F) := ⟨_, Own.full (by rw [rows_length encPacket_ok, List.length_replicate]) (by show (nP l s) ≤ 9223372036854775807; omega), hS⟩
  generalize (some (⟨b5, 0, none⟩ : Addr)) = A8 at hO7 hA
  refine st_run tbOk 1 hA (e' := (13, .slice A8 (nP l s) (nP l s)) :: _) rfl ?_; clear hA; intro a hA
  refine wpList_nil ?_
  replace hA := hA.sel [0, 1, 2, 3, 4, 12, 13] (e' := [(0, .slice A l.length c), (1, .int .i64 fr), (2, .int .i64 to), (3, .int .u64 id), (4, .int .i64 ((s : Nat) : Int)), (12, .int .i64 ((nP l s : Nat) : Int)), (13, .slice A8 (nP l s) (nP l s))]) rfl
  refine xt_norm ?_
  refine wp_seq ?_
  refine wp_seq ?_
  refine wp_region_lit ?_
  refine st_run tbOk 3 hA (e' := (38, .int .i64 0) :: (37, .int .i64 ((nP l s : Nat) : Int)) :: (36, .slice A8 (nP l s) (nP l s)) :: _) rfl ?_; clear hA; intro a hA
  refine wpList_nil ?_
  replace hA := hA.sel [0, 1, 2, 3, 4, 12, 13, 37, 38] (e' := [(0, .slice A l.length c), (1, .int .i64 fr), (2, .int .i64 to), (3, .int .u64 id), (4, .int .i64 ((s : Nat) : Int)), (12, .int .i64 ((nP l s : Nat) : Int)), (13, .slice A8 (nP l s) (nP l s)), (37, .int .i64 ((nP l s : Nat) : Int)), (38, .int .i64 0)]) rfl
  refine xt_norm ?_
  refine wp_block ?_
  replace hS := hS.nil
  replace hS := hS.front 1 (C := C7) (L' := [] :: F) rfl rfl
  have hrl : (List.replicate (nP l s) ((0, 0, 0, 0, 0, none, 0, ([] : List UInt8)) : Pkt)).length = nP l s := List.length_replicate
  replace hA := hA.rw 13 (v' := .slice A8 ((List.replicate (nP l s) ((0, 0, 0, 0, 0, none, 0, ([] : List UInt8)) : Pkt)).length) (nP l s)) rfl (by rw [hrl])
  have hO0 : Own 27 6 (.slice A8 (List.replicate (nP l s) ((0, 0, 0, 0, 0, none, 0, ([] : List UInt8)) : Pkt)).length (nP l s)) (List.replicate (nP l s) ((0, 0, 0, 0, 0, none, 0, ([] : List UInt8)) : Pkt)).length (rows encPacket (List.replicate (nP l s) ((0, 0, 0, 0, 0, none, 0, ([] : List UInt8)) : Pkt))) C7 := by rw [hrl]; exact hO7
  refine wp_loop_ghost (fun m a w => ∃ (k : Nat) (ps : List Pkt) (Ap : Option Addr) (cp : Nat) (C : Chunk) (D : Chunk), m = nP l s - k ∧ Has a 69 [(0, .slice A l.length c), (1, .int .i64 fr), (2, .int .i64 to), (3, .int .u64 id), (4, .int .i64 ((s : Nat) : Int)), (12, .int .i64 ((nP l s : Nat) : Int)), (13, .slice Ap ps.length cp), (37, .int .i64 ((nP l s : Nat) : Int)), (38, .int .i64 ((k : Nat) : Int))] ∧ St w0 w (C :: D :: F) ∧ (k ≤ nP l s) ∧ (ps.length = nP l s) ∧ (∀ (i : Nat) (x : Pkt), i < k → ps[i]? = some x → isPk l fr to id s i x) ∧ (∀ x ∈ ps, encPacket_dd w0 D x) ∧ (Own 27 6 (.slice Ap ps.length cp) ps.length (rows encPacket ps) C)) (nP l s - 0)
    ⟨0, (List.replicate (nP l s) ((0, 0, 0, 0, 0, none, 0, ([] : List UInt8)) : Pkt)), A8, (nP l s), C7, ([]), rfl, (hA.sel [0, 1, 2, 3, 4, 12, 13, 37, 38] rfl), hS, Nat.zero_le _, hrl, (fun i x hi => absurd hi (by omega)), (fun x hx => by rw [List.eq_of_mem_replicate hx]; exact DD.nil), hO0⟩ ?_
  clear hA hS; rintro m0 a w9 ⟨k, ps, Ap, cp, C, D, rfl, hA, hS, hk, hpl, hall, hdd, hP⟩
  have hk1 : (k + 1) * s = k * s + s := Nat.succ_mul k s
  refine wp_seq ?_
  refine wp_region_lit ?_
  refine st_run tbOk 1 hA (e' := (39, .bool (decide (((k : Nat) : Int) < ((nP l s : Nat) : Int)))) :: _) rfl ?_; clear hA; intro a hA
  refine wpList_nil ?_
  refine xt_norm ?_
  refine wp_seq ?_
  by_cases hc10 : ((k : Nat) : Int) < ((nP l s : Nat) : Int)
  · first
    | (exfalso; omega)
    | (replace hA := hA.rw 39 (v' := .bool true) rfl (vb_true hc10)
       refine cd_cond_t hA rfl ?_
       refine wp_skip ?_
       refine xt_norm ?_
       refine wp_seq ?_
       refine wp_block ?_
       refine wp_seq ?_
       refine wp_region_lit ?_
       refine st_run tbOk 2 hA (e' := (14, .int .i64 ((k : Nat) : Int)) :: (40, .int .i64 ((k : Nat) : Int)) :: _) rfl ?_; clear hA; intro a hA
       refine wpList_nil ?_
       replace hA := hA.sel [0, 1, 2, 3, 4, 12, 13, 14, 37, 38] (e' := [(0, .slice A l.length c), (1, .int .i64 fr), (2, .int .i64 to), (3, .int .u64 id), (4, .int .i64 ((s : Nat) : Int)), (12, .int .i64 ((nP l s : Nat) : Int)), (13, .slice Ap ps.length cp), (14, .int .i64 ((k : Nat) : Int)), (37, .int .i64 ((nP l s : Nat) : Int)), (38, .int .i64 ((k : Nat) : Int))]) rfl
       refine xt_norm ?_
       refine wp_seq ?_
       refine wp_region_lit ?_
       have hks : k * s ≤ 256 * 32768 := Nat.mul_le_mul (by omega) (by omega)
       refine st_run tbOk 4 hA (e' := (44, .int .i64 (IntKind.i64.wrap (((k : Nat) : Int) * ((s : Nat) : Int)))) :: (43, .int .i64 ((s : Nat) : Int)) :: (42, .int .i64 ((k : Nat) : Int)) :: (41, .slice A l.length c) :: _) rfl ?_; clear hA; intro a hA
       replace hA := hA.rw 44 (v' := .int .i64 ((k * s : Nat) : Int)) rfl (wr64 (by omega) (by omega) (by omega))
       refine st_run tbOk 3 hA (e' := (47, .int .i64 (if ((l.length : Nat) : Int) < ((k * s : Nat) : Int) then ((l.length : Nat) : Int) else ((k * s : Nat) : Int))) :: (46, .int .i64 ((l.length : Nat) : Int)) :: (45, .slice A l.length c) :: _) rfl ?_; clear hA; intro a hA
       replace hA := hA.rw 47 (v' := .int .i64 ((min (k * s) l.length : Nat) : Int)) rfl (vint (by split <;> omega))
       refine st_run tbOk 2 hA (e' := (49, .int .i64 (IntKind.i64.wrap (((k : Nat) : Int) + 1))) :: (48, .int .i64 ((k : Nat) : Int)) :: _) rfl ?_; clear hA; intro a hA
       replace hA := hA.rw 49 (v' := .int .i64 ((k + 1 : Nat) : Int)) rfl (wr64 (by omega) (by omega) (by omega))
       refine st_run tbOk 2 hA (e' := (51, .int .i64 (IntKind.i64.wrap (((k + 1 : Nat) : Int) * ((s : Nat) : Int)))) :: (50, .int .i64 ((s : Nat) : Int)) :: _) rfl ?_; clear hA; intro a hA
       replace hA := hA.rw 51 (v' := .int .i64 (((k + 1) * s : Nat) : Int)) rfl (wr64 (by omega) (by omega) (by omega))
       refine st_run tbOk 3 hA (e' := (54, .int .i64 (if ((l.length : Nat) : Int) < (((k + 1) * s : Nat) : Int) then ((l.length : Nat) : Int) else (((k + 1) * s : Nat) : Int))) :: (53, .int .i64 ((l.length : Nat) : Int)) :: (52, .slice A l.length c) :: _) rfl ?_; clear hA; intro a hA
       replace hA := hA.rw 54 (v' := .int .i64 ((min ((k + 1) * s) l.length : Nat) : Int)) rfl (vint (by split <;> omega))
       refine st_val hA rfl rfl (by decide) (rn_slice_lh tbOk hA (min (k * s) l.length) (min ((k + 1) * s) l.length) rfl rfl rfl rfl rfl rfl rfl (by rfl) (by rfl) (by omega) (by omega)) ?_; clear hA; intro a hA
       refine st_run tbOk 1 hA (e' := (15, slv A (min (k * s) l.length) (min ((k + 1) * s) l.length) c 1) :: _) rfl ?_; clear hA; intro a hA
       refine wpList_nil ?_
       replace hA := hA.sel [0, 1, 2, 3, 4, 12, 13, 14, 15, 37, 38] (e' := [(0, .slice A l.length c), (1, .int .i64 fr), (2, .int .i64 to), (3, .int .u64 id), (4, .int .i64 ((s : Nat) : Int)), (12, .int .i64 ((nP l s : Nat) : Int)), (13, .slice Ap ps.length cp), (14, .int .i64 ((k : Nat) : Int)), (15, slv A (min (k * s) l.length) (min ((k + 1) * s) l.length) c 1), (37, .int .i64 ((nP l s : Nat) : Int)), (38, .int .i64 ((k : Nat) : Int))]) rfl
       refine xt_norm ?_
       refine wp_region_lit ?_
       refine st_run tbOk 8 hA (e' := (63, slv A (min (k * s) l.length) (min ((k + 1) * s) l.length) c 1) :: (62, .int .i64 ((nP l s : Nat) : Int)) :: (61, .int .i64 ((k : Nat) : Int)) :: (60, .int .u64 id) :: (59, .int .i64 to) :: (58, .int .i64 fr) :: (57, .int .i64 ((k : Nat) : Int)) :: (56, .slice Ap ps.length cp) :: _) rfl ?_; clear hA; intro a hA
       replace hS := hS.nil
       refine st_append tbOk hA (m := 0) (q := ((l.take (min ((k + 1) * s) l.length)).drop (min (k * s) l.length)).length) (xs := rows encB ([] : List UInt8)) (news := rows encB ((l.take (min ((k + 1) * s) l.length)).drop (min (k * s) l.length))) rfl rfl rfl rfl rfl rfl rfl rfl (by decide) (Own.nil 5 1) hS (((hr _ (hS.tail 3 rfl)).rslv encB_ok (min (k * s) l.length) (min ((k + 1) * s) l.length) c (by omega) (by omega) (by omega) (by omega)).x) (rows_one encB_ok _) (maxLen_le (by first | omega | (have h9 := piece_le l s k; rw [piece] at h9; omega))) (by show (0 + ((l.take (min ((k + 1) * s) l.length)).drop (min (k * s) l.length)).length) * 1 ≤ 140737488355328; first | omega | (have h9 := piece_le l s k; rw [piece] at h9; omega)) rfl rfl (by decide) ?_
       clear hA hS; intro v11 w12 C13 a hO13 hS hA
       replace hO13 := Own.app (l := ([] : List UInt8)) (l2 := (l.take (min ((k + 1) * s) l.length)).drop (min (k * s) l.length)) hO13
       replace hO13 : Own 5 1 v11 ((l.take (min ((k + 1) * s) l.length)).drop (min (k * s) l.length)).length (rows encB ((l.take (min ((k + 1) * s) l.length)).drop (min (k * s) l.length))) C13 := hO13
       obtain ⟨A14, c15, rfl, hmc15, hxc15⟩ := hO13.open'
       have hl : (l.take (min ((k + 1) * s) l.length)).drop (min (k * s) l.length) = piece l s k := rfl
       rw [hl] at hO13; rw [hl] at hA
       refine st_val hA rfl rfl (by decide) (rn_build tbOk hA rfl rfl rfl rfl rfl rfl rfl) ?_; clear hA; intro a hA
       obtain ⟨b16, o17, rfl⟩ := hP.isSome (k := k) (by omega)
       refine st_val hA rfl rfl (by decide) (rn_indexAddr tbOk hA k (o17 + (k * 6)) rfl rfl rfl rfl rfl rfl (by rfl) (by omega) (by first | rfl | simp [Nat.mul_one, Nat.zero_add] | omega)) ?_; clear hA; intro a hA
       obtain ⟨px, hpx⟩ := get_ex (l := ps) (k := k) (by omega)
       replace hS := hS.front 1 (C := C) (L' := C13 :: D :: F) rfl rfl
       refine st_store_own tbOk hA hP hS ((k * 6)) (o17 + (k * 6)) [.int .i64 fr, .int .i64 to, .int .u64 id, .int .i64 ((k : Nat) : Int), .int .i64 ((nP l s : Nat) : Int), .slice A14 ((piece l s k).length) c15] (rows encPacket (ps.set k (fr, to, id, ((k : Nat) : Int), ((nP l s : Nat) : Int), A14, c15, (piece l s k)))) rfl rfl rfl rfl (by rfl) rfl rfl (by exact encPacket_ok.one (fr, to, id, ((k : Nat) : Int), ((nP l s : Nat) : Int), A14, c15, (piece l s k))) (by simp only [rows_length encPacket_ok]; simp; omega) (rows_setf encPacket_ok (fr, to, id, ((k : Nat) : Int), ((nP l s : Nat) : Int), A14, c15, (piece l s k)) (show ps[k]? = some _ from hpx) 0 [.int .i64 fr, .int .i64 to, .int .u64 id, .int .i64 ((k : Nat) : Int), .int .i64 ((nP l s : Nat) : Int), .slice A14 ((piece l s k).length) c15] (Nat.le_of_ble_eq_true rfl) rfl) rfl rfl ?_; clear hS; intro w18 C19 hO19 hS
       refine wpList_nil ?_
       replace hA := hA.sel [0, 1, 2, 3, 4, 12, 13, 37, 38] (e' := [(0, .slice A l.length c), (1, .int .i64 fr), (2, .int .i64 to), (3, .int .u64 id), (4, .int .i64 ((s : Nat) : Int)), (12, .int .i64 ((nP l s : Nat) : Int)), (13, .slice (some ⟨b16, o17, none⟩) ps.length cp), (37, .int .i64 ((nP l s : Nat) : Int)), (38, .int .i64 ((k : Nat) : Int))]) rfl
       refine xb_norm ?_
       refine xt_norm ?_
       refine wp_region_lit ?_
       refine st_run tbOk 1 hA (e' := (67, .int .i64 (IntKind.i64.wrap (((k : Nat) : Int) + 1))) :: _) rfl ?_; clear hA; intro a hA
       replace hA := hA.rw 67 (v' := .int .i64 ((k + 1 : Nat) : Int)) rfl (wr64 (by omega) (by omega) (by omega))
       refine st_run tbOk 1 hA (e' := (38, .int .i64 ((k + 1 : Nat) : Int)) :: _) rfl ?_; clear hA; intro a hA
       refine wpList_nil ?_
       replace hA := hA.sel [0, 1, 2, 3, 4, 12, 13, 37, 38] (e' := [(0, .slice A l.length c), (1, .int .i64 fr), (2, .int .i64 to), (3, .int .u64 id), (4, .int .i64 ((s : Nat) : Int)), (12, .int .i64 ((nP l s : Nat) : Int)), (13, .slice (some ⟨b16, o17, none⟩) ps.length cp), (37, .int .i64 ((nP l s : Nat) : Int)), (38, .int .i64 ((k + 1 : Nat) : Int))]) rfl
       replace hS := hS.front 2 (C := D) (L' := C19 :: C13 :: F) rfl rfl
       replace hS := hS.front 2 (C := C13) (L' := D :: C19 :: F) rfl rfl
       replace hS := hS.join
       replace hS := hS.front 1 (C := C19) (L' := (C13 ++ D) :: F) rfl rfl
       have hdn := (DD.new (w0 := w0) hO13).right (E := D)
       have hkp : k < ps.length := by omega
       replace hA := hA.rw 13 (v' := .slice (some ⟨b16, o17, none⟩) ((ps.set k (fr, to, id, ((k : Nat) : Int), ((nP l s : Nat) : Int), A14, c15, (piece l s k))).length) cp) rfl (by rw [List.length_set])
       exact lp_next _ (by omega) ⟨(k + 1), (ps.set k (fr, to, id, ((k : Nat) : Int), ((nP l s : Nat) : Int), A14, c15, (piece l s k))), (some ⟨b16, o17, none⟩), cp, C19, (C13 ++ D), rfl, (hA.sel [0, 1, 2, 3, 4, 12, 13, 37, 38] rfl), hS, by omega, (by rw [List.length_set]; omega), (fun i x hi hx => by
             by_cases hik : i = k
             · subst hik
               rw [List.getElem?_set_self hkp] at hx
               injection hx with hx
               subst hx
               exact ⟨_, _, rfl⟩
             · rw [List.getElem?_set_ne (Ne.symm hik)] at hx
               exact hall i x (by omega) hx), (fun x hx => by
             rcases List.mem_or_eq_of_mem_set hx with hx | rfl
             · exact encPacket_left (hdd x hx)
             · exact hdn), (by rw [List.length_set]; exact hO19)⟩)
  · first
    | (exfalso; omega)
    | (replace hA := hA.rw 39 (v' := .bool false) rfl (vb_false hc10)
       refine cd_cond_f hA rfl ?_
       refine wp_exit ?_
       refine xt_exit ?_
       refine xt_exit ?_
       refine cd_exit_eq ?_
       refine xt_norm ?_
       refine wp_seq ?_
       refine wp_region_lit ?_
       refine st_run tbOk 3 hA (e' := (11, .nilIface) :: (10, .slice Ap ps.length cp) :: (68, .slice Ap ps.length cp) :: _) rfl ?_; clear hA; intro a hA
       refine wpList_nil ?_
       replace hA := hA.sel [10, 11] (e' := [(10, .slice Ap ps.length cp), (11, .nilIface)]) rfl
       refine xt_norm ?_
       refine wp_ret ?_
       refine ret2 (fn := Try.f8) hA rfl rfl rfl ?_
       have hkn : k = ps.length := by omega
       exact ⟨_, ps, C, D, hP, hpl, fun i x hx => hall i x (by have := (List.getElem?_eq_some_iff.1 hx).1; omega) hx, hdd, rfl, hS⟩)

def AllFit (ps : List Pkt) : Prop := ∀ (k : Nat) (x p0 : Pkt), ps[k]? = some x → ps[0]? = some p0 → fits ps p0 x k
theorem join7 {w0 w : World} {F : List Chunk} {D : Chunk} (hS : St w0 w (D :: F)) {v : Value} {ps : List Pkt} (hr : RdS w0 (D :: F) 6 v ps.length (rows encPacket ps)) (hdd : ∀ x ∈ ps, encPacket_dd w0 D x) :
    Ret Try.prog 7 #[v] w (fun v w' => ∃ C v1 out, Own 5 1 v1 out.length (rows encB out) C ∧ ((AllFit ps ∧ out = cat ps ps.length ∧ v = .tuple #[v1, .bool (decide (((ps.length : Nat) : Int) > 0))]) ∨ (¬ AllFit ps ∧ out = [] ∧ v = .tuple #[v1, .bool false])) ∧ St w0 w' (C :: D :: F)) := by
  obtain ⟨A, c, rfl, hmc, hcx⟩ := (hr w hS).open'
  refine enter (vs := [.slice A ps.length c]) 66 Try.func7 rfl rfl (by simp) ?_; intro a hA
  refine wp_seq ?_
  refine wp_region_lit ?_
  refine st_run tbOk 2 hA (e' := (3, .bool false) :: (2, .slice none 0 0) :: _) rfl ?_; clear hA; intro a hA
  refine wpList_nil ?_
  replace hA := hA.sel [0] (e' := [(0, .slice A ps.length c)]) rfl
  refine xt_norm ?_
  refine wp_seq ?_
  refine wp_region_lit ?_
  refine st_run tbOk 1 hA (e' := (4, .slice none 0 0) :: _) rfl ?_; clear hA; intro a hA
  refine wpList_nil ?_
  refine xt_norm ?_
  refine wp_seq ?_
  refine wp_seq ?_
  refine wp_region_lit ?_
  refine st_run tbOk 3 hA (e' := (9, .int .i64 0) :: (8, .int .i64 ((ps.length : Nat) : Int)) :: (7, .slice A ps.length c) :: _) rfl ?_; clear hA; intro a hA
  refine wpList_nil ?_
  refine xt_norm ?_
  refine wp_block ?_
  replace hS := hS.nil
  refine wp_loop_ghost (fun m a w => ∃ (k : Nat) (Ao : Option Addr) (co : Nat) (Co : Chunk), m = ps.length - k ∧ Has a 66 [(0, .slice A ps.length c), (4, .slice Ao ((cat ps k).length) co), (7, .slice A ps.length c), (8, .int .i64 ((ps.length : Nat) : Int)), (9, .int .i64 ((k : Nat) : Int))] ∧ St w0 w (Co :: D :: F) ∧ (k ≤ ps.length) ∧ ((cat ps k).length ≤ k * 32768) ∧ (∀ (i : Nat) (x p0 : Pkt), i < k → ps[i]? = some x → ps[0]? = some p0 → fits ps p0 x i) ∧ (Own 5 1 (.slice Ao (cat ps k).length co) (cat ps k).length (rows encB (cat ps k)) Co)) (ps.length - 0)
    ⟨0, none, 0, ([]), rfl, (hA.sel [0, 4, 7, 8, 9] rfl), hS, Nat.zero_le _, Nat.zero_le _, fun i x p0 hi => absurd hi (by omega), (Own.nil 5 1)⟩ ?_
  clear hA hS; rintro m0 a w1 ⟨k, Ao, co, Co, rfl, hA, hS, hk, hcl, hfit, hO⟩
  refine wp_seq ?_
  refine wp_region_lit ?_
  refine st_run tbOk 1 hA (e' := (10, .bool (decide (((k : Nat) : Int) < ((ps.length : Nat) : Int)))) :: _) rfl ?_; clear hA; intro a hA
  refine wpList_nil ?_
  refine xt_norm ?_
  refine wp_seq ?_
  by_cases hc2 : ((k : Nat) : Int) < ((ps.length : Nat) : Int)
  · first
    | (exfalso; omega)
    | (replace hA := hA.rw 10 (v' := .bool true) rfl (vb_true hc2)
       refine cd_cond_t hA rfl ?_
       refine wp_skip ?_
       refine xt_norm ?_
       refine wp_seq ?_
       refine wp_block ?_
       refine wp_seq ?_
       refine wp_region_lit ?_
       refine st_run tbOk 1 hA (e' := (11, .int .i64 ((k : Nat) : Int)) :: _) rfl ?_; clear hA; intro a hA
       obtain ⟨x3, hx3⟩ := get_ex (l := ps) (k := 0) (by omega)
       obtain ⟨x3f0, x3f1, x3f2, x3f3, x3f4, x3A5, x3c5, x3b5⟩ := x3
       have hd4 := hdd _ (List.mem_of_getElem? hx3)
       obtain ⟨x5, hx5⟩ := get_ex (l := ps) (k := k) (by omega)
       obtain ⟨x5f0, x5f1, x5f2, x5f3, x5f4, x5A5, x5c5, x5b5⟩ := x5
       have hd6 := hdd _ (List.mem_of_getElem? hx5)
       obtain ⟨b7, o8, rfl⟩ := (hr _ (hS.tail 1 rfl)).isSome (k := k) (by omega)
       refine st_val hA rfl rfl (by decide) (rn_indexAddr tbOk hA k (o8 + (k * 6)) rfl rfl rfl rfl rfl rfl (by rfl) (by omega) (by first | rfl | simp [Nat.mul_one, Nat.zero_add] | omega)) ?_; clear hA; intro a hA
       refine st_val hA rfl rfl (by decide) (rn_loadA tbOk hA ([.int .i64 x5f0, .int .i64 x5f1, .int .u64 x5f2, .int .i64 x5f3, .int .i64 x5f4, .slice x5A5 x5b5.length x5c5]) rfl rfl rfl rfl (by rfl) ((hr _ (hS.tail 1 rfl)).elem (k := k) encPacket_ok hx5)) ?_; clear hA; intro a hA
       refine st_alloc tbOk hA hS [.int .i64 0, .int .i64 0, .int .u64 0, .int .i64 0, .int .i64 0, .slice none 0 0] rfl rfl rfl rfl rfl (by decide) ?_; clear hA hS; intro b9 w10 a hS hA
       refine st_run tbOk 1 hA (e' := (5, .int .i64 ((k : Nat) : Int)) :: _) rfl ?_; clear hA; intro a hA
       refine st_store tbOk hA hS [.int .i64 x5f0, .int .i64 x5f1, .int .u64 x5f2, .int .i64 x5f3, .int .i64 x5f4, .slice x5A5 x5b5.length x5c5] [.int .i64 x5f0, .int .i64 x5f1, .int .u64 x5f2, .int .i64 x5f3, .int .i64 x5f4, .slice x5A5 x5b5.length x5c5] rfl rfl rfl rfl rfl rfl (by simp [Value.oneCell']) (Nat.le_of_ble_eq_true rfl) rfl rfl rfl ?_; clear hS; intro w11 hS
       refine wpList_nil ?_
       replace hA := hA.sel [0, 4, 5, 6, 7, 8, 9] (e' := [(0, .slice (some ⟨b7, o8, none⟩) ps.length c), (4, .slice Ao ((cat ps k).length) co), (5, .int .i64 ((k : Nat) : Int)), (6, .pointer (some ⟨b9, 0, none⟩)), (7, .slice (some ⟨b7, o8, none⟩) ps.length c), (8, .int .i64 ((ps.length : Nat) : Int)), (9, .int .i64 ((k : Nat) : Int))]) rfl
       refine xt_norm ?_
       refine wp_seq ?_
       refine wp_seq ?_
       refine wp_draw (fun w' => St w0 w' ([(b9, rowO [.int .i64 x5f0, .int .i64 x5f1, .int .u64 x5f2, .int .i64 x5f3, .int .i64 x5f4, .slice x5A5 x5b5.length x5c5] 27)] :: Co :: D :: F)) [] [(0, true), (1, false), (2, true), (3, true), (4, true), (5, true), (6, true), (7, true), (8, true), (9, true), (10, true), (11, true), (12, true), (13, true), (14, true), (15, true), (16, true), (17, true), (18, true), (19, true), (20, true), (21, true), (22, true), (23, true), (24, true), (25, true), (26, true), (27, true), (28, true), (29, true), (30, true), (31, true), (32, true), (33, true), (34, true), (35, true), (36, true), (37, true), (38, true), (39, true), (40, true), (41, true), (42, true)] mixed (by kernel_rfl) (by rintro c a w ⟨_, _, h, _⟩; cases h) (by rfl) (by kernel_rfl) ?_
       replace hS := hS.drew
       refine dr_y hA rfl rfl rfl (by decide) hS (fun w' hS' => rn_loadA tbOk hA [.int .i64 x5f0, .int .i64 x5f1, .int .u64 x5f2, .int .i64 x5f3, .int .i64 x5f4, .slice x5A5 x5b5.length x5c5] rfl rfl rfl rfl rfl (cells_row (hS'.heapAt 0 rfl) rfl)) ?_; clear hA; intro a hA
       refine dr_b (o := _) rfl ?_
       refine st_call0 hA rfl rfl rfl isfn6 rfl rfl (by decide) (may6 hS x5f0 x5f1 x5f2 x5f3 x5f4 x5A5 x5c5 x5b5) ?_
       clear hA hS; rintro v w12 a ⟨rfl, hS⟩ hA
       refine dr_nil (.inr hS) ?_
       by_cases hc13 : 1 ≤ x5f4 ∧ x5f4 ≤ 256 ∧ 0 ≤ x5f3 ∧ x5f3 < x5f4 ∧ x5b5.length ≤ 32768
       · first
         | (exfalso; omega)
         | (replace hA := hA.rw 15 (v' := .bool true) rfl (vb_true hc13)
            refine dr_run tbOk 3 hA hS (e' := (18, .pointer (some ⟨b9, 3, none⟩)) :: (17, .bool false) :: (16, .bool false) :: _) rfl ?_; clear hA; intro a hA
            refine dr_y hA rfl rfl rfl (by decide) hS (fun w' hS' => rn_load tbOk hA rfl rfl rfl rfl (cell_row (hS'.heapAt 0 rfl) rfl)) ?_; clear hA; intro a hA
            refine dr_run tbOk 4 hA hS (e' := (23, .bool (x5f3 != ((k : Nat) : Int))) :: (22, .bool (x5f3 != ((k : Nat) : Int))) :: (21, .bool (x5f3 != ((k : Nat) : Int))) :: (20, .int .i64 ((k : Nat) : Int)) :: _) rfl ?_; clear hA; intro a hA
            by_cases hc14 : x5f3 = ((k : Nat) : Int)
            · first
              | (exfalso; omega)
              | (replace hA := hA.rw 21 (v' := .bool false) rfl (vb_ne_f hc14)
                 replace hA := hA.rw 22 (v' := .bool false) rfl (vb_ne_f hc14)
                 replace hA := hA.rw 23 (v' := .bool false) rfl (vb_ne_f hc14)
                 refine dr_run tbOk 1 hA hS (e' := (24, .pointer (some ⟨b9, 4, none⟩)) :: _) rfl ?_; clear hA; intro a hA
                 refine dr_y hA rfl rfl rfl (by decide) hS (fun w' hS' => rn_load tbOk hA rfl rfl rfl rfl (cell_row (hS'.heapAt 0 rfl) rfl)) ?_; clear hA; intro a hA
                 refine dr_run tbOk 5 hA hS (e' := (30, .bool (x5f4 != ((ps.length : Nat) : Int))) :: (29, .bool (x5f4 != ((ps.length : Nat) : Int))) :: (28, .bool (x5f4 != ((ps.length : Nat) : Int))) :: (27, .int .i64 ((ps.length : Nat) : Int)) :: (26, .slice (some ⟨b7, o8, none⟩) ps.length c) :: _) rfl ?_; clear hA; intro a hA
                 by_cases hc15 : x5f4 = ((ps.length : Nat) : Int)
                 · first
                   | (exfalso; omega)
                   | (replace hA := hA.rw 28 (v' := .bool false) rfl (vb_ne_f hc15)
                      replace hA := hA.rw 29 (v' := .bool false) rfl (vb_ne_f hc15)
                      replace hA := hA.rw 30 (v' := .bool false) rfl (vb_ne_f hc15)
                      refine dr_run tbOk 1 hA hS (e' := (31, .pointer (some ⟨b9, 2, none⟩)) :: _) rfl ?_; clear hA; intro a hA
                      refine dr_y hA rfl rfl rfl (by decide) hS (fun w' hS' => rn_load tbOk hA rfl rfl rfl rfl (cell_row (hS'.heapAt 0 rfl) rfl)) ?_; clear hA; intro a hA
                      refine dr_run tbOk 1 hA hS (e' := (33, .slice (some ⟨b7, o8, none⟩) ps.length c) :: _) rfl ?_; clear hA; intro a hA
                      refine dr_y hA rfl rfl rfl (by decide) hS (fun w' hS' => rn_indexAddr tbOk hA 0 o8 rfl rfl rfl rfl rfl rfl (by rfl) (by omega) (by first | rfl | simp [Nat.mul_one, Nat.zero_add] | omega)) ?_; clear hA; intro a hA
                      refine dr_run tbOk 1 hA hS (e' := (35, .pointer (some ⟨b7, o8 + 2, none⟩)) :: _) rfl ?_; clear hA; intro a hA
                      refine dr_y hA rfl rfl rfl (by decide) hS (fun w' hS' => rn_load tbOk hA rfl rfl rfl rfl ((hr _ (hS'.tail 2 rfl)).elemf (k := 0) encPacket_ok hx3 (j := 2) rfl)) ?_; clear hA; intro a hA
                      refine dr_run tbOk 3 hA hS (e' := (39, .bool (x5f2 != x3f2)) :: (38, .bool (x5f2 != x3f2)) :: (37, .bool (x5f2 != x3f2)) :: _) rfl ?_; clear hA; intro a hA
                      by_cases hc16 : x5f2 = x3f2
                      · first
                        | (exfalso; omega)
                        | (replace hA := hA.rw 37 (v' := .bool false) rfl (vb_ne_f hc16)
                           replace hA := hA.rw 38 (v' := .bool false) rfl (vb_ne_f hc16)
                           replace hA := hA.rw 39 (v' := .bool false) rfl (vb_ne_f hc16)
                           refine dr_run tbOk 1 hA hS (e' := (40, .pointer (some ⟨b9, 0, none⟩)) :: _) rfl ?_; clear hA; intro a hA
                           refine dr_y hA rfl rfl rfl (by decide) hS (fun w' hS' => rn_load tbOk hA rfl rfl rfl rfl (cell_row (hS'.heapAt 0 rfl) rfl)) ?_; clear hA; intro a hA
                           refine dr_run tbOk 1 hA hS (e' := (42, .slice (some ⟨b7, o8, none⟩) ps.length c) :: _) rfl ?_; clear hA; intro a hA
                           refine dr_y hA rfl rfl rfl (by decide) hS (fun w' hS' => rn_indexAddr tbOk hA 0 o8 rfl rfl rfl rfl rfl rfl (by rfl) (by omega) (by first | rfl | simp [Nat.mul_one, Nat.zero_add] | omega)) ?_; clear hA; intro a hA
                           refine dr_run tbOk 1 hA hS (e' := (44, .pointer (some ⟨b7, o8, none⟩)) :: _) rfl ?_; clear hA; intro a hA
                           refine dr_y hA rfl rfl rfl (by decide) hS (fun w' hS' => rn_load tbOk hA rfl rfl rfl rfl ((hr _ (hS'.tail 2 rfl)).elemf (k := 0) encPacket_ok hx3 (j := 0) rfl)) ?_; clear hA; intro a hA
                           refine dr_run tbOk 3 hA hS (e' := (48, .bool (x5f0 != x3f0)) :: (47, .bool (x5f0 != x3f0)) :: (46, .bool (x5f0 != x3f0)) :: _) rfl ?_; clear hA; intro a hA
                           by_cases hc17 : x5f0 = x3f0
                           · first
                             | (exfalso; omega)
                             | (replace hA := hA.rw 46 (v' := .bool false) rfl (vb_ne_f hc17)
                                replace hA := hA.rw 47 (v' := .bool false) rfl (vb_ne_f hc17)
                                replace hA := hA.rw 48 (v' := .bool false) rfl (vb_ne_f hc17)
                                refine dr_run tbOk 1 hA hS (e' := (49, .pointer (some ⟨b9, 1, none⟩)) :: _) rfl ?_; clear hA; intro a hA
                                refine dr_y hA rfl rfl rfl (by decide) hS (fun w' hS' => rn_load tbOk hA rfl rfl rfl rfl (cell_row (hS'.heapAt 0 rfl) rfl)) ?_; clear hA; intro a hA
                                refine dr_run tbOk 1 hA hS (e' := (51, .slice (some ⟨b7, o8, none⟩) ps.length c) :: _) rfl ?_; clear hA; intro a hA
                                refine dr_y hA rfl rfl rfl (by decide) hS (fun w' hS' => rn_indexAddr tbOk hA 0 o8 rfl rfl rfl rfl rfl rfl (by rfl) (by omega) (by first | rfl | simp [Nat.mul_one, Nat.zero_add] | omega)) ?_; clear hA; intro a hA
                                refine dr_run tbOk 1 hA hS (e' := (53, .pointer (some ⟨b7, o8 + 1, none⟩)) :: _) rfl ?_; clear hA; intro a hA
                                refine dr_y hA rfl rfl rfl (by decide) hS (fun w' hS' => rn_load tbOk hA rfl rfl rfl rfl ((hr _ (hS'.tail 2 rfl)).elemf (k := 0) encPacket_ok hx3 (j := 1) rfl)) ?_; clear hA; intro a hA
                                refine dr_run tbOk 2 hA hS (e' := (56, .bool (x5f1 != x3f1)) :: (55, .bool (x5f1 != x3f1)) :: _) rfl ?_; clear hA; intro a hA
                                refine dr_end ?_
                                replace hA := hA.sel [0, 4, 6, 7, 8, 9, 56] (e' := [(0, .slice (some ⟨b7, o8, none⟩) ps.length c), (4, .slice Ao ((cat ps k).length) co), (6, .pointer (some ⟨b9, 0, none⟩)), (7, .slice (some ⟨b7, o8, none⟩) ps.length c), (8, .int .i64 ((ps.length : Nat) : Int)), (9, .int .i64 ((k : Nat) : Int)), (56, .bool (x5f1 != x3f1))]) rfl
                                refine xt_norm ?_
                                by_cases hc18 : x5f1 = x3f1
                                · first
                                  | (exfalso; omega)
                                  | (replace hA := hA.rw 56 (v' := .bool false) rfl (vb_ne_f hc18)
                                     refine cd_cond_f hA rfl ?_
                                     refine wp_skip ?_
                                     refine xt_norm ?_
                                     refine wp_region_lit ?_
                                     refine st_run tbOk 2 hA (e' := (58, .pointer (some ⟨b9, 5, none⟩)) :: (57, .slice Ao ((cat ps k).length) co) :: _) rfl ?_; clear hA; intro a hA
                                     refine st_val hA rfl rfl (by decide) (rn_load tbOk hA rfl rfl rfl rfl (cell_row (hS.heapAt 0 rfl) rfl)) ?_; clear hA; intro a hA
                                     replace hS := hS.front 1 (C := Co) (L' := [(b9, rowO [.int .i64 x5f0, .int .i64 x5f1, .int .u64 x5f2, .int .i64 x5f3, .int .i64 x5f4, .slice x5A5 x5b5.length x5c5] 27)] :: D :: F) rfl rfl
                                     refine st_append tbOk hA (m := (cat ps k).length) (q := x5b5.length) (xs := rows encB (cat ps k)) (news := rows encB x5b5) rfl rfl rfl rfl rfl rfl rfl rfl (by decide) hO hS ((hd6 _ (hS.only 2 rfl))) (rows_one encB_ok _) (maxLen_le (by omega)) (by show ((cat ps k).length + x5b5.length) * 1 ≤ 140737488355328; omega) rfl rfl (by decide) ?_
                                     clear hA hS; intro v19 w20 C21 a hO21 hS hA
                                     replace hO21 := Own.app (l := cat ps k) (l2 := x5b5) hO21
                                     obtain ⟨A22, c23, rfl, hmc23, hxc23⟩ := hO21.open'
                                     refine st_run tbOk 1 hA (e' := (4, .slice A22 (((cat ps k) ++ x5b5).length) c23) :: _) rfl ?_; clear hA; intro a hA
                                     refine wpList_nil ?_
                                     replace hA := hA.sel [0, 4, 7, 8, 9] (e' := [(0, .slice (some ⟨b7, o8, none⟩) ps.length c), (4, .slice A22 (((cat ps k) ++ x5b5).length) c23), (7, .slice (some ⟨b7, o8, none⟩) ps.length c), (8, .int .i64 ((ps.length : Nat) : Int)), (9, .int .i64 ((k : Nat) : Int))]) rfl
                                     refine xb_norm ?_
                                     refine xt_norm ?_
                                     refine wp_region_lit ?_
                                     refine st_run tbOk 1 hA (e' := (61, .int .i64 (IntKind.i64.wrap (((k : Nat) : Int) + 1))) :: _) rfl ?_; clear hA; intro a hA
                                     replace hA := hA.rw 61 (v' := .int .i64 ((k + 1 : Nat) : Int)) rfl (wr64 (by omega) (by omega) (by omega))
                                     refine st_run tbOk 1 hA (e' := (9, .int .i64 ((k + 1 : Nat) : Int)) :: _) rfl ?_; clear hA; intro a hA
                                     refine wpList_nil ?_
                                     replace hA := hA.sel [0, 4, 7, 8, 9] (e' := [(0, .slice (some ⟨b7, o8, none⟩) ps.length c), (4, .slice A22 (((cat ps k) ++ x5b5).length) c23), (7, .slice (some ⟨b7, o8, none⟩) ps.length c), (8, .int .i64 ((ps.length : Nat) : Int)), (9, .int .i64 ((k + 1 : Nat) : Int))]) rfl
                                     have hcs := cat_succ hx5
                                     have hcl : (cat ps (k + 1)).length ≤ (k + 1) * 32768 := by rw [← hcs, List.length_append]; show _ + x5b5.length ≤ _; omega
                                     have hl : (cat ps k) ++ x5b5 = cat ps (k + 1) := hcs
                                     rw [hl] at hO21; rw [hl] at hA
                                     replace hS := hS.front 1 (C := [(b9, rowO [.int .i64 x5f0, .int .i64 x5f1, .int .u64 x5f2, .int .i64 x5f3, .int .i64 x5f4, .slice x5A5 x5b5.length x5c5] 27)]) (L' := C21 :: D :: F) rfl rfl
                                     replace hS := hS.drop1
                                     exact lp_next _ (by omega) ⟨(k + 1), A22, c23, C21, rfl, (hA.sel [0, 4, 7, 8, 9] rfl), hS, by omega, hcl, (fun i y p0 hi hy h0 => by
                                           by_cases hik : i = k
                                           · subst hik
                                             rw [hx5] at hy; injection hy with hy; subst hy
                                             rw [hx3] at h0; injection h0 with h0; subst h0
                                             refine ⟨⟨?_, ?_, ?_, ?_, ?_⟩, ?_, ?_, ?_, ?_, ?_⟩ <;> dsimp only [pdat] <;> omega
                                           · exact hfit i y p0 (by omega) hy h0), hO21⟩)
                                · first
                                  | (exfalso; omega)
                                  | (replace hA := hA.rw 56 (v' := .bool true) rfl (vb_ne_t hc18)
                                     refine cd_cond_t hA rfl ?_
                                     refine wp_seq ?_
                                     refine wp_region_lit ?_
                                     refine st_run tbOk 2 hA (e' := (3, .bool false) :: (2, .slice none 0 0) :: _) rfl ?_; clear hA; intro a hA
                                     refine wpList_nil ?_
                                     replace hA := hA.sel [2, 3] (e' := [(2, .slice none 0 0), (3, .bool false)]) rfl
                                     refine xt_norm ?_
                                     refine wp_ret (xt_ret (xb_ret (xt_ret (xt_ret (xb_ret (xt_ret ?_))))))
                                     refine ret2 (fn := Try.f7) hA rfl rfl rfl ?_
                                     replace hS := hS.drop1
                                     replace hS := hS.drop1
                                     exact ⟨[], _, [], Own.nil 5 1, .inr ⟨fun hf => by have h9 := hf _ _ _ hx5 hx3; unfold fits at h9; dsimp only [pdat] at h9; omega, rfl, rfl⟩, hS.nil⟩))
                           · first
                             | (exfalso; omega)
                             | (replace hA := hA.rw 46 (v' := .bool true) rfl (vb_ne_t hc17)
                                replace hA := hA.rw 47 (v' := .bool true) rfl (vb_ne_t hc17)
                                replace hA := hA.rw 48 (v' := .bool true) rfl (vb_ne_t hc17)
                                refine dr_run tbOk 8 hA hS (e' := (56, .bool true) :: (55, undef) :: (54, undef) :: (53, undef) :: (52, undef) :: (51, undef) :: (50, undef) :: (49, undef) :: _) rfl ?_; clear hA; intro a hA
                                refine dr_end ?_
                                replace hA := hA.sel [0, 4, 6, 7, 8, 9, 56] (e' := [(0, .slice (some ⟨b7, o8, none⟩) ps.length c), (4, .slice Ao ((cat ps k).length) co), (6, .pointer (some ⟨b9, 0, none⟩)), (7, .slice (some ⟨b7, o8, none⟩) ps.length c), (8, .int .i64 ((ps.length : Nat) : Int)), (9, .int .i64 ((k : Nat) : Int)), (56, .bool true)]) rfl
                                refine xt_norm ?_
                                refine cd_cond_t hA rfl ?_
                                refine wp_seq ?_
                                refine wp_region_lit ?_
                                refine st_run tbOk 2 hA (e' := (3, .bool false) :: (2, .slice none 0 0) :: _) rfl ?_; clear hA; intro a hA
                                refine wpList_nil ?_
                                replace hA := hA.sel [2, 3] (e' := [(2, .slice none 0 0), (3, .bool false)]) rfl
                                refine xt_norm ?_
                                refine wp_ret (xt_ret (xb_ret (xt_ret (xt_ret (xb_ret (xt_ret ?_))))))
                                refine ret2 (fn := Try.f7) hA rfl rfl rfl ?_
                                replace hS := hS.drop1
                                replace hS := hS.drop1
                                exact ⟨[], _, [], Own.nil 5 1, .inr ⟨fun hf => by have h9 := hf _ _ _ hx5 hx3; unfold fits at h9; dsimp only [pdat] at h9; omega, rfl, rfl⟩, hS.nil⟩))
                      · first
                        | (exfalso; omega)
                        | (replace hA := hA.rw 37 (v' := .bool true) rfl (vb_ne_t hc16)
                           replace hA := hA.rw 38 (v' := .bool true) rfl (vb_ne_t hc16)
                           replace hA := hA.rw 39 (v' := .bool true) rfl (vb_ne_t hc16)
                           refine dr_run tbOk 17 hA hS (e' := (56, .bool true) :: (55, undef) :: (54, undef) :: (53, undef) :: (52, undef) :: (51, undef) :: (50, undef) :: (49, undef) :: (48, .bool true) :: (47, .bool true) :: (46, undef) :: (45, undef) :: (44, undef) :: (43, undef) :: (42, undef) :: (41, undef) :: (40, undef) :: _) rfl ?_; clear hA; intro a hA
                           refine dr_end ?_
                           replace hA := hA.sel [0, 4, 6, 7, 8, 9, 56] (e' := [(0, .slice (some ⟨b7, o8, none⟩) ps.length c), (4, .slice Ao ((cat ps k).length) co), (6, .pointer (some ⟨b9, 0, none⟩)), (7, .slice (some ⟨b7, o8, none⟩) ps.length c), (8, .int .i64 ((ps.length : Nat) : Int)), (9, .int .i64 ((k : Nat) : Int)), (56, .bool true)]) rfl
                           refine xt_norm ?_
                           refine cd_cond_t hA rfl ?_
                           refine wp_seq ?_
                           refine wp_region_lit ?_
                           refine st_run tbOk 2 hA (e' := (3, .bool false) :: (2, .slice none 0 0) :: _) rfl ?_; clear hA; intro a hA
                           refine wpList_nil ?_
                           replace hA := hA.sel [2, 3] (e' := [(2, .slice none 0 0), (3, .bool false)]) rfl
                           refine xt_norm ?_
                           refine wp_ret (xt_ret (xb_ret (xt_ret (xt_ret (xb_ret (xt_ret ?_))))))
                           refine ret2 (fn := Try.f7) hA rfl rfl rfl ?_
                           replace hS := hS.drop1
                           replace hS := hS.drop1
                           exact ⟨[], _, [], Own.nil 5 1, .inr ⟨fun hf => by have h9 := hf _ _ _ hx5 hx3; unfold fits at h9; dsimp only [pdat] at h9; omega, rfl, rfl⟩, hS.nil⟩))
                 · first
                   | (exfalso; omega)
                   | (replace hA := hA.rw 28 (v' := .bool true) rfl (vb_ne_t hc15)
                      replace hA := hA.rw 29 (v' := .bool true) rfl (vb_ne_t hc15)
                      replace hA := hA.rw 30 (v' := .bool true) rfl (vb_ne_t hc15)
                      refine dr_run tbOk 26 hA hS (e' := (56, .bool true) :: (55, undef) :: (54, undef) :: (53, undef) :: (52, undef) :: (51, undef) :: (50, undef) :: (49, undef) :: (48, .bool true) :: (47, .bool true) :: (46, undef) :: (45, undef) :: (44, undef) :: (43, undef) :: (42, undef) :: (41, undef) :: (40, undef) :: (39, .bool true) :: (38, .bool true) :: (37, undef) :: (36, undef) :: (35, undef) :: (34, undef) :: (33, undef) :: (32, undef) :: (31, undef) :: _) rfl ?_; clear hA; intro a hA
                      refine dr_end ?_
                      replace hA := hA.sel [0, 4, 6, 7, 8, 9, 56] (e' := [(0, .slice (some ⟨b7, o8, none⟩) ps.length c), (4, .slice Ao ((cat ps k).length) co), (6, .pointer (some ⟨b9, 0, none⟩)), (7, .slice (some ⟨b7, o8, none⟩) ps.length c), (8, .int .i64 ((ps.length : Nat) : Int)), (9, .int .i64 ((k : Nat) : Int)), (56, .bool true)]) rfl
                      refine xt_norm ?_
                      refine cd_cond_t hA rfl ?_
                      refine wp_seq ?_
                      refine wp_region_lit ?_
                      refine st_run tbOk 2 hA (e' := (3, .bool false) :: (2, .slice none 0 0) :: _) rfl ?_; clear hA; intro a hA
                      refine wpList_nil ?_
                      replace hA := hA.sel [2, 3] (e' := [(2, .slice none 0 0), (3, .bool false)]) rfl
                      refine xt_norm ?_
                      refine wp_ret (xt_ret (xb_ret (xt_ret (xt_ret (xb_ret (xt_ret ?_))))))
                      refine ret2 (fn := Try.f7) hA rfl rfl rfl ?_
                      replace hS := hS.drop1
                      replace hS := hS.drop1
                      exact ⟨[], _, [], Own.nil 5 1, .inr ⟨fun hf => by have h9 := hf _ _ _ hx5 hx3; unfold fits at h9; dsimp only [pdat] at h9; omega, rfl, rfl⟩, hS.nil⟩))
            · first
              | (exfalso; omega)
              | (replace hA := hA.rw 21 (v' := .bool true) rfl (vb_ne_t hc14)
                 replace hA := hA.rw 22 (v' := .bool true) rfl (vb_ne_t hc14)
                 replace hA := hA.rw 23 (v' := .bool true) rfl (vb_ne_t hc14)
                 refine dr_run tbOk 33 hA hS (e' := (56, .bool true) :: (55, undef) :: (54, undef) :: (53, undef) :: (52, undef) :: (51, undef) :: (50, undef) :: (49, undef) :: (48, .bool true) :: (47, .bool true) :: (46, undef) :: (45, undef) :: (44, undef) :: (43, undef) :: (42, undef) :: (41, undef) :: (40, undef) :: (39, .bool true) :: (38, .bool true) :: (37, undef) :: (36, undef) :: (35, undef) :: (34, undef) :: (33, undef) :: (32, undef) :: (31, undef) :: (30, .bool true) :: (29, .bool true) :: (28, undef) :: (27, undef) :: (26, undef) :: (25, undef) :: (24, undef) :: _) rfl ?_; clear hA; intro a hA
                 refine dr_end ?_
                 replace hA := hA.sel [0, 4, 6, 7, 8, 9, 56] (e' := [(0, .slice (some ⟨b7, o8, none⟩) ps.length c), (4, .slice Ao ((cat ps k).length) co), (6, .pointer (some ⟨b9, 0, none⟩)), (7, .slice (some ⟨b7, o8, none⟩) ps.length c), (8, .int .i64 ((ps.length : Nat) : Int)), (9, .int .i64 ((k : Nat) : Int)), (56, .bool true)]) rfl
                 refine xt_norm ?_
                 refine cd_cond_t hA rfl ?_
                 refine wp_seq ?_
                 refine wp_region_lit ?_
                 refine st_run tbOk 2 hA (e' := (3, .bool false) :: (2, .slice none 0 0) :: _) rfl ?_; clear hA; intro a hA
                 refine wpList_nil ?_
                 replace hA := hA.sel [2, 3] (e' := [(2, .slice none 0 0), (3, .bool false)]) rfl
                 refine xt_norm ?_
                 refine wp_ret (xt_ret (xb_ret (xt_ret (xt_ret (xb_ret (xt_ret ?_))))))
                 refine ret2 (fn := Try.f7) hA rfl rfl rfl ?_
                 replace hS := hS.drop1
                 replace hS := hS.drop1
                 exact ⟨[], _, [], Own.nil 5 1, .inr ⟨fun hf => by have h9 := hf _ _ _ hx5 hx3; unfold fits at h9; dsimp only [pdat] at h9; omega, rfl, rfl⟩, hS.nil⟩))
       · first
         | (exfalso; omega)
         | (replace hA := hA.rw 15 (v' := .bool false) rfl (vb_false hc13)
            refine dr_run tbOk 41 hA hS (e' := (56, .bool true) :: (55, undef) :: (54, undef) :: (53, undef) :: (52, undef) :: (51, undef) :: (50, undef) :: (49, undef) :: (48, .bool true) :: (47, .bool true) :: (46, undef) :: (45, undef) :: (44, undef) :: (43, undef) :: (42, undef) :: (41, undef) :: (40, undef) :: (39, .bool true) :: (38, .bool true) :: (37, undef) :: (36, undef) :: (35, undef) :: (34, undef) :: (33, undef) :: (32, undef) :: (31, undef) :: (30, .bool true) :: (29, .bool true) :: (28, undef) :: (27, undef) :: (26, undef) :: (25, undef) :: (24, undef) :: (23, .bool true) :: (22, .bool true) :: (21, undef) :: (20, undef) :: (19, undef) :: (18, undef) :: (17, .bool true) :: (16, .bool true) :: _) rfl ?_; clear hA; intro a hA
            refine dr_end ?_
            replace hA := hA.sel [0, 4, 6, 7, 8, 9, 56] (e' := [(0, .slice (some ⟨b7, o8, none⟩) ps.length c), (4, .slice Ao ((cat ps k).length) co), (6, .pointer (some ⟨b9, 0, none⟩)), (7, .slice (some ⟨b7, o8, none⟩) ps.length c), (8, .int .i64 ((ps.length : Nat) : Int)), (9, .int .i64 ((k : Nat) : Int)), (56, .bool true)]) rfl
            refine xt_norm ?_
            refine cd_cond_t hA rfl ?_
            refine wp_seq ?_
            refine wp_region_lit ?_
            refine st_run tbOk 2 hA (e' := (3, .bool false) :: (2, .slice none 0 0) :: _) rfl ?_; clear hA; intro a hA
            refine wpList_nil ?_
            replace hA := hA.sel [2, 3] (e' := [(2, .slice none 0 0), (3, .bool false)]) rfl
            refine xt_norm ?_
            refine wp_ret (xt_ret (xb_ret (xt_ret (xt_ret (xb_ret (xt_ret ?_))))))
            refine ret2 (fn := Try.f7) hA rfl rfl rfl ?_
            replace hS := hS.drop1
            replace hS := hS.drop1
            exact ⟨[], _, [], Own.nil 5 1, .inr ⟨fun hf => by have h9 := hf _ _ _ hx5 hx3; unfold fits at h9; dsimp only [pdat] at h9; omega, rfl, rfl⟩, hS.nil⟩))
  · first
    | (exfalso; omega)
    | (replace hA := hA.rw 10 (v' := .bool false) rfl (vb_false hc2)
       refine cd_cond_f hA rfl ?_
       refine wp_exit ?_
       refine xt_exit ?_
       refine xt_exit ?_
       refine cd_exit_eq ?_
       refine xt_norm ?_
       refine wp_seq ?_
       refine wp_region_lit ?_
       refine st_run tbOk 6 hA (e' := (3, .bool (decide (((ps.length : Nat) : Int) > 0))) :: (2, .slice Ao ((cat ps k).length) co) :: (65, .bool (decide (((ps.length : Nat) : Int) > 0))) :: (64, .int .i64 ((ps.length : Nat) : Int)) :: (63, .slice A ps.length c) :: (62, .slice Ao ((cat ps k).length) co) :: _) rfl ?_; clear hA; intro a hA
       refine wpList_nil ?_
       replace hA := hA.sel [2, 3] (e' := [(2, .slice Ao ((cat ps k).length) co), (3, .bool (decide (((ps.length : Nat) : Int) > 0)))]) rfl
       refine xt_norm ?_
       refine wp_ret ?_
       refine ret2 (fn := Try.f7) hA rfl rfl rfl ?_
       have hkl : k = ps.length := by omega
       subst hkl
       exact ⟨_, _, _, hO, .inl ⟨fun i x p0 hx h0 => hfit i x p0 (List.getElem?_eq_some_iff.1 hx).1 hx h0, rfl, rfl⟩, hS⟩)

theorem awake5 {w0 w : World} {F : List Chunk} (hS : St w0 w F) :
    Ret Try.prog 5 #[] w (fun v w' => v = .bool true ∧ St w0 w' F) := by
  refine enter (vs := []) 56 Try.func5 rfl rfl (by simp) ?_; intro a hA
  refine wp_seq ?_
  refine wp_region_lit ?_
  refine st_run tbOk 1 hA (e' := (0, .bool false) :: _) rfl ?_; clear hA; intro a hA
  refine wpList_nil ?_
  replace hA := hA.sel [] (e' := []) rfl
  refine xt_norm ?_
  refine wp_seq ?_
  refine wp_region_lit ?_
  refine st_buildSlice tbOk hA hS [.int .u8 97, .int .u8 98, .int .u8 99] rfl rfl rfl rfl rfl (by decide) (by kernel_rfl) rfl rfl (by decide) ?_; clear hA hS; intro b1 w2 a hS hA
  refine st_mark tbOk hA ([97, 98, 99] : List UInt8) hS rfl rfl rfl rfl rfl rfl rfl rfl (by decide) (by decide) (by decide) ?_; clear hA hS; intro C3 w4 a hDC3 hS hA
  refine st_call0 hA rfl rfl rfl isfn8 rfl rfl (by decide) (split_ok8 hS (l := ([97, 98, 99] : List UInt8)) (fun w' h => (hDC3 _ (h.only 0 rfl))) 1 2 3 2 (by decide) (by decide) (by decide) (by decide)) ?_
  clear hA hS; rintro _ w5 a ⟨v6, ps, C7, D8, hOC7, hpl, hpk, hdd, rfl, hS⟩ hA
  obtain ⟨A9, c10, rfl, hmc10, hxc10⟩ := hOC7.open'
  refine st_run tbOk 5 hA (e' := (2, .nilIface) :: (1, .slice A9 ps.length c10) :: (12, .nilIface) :: (11, .slice A9 ps.length c10) :: (7, .tuple #[.slice A9 ps.length c10, .nilIface]) :: _) rfl ?_; clear hA; intro a hA
  refine wpList_nil ?_
  replace hA := hA.sel [1, 2] (e' := [(1, .slice A9 ps.length c10), (2, .nilIface)]) rfl
  refine xt_norm ?_
  refine wp_seq ?_
  refine wp_seq ?_
  refine wp_region_lit ?_
  refine st_run tbOk 5 hA (e' := (17, .int .i64 ((ps.length : Nat) : Int)) :: (16, .slice A9 ps.length c10) :: (15, .bool false) :: (14, .bool false) :: (13, .nilIface) :: _) rfl ?_; clear hA; intro a hA
  have hp2 : ps.length = 2 := hpl
  obtain ⟨y1, hp1⟩ := get_ex (l := ps) (k := 1) (by omega)
  obtain ⟨B1, d1, rfl⟩ := hpk 1 y1 hp1
  have hdp := hdd _ (List.mem_of_getElem? hp1)
  replace hA := hA.rw 17 (v' := .int .i64 2) rfl (vint (by omega))
  refine st_run tbOk 2 hA (e' := (19, .bool false) :: (18, .bool false) :: _) rfl ?_; clear hA; intro a hA
  refine wpList_nil ?_
  replace hA := hA.sel [1, 19] (e' := [(1, .slice A9 ps.length c10), (19, .bool false)]) rfl
  refine xt_norm ?_
  refine cd_cond_f hA rfl ?_
  refine wp_skip ?_
  refine xt_norm ?_
  refine wp_seq ?_
  refine wp_region_lit ?_
  refine st_run tbOk 1 hA (e' := (21, .slice A9 ps.length c10) :: _) rfl ?_; clear hA; intro a hA
  replace hS := hS.front 1 (C := D8) (L' := C7 :: C3 :: F) rfl rfl
  refine st_call0 hA rfl rfl rfl isfn7 rfl rfl (by decide) (join7 hS (ps := ps) (RdS.own hOC7 1 rfl) hdd) ?_
  clear hA hS; rintro _ w11 a ⟨C13, v12, ou16, hO13, hjC13, hS⟩ hA
  obtain ⟨A14, c15, rfl, hmc15, hxc15⟩ := hO13.open'
  obtain ⟨-, rfl, rfl⟩ := hjC13.resolve_right (fun h => h.1 (fun i x p0 hx h0 => fits_split (by decide) hpl (by decide) hpk i x p0 hx h0))
  refine st_run tbOk 5 hA (e' := (4, .bool (decide (((ps.length : Nat) : Int) > 0))) :: (3, .slice A14 ((cat ps ps.length).length) c15) :: (24, .bool (decide (((ps.length : Nat) : Int) > 0))) :: (23, .slice A14 ((cat ps ps.length).length) c15) :: (20, .tuple #[.slice A14 ((cat ps ps.length).length) c15, .bool (decide (((ps.length : Nat) : Int) > 0))]) :: _) rfl ?_; clear hA; intro a hA
  refine wpList_nil ?_
  replace hA := hA.sel [1, 3, 4] (e' := [(1, .slice A9 ps.length c10), (3, .slice A14 ((cat ps ps.length).length) c15), (4, .bool (decide (((ps.length : Nat) : Int) > 0)))]) rfl
  refine xt_norm ?_
  refine wp_seq ?_
  refine wp_region_lit ?_
  refine st_run tbOk 1 hA (e' := (26, .slice A9 ps.length c10) :: _) rfl ?_; clear hA; intro a hA
  refine st_val hA rfl rfl (by decide) (rn_slice_l tbOk hA 1 rfl rfl rfl rfl rfl rfl (by rfl) (by omega)) ?_; clear hA; intro a hA
  replace hS := hS.front 1 (C := D8) (L' := C13 :: C7 :: C3 :: F) rfl rfl
  refine st_call0 hA rfl rfl rfl isfn7 rfl rfl (by decide) (join7 hS (ps := (ps.take ps.length).drop 1) (fun w' h => ((hOC7.rd (h.own_ 2 rfl)).rslv encPacket_ok 1 ps.length c10 (by omega) (by omega) (by omega) (by omega))) (fun x hx => hdd x (List.mem_of_mem_take (List.mem_of_mem_drop hx)))) ?_
  clear hA hS; rintro _ w17 a ⟨C19, v18, ou22, hO19, hjC19, hS⟩ hA
  obtain ⟨A20, c21, rfl, hmc21, hxc21⟩ := hO19.open'
  obtain ⟨-, rfl, rfl⟩ := hjC19.resolve_left (fun h => (fun h9 => by have h8 := h9 0 _ _ (show ((ps.take ps.length).drop 1)[0]? = some _ by rw [List.take_length, List.getElem?_drop]; exact hp1) (show ((ps.take ps.length).drop 1)[0]? = some _ by rw [List.take_length, List.getElem?_drop]; exact hp1); unfold fits at h8; dsimp only at h8; omega) h.1)
  refine st_run tbOk 5 hA (e' := (6, .bool false) :: (5, .slice A20 (([] : List UInt8).length) c21) :: (30, .bool false) :: (29, .slice A20 (([] : List UInt8).length) c21) :: (25, .tuple #[.slice A20 (([] : List UInt8).length) c21, .bool false]) :: _) rfl ?_; clear hA; intro a hA
  refine wpList_nil ?_
  replace hA := hA.sel [1, 3, 4, 6] (e' := [(1, .slice A9 ps.length c10), (3, .slice A14 ((cat ps ps.length).length) c15), (4, .bool (decide (((ps.length : Nat) : Int) > 0))), (6, .bool false)]) rfl
  refine xt_norm ?_
  refine wp_seq ?_
  refine wp_region_lit ?_
  refine st_run tbOk 1 hA (e' := (31, .slice A9 ps.length c10) :: _) rfl ?_; clear hA; intro a hA
  obtain ⟨b23, o24, rfl⟩ := hOC7.isSome (k := 1) (by omega)
  refine st_val hA rfl rfl (by decide) (rn_indexAddr tbOk hA 1 (o24 + 6) rfl rfl rfl rfl rfl rfl (by rfl) (by omega) (by first | rfl | simp [Nat.mul_one, Nat.zero_add] | omega)) ?_; clear hA; intro a hA
  refine st_run tbOk 1 hA (e' := (33, .pointer (some ⟨b23, o24 + 6 + 5, none⟩)) :: _) rfl ?_; clear hA; intro a hA
  refine st_val hA rfl rfl (by decide) (rn_load tbOk hA rfl rfl rfl rfl ((hOC7.rd (hS.own_ 3 rfl)).elemf (k := 1) encPacket_ok hp1 (j := 5) rfl)) ?_; clear hA; intro a hA
  refine st_val hA rfl rfl (by decide) (rn_bstr tbOk hA (bs := (piece ([97, 98, 99] : List UInt8) 2 1)) rfl rfl rfl rfl rfl rfl rfl rfl (hdp _ (hS.only 1 rfl))) ?_; clear hA; intro a hA
  refine st_run tbOk 1 hA (e' := (36, .bool ((bsv (piece ([97, 98, 99] : List UInt8) 2 1)).toList == (⟨#[99]⟩ : ByteArray).toList)) :: _) rfl ?_; clear hA; intro a hA
  replace hA := hA.rw 36 (v' := .bool true) rfl (congrArg Value.bool (by first | rfl | (rw [show (⟨#[99]⟩ : ByteArray) = bsv [99] from rfl, bsv_eq]; decide)))
  refine st_run tbOk 2 hA (e' := (38, .slice (some ⟨b23, o24, none⟩) ps.length c10) :: (37, .bool true) :: _) rfl ?_; clear hA; intro a hA
  refine st_val hA rfl rfl (by decide) (rn_indexAddr tbOk hA 1 (o24 + 6) rfl rfl rfl rfl rfl rfl (by rfl) (by omega) (by first | rfl | simp [Nat.mul_one, Nat.zero_add] | omega)) ?_; clear hA; intro a hA
  refine st_run tbOk 1 hA (e' := (40, .pointer (some ⟨b23, o24 + 6 + 4, none⟩)) :: _) rfl ?_; clear hA; intro a hA
  refine st_val hA rfl rfl (by decide) (rn_load tbOk hA rfl rfl rfl rfl ((hOC7.rd (hS.own_ 3 rfl)).elemf (k := 1) encPacket_ok hp1 (j := 4) rfl)) ?_; clear hA; intro a hA
  refine st_run tbOk 1 hA (e' := (42, .bool (((nP ([97, 98, 99] : List UInt8) 2 : Nat) : Int) == 2)) :: _) rfl ?_; clear hA; intro a hA
  replace hA := hA.rw 42 (v' := .bool true) rfl (congrArg Value.bool (by decide))
  refine st_run tbOk 3 hA (e' := (45, .slice A14 ((cat ps ps.length).length) c15) :: (44, .bool true) :: (43, .bool true) :: _) rfl ?_; clear hA; intro a hA
  refine st_val hA rfl rfl (by decide) (rn_bstr tbOk hA (bs := cat ps ps.length) rfl rfl rfl rfl rfl rfl rfl rfl (hO13.rd (hS.own_ 2 rfl)).x) ?_; clear hA; intro a hA
  refine st_run tbOk 1 hA (e' := (47, .bool ((bsv (cat ps ps.length)).toList == (⟨#[97, 98, 99]⟩ : ByteArray).toList)) :: _) rfl ?_; clear hA; intro a hA
  replace hA := hA.rw 47 (v' := .bool true) rfl (congrArg Value.bool (by rw [show (⟨#[97, 98, 99]⟩ : ByteArray) = bsv [97, 98, 99] from rfl, bsv_eq, decide_eq_true_eq]; exact cat_all (by decide) hpl hpk))
  refine st_run tbOk 5 hA (e' := (52, .bool (decide (((ps.length : Nat) : Int) > 0))) :: (51, .bool (decide (((ps.length : Nat) : Int) > 0))) :: (50, .bool (decide (((ps.length : Nat) : Int) > 0))) :: (49, .bool true) :: (48, .bool true) :: _) rfl ?_; clear hA; intro a hA
  by_cases hc25 : ((ps.length : Nat) : Int) > 0
  · first
    | (exfalso; omega)
    | (replace hA := hA.rw 4 (v' := .bool true) rfl (vb_true hc25)
       replace hA := hA.rw 50 (v' := .bool true) rfl (vb_true hc25)
       replace hA := hA.rw 51 (v' := .bool true) rfl (vb_true hc25)
       replace hA := hA.rw 52 (v' := .bool true) rfl (vb_true hc25)
       refine st_run tbOk 4 hA (e' := (0, .bool true) :: (55, .bool true) :: (54, .bool true) :: (53, .bool false) :: _) rfl ?_; clear hA; intro a hA
       refine wpList_nil ?_
       replace hA := hA.sel [0] (e' := [(0, .bool true)]) rfl
       refine xt_norm ?_
       refine wp_ret ?_
       refine ret1 (fn := Try.f5) hA rfl rfl ?_
       replace hS := hS.drop1
       replace hS := hS.drop1
       replace hS := hS.drop1
       replace hS := hS.drop1
       replace hS := hS.drop1
       exact ⟨rfl, hS⟩)
  · first
    | (exfalso; omega)
    | (replace hA := hA.rw 4 (v' := .bool false) rfl (vb_false hc25)
       replace hA := hA.rw 50 (v' := .bool false) rfl (vb_false hc25)
       replace hA := hA.rw 51 (v' := .bool false) rfl (vb_false hc25)
       replace hA := hA.rw 52 (v' := .bool false) rfl (vb_false hc25)
       refine st_run tbOk 4 hA (e' := (0, .bool false) :: (55, .bool false) :: (54, undef) :: (53, undef) :: _) rfl ?_; clear hA; intro a hA
       refine wpList_nil ?_
       replace hA := hA.sel [0] (e' := [(0, .bool false)]) rfl
       refine xt_norm ?_
       refine wp_ret ?_
       refine ret1 (fn := Try.f5) hA rfl rfl ?_
       exfalso; omega)

theorem cat_le {ps : List Pkt} : ∀ k, k ≤ ps.length → (cat ps k).length ≤ (cat ps ps.length).length := fun k hk => by
  have h : cat ps ps.length = cat ps k ++ ((ps.drop k).map pdat).flatten := by
    rw [cat, cat, List.take_length, ← List.flatten_append, ← List.map_append, List.take_append_drop]
  rw [h, List.length_append]; omega
theorem joinLaw3 {w0 w : World} {F : List Chunk} (hS : St w0 w F) {v : Value} {ps : List Pkt} (hr : RdS w0 F 6 v ps.length (rows encPacket ps)) (hdd : ∀ x ∈ ps, encPacket_dd w0 [] x) (hsum : (cat ps ps.length).length ≤ 1048576) :
    Ret Try.prog 3 #[v] w (fun v w' => v = .bool true ∧ St w0 w' F) := by
  obtain ⟨A, c, rfl, hmc, hcx⟩ := (hr w hS).open'
  replace hS := hS.nil
  refine enter (vs := [.slice A ps.length c]) 128 Try.func3 rfl rfl (by simp) ?_; intro a hA
  refine wp_seq ?_
  refine wp_region_lit ?_
  refine st_run tbOk 1 hA (e' := (2, .bool false) :: _) rfl ?_; clear hA; intro a hA
  refine wpList_nil ?_
  replace hA := hA.sel [0] (e' := [(0, .slice A ps.length c)]) rfl
  refine xt_norm ?_
  refine wp_seq ?_
  refine wp_seq ?_
  refine wp_region_lit ?_
  refine st_call0 hA rfl rfl rfl isfn5 rfl rfl (by decide) (awake5 hS) ?_
  clear hA hS; rintro v w1 a ⟨rfl, hS⟩ hA
  refine st_run tbOk 1 hA (e' := (11, .bool false) :: _) rfl ?_; clear hA; intro a hA
  refine wpList_nil ?_
  replace hA := hA.sel [0, 11] (e' := [(0, .slice A ps.length c), (11, .bool false)]) rfl
  refine xt_norm ?_
  refine cd_cond_f hA rfl ?_
  refine wp_skip ?_
  refine xt_norm ?_
  refine wp_seq ?_
  refine wp_region_lit ?_
  refine st_run tbOk 1 hA (e' := (3, .string (⟨#[]⟩ : ByteArray)) :: _) rfl ?_; clear hA; intro a hA
  refine wpList_nil ?_
  replace hA := hA.sel [0, 3] (e' := [(0, .slice A ps.length c), (3, .string (⟨#[]⟩ : ByteArray))]) rfl
  refine xt_norm ?_
  refine wp_seq ?_
  refine wp_region_lit ?_
  refine st_run tbOk 4 hA (e' := (4, .bool (decide (((ps.length : Nat) : Int) > 0))) :: (14, .bool (decide (((ps.length : Nat) : Int) > 0))) :: (13, .int .i64 ((ps.length : Nat) : Int)) :: (12, .slice A ps.length c) :: _) rfl ?_; clear hA; intro a hA
  refine wpList_nil ?_
  replace hA := hA.sel [0, 3, 4] (e' := [(0, .slice A ps.length c), (3, .string (⟨#[]⟩ : ByteArray)), (4, .bool (decide (((ps.length : Nat) : Int) > 0)))]) rfl
  refine xt_norm ?_
  refine wp_seq ?_
  refine wp_seq ?_
  refine wp_region_lit ?_
  refine st_run tbOk 3 hA (e' := (17, .int .i64 0) :: (16, .int .i64 ((ps.length : Nat) : Int)) :: (15, .slice A ps.length c) :: _) rfl ?_; clear hA; intro a hA
  refine wpList_nil ?_
  refine xt_norm ?_
  refine wp_block ?_
  replace hA := hA.rw 3 (v' := .string (bsv (cat ps 0))) rfl (by rfl)
  refine wp_loop_ghost (fun m a w => ∃ (k : Nat) (okb : Bool), m = ps.length - k ∧ Has a 128 [(0, .slice A ps.length c), (3, .string (bsv (cat ps k))), (4, .bool okb), (15, .slice A ps.length c), (16, .int .i64 ((ps.length : Nat) : Int)), (17, .int .i64 ((k : Nat) : Int))] ∧ St w0 w ([] :: F) ∧ (k ≤ ps.length) ∧ (okb = true ↔ (0 < ps.length ∧ ∀ (i : Nat) (x p0 : Pkt), i < k → ps[i]? = some x → ps[0]? = some p0 → fits ps p0 x i))) (ps.length - 0)
    ⟨0, (decide (((ps.length : Nat) : Int) > 0)), rfl, (hA.sel [0, 3, 4, 15, 16, 17] rfl), hS, Nat.zero_le _, ⟨fun h => ⟨by have h2 := of_decide_eq_true h; omega, fun i x p0 hi => absurd hi (by omega)⟩, fun h => decide_eq_true (by have h2 := h.1; omega)⟩⟩ ?_
  clear hA hS; rintro m0 a w2 ⟨k, okb, rfl, hA, hS, hk, hok⟩
  refine wp_seq ?_
  refine wp_region_lit ?_
  refine st_run tbOk 1 hA (e' := (18, .bool (decide (((k : Nat) : Int) < ((ps.length : Nat) : Int)))) :: _) rfl ?_; clear hA; intro a hA
  refine wpList_nil ?_
  refine xt_norm ?_
  refine wp_seq ?_
  by_cases hc3 : ((k : Nat) : Int) < ((ps.length : Nat) : Int)
  · first
    | (exfalso; omega)
    | (replace hA := hA.rw 18 (v' := .bool true) rfl (vb_true hc3)
       refine cd_cond_t hA rfl ?_
       refine wp_skip ?_
       refine xt_norm ?_
       refine wp_seq ?_
       refine wp_block ?_
       refine wp_seq ?_
       refine wp_region_lit ?_
       refine st_run tbOk 1 hA (e' := (19, .int .i64 ((k : Nat) : Int)) :: _) rfl ?_; clear hA; intro a hA
       obtain ⟨x4, hx4⟩ := get_ex (l := ps) (k := 0) (by omega)
       obtain ⟨x4f0, x4f1, x4f2, x4f3, x4f4, x4A5, x4c5, x4b5⟩ := x4
       have hd5 := hdd _ (List.mem_of_getElem? hx4)
       obtain ⟨x6, hx6⟩ := get_ex (l := ps) (k := k) (by omega)
       obtain ⟨x6f0, x6f1, x6f2, x6f3, x6f4, x6A5, x6c5, x6b5⟩ := x6
       have hd7 := hdd _ (List.mem_of_getElem? hx6)
       have hcs := cat_succ hx6
       have hcl := cat_le (ps := ps) (k + 1) (by omega)
       rw [← hcs, List.length_append] at hcl; dsimp only [pdat] at hcl
       obtain ⟨b8, o9, rfl⟩ := (hr _ (hS.tail 1 rfl)).isSome (k := k) (by omega)
       refine st_val hA rfl rfl (by decide) (rn_indexAddr tbOk hA k (o9 + (k * 6)) rfl rfl rfl rfl rfl rfl (by rfl) (by omega) (by first | rfl | simp [Nat.mul_one, Nat.zero_add] | omega)) ?_; clear hA; intro a hA
       refine st_val hA rfl rfl (by decide) (rn_loadA tbOk hA ([.int .i64 x6f0, .int .i64 x6f1, .int .u64 x6f2, .int .i64 x6f3, .int .i64 x6f4, .slice x6A5 x6b5.length x6c5]) rfl rfl rfl rfl (by rfl) ((hr _ (hS.tail 1 rfl)).elem (k := k) encPacket_ok hx6)) ?_; clear hA; intro a hA
       refine st_alloc tbOk hA hS [.int .i64 0, .int .i64 0, .int .u64 0, .int .i64 0, .int .i64 0, .slice none 0 0] rfl rfl rfl rfl rfl (by decide) ?_; clear hA hS; intro b10 w11 a hS hA
       refine st_run tbOk 1 hA (e' := (5, .int .i64 ((k : Nat) : Int)) :: _) rfl ?_; clear hA; intro a hA
       refine st_store tbOk hA hS [.int .i64 x6f0, .int .i64 x6f1, .int .u64 x6f2, .int .i64 x6f3, .int .i64 x6f4, .slice x6A5 x6b5.length x6c5] [.int .i64 x6f0, .int .i64 x6f1, .int .u64 x6f2, .int .i64 x6f3, .int .i64 x6f4, .slice x6A5 x6b5.length x6c5] rfl rfl rfl rfl rfl rfl (by simp [Value.oneCell']) (Nat.le_of_ble_eq_true rfl) rfl rfl rfl ?_; clear hS; intro w12 hS
       refine wpList_nil ?_
       replace hA := hA.sel [0, 3, 4, 5, 6, 15, 16, 17] (e' := [(0, .slice (some ⟨b8, o9, none⟩) ps.length c), (3, .string (bsv (cat ps k))), (4, .bool okb), (5, .int .i64 ((k : Nat) : Int)), (6, .pointer (some ⟨b10, 0, none⟩)), (15, .slice (some ⟨b8, o9, none⟩) ps.length c), (16, .int .i64 ((ps.length : Nat) : Int)), (17, .int .i64 ((k : Nat) : Int))]) rfl
       refine xt_norm ?_
       refine wp_seq_join (fun a w => Has a 128 [(0, .slice (some ⟨b8, o9, none⟩) ps.length c), (3, .string (bsv (cat ps k))), (4, .bool okb), (5, .int .i64 ((k : Nat) : Int)), (6, .pointer (some ⟨b10, 0, none⟩)), (7, .bool (decide (1 ≤ x6f4 ∧ x6f4 ≤ 256 ∧ 0 ≤ x6f3 ∧ x6f3 < x6f4 ∧ x6b5.length ≤ 32768))), (15, .slice (some ⟨b8, o9, none⟩) ps.length c), (16, .int .i64 ((ps.length : Nat) : Int)), (17, .int .i64 ((k : Nat) : Int))] ∧ St w0 w ([(b10, rowO [.int .i64 x6f0, .int .i64 x6f1, .int .u64 x6f2, .int .i64 x6f3, .int .i64 x6f4, .slice x6A5 x6b5.length x6c5] 27)] :: [] :: F)) ?_ ?_
       · refine wp_region_lit ?_
         refine st_run tbOk 1 hA (e' := (22, .pointer (some ⟨b10, 4, none⟩)) :: _) rfl ?_; clear hA; intro a hA
         refine st_val hA rfl rfl (by decide) (rn_load tbOk hA rfl rfl rfl rfl (cell_row (hS.heapAt 0 rfl) rfl)) ?_; clear hA; intro a hA
         refine st_run tbOk 2 hA (e' := (25, .bool (decide (x6f4 ≥ 1))) :: (24, .bool (decide (x6f4 ≥ 1))) :: _) rfl ?_; clear hA; intro a hA
         by_cases hc13 : x6f4 ≥ 1
         · first
           | (exfalso; omega)
           | (replace hA := hA.rw 24 (v' := .bool true) rfl (vb_true hc13)
              replace hA := hA.rw 25 (v' := .bool true) rfl (vb_true hc13)
              refine st_run tbOk 1 hA (e' := (26, .pointer (some ⟨b10, 4, none⟩)) :: _) rfl ?_; clear hA; intro a hA
              refine st_val hA rfl rfl (by decide) (rn_load tbOk hA rfl rfl rfl rfl (cell_row (hS.heapAt 0 rfl) rfl)) ?_; clear hA; intro a hA
              refine st_run tbOk 3 hA (e' := (30, .bool (decide (x6f4 ≤ 256))) :: (29, .bool (decide (x6f4 ≤ 256))) :: (28, .bool (decide (x6f4 ≤ 256))) :: _) rfl ?_; clear hA; intro a hA
              by_cases hc14 : x6f4 ≤ 256
              · first
                | (exfalso; omega)
                | (replace hA := hA.rw 28 (v' := .bool true) rfl (vb_true hc14)
                   replace hA := hA.rw 29 (v' := .bool true) rfl (vb_true hc14)
                   replace hA := hA.rw 30 (v' := .bool true) rfl (vb_true hc14)
                   refine st_run tbOk 1 hA (e' := (31, .pointer (some ⟨b10, 3, none⟩)) :: _) rfl ?_; clear hA; intro a hA
                   refine st_val hA rfl rfl (by decide) (rn_load tbOk hA rfl rfl rfl rfl (cell_row (hS.heapAt 0 rfl) rfl)) ?_; clear hA; intro a hA
                   refine st_run tbOk 3 hA (e' := (35, .bool (decide (x6f3 ≥ 0))) :: (34, .bool (decide (x6f3 ≥ 0))) :: (33, .bool (decide (x6f3 ≥ 0))) :: _) rfl ?_; clear hA; intro a hA
                   by_cases hc15 : x6f3 ≥ 0
                   · first
                     | (exfalso; omega)
                     | (replace hA := hA.rw 33 (v' := .bool true) rfl (vb_true hc15)
                        replace hA := hA.rw 34 (v' := .bool true) rfl (vb_true hc15)
                        replace hA := hA.rw 35 (v' := .bool true) rfl (vb_true hc15)
                        refine st_run tbOk 1 hA (e' := (36, .pointer (some ⟨b10, 3, none⟩)) :: _) rfl ?_; clear hA; intro a hA
                        refine st_val hA rfl rfl (by decide) (rn_load tbOk hA rfl rfl rfl rfl (cell_row (hS.heapAt 0 rfl) rfl)) ?_; clear hA; intro a hA
                        refine st_run tbOk 1 hA (e' := (38, .pointer (some ⟨b10, 4, none⟩)) :: _) rfl ?_; clear hA; intro a hA
                        refine st_val hA rfl rfl (by decide) (rn_load tbOk hA rfl rfl rfl rfl (cell_row (hS.heapAt 0 rfl) rfl)) ?_; clear hA; intro a hA
                        refine st_run tbOk 3 hA (e' := (42, .bool (decide (x6f3 < x6f4))) :: (41, .bool (decide (x6f3 < x6f4))) :: (40, .bool (decide (x6f3 < x6f4))) :: _) rfl ?_; clear hA; intro a hA
                        by_cases hc16 : x6f3 < x6f4
                        · first
                          | (exfalso; omega)
                          | (replace hA := hA.rw 40 (v' := .bool true) rfl (vb_true hc16)
                             replace hA := hA.rw 41 (v' := .bool true) rfl (vb_true hc16)
                             replace hA := hA.rw 42 (v' := .bool true) rfl (vb_true hc16)
                             refine st_run tbOk 1 hA (e' := (43, .pointer (some ⟨b10, 5, none⟩)) :: _) rfl ?_; clear hA; intro a hA
                             refine st_val hA rfl rfl (by decide) (rn_load tbOk hA rfl rfl rfl rfl (cell_row (hS.heapAt 0 rfl) rfl)) ?_; clear hA; intro a hA
                             refine st_run tbOk 4 hA (e' := (7, .bool (decide (((x6b5.length : Nat) : Int) ≤ 32768))) :: (47, .bool (decide (((x6b5.length : Nat) : Int) ≤ 32768))) :: (46, .bool (decide (((x6b5.length : Nat) : Int) ≤ 32768))) :: (45, .int .i64 ((x6b5.length : Nat) : Int)) :: _) rfl ?_; clear hA; intro a hA
                             refine wpList_nil ?_
                             replace hA := hA.sel [0, 3, 4, 5, 6, 7, 15, 16, 17] (e' := [(0, .slice (some ⟨b8, o9, none⟩) ps.length c), (3, .string (bsv (cat ps k))), (4, .bool okb), (5, .int .i64 ((k : Nat) : Int)), (6, .pointer (some ⟨b10, 0, none⟩)), (7, .bool (decide (((x6b5.length : Nat) : Int) ≤ 32768))), (15, .slice (some ⟨b8, o9, none⟩) ps.length c), (16, .int .i64 ((ps.length : Nat) : Int)), (17, .int .i64 ((k : Nat) : Int))]) rfl
                             refine xt_norm ?_
                             replace hA := hA.rw 7 (v' := .bool (decide (1 ≤ x6f4 ∧ x6f4 ≤ 256 ∧ 0 ≤ x6f3 ∧ x6f3 < x6f4 ∧ x6b5.length ≤ 32768))) rfl (congrArg Value.bool (decide_eq_decide.2 (by omega)))
                             exact ⟨(hA.sel [0, 3, 4, 5, 6, 7, 15, 16, 17] rfl), hS⟩)
                        · first
                          | (exfalso; omega)
                          | (replace hA := hA.rw 40 (v' := .bool false) rfl (vb_false hc16)
                             replace hA := hA.rw 41 (v' := .bool false) rfl (vb_false hc16)
                             replace hA := hA.rw 42 (v' := .bool false) rfl (vb_false hc16)
                             refine st_run tbOk 6 hA (e' := (7, .bool false) :: (47, .bool false) :: (46, undef) :: (45, undef) :: (44, undef) :: (43, undef) :: _) rfl ?_; clear hA; intro a hA
                             refine wpList_nil ?_
                             replace hA := hA.sel [0, 3, 4, 5, 6, 7, 15, 16, 17] (e' := [(0, .slice (some ⟨b8, o9, none⟩) ps.length c), (3, .string (bsv (cat ps k))), (4, .bool okb), (5, .int .i64 ((k : Nat) : Int)), (6, .pointer (some ⟨b10, 0, none⟩)), (7, .bool false), (15, .slice (some ⟨b8, o9, none⟩) ps.length c), (16, .int .i64 ((ps.length : Nat) : Int)), (17, .int .i64 ((k : Nat) : Int))]) rfl
                             refine xt_norm ?_
                             replace hA := hA.rw 7 (v' := .bool (decide (1 ≤ x6f4 ∧ x6f4 ≤ 256 ∧ 0 ≤ x6f3 ∧ x6f3 < x6f4 ∧ x6b5.length ≤ 32768))) rfl (congrArg Value.bool ((decide_eq_false (by omega)).symm))
                             exact ⟨(hA.sel [0, 3, 4, 5, 6, 7, 15, 16, 17] rfl), hS⟩))
                   · first
                     | (exfalso; omega)
                     | (replace hA := hA.rw 33 (v' := .bool false) rfl (vb_false hc15)
                        replace hA := hA.rw 34 (v' := .bool false) rfl (vb_false hc15)
                        replace hA := hA.rw 35 (v' := .bool false) rfl (vb_false hc15)
                        refine st_run tbOk 13 hA (e' := (7, .bool false) :: (47, .bool false) :: (46, undef) :: (45, undef) :: (44, undef) :: (43, undef) :: (42, .bool false) :: (41, .bool false) :: (40, undef) :: (39, undef) :: (38, undef) :: (37, undef) :: (36, undef) :: _) rfl ?_; clear hA; intro a hA
                        refine wpList_nil ?_
                        replace hA := hA.sel [0, 3, 4, 5, 6, 7, 15, 16, 17] (e' := [(0, .slice (some ⟨b8, o9, none⟩) ps.length c), (3, .string (bsv (cat ps k))), (4, .bool okb), (5, .int .i64 ((k : Nat) : Int)), (6, .pointer (some ⟨b10, 0, none⟩)), (7, .bool false), (15, .slice (some ⟨b8, o9, none⟩) ps.length c), (16, .int .i64 ((ps.length : Nat) : Int)), (17, .int .i64 ((k : Nat) : Int))]) rfl
                        refine xt_norm ?_
                        replace hA := hA.rw 7 (v' := .bool (decide (1 ≤ x6f4 ∧ x6f4 ≤ 256 ∧ 0 ≤ x6f3 ∧ x6f3 < x6f4 ∧ x6b5.length ≤ 32768))) rfl (congrArg Value.bool ((decide_eq_false (by omega)).symm))
                        exact ⟨(hA.sel [0, 3, 4, 5, 6, 7, 15, 16, 17] rfl), hS⟩))
              · first
                | (exfalso; omega)
                | (replace hA := hA.rw 28 (v' := .bool false) rfl (vb_false hc14)
                   replace hA := hA.rw 29 (v' := .bool false) rfl (vb_false hc14)
                   replace hA := hA.rw 30 (v' := .bool false) rfl (vb_false hc14)
                   refine st_run tbOk 18 hA (e' := (7, .bool false) :: (47, .bool false) :: (46, undef) :: (45, undef) :: (44, undef) :: (43, undef) :: (42, .bool false) :: (41, .bool false) :: (40, undef) :: (39, undef) :: (38, undef) :: (37, undef) :: (36, undef) :: (35, .bool false) :: (34, .bool false) :: (33, undef) :: (32, undef) :: (31, undef) :: _) rfl ?_; clear hA; intro a hA
                   refine wpList_nil ?_
                   replace hA := hA.sel [0, 3, 4, 5, 6, 7, 15, 16, 17] (e' := [(0, .slice (some ⟨b8, o9, none⟩) ps.length c), (3, .string (bsv (cat ps k))), (4, .bool okb), (5, .int .i64 ((k : Nat) : Int)), (6, .pointer (some ⟨b10, 0, none⟩)), (7, .bool false), (15, .slice (some ⟨b8, o9, none⟩) ps.length c), (16, .int .i64 ((ps.length : Nat) : Int)), (17, .int .i64 ((k : Nat) : Int))]) rfl
                   refine xt_norm ?_
                   replace hA := hA.rw 7 (v' := .bool (decide (1 ≤ x6f4 ∧ x6f4 ≤ 256 ∧ 0 ≤ x6f3 ∧ x6f3 < x6f4 ∧ x6b5.length ≤ 32768))) rfl (congrArg Value.bool ((decide_eq_false (by omega)).symm))
                   exact ⟨(hA.sel [0, 3, 4, 5, 6, 7, 15, 16, 17] rfl), hS⟩))
         · first
           | (exfalso; omega)
           | (replace hA := hA.rw 24 (v' := .bool false) rfl (vb_false hc13)
              replace hA := hA.rw 25 (v' := .bool false) rfl (vb_false hc13)
              refine st_run tbOk 23 hA (e' := (7, .bool false) :: (47, .bool false) :: (46, undef) :: (45, undef) :: (44, undef) :: (43, undef) :: (42, .bool false) :: (41, .bool false) :: (40, undef) :: (39, undef) :: (38, undef) :: (37, undef) :: (36, undef) :: (35, .bool false) :: (34, .bool false) :: (33, undef) :: (32, undef) :: (31, undef) :: (30, .bool false) :: (29, .bool false) :: (28, undef) :: (27, undef) :: (26, undef) :: _) rfl ?_; clear hA; intro a hA
              refine wpList_nil ?_
              replace hA := hA.sel [0, 3, 4, 5, 6, 7, 15, 16, 17] (e' := [(0, .slice (some ⟨b8, o9, none⟩) ps.length c), (3, .string (bsv (cat ps k))), (4, .bool okb), (5, .int .i64 ((k : Nat) : Int)), (6, .pointer (some ⟨b10, 0, none⟩)), (7, .bool false), (15, .slice (some ⟨b8, o9, none⟩) ps.length c), (16, .int .i64 ((ps.length : Nat) : Int)), (17, .int .i64 ((k : Nat) : Int))]) rfl
              refine xt_norm ?_
              replace hA := hA.rw 7 (v' := .bool (decide (1 ≤ x6f4 ∧ x6f4 ≤ 256 ∧ 0 ≤ x6f3 ∧ x6f3 < x6f4 ∧ x6b5.length ≤ 32768))) rfl (congrArg Value.bool ((decide_eq_false (by omega)).symm))
              exact ⟨(hA.sel [0, 3, 4, 5, 6, 7, 15, 16, 17] rfl), hS⟩)
       · clear hA hS; rintro a w17 ⟨hA, hS⟩
         refine wp_seq ?_
         refine wp_seq ?_
         refine wp_region_lit ?_
         refine st_val hA rfl rfl (by decide) (rn_loadA tbOk hA [.int .i64 x6f0, .int .i64 x6f1, .int .u64 x6f2, .int .i64 x6f3, .int .i64 x6f4, .slice x6A5 x6b5.length x6c5] rfl rfl rfl rfl rfl (cells_row (hS.heapAt 0 rfl) rfl)) ?_; clear hA; intro a hA
         refine st_call0 hA rfl rfl rfl isfn6 rfl rfl (by decide) (may6 hS x6f0 x6f1 x6f2 x6f3 x6f4 x6A5 x6c5 x6b5) ?_
         clear hA hS; rintro v w18 a ⟨rfl, hS⟩ hA
         refine st_run tbOk 1 hA (e' := (50, .bool (decide (1 ≤ x6f4 ∧ x6f4 ≤ 256 ∧ 0 ≤ x6f3 ∧ x6f3 < x6f4 ∧ x6b5.length ≤ 32768))) :: _) rfl ?_; clear hA; intro a hA
         by_cases hc19 : 1 ≤ x6f4 ∧ x6f4 ≤ 256 ∧ 0 ≤ x6f3 ∧ x6f3 < x6f4 ∧ x6b5.length ≤ 32768
         · first
           | (exfalso; omega)
           | (replace hA := hA.rw 7 (v' := .bool true) rfl (vb_true hc19)
              replace hA := hA.rw 49 (v' := .bool true) rfl (vb_true hc19)
              replace hA := hA.rw 50 (v' := .bool true) rfl (vb_true hc19)
              refine st_run tbOk 1 hA (e' := (51, .bool false) :: _) rfl ?_; clear hA; intro a hA
              refine wpList_nil ?_
              replace hA := hA.sel [0, 3, 4, 5, 6, 7, 15, 16, 17, 51] (e' := [(0, .slice (some ⟨b8, o9, none⟩) ps.length c), (3, .string (bsv (cat ps k))), (4, .bool okb), (5, .int .i64 ((k : Nat) : Int)), (6, .pointer (some ⟨b10, 0, none⟩)), (7, .bool true), (15, .slice (some ⟨b8, o9, none⟩) ps.length c), (16, .int .i64 ((ps.length : Nat) : Int)), (17, .int .i64 ((k : Nat) : Int)), (51, .bool false)]) rfl
              refine xt_norm ?_
              refine cd_cond_f hA rfl ?_
              refine wp_skip ?_
              refine xt_norm ?_
              refine wp_seq_join (fun a w => ∃ (ok2 : Bool), Has a 128 [(0, .slice (some ⟨b8, o9, none⟩) ps.length c), (3, .string (bsv (cat ps k))), (4, .bool ok2), (6, .pointer (some ⟨b10, 0, none⟩)), (15, .slice (some ⟨b8, o9, none⟩) ps.length c), (16, .int .i64 ((ps.length : Nat) : Int)), (17, .int .i64 ((k : Nat) : Int))] ∧ St w0 w ([(b10, rowO [.int .i64 x6f0, .int .i64 x6f1, .int .u64 x6f2, .int .i64 x6f3, .int .i64 x6f4, .slice x6A5 x6b5.length x6c5] 27)] :: [] :: F) ∧ (ok2 = true ↔ (okb = true ∧ ((1 ≤ x6f4 ∧ x6f4 ≤ 256 ∧ 0 ≤ x6f3 ∧ x6f3 < x6f4 ∧ x6b5.length ≤ 32768) ∧ x6f3 = ((k : Nat) : Int) ∧ x6f4 = ((ps.length : Nat) : Int) ∧ x6f2 = x4f2 ∧ x6f0 = x4f0 ∧ x6f1 = x4f1)))) ?_ ?_
              · refine wp_draw (fun w' => St w0 w' ([(b10, rowO [.int .i64 x6f0, .int .i64 x6f1, .int .u64 x6f2, .int .i64 x6f3, .int .i64 x6f4, .slice x6A5 x6b5.length x6c5] 27)] :: [] :: F)) [] [(0, true), (1, true), (2, true), (3, true), (4, true), (5, true), (6, true), (7, true), (8, true), (9, true), (10, true), (11, true), (12, true), (13, true), (14, true), (15, true), (16, true), (17, true), (18, true), (19, true), (20, true), (21, true), (22, true), (23, true), (24, true), (25, true), (26, true), (27, true), (28, true), (29, true), (30, true), (31, true), (32, true), (33, true), (34, true), (35, true), (36, true), (37, true), (38, true), (39, true), (40, true), (41, true), (42, true), (43, true), (44, true)] mixed (by kernel_rfl) (by rintro c a w ⟨_, _, h, _⟩; cases h) (by rfl) (by kernel_rfl) ?_
                replace hS := hS.drew
                refine dr_run tbOk 2 hA hS (e' := (53, .bool okb) :: (52, .bool okb) :: _) rfl ?_; clear hA; intro a hA
                by_cases hc20 : okb = true
                · first
                  | (exfalso; omega)
                  | (replace hA := hA.rw 4 (v' := .bool true) rfl (vb_t hc20)
                     replace hA := hA.rw 52 (v' := .bool true) rfl (vb_t hc20)
                     replace hA := hA.rw 53 (v' := .bool true) rfl (vb_t hc20)
                     refine dr_run tbOk 4 hA hS (e' := (57, .pointer (some ⟨b10, 3, none⟩)) :: (56, .bool true) :: (55, .bool true) :: (54, .bool true) :: _) rfl ?_; clear hA; intro a hA
                     refine dr_y hA rfl rfl rfl (by decide) hS (fun w' hS' => rn_load tbOk hA rfl rfl rfl rfl (cell_row (hS'.heapAt 0 rfl) rfl)) ?_; clear hA; intro a hA
                     refine dr_run tbOk 4 hA hS (e' := (62, .bool (x6f3 == ((k : Nat) : Int))) :: (61, .bool (x6f3 == ((k : Nat) : Int))) :: (60, .bool (x6f3 == ((k : Nat) : Int))) :: (59, .int .i64 ((k : Nat) : Int)) :: _) rfl ?_; clear hA; intro a hA
                     by_cases hc21 : x6f3 = ((k : Nat) : Int)
                     · first
                       | (exfalso; omega)
                       | (replace hA := hA.rw 60 (v' := .bool true) rfl (vb_eq_t hc21)
                          replace hA := hA.rw 61 (v' := .bool true) rfl (vb_eq_t hc21)
                          replace hA := hA.rw 62 (v' := .bool true) rfl (vb_eq_t hc21)
                          refine dr_run tbOk 1 hA hS (e' := (63, .pointer (some ⟨b10, 4, none⟩)) :: _) rfl ?_; clear hA; intro a hA
                          refine dr_y hA rfl rfl rfl (by decide) hS (fun w' hS' => rn_load tbOk hA rfl rfl rfl rfl (cell_row (hS'.heapAt 0 rfl) rfl)) ?_; clear hA; intro a hA
                          refine dr_run tbOk 5 hA hS (e' := (69, .bool (x6f4 == ((ps.length : Nat) : Int))) :: (68, .bool (x6f4 == ((ps.length : Nat) : Int))) :: (67, .bool (x6f4 == ((ps.length : Nat) : Int))) :: (66, .int .i64 ((ps.length : Nat) : Int)) :: (65, .slice (some ⟨b8, o9, none⟩) ps.length c) :: _) rfl ?_; clear hA; intro a hA
                          by_cases hc22 : x6f4 = ((ps.length : Nat) : Int)
                          · first
                            | (exfalso; omega)
                            | (replace hA := hA.rw 67 (v' := .bool true) rfl (vb_eq_t hc22)
                               replace hA := hA.rw 68 (v' := .bool true) rfl (vb_eq_t hc22)
                               replace hA := hA.rw 69 (v' := .bool true) rfl (vb_eq_t hc22)
                               refine dr_run tbOk 1 hA hS (e' := (70, .pointer (some ⟨b10, 2, none⟩)) :: _) rfl ?_; clear hA; intro a hA
                               refine dr_y hA rfl rfl rfl (by decide) hS (fun w' hS' => rn_load tbOk hA rfl rfl rfl rfl (cell_row (hS'.heapAt 0 rfl) rfl)) ?_; clear hA; intro a hA
                               refine dr_run tbOk 1 hA hS (e' := (72, .slice (some ⟨b8, o9, none⟩) ps.length c) :: _) rfl ?_; clear hA; intro a hA
                               refine dr_y hA rfl rfl rfl (by decide) hS (fun w' hS' => rn_indexAddr tbOk hA 0 o9 rfl rfl rfl rfl rfl rfl (by rfl) (by omega) (by first | rfl | simp [Nat.mul_one, Nat.zero_add] | omega)) ?_; clear hA; intro a hA
                               refine dr_run tbOk 1 hA hS (e' := (74, .pointer (some ⟨b8, o9 + 2, none⟩)) :: _) rfl ?_; clear hA; intro a hA
                               refine dr_y hA rfl rfl rfl (by decide) hS (fun w' hS' => rn_load tbOk hA rfl rfl rfl rfl ((hr _ (hS'.tail 2 rfl)).elemf (k := 0) encPacket_ok hx4 (j := 2) rfl)) ?_; clear hA; intro a hA
                               refine dr_run tbOk 3 hA hS (e' := (78, .bool (x6f2 == x4f2)) :: (77, .bool (x6f2 == x4f2)) :: (76, .bool (x6f2 == x4f2)) :: _) rfl ?_; clear hA; intro a hA
                               by_cases hc23 : x6f2 = x4f2
                               · first
                                 | (exfalso; omega)
                                 | (replace hA := hA.rw 76 (v' := .bool true) rfl (vb_eq_t hc23)
                                    replace hA := hA.rw 77 (v' := .bool true) rfl (vb_eq_t hc23)
                                    replace hA := hA.rw 78 (v' := .bool true) rfl (vb_eq_t hc23)
                                    refine dr_run tbOk 1 hA hS (e' := (79, .pointer (some ⟨b10, 0, none⟩)) :: _) rfl ?_; clear hA; intro a hA
                                    refine dr_y hA rfl rfl rfl (by decide) hS (fun w' hS' => rn_load tbOk hA rfl rfl rfl rfl (cell_row (hS'.heapAt 0 rfl) rfl)) ?_; clear hA; intro a hA
                                    refine dr_run tbOk 1 hA hS (e' := (81, .slice (some ⟨b8, o9, none⟩) ps.length c) :: _) rfl ?_; clear hA; intro a hA
                                    refine dr_y hA rfl rfl rfl (by decide) hS (fun w' hS' => rn_indexAddr tbOk hA 0 o9 rfl rfl rfl rfl rfl rfl (by rfl) (by omega) (by first | rfl | simp [Nat.mul_one, Nat.zero_add] | omega)) ?_; clear hA; intro a hA
                                    refine dr_run tbOk 1 hA hS (e' := (83, .pointer (some ⟨b8, o9, none⟩)) :: _) rfl ?_; clear hA; intro a hA
                                    refine dr_y hA rfl rfl rfl (by decide) hS (fun w' hS' => rn_load tbOk hA rfl rfl rfl rfl ((hr _ (hS'.tail 2 rfl)).elemf (k := 0) encPacket_ok hx4 (j := 0) rfl)) ?_; clear hA; intro a hA
                                    refine dr_run tbOk 3 hA hS (e' := (87, .bool (x6f0 == x4f0)) :: (86, .bool (x6f0 == x4f0)) :: (85, .bool (x6f0 == x4f0)) :: _) rfl ?_; clear hA; intro a hA
                                    by_cases hc24 : x6f0 = x4f0
                                    · first
                                      | (exfalso; omega)
                                      | (replace hA := hA.rw 85 (v' := .bool true) rfl (vb_eq_t hc24)
                                         replace hA := hA.rw 86 (v' := .bool true) rfl (vb_eq_t hc24)
                                         replace hA := hA.rw 87 (v' := .bool true) rfl (vb_eq_t hc24)
                                         refine dr_run tbOk 1 hA hS (e' := (88, .pointer (some ⟨b10, 1, none⟩)) :: _) rfl ?_; clear hA; intro a hA
                                         refine dr_y hA rfl rfl rfl (by decide) hS (fun w' hS' => rn_load tbOk hA rfl rfl rfl rfl (cell_row (hS'.heapAt 0 rfl) rfl)) ?_; clear hA; intro a hA
                                         refine dr_run tbOk 1 hA hS (e' := (90, .slice (some ⟨b8, o9, none⟩) ps.length c) :: _) rfl ?_; clear hA; intro a hA
                                         refine dr_y hA rfl rfl rfl (by decide) hS (fun w' hS' => rn_indexAddr tbOk hA 0 o9 rfl rfl rfl rfl rfl rfl (by rfl) (by omega) (by first | rfl | simp [Nat.mul_one, Nat.zero_add] | omega)) ?_; clear hA; intro a hA
                                         refine dr_run tbOk 1 hA hS (e' := (92, .pointer (some ⟨b8, o9 + 1, none⟩)) :: _) rfl ?_; clear hA; intro a hA
                                         refine dr_y hA rfl rfl rfl (by decide) hS (fun w' hS' => rn_load tbOk hA rfl rfl rfl rfl ((hr _ (hS'.tail 2 rfl)).elemf (k := 0) encPacket_ok hx4 (j := 1) rfl)) ?_; clear hA; intro a hA
                                         refine dr_run tbOk 3 hA hS (e' := (4, .bool (x6f1 == x4f1)) :: (95, .bool (x6f1 == x4f1)) :: (94, .bool (x6f1 == x4f1)) :: _) rfl ?_; clear hA; intro a hA
                                         refine dr_end ?_
                                         replace hA := hA.sel [0, 3, 4, 6, 15, 16, 17] (e' := [(0, .slice (some ⟨b8, o9, none⟩) ps.length c), (3, .string (bsv (cat ps k))), (4, .bool (x6f1 == x4f1)), (6, .pointer (some ⟨b10, 0, none⟩)), (15, .slice (some ⟨b8, o9, none⟩) ps.length c), (16, .int .i64 ((ps.length : Nat) : Int)), (17, .int .i64 ((k : Nat) : Int))]) rfl
                                         refine xt_norm ?_
                                         exact ⟨(x6f1 == x4f1), (hA.sel [0, 3, 4, 6, 15, 16, 17] rfl), hS, ⟨fun h => ⟨by assumption, by have h2 := beq_iff_eq.1 h; omega⟩, fun h => beq_iff_eq.2 (by have h2 := h.2; omega)⟩⟩)
                                    · first
                                      | (exfalso; omega)
                                      | (replace hA := hA.rw 85 (v' := .bool false) rfl (vb_eq_f hc24)
                                         replace hA := hA.rw 86 (v' := .bool false) rfl (vb_eq_f hc24)
                                         replace hA := hA.rw 87 (v' := .bool false) rfl (vb_eq_f hc24)
                                         refine dr_run tbOk 9 hA hS (e' := (4, .bool false) :: (95, .bool false) :: (94, undef) :: (93, undef) :: (92, undef) :: (91, undef) :: (90, undef) :: (89, undef) :: (88, undef) :: _) rfl ?_; clear hA; intro a hA
                                         refine dr_end ?_
                                         replace hA := hA.sel [0, 3, 4, 6, 15, 16, 17] (e' := [(0, .slice (some ⟨b8, o9, none⟩) ps.length c), (3, .string (bsv (cat ps k))), (4, .bool false), (6, .pointer (some ⟨b10, 0, none⟩)), (15, .slice (some ⟨b8, o9, none⟩) ps.length c), (16, .int .i64 ((ps.length : Nat) : Int)), (17, .int .i64 ((k : Nat) : Int))]) rfl
                                         refine xt_norm ?_
                                         exact ⟨false, (hA.sel [0, 3, 4, 6, 15, 16, 17] rfl), hS, ⟨fun h => (by cases h), fun h => by exfalso; first | exact absurd h.1 (by assumption) | (have h2 := h.2; omega)⟩⟩))
                               · first
                                 | (exfalso; omega)
                                 | (replace hA := hA.rw 76 (v' := .bool false) rfl (vb_eq_f hc23)
                                    replace hA := hA.rw 77 (v' := .bool false) rfl (vb_eq_f hc23)
                                    replace hA := hA.rw 78 (v' := .bool false) rfl (vb_eq_f hc23)
                                    refine dr_run tbOk 18 hA hS (e' := (4, .bool false) :: (95, .bool false) :: (94, undef) :: (93, undef) :: (92, undef) :: (91, undef) :: (90, undef) :: (89, undef) :: (88, undef) :: (87, .bool false) :: (86, .bool false) :: (85, undef) :: (84, undef) :: (83, undef) :: (82, undef) :: (81, undef) :: (80, undef) :: (79, undef) :: _) rfl ?_; clear hA; intro a hA
                                    refine dr_end ?_
                                    replace hA := hA.sel [0, 3, 4, 6, 15, 16, 17] (e' := [(0, .slice (some ⟨b8, o9, none⟩) ps.length c), (3, .string (bsv (cat ps k))), (4, .bool false), (6, .pointer (some ⟨b10, 0, none⟩)), (15, .slice (some ⟨b8, o9, none⟩) ps.length c), (16, .int .i64 ((ps.length : Nat) : Int)), (17, .int .i64 ((k : Nat) : Int))]) rfl
                                    refine xt_norm ?_
                                    exact ⟨false, (hA.sel [0, 3, 4, 6, 15, 16, 17] rfl), hS, ⟨fun h => (by cases h), fun h => by exfalso; first | exact absurd h.1 (by assumption) | (have h2 := h.2; omega)⟩⟩))
                          · first
                            | (exfalso; omega)
                            | (replace hA := hA.rw 67 (v' := .bool false) rfl (vb_eq_f hc22)
                               replace hA := hA.rw 68 (v' := .bool false) rfl (vb_eq_f hc22)
                               replace hA := hA.rw 69 (v' := .bool false) rfl (vb_eq_f hc22)
                               refine dr_run tbOk 27 hA hS (e' := (4, .bool false) :: (95, .bool false) :: (94, undef) :: (93, undef) :: (92, undef) :: (91, undef) :: (90, undef) :: (89, undef) :: (88, undef) :: (87, .bool false) :: (86, .bool false) :: (85, undef) :: (84, undef) :: (83, undef) :: (82, undef) :: (81, undef) :: (80, undef) :: (79, undef) :: (78, .bool false) :: (77, .bool false) :: (76, undef) :: (75, undef) :: (74, undef) :: (73, undef) :: (72, undef) :: (71, undef) :: (70, undef) :: _) rfl ?_; clear hA; intro a hA
                               refine dr_end ?_
                               replace hA := hA.sel [0, 3, 4, 6, 15, 16, 17] (e' := [(0, .slice (some ⟨b8, o9, none⟩) ps.length c), (3, .string (bsv (cat ps k))), (4, .bool false), (6, .pointer (some ⟨b10, 0, none⟩)), (15, .slice (some ⟨b8, o9, none⟩) ps.length c), (16, .int .i64 ((ps.length : Nat) : Int)), (17, .int .i64 ((k : Nat) : Int))]) rfl
                               refine xt_norm ?_
                               exact ⟨false, (hA.sel [0, 3, 4, 6, 15, 16, 17] rfl), hS, ⟨fun h => (by cases h), fun h => by exfalso; first | exact absurd h.1 (by assumption) | (have h2 := h.2; omega)⟩⟩))
                     · first
                       | (exfalso; omega)
                       | (replace hA := hA.rw 60 (v' := .bool false) rfl (vb_eq_f hc21)
                          replace hA := hA.rw 61 (v' := .bool false) rfl (vb_eq_f hc21)
                          replace hA := hA.rw 62 (v' := .bool false) rfl (vb_eq_f hc21)
                          refine dr_run tbOk 34 hA hS (e' := (4, .bool false) :: (95, .bool false) :: (94, undef) :: (93, undef) :: (92, undef) :: (91, undef) :: (90, undef) :: (89, undef) :: (88, undef) :: (87, .bool false) :: (86, .bool false) :: (85, undef) :: (84, undef) :: (83, undef) :: (82, undef) :: (81, undef) :: (80, undef) :: (79, undef) :: (78, .bool false) :: (77, .bool false) :: (76, undef) :: (75, undef) :: (74, undef) :: (73, undef) :: (72, undef) :: (71, undef) :: (70, undef) :: (69, .bool false) :: (68, .bool false) :: (67, undef) :: (66, undef) :: (65, undef) :: (64, undef) :: (63, undef) :: _) rfl ?_; clear hA; intro a hA
                          refine dr_end ?_
                          replace hA := hA.sel [0, 3, 4, 6, 15, 16, 17] (e' := [(0, .slice (some ⟨b8, o9, none⟩) ps.length c), (3, .string (bsv (cat ps k))), (4, .bool false), (6, .pointer (some ⟨b10, 0, none⟩)), (15, .slice (some ⟨b8, o9, none⟩) ps.length c), (16, .int .i64 ((ps.length : Nat) : Int)), (17, .int .i64 ((k : Nat) : Int))]) rfl
                          refine xt_norm ?_
                          exact ⟨false, (hA.sel [0, 3, 4, 6, 15, 16, 17] rfl), hS, ⟨fun h => (by cases h), fun h => by exfalso; first | exact absurd h.1 (by assumption) | (have h2 := h.2; omega)⟩⟩))
                · first
                  | (exfalso; omega)
                  | (replace hA := hA.rw 4 (v' := .bool false) rfl (vb_f hc20)
                     replace hA := hA.rw 52 (v' := .bool false) rfl (vb_f hc20)
                     replace hA := hA.rw 53 (v' := .bool false) rfl (vb_f hc20)
                     refine dr_run tbOk 43 hA hS (e' := (4, .bool false) :: (95, .bool false) :: (94, undef) :: (93, undef) :: (92, undef) :: (91, undef) :: (90, undef) :: (89, undef) :: (88, undef) :: (87, .bool false) :: (86, .bool false) :: (85, undef) :: (84, undef) :: (83, undef) :: (82, undef) :: (81, undef) :: (80, undef) :: (79, undef) :: (78, .bool false) :: (77, .bool false) :: (76, undef) :: (75, undef) :: (74, undef) :: (73, undef) :: (72, undef) :: (71, undef) :: (70, undef) :: (69, .bool false) :: (68, .bool false) :: (67, undef) :: (66, undef) :: (65, undef) :: (64, undef) :: (63, undef) :: (62, .bool false) :: (61, .bool false) :: (60, undef) :: (59, undef) :: (58, undef) :: (57, undef) :: (56, .bool false) :: (55, .bool false) :: (54, undef) :: _) rfl ?_; clear hA; intro a hA
                     refine dr_end ?_
                     replace hA := hA.sel [0, 3, 4, 6, 15, 16, 17] (e' := [(0, .slice (some ⟨b8, o9, none⟩) ps.length c), (3, .string (bsv (cat ps k))), (4, .bool false), (6, .pointer (some ⟨b10, 0, none⟩)), (15, .slice (some ⟨b8, o9, none⟩) ps.length c), (16, .int .i64 ((ps.length : Nat) : Int)), (17, .int .i64 ((k : Nat) : Int))]) rfl
                     refine xt_norm ?_
                     exact ⟨false, (hA.sel [0, 3, 4, 6, 15, 16, 17] rfl), hS, ⟨fun h => (by cases h), fun h => by exfalso; first | exact absurd h.1 (by assumption) | (have h2 := h.2; omega)⟩⟩)
              · clear hA hS; rintro a w25 ⟨ok2, hA, hS, hok2⟩
                refine wp_region_lit ?_
                refine st_run tbOk 2 hA (e' := (97, .pointer (some ⟨b10, 5, none⟩)) :: (96, .string (bsv (cat ps k))) :: _) rfl ?_; clear hA; intro a hA
                refine st_val hA rfl rfl (by decide) (rn_load tbOk hA rfl rfl rfl rfl (cell_row (hS.heapAt 0 rfl) rfl)) ?_; clear hA; intro a hA
                refine st_val hA rfl rfl (by decide) (rn_bstr tbOk hA (bs := x6b5) rfl rfl rfl rfl rfl rfl rfl rfl (hd7 _ (hS.only 1 rfl))) ?_; clear hA; intro a hA
                refine st_val hA rfl rfl (by decide) (rn_stradd hA rfl rfl rfl (by omega)) ?_; clear hA; intro a hA
                replace hA := hA.rw 100 (v' := .string (bsv (cat ps (k + 1)))) rfl (congrArg (fun l => Value.string (bsv l)) (cat_succ hx6))
                refine st_run tbOk 1 hA (e' := (3, .string (bsv (cat ps (k + 1)))) :: _) rfl ?_; clear hA; intro a hA
                refine wpList_nil ?_
                replace hA := hA.sel [0, 3, 4, 15, 16, 17] (e' := [(0, .slice (some ⟨b8, o9, none⟩) ps.length c), (3, .string (bsv (cat ps (k + 1)))), (4, .bool ok2), (15, .slice (some ⟨b8, o9, none⟩) ps.length c), (16, .int .i64 ((ps.length : Nat) : Int)), (17, .int .i64 ((k : Nat) : Int))]) rfl
                refine xb_norm ?_
                refine xt_norm ?_
                refine wp_region_lit ?_
                refine st_run tbOk 1 hA (e' := (101, .int .i64 (IntKind.i64.wrap (((k : Nat) : Int) + 1))) :: _) rfl ?_; clear hA; intro a hA
                replace hA := hA.rw 101 (v' := .int .i64 ((k + 1 : Nat) : Int)) rfl (wr64 (by omega) (by omega) (by omega))
                refine st_run tbOk 1 hA (e' := (17, .int .i64 ((k + 1 : Nat) : Int)) :: _) rfl ?_; clear hA; intro a hA
                refine wpList_nil ?_
                replace hA := hA.sel [0, 3, 4, 15, 16, 17] (e' := [(0, .slice (some ⟨b8, o9, none⟩) ps.length c), (3, .string (bsv (cat ps (k + 1)))), (4, .bool ok2), (15, .slice (some ⟨b8, o9, none⟩) ps.length c), (16, .int .i64 ((ps.length : Nat) : Int)), (17, .int .i64 ((k + 1 : Nat) : Int))]) rfl
                replace hS := hS.drop1
                exact lp_next _ (by omega) ⟨(k + 1), ok2, rfl, (hA.sel [0, 3, 4, 15, 16, 17] rfl), hS, by omega, (by rw [hok2, hok]; exact ⟨fun h => ⟨h.1.1, fun i y p0 hi hy h0 => by
                      by_cases hik : i = k
                      · subst hik
                        rw [hx6] at hy; injection hy with hy; subst hy
                        rw [hx4] at h0; injection h0 with h0; subst h0
                        exact h.2
                      · exact h.1.2 i y p0 (by omega) hy h0⟩, fun h => ⟨⟨h.1, fun i y p0 hi hy h0 => h.2 i y p0 (by omega) hy h0⟩, h.2 k _ _ (by omega) hx6 hx4⟩⟩)⟩)
         · first
           | (exfalso; omega)
           | (replace hA := hA.rw 7 (v' := .bool false) rfl (vb_false hc19)
              replace hA := hA.rw 49 (v' := .bool false) rfl (vb_false hc19)
              replace hA := hA.rw 50 (v' := .bool false) rfl (vb_false hc19)
              refine st_run tbOk 1 hA (e' := (51, .bool false) :: _) rfl ?_; clear hA; intro a hA
              refine wpList_nil ?_
              replace hA := hA.sel [0, 3, 4, 5, 6, 7, 15, 16, 17, 51] (e' := [(0, .slice (some ⟨b8, o9, none⟩) ps.length c), (3, .string (bsv (cat ps k))), (4, .bool okb), (5, .int .i64 ((k : Nat) : Int)), (6, .pointer (some ⟨b10, 0, none⟩)), (7, .bool false), (15, .slice (some ⟨b8, o9, none⟩) ps.length c), (16, .int .i64 ((ps.length : Nat) : Int)), (17, .int .i64 ((k : Nat) : Int)), (51, .bool false)]) rfl
              refine xt_norm ?_
              refine cd_cond_f hA rfl ?_
              refine wp_skip ?_
              refine xt_norm ?_
              refine wp_seq_join (fun a w => ∃ (ok2 : Bool), Has a 128 [(0, .slice (some ⟨b8, o9, none⟩) ps.length c), (3, .string (bsv (cat ps k))), (4, .bool ok2), (6, .pointer (some ⟨b10, 0, none⟩)), (15, .slice (some ⟨b8, o9, none⟩) ps.length c), (16, .int .i64 ((ps.length : Nat) : Int)), (17, .int .i64 ((k : Nat) : Int))] ∧ St w0 w ([(b10, rowO [.int .i64 x6f0, .int .i64 x6f1, .int .u64 x6f2, .int .i64 x6f3, .int .i64 x6f4, .slice x6A5 x6b5.length x6c5] 27)] :: [] :: F) ∧ (ok2 = true ↔ (okb = true ∧ ((1 ≤ x6f4 ∧ x6f4 ≤ 256 ∧ 0 ≤ x6f3 ∧ x6f3 < x6f4 ∧ x6b5.length ≤ 32768) ∧ x6f3 = ((k : Nat) : Int) ∧ x6f4 = ((ps.length : Nat) : Int) ∧ x6f2 = x4f2 ∧ x6f0 = x4f0 ∧ x6f1 = x4f1)))) ?_ ?_
              · refine wp_draw (fun w' => St w0 w' ([(b10, rowO [.int .i64 x6f0, .int .i64 x6f1, .int .u64 x6f2, .int .i64 x6f3, .int .i64 x6f4, .slice x6A5 x6b5.length x6c5] 27)] :: [] :: F)) [] [(0, true), (1, true), (2, true), (3, true), (4, true), (5, true), (6, true), (7, true), (8, true), (9, true), (10, true), (11, true), (12, true), (13, true), (14, true), (15, true), (16, true), (17, true), (18, true), (19, true), (20, true), (21, true), (22, true), (23, true), (24, true), (25, true), (26, true), (27, true), (28, true), (29, true), (30, true), (31, true), (32, true), (33, true), (34, true), (35, true), (36, true), (37, true), (38, true), (39, true), (40, true), (41, true), (42, true), (43, true), (44, true)] mixed (by kernel_rfl) (by rintro c a w ⟨_, _, h, _⟩; cases h) (by rfl) (by kernel_rfl) ?_
                replace hS := hS.drew
                refine dr_run tbOk 2 hA hS (e' := (53, .bool okb) :: (52, .bool okb) :: _) rfl ?_; clear hA; intro a hA
                by_cases hc26 : okb = true
                · first
                  | (exfalso; omega)
                  | (replace hA := hA.rw 4 (v' := .bool true) rfl (vb_t hc26)
                     replace hA := hA.rw 52 (v' := .bool true) rfl (vb_t hc26)
                     replace hA := hA.rw 53 (v' := .bool true) rfl (vb_t hc26)
                     refine dr_run tbOk 43 hA hS (e' := (4, .bool false) :: (95, .bool false) :: (94, undef) :: (93, undef) :: (92, undef) :: (91, undef) :: (90, undef) :: (89, undef) :: (88, undef) :: (87, .bool false) :: (86, .bool false) :: (85, undef) :: (84, undef) :: (83, undef) :: (82, undef) :: (81, undef) :: (80, undef) :: (79, undef) :: (78, .bool false) :: (77, .bool false) :: (76, undef) :: (75, undef) :: (74, undef) :: (73, undef) :: (72, undef) :: (71, undef) :: (70, undef) :: (69, .bool false) :: (68, .bool false) :: (67, undef) :: (66, undef) :: (65, undef) :: (64, undef) :: (63, undef) :: (62, .bool false) :: (61, .bool false) :: (60, undef) :: (59, undef) :: (58, undef) :: (57, undef) :: (56, .bool false) :: (55, .bool false) :: (54, .bool false) :: _) rfl ?_; clear hA; intro a hA
                     refine dr_end ?_
                     replace hA := hA.sel [0, 3, 4, 6, 15, 16, 17] (e' := [(0, .slice (some ⟨b8, o9, none⟩) ps.length c), (3, .string (bsv (cat ps k))), (4, .bool false), (6, .pointer (some ⟨b10, 0, none⟩)), (15, .slice (some ⟨b8, o9, none⟩) ps.length c), (16, .int .i64 ((ps.length : Nat) : Int)), (17, .int .i64 ((k : Nat) : Int))]) rfl
                     refine xt_norm ?_
                     exact ⟨false, (hA.sel [0, 3, 4, 6, 15, 16, 17] rfl), hS, ⟨fun h => (by cases h), fun h => by exfalso; first | exact absurd h.1 (by assumption) | (have h2 := h.2; omega)⟩⟩)
                · first
                  | (exfalso; omega)
                  | (replace hA := hA.rw 4 (v' := .bool false) rfl (vb_f hc26)
                     replace hA := hA.rw 52 (v' := .bool false) rfl (vb_f hc26)
                     replace hA := hA.rw 53 (v' := .bool false) rfl (vb_f hc26)
                     refine dr_run tbOk 43 hA hS (e' := (4, .bool false) :: (95, .bool false) :: (94, undef) :: (93, undef) :: (92, undef) :: (91, undef) :: (90, undef) :: (89, undef) :: (88, undef) :: (87, .bool false) :: (86, .bool false) :: (85, undef) :: (84, undef) :: (83, undef) :: (82, undef) :: (81, undef) :: (80, undef) :: (79, undef) :: (78, .bool false) :: (77, .bool false) :: (76, undef) :: (75, undef) :: (74, undef) :: (73, undef) :: (72, undef) :: (71, undef) :: (70, undef) :: (69, .bool false) :: (68, .bool false) :: (67, undef) :: (66, undef) :: (65, undef) :: (64, undef) :: (63, undef) :: (62, .bool false) :: (61, .bool false) :: (60, undef) :: (59, undef) :: (58, undef) :: (57, undef) :: (56, .bool false) :: (55, .bool false) :: (54, undef) :: _) rfl ?_; clear hA; intro a hA
                     refine dr_end ?_
                     replace hA := hA.sel [0, 3, 4, 6, 15, 16, 17] (e' := [(0, .slice (some ⟨b8, o9, none⟩) ps.length c), (3, .string (bsv (cat ps k))), (4, .bool false), (6, .pointer (some ⟨b10, 0, none⟩)), (15, .slice (some ⟨b8, o9, none⟩) ps.length c), (16, .int .i64 ((ps.length : Nat) : Int)), (17, .int .i64 ((k : Nat) : Int))]) rfl
                     refine xt_norm ?_
                     exact ⟨false, (hA.sel [0, 3, 4, 6, 15, 16, 17] rfl), hS, ⟨fun h => (by cases h), fun h => by exfalso; first | exact absurd h.1 (by assumption) | (have h2 := h.2; omega)⟩⟩)
              · clear hA hS; rintro a w27 ⟨ok2, hA, hS, hok2⟩
                refine wp_region_lit ?_
                refine st_run tbOk 2 hA (e' := (97, .pointer (some ⟨b10, 5, none⟩)) :: (96, .string (bsv (cat ps k))) :: _) rfl ?_; clear hA; intro a hA
                refine st_val hA rfl rfl (by decide) (rn_load tbOk hA rfl rfl rfl rfl (cell_row (hS.heapAt 0 rfl) rfl)) ?_; clear hA; intro a hA
                refine st_val hA rfl rfl (by decide) (rn_bstr tbOk hA (bs := x6b5) rfl rfl rfl rfl rfl rfl rfl rfl (hd7 _ (hS.only 1 rfl))) ?_; clear hA; intro a hA
                refine st_val hA rfl rfl (by decide) (rn_stradd hA rfl rfl rfl (by omega)) ?_; clear hA; intro a hA
                replace hA := hA.rw 100 (v' := .string (bsv (cat ps (k + 1)))) rfl (congrArg (fun l => Value.string (bsv l)) (cat_succ hx6))
                refine st_run tbOk 1 hA (e' := (3, .string (bsv (cat ps (k + 1)))) :: _) rfl ?_; clear hA; intro a hA
                refine wpList_nil ?_
                replace hA := hA.sel [0, 3, 4, 15, 16, 17] (e' := [(0, .slice (some ⟨b8, o9, none⟩) ps.length c), (3, .string (bsv (cat ps (k + 1)))), (4, .bool ok2), (15, .slice (some ⟨b8, o9, none⟩) ps.length c), (16, .int .i64 ((ps.length : Nat) : Int)), (17, .int .i64 ((k : Nat) : Int))]) rfl
                refine xb_norm ?_
                refine xt_norm ?_
                refine wp_region_lit ?_
                refine st_run tbOk 1 hA (e' := (101, .int .i64 (IntKind.i64.wrap (((k : Nat) : Int) + 1))) :: _) rfl ?_; clear hA; intro a hA
                replace hA := hA.rw 101 (v' := .int .i64 ((k + 1 : Nat) : Int)) rfl (wr64 (by omega) (by omega) (by omega))
                refine st_run tbOk 1 hA (e' := (17, .int .i64 ((k + 1 : Nat) : Int)) :: _) rfl ?_; clear hA; intro a hA
                refine wpList_nil ?_
                replace hA := hA.sel [0, 3, 4, 15, 16, 17] (e' := [(0, .slice (some ⟨b8, o9, none⟩) ps.length c), (3, .string (bsv (cat ps (k + 1)))), (4, .bool ok2), (15, .slice (some ⟨b8, o9, none⟩) ps.length c), (16, .int .i64 ((ps.length : Nat) : Int)), (17, .int .i64 ((k + 1 : Nat) : Int))]) rfl
                replace hS := hS.drop1
                exact lp_next _ (by omega) ⟨(k + 1), ok2, rfl, (hA.sel [0, 3, 4, 15, 16, 17] rfl), hS, by omega, (by rw [hok2, hok]; exact ⟨fun h => ⟨h.1.1, fun i y p0 hi hy h0 => by
                      by_cases hik : i = k
                      · subst hik
                        rw [hx6] at hy; injection hy with hy; subst hy
                        rw [hx4] at h0; injection h0 with h0; subst h0
                        exact h.2
                      · exact h.1.2 i y p0 (by omega) hy h0⟩, fun h => ⟨⟨h.1, fun i y p0 hi hy h0 => h.2 i y p0 (by omega) hy h0⟩, h.2 k _ _ (by omega) hx6 hx4⟩⟩)⟩))
  · first
    | (exfalso; omega)
    | (replace hA := hA.rw 18 (v' := .bool false) rfl (vb_false hc3)
       refine cd_cond_f hA rfl ?_
       refine wp_exit ?_
       refine xt_exit ?_
       refine xt_exit ?_
       refine cd_exit_eq ?_
       refine xt_norm ?_
       refine wp_seq ?_
       refine wp_region_lit ?_
       refine st_run tbOk 1 hA (e' := (103, .slice A ps.length c) :: _) rfl ?_; clear hA; intro a hA
       have hkl : k = ps.length := by omega
       have hcase : (AllFit ps ∧ 0 < ps.length) ∨ (AllFit ps ∧ ps.length = 0) ∨ ¬ AllFit ps := by
           by_cases h : AllFit ps
           · rcases Nat.eq_zero_or_pos ps.length with h0 | h0
             · exact .inr (.inl ⟨h, h0⟩)
             · exact .inl ⟨h, h0⟩
           · exact .inr (.inr h)
       rcases hcase with ⟨hall, h0⟩ | ⟨hall, h0⟩ | hall
       · refine st_call0 hA rfl rfl rfl isfn7 rfl rfl (by decide) (join7 hS (ps := ps) (fun w' h => (hr _ (h.tail 1 rfl))) hdd) ?_
         clear hA hS; rintro _ w28 a ⟨C30, v29, ou33, hO30, hjC30, hS⟩ hA
         obtain ⟨A31, c32, rfl, hmc32, hxc32⟩ := hO30.open'
         obtain ⟨-, rfl, rfl⟩ := hjC30.resolve_right (fun h => h.1 (hall))
         refine st_run tbOk 5 hA (e' := (9, .bool (decide (((ps.length : Nat) : Int) > 0))) :: (8, .slice A31 ((cat ps ps.length).length) c32) :: (106, .bool (decide (((ps.length : Nat) : Int) > 0))) :: (105, .slice A31 ((cat ps ps.length).length) c32) :: (102, .tuple #[.slice A31 ((cat ps ps.length).length) c32, .bool (decide (((ps.length : Nat) : Int) > 0))]) :: _) rfl ?_; clear hA; intro a hA
         refine wpList_nil ?_
         replace hA := hA.sel [3, 4, 8, 9] (e' := [(3, .string (bsv (cat ps k))), (4, .bool okb), (8, .slice A31 ((cat ps ps.length).length) c32), (9, .bool (decide (((ps.length : Nat) : Int) > 0)))]) rfl
         refine xt_norm ?_
         refine wp_seq ?_
         refine wp_region_lit ?_
         replace hA := hA.rw 4 (v' := .bool true) rfl (congrArg Value.bool (hok.2 ⟨h0, fun i x p0 hi hx hp => hall i x p0 hx hp⟩))
         replace hA := hA.rw 9 (v' := .bool true) rfl (congrArg Value.bool (decide_eq_true (by omega)))
         refine st_run tbOk 7 hA (e' := (113, .slice A31 ((cat ps ps.length).length) c32) :: (112, .bool true) :: (111, .bool true) :: (110, .bool true) :: (109, .bool true) :: (108, .bool true) :: (107, .bool true) :: _) rfl ?_; clear hA; intro a hA
         refine st_val hA rfl rfl (by decide) (rn_bstr tbOk hA (bs := cat ps ps.length) rfl rfl rfl rfl rfl rfl rfl rfl (hO30.rd (hS.own_ 0 rfl)).x) ?_; clear hA; intro a hA
         refine st_run tbOk 2 hA (e' := (116, .bool ((bsv (cat ps ps.length)).toList == (bsv (cat ps k)).toList)) :: (115, .string (bsv (cat ps k))) :: _) rfl ?_; clear hA; intro a hA
         replace hA := hA.rw 116 (v' := .bool true) rfl (congrArg Value.bool (by rw [hkl, bsv_eq, decide_eq_true_eq]))
         refine st_run tbOk 12 hA (e' := (2, .bool true) :: (127, .bool true) :: (126, .bool true) :: (125, undef) :: (124, undef) :: (123, undef) :: (122, undef) :: (121, undef) :: (120, undef) :: (119, undef) :: (118, .bool true) :: (117, .bool true) :: _) rfl ?_; clear hA; intro a hA
         refine wpList_nil ?_
         replace hA := hA.sel [2] (e' := [(2, .bool true)]) rfl
         refine xt_norm ?_
         refine wp_ret ?_
         refine ret1 (fn := Try.f3) hA rfl rfl ?_
         replace hS := hS.drop1
         replace hS := hS.drop1
         exact ⟨rfl, hS⟩
       · refine st_call0 hA rfl rfl rfl isfn7 rfl rfl (by decide) (join7 hS (ps := ps) (fun w' h => (hr _ (h.tail 1 rfl))) hdd) ?_
         clear hA hS; rintro _ w34 a ⟨C36, v35, ou39, hO36, hjC36, hS⟩ hA
         obtain ⟨A37, c38, rfl, hmc38, hxc38⟩ := hO36.open'
         obtain ⟨-, rfl, rfl⟩ := hjC36.resolve_right (fun h => h.1 (hall))
         refine st_run tbOk 5 hA (e' := (9, .bool (decide (((ps.length : Nat) : Int) > 0))) :: (8, .slice A37 ((cat ps ps.length).length) c38) :: (106, .bool (decide (((ps.length : Nat) : Int) > 0))) :: (105, .slice A37 ((cat ps ps.length).length) c38) :: (102, .tuple #[.slice A37 ((cat ps ps.length).length) c38, .bool (decide (((ps.length : Nat) : Int) > 0))]) :: _) rfl ?_; clear hA; intro a hA
         refine wpList_nil ?_
         replace hA := hA.sel [3, 4, 8, 9] (e' := [(3, .string (bsv (cat ps k))), (4, .bool okb), (8, .slice A37 ((cat ps ps.length).length) c38), (9, .bool (decide (((ps.length : Nat) : Int) > 0)))]) rfl
         refine xt_norm ?_
         refine wp_seq ?_
         refine wp_region_lit ?_
         replace hA := hA.rw 4 (v' := .bool false) rfl (congrArg Value.bool (Bool.eq_false_iff.2 (fun h => by have h2 := hok.1 h; omega)))
         have hnl : ([] : List UInt8).length = 0 := rfl
         replace hA := hA.rw 9 (v' := .bool false) rfl (congrArg Value.bool (decide_eq_false (by omega)))
         have hc0 : (cat ps ps.length).length = 0 := by rw [h0, cat_zero]; rfl
         refine st_run tbOk 10 hA (e' := (116, undef) :: (115, undef) :: (114, undef) :: (113, undef) :: (112, .bool false) :: (111, .bool false) :: (110, .bool true) :: (109, .bool true) :: (108, .bool false) :: (107, .bool false) :: _) rfl ?_; clear hA; intro a hA
         refine st_run tbOk 12 hA (e' := (2, .bool ((((cat ps ps.length).length : Nat) : Int) == 0)) :: (127, .bool ((((cat ps ps.length).length : Nat) : Int) == 0)) :: (126, .bool ((((cat ps ps.length).length : Nat) : Int) == 0)) :: (125, .bool ((((cat ps ps.length).length : Nat) : Int) == 0)) :: (124, .bool ((((cat ps ps.length).length : Nat) : Int) == 0)) :: (123, .int .i64 (((cat ps ps.length).length : Nat) : Int)) :: (122, .slice A37 ((cat ps ps.length).length) c38) :: (121, .bool true) :: (120, .bool true) :: (119, .bool false) :: (118, .bool false) :: (117, .bool false) :: _) rfl ?_; clear hA; intro a hA
         refine wpList_nil ?_
         replace hA := hA.sel [2] (e' := [(2, .bool ((((cat ps ps.length).length : Nat) : Int) == 0))]) rfl
         refine xt_norm ?_
         refine wp_ret ?_
         refine ret1 (fn := Try.f3) hA rfl rfl ?_
         replace hS := hS.drop1
         replace hS := hS.drop1
         exact ⟨congrArg Value.bool (beq_iff_eq.2 (by omega)), hS⟩
       · refine st_call0 hA rfl rfl rfl isfn7 rfl rfl (by decide) (join7 hS (ps := ps) (fun w' h => (hr _ (h.tail 1 rfl))) hdd) ?_
         clear hA hS; rintro _ w40 a ⟨C42, v41, ou45, hO42, hjC42, hS⟩ hA
         obtain ⟨A43, c44, rfl, hmc44, hxc44⟩ := hO42.open'
         obtain ⟨-, rfl, rfl⟩ := hjC42.resolve_left (fun h => hall h.1)
         refine st_run tbOk 5 hA (e' := (9, .bool false) :: (8, .slice A43 (([] : List UInt8).length) c44) :: (106, .bool false) :: (105, .slice A43 (([] : List UInt8).length) c44) :: (102, .tuple #[.slice A43 (([] : List UInt8).length) c44, .bool false]) :: _) rfl ?_; clear hA; intro a hA
         refine wpList_nil ?_
         replace hA := hA.sel [3, 4, 8, 9] (e' := [(3, .string (bsv (cat ps k))), (4, .bool okb), (8, .slice A43 (([] : List UInt8).length) c44), (9, .bool false)]) rfl
         refine xt_norm ?_
         refine wp_seq ?_
         refine wp_region_lit ?_
         replace hA := hA.rw 4 (v' := .bool false) rfl (congrArg Value.bool (Bool.eq_false_iff.2 (fun h => by have h2 := hok.1 h; exact hall (fun i x p0 hx hp => h2.2 i x p0 (by have := (List.getElem?_eq_some_iff.1 hx).1; omega) hx hp))))
         have hnl : ([] : List UInt8).length = 0 := rfl
         refine st_run tbOk 10 hA (e' := (116, undef) :: (115, undef) :: (114, undef) :: (113, undef) :: (112, .bool false) :: (111, .bool false) :: (110, .bool true) :: (109, .bool true) :: (108, .bool false) :: (107, .bool false) :: _) rfl ?_; clear hA; intro a hA
         refine st_run tbOk 12 hA (e' := (2, .bool (((([] : List UInt8).length : Nat) : Int) == 0)) :: (127, .bool (((([] : List UInt8).length : Nat) : Int) == 0)) :: (126, .bool (((([] : List UInt8).length : Nat) : Int) == 0)) :: (125, .bool (((([] : List UInt8).length : Nat) : Int) == 0)) :: (124, .bool (((([] : List UInt8).length : Nat) : Int) == 0)) :: (123, .int .i64 ((([] : List UInt8).length : Nat) : Int)) :: (122, .slice A43 (([] : List UInt8).length) c44) :: (121, .bool true) :: (120, .bool true) :: (119, .bool false) :: (118, .bool false) :: (117, .bool false) :: _) rfl ?_; clear hA; intro a hA
         refine wpList_nil ?_
         replace hA := hA.sel [2] (e' := [(2, .bool (((([] : List UInt8).length : Nat) : Int) == 0))]) rfl
         refine xt_norm ?_
         refine wp_ret ?_
         refine ret1 (fn := Try.f3) hA rfl rfl ?_
         replace hS := hS.drop1
         replace hS := hS.drop1
         exact ⟨congrArg Value.bool (beq_iff_eq.2 (by omega)), hS⟩)

end Go.Proofs.Ytjgcdlkbgneldaa
