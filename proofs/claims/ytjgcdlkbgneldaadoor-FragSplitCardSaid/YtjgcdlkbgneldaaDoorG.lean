import Derived.Test.YtjgcdlkbgneldaaDoorProg
import Derived.Test.YtjgcdlkbgneldaaDoorAs
import Derived.Test.YtjgcdlkbgneldaaDoorSK12
set_option linter.unusedVariables false
set_option linter.unusedSimpArgs false
set_option maxRecDepth 4000
namespace Go.Proofs.YtjgcdlkbgneldaaDoor
open Go Go.SK
theorem mixed : Tryd.prog.follows .mixedOrders = true := by kernel_rfl
theorem isfn5 : IsFn Tryd.prog 5 := fun args w => by kernel_rfl
theorem isfn6 : IsFn Tryd.prog 6 := fun args w => by kernel_rfl
theorem isfn7 : IsFn Tryd.prog 7 := fun args w => by kernel_rfl
theorem isfn8 : IsFn Tryd.prog 8 := fun args w => by kernel_rfl
theorem isfn9 : IsFn Tryd.prog 9 := fun args w => by kernel_rfl
theorem isfn10 : IsFn Tryd.prog 10 := fun args w => by kernel_rfl
theorem isfn11 : IsFn Tryd.prog 11 := fun args w => by kernel_rfl
noncomputable def tb : List TI := [
  ⟨3, Tryd.t3.desc, 1, 8, .int .i64 0⟩,
  ⟨5, Tryd.t5.desc, 1, 1, .int .u8 0⟩,
  ⟨9, Tryd.t9.desc, 1, 16, .string (⟨#[]⟩ : ByteArray)⟩,
  ⟨22, Tryd.t22.desc, 1, 24, .slice none 0 0⟩,
  ⟨23, Tryd.t23.desc, 1, 8, .int .u64 0⟩,
  ⟨25, Tryd.t25.desc, 1, 24, .slice none 0 0⟩,
  ⟨27, Tryd.t26.desc, 1, 16, .nilIface⟩,
  ⟨30, Tryd.t3.desc, 1, 8, .int .i64 0⟩,
  ⟨33, Tryd.t32.desc, 6, 64, .agg #[.int .i64 0, .int .i64 0, .int .u64 0, .int .i64 0, .int .i64 0, .slice none 0 0]⟩,
  ⟨37, Tryd.t37.desc, 1, 2, .int .u16 0⟩,
  ⟨42, Tryd.t42.desc, 1, 8, .pointer none⟩]
theorem tbOk : TabOk Tryd.prog tb := ⟨
  ⟨by kernel_rfl, Tryd.t3, by kernel_rfl, by kernel_rfl, by kernel_rfl, by kernel_rfl⟩,
  ⟨by kernel_rfl, Tryd.t5, by kernel_rfl, by kernel_rfl, by kernel_rfl, by kernel_rfl⟩,
  ⟨by kernel_rfl, Tryd.t9, by kernel_rfl, by kernel_rfl, by kernel_rfl, by kernel_rfl⟩,
  ⟨by kernel_rfl, Tryd.t22, by kernel_rfl, by kernel_rfl, by kernel_rfl, by kernel_rfl⟩,
  ⟨by kernel_rfl, Tryd.t23, by kernel_rfl, by kernel_rfl, by kernel_rfl, by kernel_rfl⟩,
  ⟨by kernel_rfl, Tryd.t25, by kernel_rfl, by kernel_rfl, by kernel_rfl, by kernel_rfl⟩,
  ⟨by kernel_rfl, Tryd.t27, by kernel_rfl, by kernel_rfl, by kernel_rfl, by kernel_rfl⟩,
  ⟨by kernel_rfl, Tryd.t30, by kernel_rfl, by kernel_rfl, by kernel_rfl, by kernel_rfl⟩,
  ⟨by kernel_rfl, Tryd.t33, by kernel_rfl, by kernel_rfl, by kernel_rfl, by kernel_rfl⟩,
  ⟨by kernel_rfl, Tryd.t37, by kernel_rfl, by kernel_rfl, by kernel_rfl, by kernel_rfl⟩,
  ⟨by kernel_rfl, Tryd.t42, by kernel_rfl, by kernel_rfl, by kernel_rfl, by kernel_rfl⟩,
  trivial⟩
def encPacket (x : Int × Int × Int × Int × Int × Option Addr × Nat × List UInt8) : List Value := [.int .i64 x.1, .int .i64 x.2.1, .int .u64 x.2.2.1, .int .i64 x.2.2.2.1, .int .i64 x.2.2.2.2.1, .slice x.2.2.2.2.2.1 x.2.2.2.2.2.2.2.length x.2.2.2.2.2.2.1]
theorem encPacket_ok : Enc encPacket 6 := ⟨fun _ => rfl, fun x u hu => by simp only [encPacket, List.mem_cons, List.not_mem_nil, or_false] at hu; rcases hu with rfl | rfl | rfl | rfl | rfl | rfl <;> rfl⟩
def encPacket_dd (w0 : World) (D : Chunk) (x : Int × Int × Int × Int × Int × Option Addr × Nat × List UInt8) : Prop := DD w0 D x.2.2.2.2.2.1 x.2.2.2.2.2.2.1 x.2.2.2.2.2.2.2
theorem encPacket_left {w0 : World} {D E : Chunk} {x : Int × Int × Int × Int × Int × Option Addr × Nat × List UInt8} (h : encPacket_dd w0 D x) : encPacket_dd w0 (E ++ D) x := DD.left h
theorem encPacket_lefts {w0 : World} {D E : Chunk} {l : List (Int × Int × Int × Int × Int × Option Addr × Nat × List UInt8)} (h : ∀ x ∈ l, encPacket_dd w0 D x) : ∀ x ∈ l, encPacket_dd w0 (E ++ D) x := fun x hx => encPacket_left (h x hx)

abbrev Pkt := Int × Int × Int × Int × Int × Option Addr × Nat × List UInt8
def pdat (x : Pkt) : List UInt8 := x.2.2.2.2.2.2.2
def nP (l : List UInt8) (s : Nat) : Nat := max 1 ((l.length + s - 1) / s)
def piece (l : List UInt8) (s i : Nat) : List UInt8 := (l.take (min ((i + 1) * s) l.length)).drop (min (i * s) l.length)
def isPk (l : List UInt8) (fr to id : Int) (s i : Nat) (x : Pkt) : Prop := ∃ A c, x = (fr, to, id, ((i : Nat) : Int), ((nP l s : Nat) : Int), A, c, piece l s i)
theorem piece_len (l : List UInt8) (s i : Nat) : (piece l s i).length = min ((i + 1) * s) l.length - min (i * s) l.length := by
  rw [piece, List.length_drop, List.length_take]; omega
theorem piece_le (l : List UInt8) (s i : Nat) : (piece l s i).length ≤ s := by
  rw [piece_len, Nat.succ_mul]; omega
theorem nP_pos (l : List UInt8) (s : Nat) : 1 ≤ nP l s := Nat.le_max_left _ _
/-- All but the last one are full; the last one ends where the bytes end. -/
theorem nP_up {l : List UInt8} {s : Nat} (hs : 1 ≤ s) : l.length ≤ nP l s * s := by
  have h1 : (l.length + s - 1) / s ≤ nP l s := Nat.le_max_right _ _
  have h2 := Nat.div_add_mod (l.length + s - 1) s
  have h3 := Nat.mod_lt (l.length + s - 1) (show 0 < s by omega)
  have h4 : (l.length + s - 1) / s * s ≤ nP l s * s := Nat.mul_le_mul_right s h1
  rw [Nat.mul_comm] at h2
  omega
theorem nP_low {l : List UInt8} {s i : Nat} (hs : 1 ≤ s) (hi : i + 1 < nP l s) : (i + 1) * s < l.length := by
  have h0 : i + 1 < (l.length + s - 1) / s := by
    unfold nP at hi; omega
  have h1 : i + 2 ≤ (l.length + s - 1) / s := h0
  have h2 := Nat.div_add_mod (l.length + s - 1) s
  have h4 : (i + 2) * s ≤ (l.length + s - 1) / s * s := Nat.mul_le_mul_right s h1
  have h5 : (i + 2) * s = (i + 1) * s + s := Nat.succ_mul (i + 1) s
  rw [Nat.mul_comm] at h2
  omega
theorem piece_full {l : List UInt8} {s i : Nat} (hs : 1 ≤ s) (hi : i + 1 < nP l s) : (piece l s i).length = s := by
  have h := nP_low hs hi
  have h5 : (i + 1) * s = i * s + s := Nat.succ_mul i s
  rw [piece_len]; omega
theorem take_piece (l : List UInt8) (s i : Nat) : l.take (i * s) ++ piece l s i = l.take ((i + 1) * s) := by
  have h5 : (i + 1) * s = i * s + s := Nat.succ_mul i s
  rw [piece]
  by_cases h : l.length ≤ i * s
  · rw [Nat.min_eq_right h, Nat.min_eq_right (by omega), List.take_of_length_le (by omega), List.take_of_length_le (Nat.le_refl _), List.drop_eq_nil_of_le (Nat.le_refl _), List.append_nil, List.take_of_length_le (by omega)]
  · rw [Nat.min_eq_left (by omega)]
    have e1 : l.take (min ((i + 1) * s) l.length) = l.take ((i + 1) * s) := by
      by_cases h2 : l.length ≤ (i + 1) * s
      · rw [Nat.min_eq_right h2, List.take_of_length_le (Nat.le_refl _), List.take_of_length_le h2]
      · rw [Nat.min_eq_left (by omega)]
    rw [e1]
    have e2 : l.take (i * s) = (l.take ((i + 1) * s)).take (i * s) := by rw [List.take_take, Nat.min_eq_left (by omega)]
    rw [e2, List.take_append_drop]
/-- The data of the first ones, one behind the other. -/
def cat (ps : List Pkt) (k : Nat) : List UInt8 := ((ps.take k).map pdat).flatten
theorem cat_zero (ps : List Pkt) : cat ps 0 = [] := rfl
theorem cat_succ {ps : List Pkt} {k : Nat} {x : Pkt} (hx : ps[k]? = some x) : cat ps k ++ pdat x = cat ps (k + 1) := by
  rw [cat, cat, List.take_add_one, hx, List.map_append, List.flatten_append]; simp
theorem cat_split {l : List UInt8} {fr to id : Int} {s : Nat} {ps : List Pkt} (h : ∀ (i : Nat) (x : Pkt), ps[i]? = some x → isPk l fr to id s i x) : ∀ k, k ≤ ps.length → cat ps k = l.take (k * s)
  | 0, _ => by rw [cat_zero, Nat.zero_mul, List.take_zero]
  | k + 1, hk => by
    obtain ⟨x, hx⟩ := get_ex (l := ps) (k := k) (by omega)
    obtain ⟨A, c, e⟩ := h k x hx
    have h2 : pdat x = piece l s k := by rw [e]; rfl
    rw [← cat_succ hx, cat_split h k (by omega), h2, take_piece]
theorem cat_all {l : List UInt8} {fr to id : Int} {s : Nat} {ps : List Pkt} (hs : 1 ≤ s) (hn : ps.length = nP l s) (h : ∀ (i : Nat) (x : Pkt), ps[i]? = some x → isPk l fr to id s i x) : cat ps ps.length = l := by
  rw [cat_split h _ (Nat.le_refl _), hn, List.take_of_length_le (nP_up hs)]
/-- What Join asks of a packet at its place. -/
def fits (ps : List Pkt) (p0 x : Pkt) (k : Nat) : Prop := (1 ≤ x.2.2.2.2.1 ∧ x.2.2.2.2.1 ≤ 256 ∧ 0 ≤ x.2.2.2.1 ∧ x.2.2.2.1 < x.2.2.2.2.1 ∧ (pdat x).length ≤ 32768) ∧ x.2.2.2.1 = ((k : Nat) : Int) ∧ x.2.2.2.2.1 = ((ps.length : Nat) : Int) ∧ x.2.2.1 = p0.2.2.1 ∧ x.1 = p0.1 ∧ x.2.1 = p0.2.1
theorem fits_split {l : List UInt8} {fr to id : Int} {s : Nat} {ps : List Pkt} (hs : s ≤ 32768) (hn : ps.length = nP l s) (h256 : nP l s ≤ 256) (h : ∀ (i : Nat) (x : Pkt), ps[i]? = some x → isPk l fr to id s i x) : ∀ (i : Nat) (x p0 : Pkt), ps[i]? = some x → ps[0]? = some p0 → fits ps p0 x i := fun i x p0 hx h0 => by
  obtain ⟨A, c, e⟩ := h i x hx
  obtain ⟨A0, c0, e0⟩ := h 0 p0 h0
  have hi := (List.getElem?_eq_some_iff.1 hx).1
  have := piece_le l s i
  have := nP_pos l s
  subst e; subst e0
  refine ⟨⟨?_, ?_, ?_, ?_, ?_⟩, rfl, ?_, rfl, rfl, rfl⟩
  · simp only; omega
  · simp only; omega
  · simp only; omega
  · simp only; omega
  · show (piece l s i).length ≤ 32768; omega
  · simp only [hn]

theorem may9 {w0 w : World} {F : List Chunk} (hS : St w0 w F) (x0 x1 x2 x3 x4 : Int) (A : Option Addr) (c : Nat) (bs : List UInt8) :
    Ret Tryd.prog 9 #[.agg #[.int .i64 x0, .int .i64 x1, .int .u64 x2, .int .i64 x3, .int .i64 x4, .slice A bs.length c]] w (fun v w' => v = .bool (decide (1 ≤ x4 ∧ x4 ≤ 256 ∧ 0 ≤ x3 ∧ x3 < x4 ∧ bs.length ≤ 32768)) ∧ St w0 w' F) := by
  refine enter (vs := [.agg #[.int .i64 x0, .int .i64 x1, .int .u64 x2, .int .i64 x3, .int .i64 x4, .slice A bs.length c]]) 29 Tryd.func9 rfl rfl (by simp) ?_; intro a hA
  refine wp_seq ?_
  refine wp_region_lit ?_
  refine st_box hA hS [.int .i64 x0, .int .i64 x1, .int .u64 x2, .int .i64 x3, .int .i64 x4, .slice A bs.length c] rfl rfl rfl rfl rfl (by decide) ?_; clear hA hS; intro b1 w2 a hS hA
  refine st_run tbOk 1 hA (e' := (2, .bool false) :: _) rfl ?_; clear hA; intro a hA
  refine wpList_nil ?_
  replace hA := hA.sel [1] (e' := [(1, .pointer (some ⟨b1, 0, none⟩))]) rfl
  refine xt_norm ?_
  refine wp_seq ?_
  refine wp_region_lit ?_
  refine st_run tbOk 1 hA (e' := (3, .pointer (some ⟨b1, 4, none⟩)) :: _) rfl ?_; clear hA; intro a hA
  refine st_val hA rfl rfl (by decide) (rn_load tbOk hA rfl rfl rfl rfl (cell_row (hS.heapAt 0 rfl) rfl)) ?_; clear hA; intro a hA
  refine st_run tbOk 2 hA (e' := (6, .bool (decide (x4 ≥ 1))) :: (5, .bool (decide (x4 ≥ 1))) :: _) rfl ?_; clear hA; intro a hA
  by_cases hc3 : x4 ≥ 1
  · first
    | (exfalso; omega)
    | (replace hA := hA.rw 5 (v' := .bool true) rfl (vb_true hc3)
       replace hA := hA.rw 6 (v' := .bool true) rfl (vb_true hc3)
       refine st_run tbOk 1 hA (e' := (7, .pointer (some ⟨b1, 4, none⟩)) :: _) rfl ?_; clear hA; intro a hA
       refine st_val hA rfl rfl (by decide) (rn_load tbOk hA rfl rfl rfl rfl (cell_row (hS.heapAt 0 rfl) rfl)) ?_; clear hA; intro a hA
       refine st_run tbOk 3 hA (e' := (11, .bool (decide (x4 ≤ 256))) :: (10, .bool (decide (x4 ≤ 256))) :: (9, .bool (decide (x4 ≤ 256))) :: _) rfl ?_; clear hA; intro a hA
       by_cases hc4 : x4 ≤ 256
       · first
         | (exfalso; omega)
         | (replace hA := hA.rw 9 (v' := .bool true) rfl (vb_true hc4)
            replace hA := hA.rw 10 (v' := .bool true) rfl (vb_true hc4)
            replace hA := hA.rw 11 (v' := .bool true) rfl (vb_true hc4)
            refine st_run tbOk 1 hA (e' := (12, .pointer (some ⟨b1, 3, none⟩)) :: _) rfl ?_; clear hA; intro a hA
            refine st_val hA rfl rfl (by decide) (rn_load tbOk hA rfl rfl rfl rfl (cell_row (hS.heapAt 0 rfl) rfl)) ?_; clear hA; intro a hA
            refine st_run tbOk 3 hA (e' := (16, .bool (decide (x3 ≥ 0))) :: (15, .bool (decide (x3 ≥ 0))) :: (14, .bool (decide (x3 ≥ 0))) :: _) rfl ?_; clear hA; intro a hA
            by_cases hc5 : x3 ≥ 0
            · first
              | (exfalso; omega)
              | (replace hA := hA.rw 14 (v' := .bool true) rfl (vb_true hc5)
                 replace hA := hA.rw 15 (v' := .bool true) rfl (vb_true hc5)
                 replace hA := hA.rw 16 (v' := .bool true) rfl (vb_true hc5)
                 refine st_run tbOk 1 hA (e' := (17, .pointer (some ⟨b1, 3, none⟩)) :: _) rfl ?_; clear hA; intro a hA
                 refine st_val hA rfl rfl (by decide) (rn_load tbOk hA rfl rfl rfl rfl (cell_row (hS.heapAt 0 rfl) rfl)) ?_; clear hA; intro a hA
                 refine st_run tbOk 1 hA (e' := (19, .pointer (some ⟨b1, 4, none⟩)) :: _) rfl ?_; clear hA; intro a hA
                 refine st_val hA rfl rfl (by decide) (rn_load tbOk hA rfl rfl rfl rfl (cell_row (hS.heapAt 0 rfl) rfl)) ?_; clear hA; intro a hA
                 refine st_run tbOk 3 hA (e' := (23, .bool (decide (x3 < x4))) :: (22, .bool (decide (x3 < x4))) :: (21, .bool (decide (x3 < x4))) :: _) rfl ?_; clear hA; intro a hA
                 by_cases hc6 : x3 < x4
                 · first
                   | (exfalso; omega)
                   | (replace hA := hA.rw 21 (v' := .bool true) rfl (vb_true hc6)
                      replace hA := hA.rw 22 (v' := .bool true) rfl (vb_true hc6)
                      replace hA := hA.rw 23 (v' := .bool true) rfl (vb_true hc6)
                      refine st_run tbOk 1 hA (e' := (24, .pointer (some ⟨b1, 5, none⟩)) :: _) rfl ?_; clear hA; intro a hA
                      refine st_val hA rfl rfl (by decide) (rn_load tbOk hA rfl rfl rfl rfl (cell_row (hS.heapAt 0 rfl) rfl)) ?_; clear hA; intro a hA
                      refine st_run tbOk 4 hA (e' := (2, .bool (decide (((bs.length : Nat) : Int) ≤ 32768))) :: (28, .bool (decide (((bs.length : Nat) : Int) ≤ 32768))) :: (27, .bool (decide (((bs.length : Nat) : Int) ≤ 32768))) :: (26, .int .i64 ((bs.length : Nat) : Int)) :: _) rfl ?_; clear hA; intro a hA
                      refine wpList_nil ?_
                      replace hA := hA.sel [2] (e' := [(2, .bool (decide (((bs.length : Nat) : Int) ≤ 32768)))]) rfl
                      refine xt_norm ?_
                      refine wp_ret ?_
                      refine ret1 (fn := Tryd.f9) hA rfl rfl ?_
                      replace hS := hS.drop1
                      exact ⟨congrArg Value.bool (by rw [decide_eq_decide]; omega), hS⟩)
                 · first
                   | (exfalso; omega)
                   | (replace hA := hA.rw 21 (v' := .bool false) rfl (vb_false hc6)
                      replace hA := hA.rw 22 (v' := .bool false) rfl (vb_false hc6)
                      replace hA := hA.rw 23 (v' := .bool false) rfl (vb_false hc6)
                      refine st_run tbOk 6 hA (e' := (2, .bool false) :: (28, .bool false) :: (27, undef) :: (26, undef) :: (25, undef) :: (24, undef) :: _) rfl ?_; clear hA; intro a hA
                      refine wpList_nil ?_
                      replace hA := hA.sel [2] (e' := [(2, .bool false)]) rfl
                      refine xt_norm ?_
                      refine wp_ret ?_
                      refine ret1 (fn := Tryd.f9) hA rfl rfl ?_
                      replace hS := hS.drop1
                      exact ⟨congrArg Value.bool (by rw [eq_comm, decide_eq_false]; omega), hS⟩))
            · first
              | (exfalso; omega)
              | (replace hA := hA.rw 14 (v' := .bool false) rfl (vb_false hc5)
                 replace hA := hA.rw 15 (v' := .bool false) rfl (vb_false hc5)
                 replace hA := hA.rw 16 (v' := .bool false) rfl (vb_false hc5)
                 refine st_run tbOk 13 hA (e' := (2, .bool false) :: (28, .bool false) :: (27, undef) :: (26, undef) :: (25, undef) :: (24, undef) :: (23, .bool false) :: (22, .bool false) :: (21, undef) :: (20, undef) :: (19, undef) :: (18, undef) :: (17, undef) :: _) rfl ?_; clear hA; intro a hA
                 refine wpList_nil ?_
                 replace hA := hA.sel [2] (e' := [(2, .bool false)]) rfl
                 refine xt_norm ?_
                 refine wp_ret ?_
                 refine ret1 (fn := Tryd.f9) hA rfl rfl ?_
                 replace hS := hS.drop1
                 exact ⟨congrArg Value.bool (by rw [eq_comm, decide_eq_false]; omega), hS⟩))
       · first
         | (exfalso; omega)
         | (replace hA := hA.rw 9 (v' := .bool false) rfl (vb_false hc4)
            replace hA := hA.rw 10 (v' := .bool false) rfl (vb_false hc4)
            replace hA := hA.rw 11 (v' := .bool false) rfl (vb_false hc4)
            refine st_run tbOk 18 hA (e' := (2, .bool false) :: (28, .bool false) :: (27, undef) :: (26, undef) :: (25, undef) :: (24, undef) :: (23, .bool false) :: (22, .bool false) :: (21, undef) :: (20, undef) :: (19, undef) :: (18, undef) :: (17, undef) :: (16, .bool false) :: (15, .bool false) :: (14, undef) :: (13, undef) :: (12, undef) :: _) rfl ?_; clear hA; intro a hA
            refine wpList_nil ?_
            replace hA := hA.sel [2] (e' := [(2, .bool false)]) rfl
            refine xt_norm ?_
            refine wp_ret ?_
            refine ret1 (fn := Tryd.f9) hA rfl rfl ?_
            replace hS := hS.drop1
            exact ⟨congrArg Value.bool (by rw [eq_comm, decide_eq_false]; omega), hS⟩))
  · first
    | (exfalso; omega)
    | (replace hA := hA.rw 5 (v' := .bool false) rfl (vb_false hc3)
       replace hA := hA.rw 6 (v' := .bool false) rfl (vb_false hc3)
       refine st_run tbOk 23 hA (e' := (2, .bool false) :: (28, .bool false) :: (27, undef) :: (26, undef) :: (25, undef) :: (24, undef) :: (23, .bool false) :: (22, .bool false) :: (21, undef) :: (20, undef) :: (19, undef) :: (18, undef) :: (17, undef) :: (16, .bool false) :: (15, .bool false) :: (14, undef) :: (13, undef) :: (12, undef) :: (11, .bool false) :: (10, .bool false) :: (9, undef) :: (8, undef) :: (7, undef) :: _) rfl ?_; clear hA; intro a hA
       refine wpList_nil ?_
       replace hA := hA.sel [2] (e' := [(2, .bool false)]) rfl
       refine xt_norm ?_
       refine wp_ret ?_
       refine ret1 (fn := Tryd.f9) hA rfl rfl ?_
       replace hS := hS.drop1
       exact ⟨congrArg Value.bool (by rw [eq_comm, decide_eq_false]; omega), hS⟩)

theorem split_arg6 {w0 w : World} {F : List Chunk} (hS : St w0 w F) {v : Value} {l : List UInt8} (hr : RdS w0 F 1 v l.length (rows encB l)) (fr to id : Int) (s : Int) (h1 : s < 1 ∨ 32768 < s) :
    Ret Tryd.prog 6 #[v, .int .i64 fr, .int .i64 to, .int .u64 id, .int .i64 s] w (fun v w' => v = .tuple #[.slice none 0 0, .iface 30 (.int .i64 4)] ∧ St w0 w' F) := by
  obtain ⟨A, c, rfl, hmc, hcx⟩ := (hr w hS).open'
  refine enter (vs := [.slice A l.length c, .int .i64 fr, .int .i64 to, .int .u64 id, .int .i64 s]) 69 Tryd.func6 rfl rfl (by simp) ?_; intro a hA
  refine wp_seq ?_
  refine wp_region_lit ?_
  refine st_run tbOk 2 hA (e' := (11, .nilIface) :: (10, .slice none 0 0) :: _) rfl ?_; clear hA; intro a hA
  refine wpList_nil ?_
  replace hA := hA.sel [0, 1, 2, 3, 4] (e' := [(0, .slice A l.length c), (1, .int .i64 fr), (2, .int .i64 to), (3, .int .u64 id), (4, .int .i64 s)]) rfl
  refine xt_norm ?_
  refine wp_seq ?_
  refine wp_seq ?_
  refine wp_region_lit ?_
  refine st_run tbOk 3 hA (e' := (18, .bool (decide (s < 1))) :: (17, .bool (decide (s < 1))) :: (16, .int .i64 s) :: _) rfl ?_; clear hA; intro a hA
  by_cases hc1 : s < 1
  · first
    | (exfalso; omega)
    | (replace hA := hA.rw 17 (v' := .bool true) rfl (vb_true hc1)
       replace hA := hA.rw 18 (v' := .bool true) rfl (vb_true hc1)
       refine st_run tbOk 3 hA (e' := (21, .bool true) :: (20, undef) :: (19, undef) :: _) rfl ?_; clear hA; intro a hA
       refine wpList_nil ?_
       replace hA := hA.sel [0, 1, 2, 3, 4, 21] (e' := [(0, .slice A l.length c), (1, .int .i64 fr), (2, .int .i64 to), (3, .int .u64 id), (4, .int .i64 s), (21, .bool true)]) rfl
       refine xt_norm ?_
       refine cd_cond_t hA rfl ?_
       refine wp_seq ?_
       refine wp_region_lit ?_
       refine st_run tbOk 3 hA (e' := (11, .iface 30 (.int .i64 4)) :: (10, .slice none 0 0) :: (22, .iface 30 (.int .i64 4)) :: _) rfl ?_; clear hA; intro a hA
       refine wpList_nil ?_
       replace hA := hA.sel [10, 11] (e' := [(10, .slice none 0 0), (11, .iface 30 (.int .i64 4))]) rfl
       refine xt_norm ?_
       refine wp_ret (xt_ret ?_)
       refine ret2 (fn := Tryd.f6) hA rfl rfl rfl ?_
       exact ⟨rfl, hS⟩)
  · first
    | (exfalso; omega)
    | (replace hA := hA.rw 17 (v' := .bool false) rfl (vb_false hc1)
       replace hA := hA.rw 18 (v' := .bool false) rfl (vb_false hc1)
       refine st_run tbOk 3 hA (e' := (21, .bool (decide (s > 32768))) :: (20, .bool (decide (s > 32768))) :: (19, .int .i64 s) :: _) rfl ?_; clear hA; intro a hA
       refine wpList_nil ?_
       replace hA := hA.sel [0, 1, 2, 3, 4, 21] (e' := [(0, .slice A l.length c), (1, .int .i64 fr), (2, .int .i64 to), (3, .int .u64 id), (4, .int .i64 s), (21, .bool (decide (s > 32768)))]) rfl
       refine xt_norm ?_
       by_cases hc2 : s > 32768
       · first
         | (exfalso; omega)
         | (replace hA := hA.rw 21 (v' := .bool true) rfl (vb_true hc2)
            refine cd_cond_t hA rfl ?_
            refine wp_seq ?_
            refine wp_region_lit ?_
            refine st_run tbOk 3 hA (e' := (11, .iface 30 (.int .i64 4)) :: (10, .slice none 0 0) :: (22, .iface 30 (.int .i64 4)) :: _) rfl ?_; clear hA; intro a hA
            refine wpList_nil ?_
            replace hA := hA.sel [10, 11] (e' := [(10, .slice none 0 0), (11, .iface 30 (.int .i64 4))]) rfl
            refine xt_norm ?_
            refine wp_ret (xt_ret ?_)
            refine ret2 (fn := Tryd.f6) hA rfl rfl rfl ?_
            exact ⟨rfl, hS⟩)
       · first
         | (exfalso; omega)
         | (replace hA := hA.rw 21 (v' := .bool false) rfl (vb_false hc2)
            refine cd_cond_f hA rfl ?_
            refine wp_skip ?_
            refine xt_norm ?_
            refine wp_seq ?_
            refine wp_region_lit ?_
            refine st_run tbOk 4 hA (e' := (26, .int .i64 (IntKind.i64.wrap (((l.length : Nat) : Int) + s))) :: (25, .int .i64 s) :: (24, .int .i64 ((l.length : Nat) : Int)) :: (23, .slice A l.length c) :: _) rfl ?_; clear hA; intro a hA
            replace hA := hA.rw 26 (v' := .int .i64 (((l.length : Nat) : Int) + s)) rfl (wr64 (by omega) (by omega) (by omega))
            refine st_run tbOk 1 hA (e' := (27, .int .i64 (IntKind.i64.wrap ((((l.length : Nat) : Int) + s) - 1))) :: _) rfl ?_; clear hA; intro a hA
            replace hA := hA.rw 27 (v' := .int .i64 ((((l.length : Nat) : Int) + s) - 1)) rfl (wr64 (by omega) (by omega) (by omega))
            replace hA := hA.rw 27 (v' := .int .i64 ((l.length + s - 1 : Nat) : Int)) rfl (vint (by omega))
            refine st_run tbOk 1 hA (e' := (28, .int .i64 s) :: _) rfl ?_; clear hA; intro a hA
            refine st_val hA rfl rfl (by decide) (rn_quo hA rfl rfl rfl (by omega)) ?_; clear hA; intro a hA
            refine st_run tbOk 1 hA (e' := (30, .int .i64 (if IntKind.i64.wrap (((l.length + s - 1 : Nat) : Int).tdiv s) > 1 then IntKind.i64.wrap (((l.length + s - 1 : Nat) : Int).tdiv s) else 1)) :: _) rfl ?_; clear hA; intro a hA
            replace hA := hA.rw 30 (v' := .int .i64 ((nP l s : Nat) : Int)) rfl (vint (by unfold nP; split <;> omega))
            refine st_run tbOk 1 hA (e' := (12, .int .i64 ((nP l s : Nat) : Int)) :: _) rfl ?_; clear hA; intro a hA
            refine wpList_nil ?_
            replace hA := hA.sel [0, 1, 2, 3, 4, 12] (e' := [(0, .slice A l.length c), (1, .int .i64 fr), (2, .int .i64 to), (3, .int .u64 id), (4, .int .i64 s), (12, .int .i64 ((nP l s : Nat) : Int))]) rfl
            refine xt_norm ?_
            refine wp_seq ?_
            refine wp_seq ?_
            refine wp_region_lit ?_
            refine st_run tbOk 2 hA (e' := (32, .bool (decide (((nP l s : Nat) : Int) > 256))) :: (31, .int .i64 ((nP l s : Nat) : Int)) :: _) rfl ?_; clear hA; intro a hA
            refine wpList_nil ?_
            replace hA := hA.sel [0, 1, 2, 3, 4, 12, 32] (e' := [(0, .slice A l.length c), (1, .int .i64 fr), (2, .int .i64 to), (3, .int .u64 id), (4, .int .i64 s), (12, .int .i64 ((nP l s : Nat) : Int)), (32, .bool (decide (((nP l s : Nat) : Int) > 256)))]) rfl
            refine xt_norm ?_
            by_cases hc3 : ((nP l s : Nat) : Int) > 256
            · first
              | (exfalso; omega)
              | (replace hA := hA.rw 32 (v' := .bool true) rfl (vb_true hc3)
                 refine cd_cond_t hA rfl ?_
                 refine wp_seq ?_
                 refine wp_region_lit ?_
                 refine st_run tbOk 3 hA (e' := (11, .iface 30 (.int .i64 13)) :: (10, .slice none 0 0) :: (33, .iface 30 (.int .i64 13)) :: _) rfl ?_; clear hA; intro a hA
                 refine wpList_nil ?_
                 replace hA := hA.sel [10, 11] (e' := [(10, .slice none 0 0), (11, .iface 30 (.int .i64 13))]) rfl
                 refine xt_norm ?_
                 refine wp_ret (xt_ret ?_)
                 refine ret2 (fn := Tryd.f6) hA rfl rfl rfl ?_
                 exact ⟨rfl, hS⟩)
            · first
              | (exfalso; omega)
              | (replace hA := hA.rw 32 (v' := .bool false) rfl (vb_false hc3)
                 refine cd_cond_f hA rfl ?_
                 refine wp_skip ?_
                 refine xt_norm ?_
                 refine wp_seq ?_
                 refine wp_region_lit ?_
                 refine st_run tbOk 1 hA (e' := (34, .int .i64 ((nP l s : Nat) : Int)) :: _) rfl ?_; clear hA; intro a hA
                 refine st_makeSlice tbOk hA hS (nP l s) encPacket_ok (by decide) (0, 0, 0, 0, 0, none, 0, ([] : List UInt8)) rfl rfl rfl rfl rfl rfl rfl rfl (by show 64 * (nP l s) ≤ 281474976710656; omega) (by omega) rfl rfl (by decide) ?_; clear hA hS; intro b4 w5 a hS hA
                 obtain ⟨C6, hO6, hS⟩ : ∃ C, Own 33 6 (.slice (some ⟨b4, 0, none⟩) (nP l s) (nP l s)) (nP l s) (rows encPacket (List.replicate (nP l s) (0, 0, 0, 0, 0, none, 0, ([] : List UInt8)))) C ∧ St w0 w5 (C :: F) := ⟨_, Own.full (by rw [rows_length encPacket_ok, List.length_replicate]) (by show (nP l s) ≤ 9223372036854775807; omega), hS⟩
                 generalize (some (⟨b4, 0, none⟩ : Addr)) = A7 at hO6 hA
                 refine st_run tbOk 1 hA (e' := (13, .slice A7 (nP l s) (nP l s)) :: _) rfl ?_; clear hA; intro a hA
                 refine wpList_nil ?_
                 replace hA := hA.sel [0, 1, 2, 3, 4, 12, 13] (e' := [(0, .slice A l.length c), (1, .int .i64 fr), (2, .int .i64 to), (3, .int .u64 id), (4, .int .i64 s), (12, .int .i64 ((nP l s : Nat) : Int)), (13, .slice A7 (nP l s) (nP l s))]) rfl
                 refine xt_norm ?_
                 refine wp_seq ?_
                 refine wp_seq ?_
                 refine wp_region_lit ?_
                 refine st_run tbOk 3 hA (e' := (38, .int .i64 0) :: (37, .int .i64 ((nP l s : Nat) : Int)) :: (36, .slice A7 (nP l s) (nP l s)) :: _) rfl ?_; clear hA; intro a hA
                 refine wpList_nil ?_
                 replace hA := hA.sel [0, 1, 2, 3, 4, 12, 13, 37, 38] (e' := [(0, .slice A l.length c), (1, .int .i64 fr), (2, .int .i64 to), (3, .int .u64 id), (4, .int .i64 s), (12, .int .i64 ((nP l s : Nat) : Int)), (13, .slice A7 (nP l s) (nP l s)), (37, .int .i64 ((nP l s : Nat) : Int)), (38, .int .i64 0)]) rfl
                 refine xt_norm ?_
                 refine wp_block ?_
                 replace hS := hS.nil
                 replace hS := hS.front 1 (C := C6) (L' := [] :: F) rfl rfl
                 have hrl : (List.replicate (nP l s) ((0, 0, 0, 0, 0, none, 0, ([] : List UInt8)) : Pkt)).length = nP l s := List.length_replicate
                 replace hA := hA.rw 13 (v' := .slice A7 ((List.replicate (nP l s) ((0, 0, 0, 0, 0, none, 0, ([] : List UInt8)) : Pkt)).length) (nP l s)) rfl (by rw [hrl])
                 have hO0 : Own 33 6 (.slice A7 (List.replicate (nP l s) ((0, 0, 0, 0, 0, none, 0, ([] : List UInt8)) : Pkt)).length (nP l s)) (List.replicate (nP l s) ((0, 0, 0, 0, 0, none, 0, ([] : List UInt8)) : Pkt)).length (rows encPacket (List.replicate (nP l s) ((0, 0, 0, 0, 0, none, 0, ([] : List UInt8)) : Pkt))) C6 := by rw [hrl]; exact hO6
                 refine wp_loop_ghost (fun m a w => ∃ (k : Nat) (ps : List Pkt) (Ap : Option Addr) (cp : Nat) (C : Chunk) (D : Chunk), m = nP l s - k ∧ Has a 69 [(0, .slice A l.length c), (1, .int .i64 fr), (2, .int .i64 to), (3, .int .u64 id), (4, .int .i64 s), (12, .int .i64 ((nP l s : Nat) : Int)), (13, .slice Ap ps.length cp), (37, .int .i64 ((nP l s : Nat) : Int)), (38, .int .i64 ((k : Nat) : Int))] ∧ St w0 w (C :: D :: F) ∧ (k ≤ nP l s) ∧ (ps.length = nP l s) ∧ (∀ (i : Nat) (x : Pkt), i < k → ps[i]? = some x → isPk l fr to id s i x) ∧ (∀ x ∈ ps, encPacket_dd w0 D x) ∧ (Own 33 6 (.slice Ap ps.length cp) ps.length (rows encPacket ps) C)) (nP l s - 0)
                   ⟨0, (List.replicate (nP l s) ((0, 0, 0, 0, 0, none, 0, ([] : List UInt8)) : Pkt)), A7, (nP l s), C6, ([]), rfl, (hA.sel [0, 1, 2, 3, 4, 12, 13, 37, 38] rfl), hS, Nat.zero_le _, hrl, (fun i x hi => absurd hi (by omega)), (fun x hx => by rw [List.eq_of_mem_replicate hx]; exact DD.nil), hO0⟩ ?_
                 clear hA hS; rintro m0 a w8 ⟨k, ps, Ap, cp, C, D, rfl, hA, hS, hk, hpl, hall, hdd, hP⟩
                 have hk1 : (k + 1) * s = k * s + s := Nat.succ_mul k s
                 refine wp_seq ?_
                 refine wp_region_lit ?_
                 refine st_run tbOk 1 hA (e' := (39, .bool (decide (((k : Nat) : Int) < ((nP l s : Nat) : Int)))) :: _) rfl ?_; clear hA; intro a hA
                 refine wpList_nil ?_
                 refine xt_norm ?_
                 refine wp_seq ?_
                 by_cases hc9 : ((k : Nat) : Int) < ((nP l s : Nat) : Int)
                 · first
                   | (exfalso; omega)
                   | (replace hA := hA.rw 39 (v' := .bool true) rfl (vb_true hc9)
                      refine cd_cond_t hA rfl ?_
                      refine wp_skip ?_
                      refine xt_norm ?_
                      refine wp_seq ?_
                      refine wp_block ?_
                      refine wp_seq ?_
                      refine wp_region_lit ?_
                      refine st_run tbOk 2 hA (e' := (14, .int .i64 ((k : Nat) : Int)) :: (40, .int .i64 ((k : Nat) : Int)) :: _) rfl ?_; clear hA; intro a hA
                      refine wpList_nil ?_
                      replace hA := hA.sel [0, 1, 2, 3, 4, 12, 13, 14, 37, 38] (e' := [(0, .slice A l.length c), (1, .int .i64 fr), (2, .int .i64 to), (3, .int .u64 id), (4, .int .i64 s), (12, .int .i64 ((nP l s : Nat) : Int)), (13, .slice Ap ps.length cp), (14, .int .i64 ((k : Nat) : Int)), (37, .int .i64 ((nP l s : Nat) : Int)), (38, .int .i64 ((k : Nat) : Int))]) rfl
                      refine xt_norm ?_
                      refine wp_seq ?_
                      refine wp_region_lit ?_
                      have hks : k * s ≤ 256 * 32768 := Nat.mul_le_mul (by omega) (by omega)
                      refine st_run tbOk 4 hA (e' := (44, .int .i64 (IntKind.i64.wrap (((k : Nat) : Int) * s))) :: (43, .int .i64 s) :: (42, .int .i64 ((k : Nat) : Int)) :: (41, .slice A l.length c) :: _) rfl ?_; clear hA; intro a hA
                      replace hA := hA.rw 44 (v' := .int .i64 (((k : Nat) : Int) * s)) rfl (wr64 (by omega) (by omega) (by omega))
                      refine st_run tbOk 3 hA (e' := (47, .int .i64 (if ((l.length : Nat) : Int) < ((k : Nat) : Int) * s then ((l.length : Nat) : Int) else ((k : Nat) : Int) * s)) :: (46, .int .i64 ((l.length : Nat) : Int)) :: (45, .slice A l.length c) :: _) rfl ?_; clear hA; intro a hA
                      replace hA := hA.rw 47 (v' := .int .i64 ((min (k * s) l.length : Nat) : Int)) rfl (vint (by split <;> omega))
                      refine st_run tbOk 2 hA (e' := (49, .int .i64 (IntKind.i64.wrap (((k : Nat) : Int) + 1))) :: (48, .int .i64 ((k : Nat) : Int)) :: _) rfl ?_; clear hA; intro a hA
                      replace hA := hA.rw 49 (v' := .int .i64 ((k + 1 : Nat) : Int)) rfl (wr64 (by omega) (by omega) (by omega))
                      refine st_run tbOk 2 hA (e' := (51, .int .i64 (IntKind.i64.wrap (((k + 1 : Nat) : Int) * s))) :: (50, .int .i64 s) :: _) rfl ?_; clear hA; intro a hA
                      replace hA := hA.rw 51 (v' := .int .i64 (((k + 1 : Nat) : Int) * s)) rfl (wr64 (by omega) (by omega) (by omega))
                      refine st_run tbOk 3 hA (e' := (54, .int .i64 (if ((l.length : Nat) : Int) < ((k + 1 : Nat) : Int) * s then ((l.length : Nat) : Int) else ((k + 1 : Nat) : Int) * s)) :: (53, .int .i64 ((l.length : Nat) : Int)) :: (52, .slice A l.length c) :: _) rfl ?_; clear hA; intro a hA
                      replace hA := hA.rw 54 (v' := .int .i64 ((min ((k + 1) * s) l.length : Nat) : Int)) rfl (vint (by split <;> omega))
                      refine st_val hA rfl rfl (by decide) (rn_slice_lh tbOk hA (min (k * s) l.length) (min ((k + 1) * s) l.length) rfl rfl rfl rfl rfl rfl rfl (by rfl) (by rfl) (by omega) (by omega)) ?_; clear hA; intro a hA
                      refine st_run tbOk 1 hA (e' := (15, slv A (min (k * s) l.length) (min ((k + 1) * s) l.length) c 1) :: _) rfl ?_; clear hA; intro a hA
                      refine wpList_nil ?_
                      replace hA := hA.sel [0, 1, 2, 3, 4, 12, 13, 14, 15, 37, 38] (e' := [(0, .slice A l.length c), (1, .int .i64 fr), (2, .int .i64 to), (3, .int .u64 id), (4, .int .i64 s), (12, .int .i64 ((nP l s : Nat) : Int)), (13, .slice Ap ps.length cp), (14, .int .i64 ((k : Nat) : Int)), (15, slv A (min (k * s) l.length) (min ((k + 1) * s) l.length) c 1), (37, .int .i64 ((nP l s : Nat) : Int)), (38, .int .i64 ((k : Nat) : Int))]) rfl
                      refine xt_norm ?_
                      refine wp_region_lit ?_
                      refine st_run tbOk 8 hA (e' := (63, slv A (min (k * s) l.length) (min ((k + 1) * s) l.length) c 1) :: (62, .int .i64 ((nP l s : Nat) : Int)) :: (61, .int .i64 ((k : Nat) : Int)) :: (60, .int .u64 id) :: (59, .int .i64 to) :: (58, .int .i64 fr) :: (57, .int .i64 ((k : Nat) : Int)) :: (56, .slice Ap ps.length cp) :: _) rfl ?_; clear hA; intro a hA
                      replace hS := hS.nil
                      refine st_append tbOk hA (m := 0) (q := ((l.take (min ((k + 1) * s) l.length)).drop (min (k * s) l.length)).length) (xs := rows encB ([] : List UInt8)) (news := rows encB ((l.take (min ((k + 1) * s) l.length)).drop (min (k * s) l.length))) rfl rfl rfl rfl rfl rfl rfl rfl (by decide) (Own.nil 5 1) hS ((hr _ (hS.tail 3 rfl)).rslv encB_ok (min (k * s) l.length) (min ((k + 1) * s) l.length) c (by omega) (by omega) (by omega) (by omega)) (rows_one encB_ok _) (maxLen_le (by first | omega | (have h9 := piece_le l s k; rw [piece] at h9; omega))) (by show (0 + ((l.take (min ((k + 1) * s) l.length)).drop (min (k * s) l.length)).length) * 1 ≤ 140737488355328; first | omega | (have h9 := piece_le l s k; rw [piece] at h9; omega)) rfl rfl (by decide) ?_
                      clear hA hS; intro v10 w11 C12 a hO12 hS hA
                      replace hO12 := Own.app (l := ([] : List UInt8)) (l2 := (l.take (min ((k + 1) * s) l.length)).drop (min (k * s) l.length)) hO12
                      replace hO12 : Own 5 1 v10 ((l.take (min ((k + 1) * s) l.length)).drop (min (k * s) l.length)).length (rows encB ((l.take (min ((k + 1) * s) l.length)).drop (min (k * s) l.length))) C12 := hO12
                      obtain ⟨A13, c14, rfl, hmc14, hxc14⟩ := hO12.open'
                      have hl : (l.take (min ((k + 1) * s) l.length)).drop (min (k * s) l.length) = piece l s k := rfl
                      rw [hl] at hO12; rw [hl] at hA
                      refine st_val hA rfl rfl (by decide) (rn_build tbOk hA rfl rfl rfl rfl rfl rfl rfl) ?_; clear hA; intro a hA
                      obtain ⟨b15, o16, rfl⟩ := hP.isSome (k := k) (by omega)
                      refine st_val hA rfl rfl (by decide) (rn_indexAddr tbOk hA k (o16 + (k * 6)) rfl rfl rfl rfl rfl rfl (by rfl) (by omega) (by first | rfl | simp [Nat.mul_one, Nat.zero_add] | omega)) ?_; clear hA; intro a hA
                      obtain ⟨px, hpx⟩ := get_ex (l := ps) (k := k) (by omega)
                      replace hS := hS.front 1 (C := C) (L' := C12 :: D :: F) rfl rfl
                      refine st_store_own tbOk hA hP hS ((k * 6)) (o16 + (k * 6)) [.int .i64 fr, .int .i64 to, .int .u64 id, .int .i64 ((k : Nat) : Int), .int .i64 ((nP l s : Nat) : Int), .slice A13 ((piece l s k).length) c14] (rows encPacket (ps.set k (fr, to, id, ((k : Nat) : Int), ((nP l s : Nat) : Int), A13, c14, (piece l s k)))) rfl rfl rfl rfl (by rfl) rfl rfl (by exact encPacket_ok.one (fr, to, id, ((k : Nat) : Int), ((nP l s : Nat) : Int), A13, c14, (piece l s k))) (by simp only [rows_length encPacket_ok]; simp; omega) (rows_setf encPacket_ok (fr, to, id, ((k : Nat) : Int), ((nP l s : Nat) : Int), A13, c14, (piece l s k)) (show ps[k]? = some _ from hpx) 0 [.int .i64 fr, .int .i64 to, .int .u64 id, .int .i64 ((k : Nat) : Int), .int .i64 ((nP l s : Nat) : Int), .slice A13 ((piece l s k).length) c14] (Nat.le_of_ble_eq_true rfl) rfl) rfl rfl ?_; clear hS; intro w17 C18 hO18 hS
                      refine wpList_nil ?_
                      replace hA := hA.sel [0, 1, 2, 3, 4, 12, 13, 37, 38] (e' := [(0, .slice A l.length c), (1, .int .i64 fr), (2, .int .i64 to), (3, .int .u64 id), (4, .int .i64 s), (12, .int .i64 ((nP l s : Nat) : Int)), (13, .slice (some ⟨b15, o16, none⟩) ps.length cp), (37, .int .i64 ((nP l s : Nat) : Int)), (38, .int .i64 ((k : Nat) : Int))]) rfl
                      refine xb_norm ?_
                      refine xt_norm ?_
                      refine wp_region_lit ?_
                      refine st_run tbOk 1 hA (e' := (67, .int .i64 (IntKind.i64.wrap (((k : Nat) : Int) + 1))) :: _) rfl ?_; clear hA; intro a hA
                      replace hA := hA.rw 67 (v' := .int .i64 ((k + 1 : Nat) : Int)) rfl (wr64 (by omega) (by omega) (by omega))
                      refine st_run tbOk 1 hA (e' := (38, .int .i64 ((k + 1 : Nat) : Int)) :: _) rfl ?_; clear hA; intro a hA
                      refine wpList_nil ?_
                      replace hA := hA.sel [0, 1, 2, 3, 4, 12, 13, 37, 38] (e' := [(0, .slice A l.length c), (1, .int .i64 fr), (2, .int .i64 to), (3, .int .u64 id), (4, .int .i64 s), (12, .int .i64 ((nP l s : Nat) : Int)), (13, .slice (some ⟨b15, o16, none⟩) ps.length cp), (37, .int .i64 ((nP l s : Nat) : Int)), (38, .int .i64 ((k + 1 : Nat) : Int))]) rfl
                      replace hS := hS.front 2 (C := D) (L' := C18 :: C12 :: F) rfl rfl
                      replace hS := hS.front 2 (C := C12) (L' := D :: C18 :: F) rfl rfl
                      replace hS := hS.join
                      replace hS := hS.front 1 (C := C18) (L' := (C12 ++ D) :: F) rfl rfl
                      have hdn := (DD.new (w0 := w0) hO12).right (E := D)
                      have hkp : k < ps.length := by omega
                      replace hA := hA.rw 13 (v' := .slice (some ⟨b15, o16, none⟩) ((ps.set k (fr, to, id, ((k : Nat) : Int), ((nP l s : Nat) : Int), A13, c14, (piece l s k))).length) cp) rfl (by rw [List.length_set])
                      exact lp_next _ (by omega) ⟨(k + 1), (ps.set k (fr, to, id, ((k : Nat) : Int), ((nP l s : Nat) : Int), A13, c14, (piece l s k))), (some ⟨b15, o16, none⟩), cp, C18, (C12 ++ D), rfl, (hA.sel [0, 1, 2, 3, 4, 12, 13, 37, 38] rfl), hS, by omega, (by rw [List.length_set]; omega), (fun i x hi hx => by
                            by_cases hik : i = k
                            · subst hik
                              rw [List.getElem?_set_self hkp] at hx
                              injection hx with hx
                              subst hx
                              exact ⟨_, _, rfl⟩
                            · rw [List.getElem?_set_ne (Ne.symm hik)] at hx
                              exact hall i x (by omega) hx), (fun x hx => by
                            rcases List.mem_or_eq_of_mem_set hx with hx | rfl
                            · exact encPacket_left (hdd x hx)
                            · exact hdn), (by rw [List.length_set]; exact hO18)⟩)
                 · first
                   | (exfalso; omega)
                   | (replace hA := hA.rw 39 (v' := .bool false) rfl (vb_false hc9)
                      refine cd_cond_f hA rfl ?_
                      refine wp_exit ?_
                      refine xt_exit ?_
                      refine xt_exit ?_
                      refine cd_exit_eq ?_
                      refine xt_norm ?_
                      refine wp_seq ?_
                      refine wp_region_lit ?_
                      refine st_run tbOk 3 hA (e' := (11, .nilIface) :: (10, .slice Ap ps.length cp) :: (68, .slice Ap ps.length cp) :: _) rfl ?_; clear hA; intro a hA
                      refine wpList_nil ?_
                      replace hA := hA.sel [10, 11] (e' := [(10, .slice Ap ps.length cp), (11, .nilIface)]) rfl
                      refine xt_norm ?_
                      refine wp_ret ?_
                      refine ret2 (fn := Tryd.f6) hA rfl rfl rfl ?_
                      replace hS := hS.drop1
                      replace hS := hS.drop1
                      exact ⟨rfl, hS⟩))))

theorem split_many6 {w0 w : World} {F : List Chunk} (hS : St w0 w F) {v : Value} {l : List UInt8} (hr : RdS w0 F 1 v l.length (rows encB l)) (fr to id : Int) (s : Nat) (h1 : 1 ≤ s) (h2 : s ≤ 32768) (h3 : 256 < nP l s) (hlb : l.length ≤ 281474976710656) :
    Ret Tryd.prog 6 #[v, .int .i64 fr, .int .i64 to, .int .u64 id, .int .i64 ((s : Nat) : Int)] w (fun v w' => v = .tuple #[.slice none 0 0, .iface 30 (.int .i64 13)] ∧ St w0 w' F) := by
  obtain ⟨A, c, rfl, hmc, hcx⟩ := (hr w hS).open'
  refine enter (vs := [.slice A l.length c, .int .i64 fr, .int .i64 to, .int .u64 id, .int .i64 ((s : Nat) : Int)]) 69 Tryd.func6 rfl rfl (by simp) ?_; intro a hA
  refine wp_seq ?_
  refine wp_region_lit ?_
  refine st_run tbOk 2 hA (e' := (11, .nilIface) :: (10, .slice none 0 0) :: _) rfl ?_; clear hA; intro a hA
  refine wpList_nil ?_
  replace hA := hA.sel [0, 1, 2, 3, 4] (e' := [(0, .slice A l.length c), (1, .int .i64 fr), (2, .int .i64 to), (3, .int .u64 id), (4, .int .i64 ((s : Nat) : Int))]) rfl
  refine xt_norm ?_
  refine wp_seq ?_
  refine wp_seq ?_
  refine wp_region_lit ?_
  refine st_run tbOk 3 hA (e' := (18, .bool (decide (((s : Nat) : Int) < 1))) :: (17, .bool (decide (((s : Nat) : Int) < 1))) :: (16, .int .i64 ((s : Nat) : Int)) :: _) rfl ?_; clear hA; intro a hA
  have hc1 : ¬ (((s : Nat) : Int) < 1) := by omega
  replace hA := hA.rw 17 (v' := .bool false) rfl (vb_false hc1)
  replace hA := hA.rw 18 (v' := .bool false) rfl (vb_false hc1)
  refine st_run tbOk 3 hA (e' := (21, .bool (decide (((s : Nat) : Int) > 32768))) :: (20, .bool (decide (((s : Nat) : Int) > 32768))) :: (19, .int .i64 ((s : Nat) : Int)) :: _) rfl ?_; clear hA; intro a hA
  refine wpList_nil ?_
  replace hA := hA.sel [0, 1, 2, 3, 4, 21] (e' := [(0, .slice A l.length c), (1, .int .i64 fr), (2, .int .i64 to), (3, .int .u64 id), (4, .int .i64 ((s : Nat) : Int)), (21, .bool (decide (((s : Nat) : Int) > 32768)))]) rfl
  refine xt_norm ?_
  have hc2 : ¬ (((s : Nat) : Int) > 32768) := by omega
  replace hA := hA.rw 21 (v' := .bool false) rfl (vb_false hc2)
  refine cd_cond_f hA rfl ?_
  refine wp_skip ?_
  refine xt_norm ?_
  refine wp_seq ?_
  refine wp_region_lit ?_
  refine st_run tbOk 4 hA (e' := (26, .int .i64 (IntKind.i64.wrap (((l.length : Nat) : Int) + ((s : Nat) : Int)))) :: (25, .int .i64 ((s : Nat) : Int)) :: (24, .int .i64 ((l.length : Nat) : Int)) :: (23, .slice A l.length c) :: _) rfl ?_; clear hA; intro a hA
  replace hA := hA.rw 26 (v' := .int .i64 ((l.length + s : Nat) : Int)) rfl (wr64 (by omega) (by omega) (by omega))
  refine st_run tbOk 1 hA (e' := (27, .int .i64 (IntKind.i64.wrap (((l.length + s : Nat) : Int) - 1))) :: _) rfl ?_; clear hA; intro a hA
  replace hA := hA.rw 27 (v' := .int .i64 (((l.length + s : Nat) : Int) - 1)) rfl (wr64 (by omega) (by omega) (by omega))
  replace hA := hA.rw 27 (v' := .int .i64 ((l.length + s - 1 : Nat) : Int)) rfl (vint (by omega))
  refine st_run tbOk 1 hA (e' := (28, .int .i64 ((s : Nat) : Int)) :: _) rfl ?_; clear hA; intro a hA
  refine st_val hA rfl rfl (by decide) (rn_quo hA rfl rfl rfl (by omega)) ?_; clear hA; intro a hA
  have hdv3 := Nat.div_le_self (l.length + s - 1) s
  replace hA := hA.rw 29 (v' := .int .i64 (((l.length + s - 1) / s : Nat) : Int)) rfl (wr64 (Int.ofNat_tdiv _ _).symm (Int.le_trans (show (-9223372036854775808 : Int) ≤ 0 by decide) (Int.natCast_nonneg _)) (by omega))
  refine st_run tbOk 1 hA (e' := (30, .int .i64 (if (((l.length + s - 1) / s : Nat) : Int) > 1 then (((l.length + s - 1) / s : Nat) : Int) else 1)) :: _) rfl ?_; clear hA; intro a hA
  replace hA := hA.rw 30 (v' := .int .i64 ((nP l s : Nat) : Int)) rfl (vint (by unfold nP; split <;> omega))
  refine st_run tbOk 1 hA (e' := (12, .int .i64 ((nP l s : Nat) : Int)) :: _) rfl ?_; clear hA; intro a hA
  refine wpList_nil ?_
  replace hA := hA.sel [0, 1, 2, 3, 4, 12] (e' := [(0, .slice A l.length c), (1, .int .i64 fr), (2, .int .i64 to), (3, .int .u64 id), (4, .int .i64 ((s : Nat) : Int)), (12, .int .i64 ((nP l s : Nat) : Int))]) rfl
  refine xt_norm ?_
  refine wp_seq ?_
  refine wp_seq ?_
  refine wp_region_lit ?_
  refine st_run tbOk 2 hA (e' := (32, .bool (decide (((nP l s : Nat) : Int) > 256))) :: (31, .int .i64 ((nP l s : Nat) : Int)) :: _) rfl ?_; clear hA; intro a hA
  refine wpList_nil ?_
  replace hA := hA.sel [0, 1, 2, 3, 4, 12, 32] (e' := [(0, .slice A l.length c), (1, .int .i64 fr), (2, .int .i64 to), (3, .int .u64 id), (4, .int .i64 ((s : Nat) : Int)), (12, .int .i64 ((nP l s : Nat) : Int)), (32, .bool (decide (((nP l s : Nat) : Int) > 256)))]) rfl
  refine xt_norm ?_
  have hc4 : ((nP l s : Nat) : Int) > 256 := by omega
  replace hA := hA.rw 32 (v' := .bool true) rfl (vb_true hc4)
  refine cd_cond_t hA rfl ?_
  refine wp_seq ?_
  refine wp_region_lit ?_
  refine st_run tbOk 3 hA (e' := (11, .iface 30 (.int .i64 13)) :: (10, .slice none 0 0) :: (33, .iface 30 (.int .i64 13)) :: _) rfl ?_; clear hA; intro a hA
  refine wpList_nil ?_
  replace hA := hA.sel [10, 11] (e' := [(10, .slice none 0 0), (11, .iface 30 (.int .i64 13))]) rfl
  refine xt_norm ?_
  refine wp_ret (xt_ret ?_)
  refine ret2 (fn := Tryd.f6) hA rfl rfl rfl ?_
  exact ⟨rfl, hS⟩

theorem split_ok6 {w0 w : World} {F : List Chunk} (hS : St w0 w F) {v : Value} {l : List UInt8} (hr : RdS w0 F 1 v l.length (rows encB l)) (fr to id : Int) (s : Nat) (h1 : 1 ≤ s) (h2 : s ≤ 32768) (h3 : nP l s ≤ 256) (hlb : l.length ≤ 281474976710656) :
    Ret Tryd.prog 6 #[v, .int .i64 fr, .int .i64 to, .int .u64 id, .int .i64 ((s : Nat) : Int)] w (fun v w' => ∃ v1 ps C D, Own 33 6 v1 ps.length (rows encPacket ps) C ∧ ps.length = nP l s ∧ (∀ (i : Nat) (x : Pkt), ps[i]? = some x → isPk l fr to id s i x) ∧ (∀ x ∈ ps, encPacket_dd w0 D x) ∧ v = .tuple #[v1, .nilIface] ∧ St w0 w' (C :: D :: F)) := by
  obtain ⟨A, c, rfl, hmc, hcx⟩ := (hr w hS).open'
  refine enter (vs := [.slice A l.length c, .int .i64 fr, .int .i64 to, .int .u64 id, .int .i64 ((s : Nat) : Int)]) 69 Tryd.func6 rfl rfl (by simp) ?_; intro a hA
  refine wp_seq ?_
  refine wp_region_lit ?_
  refine st_run tbOk 2 hA (e' := (11, .nilIface) :: (10, .slice none 0 0) :: _) rfl ?_; clear hA; intro a hA
  refine wpList_nil ?_
  replace hA := hA.sel [0, 1, 2, 3, 4] (e' := [(0, .slice A l.length c), (1, .int .i64 fr), (2, .int .i64 to), (3, .int .u64 id), (4, .int .i64 ((s : Nat) : Int))]) rfl
  refine xt_norm ?_
  refine wp_seq ?_
  refine wp_seq ?_
  refine wp_region_lit ?_
  refine st_run tbOk 3 hA (e' := (18, .bool (decide (((s : Nat) : Int) < 1))) :: (17, .bool (decide (((s : Nat) : Int) < 1))) :: (16, .int .i64 ((s : Nat) : Int)) :: _) rfl ?_; clear hA; intro a hA
  have hc1 : ¬ (((s : Nat) : Int) < 1) := by omega
  replace hA := hA.rw 17 (v' := .bool false) rfl (vb_false hc1)
  replace hA := hA.rw 18 (v' := .bool false) rfl (vb_false hc1)
  refine st_run tbOk 3 hA (e' := (21, .bool (decide (((s : Nat) : Int) > 32768))) :: (20, .bool (decide (((s : Nat) : Int) > 32768))) :: (19, .int .i64 ((s : Nat) : Int)) :: _) rfl ?_; clear hA; intro a hA
  refine wpList_nil ?_
  replace hA := hA.sel [0, 1, 2, 3, 4, 21] (e' := [(0, .slice A l.length c), (1, .int .i64 fr), (2, .int .i64 to), (3, .int .u64 id), (4, .int .i64 ((s : Nat) : Int)), (21, .bool (decide (((s : Nat) : Int) > 32768)))]) rfl
  refine xt_norm ?_
  have hc2 : ¬ (((s : Nat) : Int) > 32768) := by omega
  replace hA := hA.rw 21 (v' := .bool false) rfl (vb_false hc2)
  refine cd_cond_f hA rfl ?_
  refine wp_skip ?_
  refine xt_norm ?_
  refine wp_seq ?_
  refine wp_region_lit ?_
  refine st_run tbOk 4 hA (e' := (26, .int .i64 (IntKind.i64.wrap (((l.length : Nat) : Int) + ((s : Nat) : Int)))) :: (25, .int .i64 ((s : Nat) : Int)) :: (24, .int .i64 ((l.length : Nat) : Int)) :: (23, .slice A l.length c) :: _) rfl ?_; clear hA; intro a hA
  replace hA := hA.rw 26 (v' := .int .i64 ((l.length + s : Nat) : Int)) rfl (wr64 (by omega) (by omega) (by omega))
  refine st_run tbOk 1 hA (e' := (27, .int .i64 (IntKind.i64.wrap (((l.length + s : Nat) : Int) - 1))) :: _) rfl ?_; clear hA; intro a hA
  replace hA := hA.rw 27 (v' := .int .i64 (((l.length + s : Nat) : Int) - 1)) rfl (wr64 (by omega) (by omega) (by omega))
  replace hA := hA.rw 27 (v' := .int .i64 ((l.length + s - 1 : Nat) : Int)) rfl (vint (by omega))
  refine st_run tbOk 1 hA (e' := (28, .int .i64 ((s : Nat) : Int)) :: _) rfl ?_; clear hA; intro a hA
  refine st_val hA rfl rfl (by decide) (rn_quo hA rfl rfl rfl (by omega)) ?_; clear hA; intro a hA
  have hdv3 := Nat.div_le_self (l.length + s - 1) s
  replace hA := hA.rw 29 (v' := .int .i64 (((l.length + s - 1) / s : Nat) : Int)) rfl (wr64 (Int.ofNat_tdiv _ _).symm (Int.le_trans (show (-9223372036854775808 : Int) ≤ 0 by decide) (Int.natCast_nonneg _)) (by omega))
  refine st_run tbOk 1 hA (e' := (30, .int .i64 (if (((l.length + s - 1) / s : Nat) : Int) > 1 then (((l.length + s - 1) / s : Nat) : Int) else 1)) :: _) rfl ?_; clear hA; intro a hA
  replace hA := hA.rw 30 (v' := .int .i64 ((nP l s : Nat) : Int)) rfl (vint (by unfold nP; split <;> omega))
  refine st_run tbOk 1 hA (e' := (12, .int .i64 ((nP l s : Nat) : Int)) :: _) rfl ?_; clear hA; intro a hA
  refine wpList_nil ?_
  replace hA := hA.sel [0, 1, 2, 3, 4, 12] (e' := [(0, .slice A l.length c), (1, .int .i64 fr), (2, .int .i64 to), (3, .int .u64 id), (4, .int .i64 ((s : Nat) : Int)), (12, .int .i64 ((nP l s : Nat) : Int))]) rfl
  refine xt_norm ?_
  refine wp_seq ?_
  refine wp_seq ?_
  refine wp_region_lit ?_
  refine st_run tbOk 2 hA (e' := (32, .bool (decide (((nP l s : Nat) : Int) > 256))) :: (31, .int .i64 ((nP l s : Nat) : Int)) :: _) rfl ?_; clear hA; intro a hA
  refine wpList_nil ?_
  replace hA := hA.sel [0, 1, 2, 3, 4, 12, 32] (e' := [(0, .slice A l.length c), (1, .int .i64 fr), (2, .int .i64 to), (3, .int .u64 id), (4, .int .i64 ((s : Nat) : Int)), (12, .int .i64 ((nP l s : Nat) : Int)), (32, .bool (decide (((nP l s : Nat) : Int) > 256)))]) rfl
  refine xt_norm ?_
  have hc4 : ¬ (((nP l s : Nat) : Int) > 256) := by omega
  replace hA := hA.rw 32 (v' := .bool false) rfl (vb_false hc4)
  refine cd_cond_f hA rfl ?_
  refine wp_skip ?_
  refine xt_norm ?_
  refine wp_seq ?_
  refine wp_region_lit ?_
  refine st_run tbOk 1 hA (e' := (34, .int .i64 ((nP l s : Nat) : Int)) :: _) rfl ?_; clear hA; intro a hA
  refine st_makeSlice tbOk hA hS (nP l s) encPacket_ok (by decide) (0, 0, 0, 0, 0, none, 0, ([] : List UInt8)) rfl rfl rfl rfl rfl rfl rfl rfl (by show 64 * (nP l s) ≤ 281474976710656; omega) (by omega) rfl rfl (by decide) ?_; clear hA hS; intro b5 w6 a hS hA
  obtain ⟨C7, hO7, hS⟩ : ∃ C, Own 33 6 (.slice (some ⟨b5, 0, none⟩) (nP l s) (nP l s)) (nP l s) (rows encPacket (List.replicate (nP l s) (0, 0, 0, 0, 0, none, 0, ([] : List UInt8)))) C ∧ St w0 w6 (C :: F) := ⟨_, Own.full (by rw [rows_length encPacket_ok, List.length_replicate]) (by show (nP l s) ≤ 9223372036854775807; omega), hS⟩
  generalize (some (⟨b5, 0, none⟩ : Addr)) = A8 at hO7 hA
  refine st_run tbOk 1 hA (e' := (13, .slice A8 (nP l s) (nP l s)) :: _) rfl ?_; clear hA; intro a hA
  refine wpList_nil ?_
  replace hA := hA.sel [0, 1, 2, 3, 4, 12, 13] (e' := [(0, .slice A l.length c), (1, .int .i64 fr), (2, .int .i64 to), (3, .int .u64 id), (4, .int .i64 ((s : Nat) : Int)), (12, .int .i64 ((nP l s : Nat) : Int)), (13, .slice A8 (nP l s) (nP l s))]) rfl
  refine xt_norm ?_
  refine wp_seq ?_
  refine wp_seq ?_
  refine wp_region_lit ?_
  refine st_run tbOk 3 hA (e' := (38, .int .i64 0) :: (37, .int .i64 ((nP l s : Nat) : Int)) :: (36, .slice A8 (nP l s) (nP l s)) :: _) rfl ?_; clear hA; intro a hA
  refine wpList_nil ?_
  replace hA := hA.sel [0, 1, 2, 3, 4, 12, 13, 37, 38] (e' := [(0, .slice A l.length c), (1, .int .i64 fr), (2, .int .i64 to), (3, .int .u64 id), (4, .int .i64 ((s : Nat) : Int)), (12, .int .i64 ((nP l s : Nat) : Int)), (13, .slice A8 (nP l s) (nP l s)), (37, .int .i64 ((nP l s : Nat) : Int)), (38, .int .i64 0)]) rfl
  refine xt_norm ?_
  refine wp_block ?_
  replace hS := hS.nil
  replace hS := hS.front 1 (C := C7) (L' := [] :: F) rfl rfl
  have hrl : (List.replicate (nP l s) ((0, 0, 0, 0, 0, none, 0, ([] : List UInt8)) : Pkt)).length = nP l s := List.length_replicate
  replace hA := hA.rw 13 (v' := .slice A8 ((List.replicate (nP l s) ((0, 0, 0, 0, 0, none, 0, ([] : List UInt8)) : Pkt)).length) (nP l s)) rfl (by rw [hrl])
  have hO0 : Own 33 6 (.slice A8 (List.replicate (nP l s) ((0, 0, 0, 0, 0, none, 0, ([] : List UInt8)) : Pkt)).length (nP l s)) (List.replicate (nP l s) ((0, 0, 0, 0, 0, none, 0, ([] : List UInt8)) : Pkt)).length (rows encPacket (List.replicate (nP l s) ((0, 0, 0, 0, 0, none, 0, ([] : List UInt8)) : Pkt))) C7 := by rw [hrl]; exact hO7
  refine wp_loop_ghost (fun m a w => ∃ (k : Nat) (ps : List Pkt) (Ap : Option Addr) (cp : Nat) (C : Chunk) (D : Chunk), m = nP l s - k ∧ Has a 69 [(0, .slice A l.length c), (1, .int .i64 fr), (2, .int .i64 to), (3, .int .u64 id), (4, .int .i64 ((s : Nat) : Int)), (12, .int .i64 ((nP l s : Nat) : Int)), (13, .slice Ap ps.length cp), (37, .int .i64 ((nP l s : Nat) : Int)), (38, .int .i64 ((k : Nat) : Int))] ∧ St w0 w (C :: D :: F) ∧ (k ≤ nP l s) ∧ (ps.length = nP l s) ∧ (∀ (i : Nat) (x : Pkt), i < k → ps[i]? = some x → isPk l fr to id s i x) ∧ (∀ x ∈ ps, encPacket_dd w0 D x) ∧ (Own 33 6 (.slice Ap ps.length cp) ps.length (rows encPacket ps) C)) (nP l s - 0)
    ⟨0, (List.replicate (nP l s) ((0, 0, 0, 0, 0, none, 0, ([] : List UInt8)) : Pkt)), A8, (nP l s), C7, ([]), rfl, (hA.sel [0, 1, 2, 3, 4, 12, 13, 37, 38] rfl), hS, Nat.zero_le _, hrl, (fun i x hi => absurd hi (by omega)), (fun x hx => by rw [List.eq_of_mem_replicate hx]; exact DD.nil), hO0⟩ ?_
  clear hA hS; rintro m0 a w9 ⟨k, ps, Ap, cp, C, D, rfl, hA, hS, hk, hpl, hall, hdd, hP⟩
  have hk1 : (k + 1) * s = k * s + s := Nat.succ_mul k s
  refine wp_seq ?_
  refine wp_region_lit ?_
  refine st_run tbOk 1 hA (e' := (39, .bool (decide (((k : Nat) : Int) < ((nP l s : Nat) : Int)))) :: _) rfl ?_; clear hA; intro a hA
  refine wpList_nil ?_
  refine xt_norm ?_
  refine wp_seq ?_
  by_cases hc10 : ((k : Nat) : Int) < ((nP l s : Nat) : Int)
  · first
    | (exfalso; omega)
    | (replace hA := hA.rw 39 (v' := .bool true) rfl (vb_true hc10)
       refine cd_cond_t hA rfl ?_
       refine wp_skip ?_
       refine xt_norm ?_
       refine wp_seq ?_
       refine wp_block ?_
       refine wp_seq ?_
       refine wp_region_lit ?_
       refine st_run tbOk 2 hA (e' := (14, .int .i64 ((k : Nat) : Int)) :: (40, .int .i64 ((k : Nat) : Int)) :: _) rfl ?_; clear hA; intro a hA
       refine wpList_nil ?_
       replace hA := hA.sel [0, 1, 2, 3, 4, 12, 13, 14, 37, 38] (e' := [(0, .slice A l.length c), (1, .int .i64 fr), (2, .int .i64 to), (3, .int .u64 id), (4, .int .i64 ((s : Nat) : Int)), (12, .int .i64 ((nP l s : Nat) : Int)), (13, .slice Ap ps.length cp), (14, .int .i64 ((k : Nat) : Int)), (37, .int .i64 ((nP l s : Nat) : Int)), (38, .int .i64 ((k : Nat) : Int))]) rfl
       refine xt_norm ?_
       refine wp_seq ?_
       refine wp_region_lit ?_
       have hks : k * s ≤ 256 * 32768 := Nat.mul_le_mul (by omega) (by omega)
       refine st_run tbOk 4 hA (e' := (44, .int .i64 (IntKind.i64.wrap (((k : Nat) : Int) * ((s : Nat) : Int)))) :: (43, .int .i64 ((s : Nat) : Int)) :: (42, .int .i64 ((k : Nat) : Int)) :: (41, .slice A l.length c) :: _) rfl ?_; clear hA; intro a hA
       replace hA := hA.rw 44 (v' := .int .i64 ((k * s : Nat) : Int)) rfl (wr64 (by omega) (by omega) (by omega))
       refine st_run tbOk 3 hA (e' := (47, .int .i64 (if ((l.length : Nat) : Int) < ((k * s : Nat) : Int) then ((l.length : Nat) : Int) else ((k * s : Nat) : Int))) :: (46, .int .i64 ((l.length : Nat) : Int)) :: (45, .slice A l.length c) :: _) rfl ?_; clear hA; intro a hA
       replace hA := hA.rw 47 (v' := .int .i64 ((min (k * s) l.length : Nat) : Int)) rfl (vint (by split <;> omega))
       refine st_run tbOk 2 hA (e' := (49, .int .i64 (IntKind.i64.wrap (((k : Nat) : Int) + 1))) :: (48, .int .i64 ((k : Nat) : Int)) :: _) rfl ?_; clear hA; intro a hA
       replace hA := hA.rw 49 (v' := .int .i64 ((k + 1 : Nat) : Int)) rfl (wr64 (by omega) (by omega) (by omega))
       refine st_run tbOk 2 hA (e' := (51, .int .i64 (IntKind.i64.wrap (((k + 1 : Nat) : Int) * ((s : Nat) : Int)))) :: (50, .int .i64 ((s : Nat) : Int)) :: _) rfl ?_; clear hA; intro a hA
       replace hA := hA.rw 51 (v' := .int .i64 (((k + 1) * s : Nat) : Int)) rfl (wr64 (by omega) (by omega) (by omega))
       refine st_run tbOk 3 hA (e' := (54, .int .i64 (if ((l.length : Nat) : Int) < (((k + 1) * s : Nat) : Int) then ((l.length : Nat) : Int) else (((k + 1) * s : Nat) : Int))) :: (53, .int .i64 ((l.length : Nat) : Int)) :: (52, .slice A l.length c) :: _) rfl ?_; clear hA; intro a hA
       replace hA := hA.rw 54 (v' := .int .i64 ((min ((k + 1) * s) l.length : Nat) : Int)) rfl (vint (by split <;> omega))
       refine st_val hA rfl rfl (by decide) (rn_slice_lh tbOk hA (min (k * s) l.length) (min ((k + 1) * s) l.length) rfl rfl rfl rfl rfl rfl rfl (by rfl) (by rfl) (by omega) (by omega)) ?_; clear hA; intro a hA
       refine st_run tbOk 1 hA (e' := (15, slv A (min (k * s) l.length) (min ((k + 1) * s) l.length) c 1) :: _) rfl ?_; clear hA; intro a hA
       refine wpList_nil ?_
       replace hA := hA.sel [0, 1, 2, 3, 4, 12, 13, 14, 15, 37, 38] (e' := [(0, .slice A l.length c), (1, .int .i64 fr), (2, .int .i64 to), (3, .int .u64 id), (4, .int .i64 ((s : Nat) : Int)), (12, .int .i64 ((nP l s : Nat) : Int)), (13, .slice Ap ps.length cp), (14, .int .i64 ((k : Nat) : Int)), (15, slv A (min (k * s) l.length) (min ((k + 1) * s) l.length) c 1), (37, .int .i64 ((nP l s : Nat) : Int)), (38, .int .i64 ((k : Nat) : Int))]) rfl
       refine xt_norm ?_
       refine wp_region_lit ?_
       refine st_run tbOk 8 hA (e' := (63, slv A (min (k * s) l.length) (min ((k + 1) * s) l.length) c 1) :: (62, .int .i64 ((nP l s : Nat) : Int)) :: (61, .int .i64 ((k : Nat) : Int)) :: (60, .int .u64 id) :: (59, .int .i64 to) :: (58, .int .i64 fr) :: (57, .int .i64 ((k : Nat) : Int)) :: (56, .slice Ap ps.length cp) :: _) rfl ?_; clear hA; intro a hA
       replace hS := hS.nil
       refine st_append tbOk hA (m := 0) (q := ((l.take (min ((k + 1) * s) l.length)).drop (min (k * s) l.length)).length) (xs := rows encB ([] : List UInt8)) (news := rows encB ((l.take (min ((k + 1) * s) l.length)).drop (min (k * s) l.length))) rfl rfl rfl rfl rfl rfl rfl rfl (by decide) (Own.nil 5 1) hS ((hr _ (hS.tail 3 rfl)).rslv encB_ok (min (k * s) l.length) (min ((k + 1) * s) l.length) c (by omega) (by omega) (by omega) (by omega)) (rows_one encB_ok _) (maxLen_le (by first | omega | (have h9 := piece_le l s k; rw [piece] at h9; omega))) (by show (0 + ((l.take (min ((k + 1) * s) l.length)).drop (min (k * s) l.length)).length) * 1 ≤ 140737488355328; first | omega | (have h9 := piece_le l s k; rw [piece] at h9; omega)) rfl rfl (by decide) ?_
       clear hA hS; intro v11 w12 C13 a hO13 hS hA
       replace hO13 := Own.app (l := ([] : List UInt8)) (l2 := (l.take (min ((k + 1) * s) l.length)).drop (min (k * s) l.length)) hO13
       replace hO13 : Own 5 1 v11 ((l.take (min ((k + 1) * s) l.length)).drop (min (k * s) l.length)).length (rows encB ((l.take (min ((k + 1) * s) l.length)).drop (min (k * s) l.length))) C13 := hO13
       obtain ⟨A14, c15, rfl, hmc15, hxc15⟩ := hO13.open'
       have hl : (l.take (min ((k + 1) * s) l.length)).drop (min (k * s) l.length) = piece l s k := rfl
       rw [hl] at hO13; rw [hl] at hA
       refine st_val hA rfl rfl (by decide) (rn_build tbOk hA rfl rfl rfl rfl rfl rfl rfl) ?_; clear hA; intro a hA
       obtain ⟨b16, o17, rfl⟩ := hP.isSome (k := k) (by omega)
       refine st_val hA rfl rfl (by decide) (rn_indexAddr tbOk hA k (o17 + (k * 6)) rfl rfl rfl rfl rfl rfl (by rfl) (by omega) (by first | rfl | simp [Nat.mul_one, Nat.zero_add] | omega)) ?_; clear hA; intro a hA
       obtain ⟨px, hpx⟩ := get_ex (l := ps) (k := k) (by omega)
       replace hS := hS.front 1 (C := C) (L' := C13 :: D :: F) rfl rfl
       refine st_store_own tbOk hA hP hS ((k * 6)) (o17 + (k * 6)) [.int .i64 fr, .int .i64 to, .int .u64 id, .int .i64 ((k : Nat) : Int), .int .i64 ((nP l s : Nat) : Int), .slice A14 ((piece l s k).length) c15] (rows encPacket (ps.set k (fr, to, id, ((k : Nat) : Int), ((nP l s : Nat) : Int), A14, c15, (piece l s k)))) rfl rfl rfl rfl (by rfl) rfl rfl (by exact encPacket_ok.one (fr, to, id, ((k : Nat) : Int), ((nP l s : Nat) : Int), A14, c15, (piece l s k))) (by simp only [rows_length encPacket_ok]; simp; omega) (rows_setf encPacket_ok (fr, to, id, ((k : Nat) : Int), ((nP l s : Nat) : Int), A14, c15, (piece l s k)) (show ps[k]? = some _ from hpx) 0 [.int .i64 fr, .int .i64 to, .int .u64 id, .int .i64 ((k : Nat) : Int), .int .i64 ((nP l s : Nat) : Int), .slice A14 ((piece l s k).length) c15] (Nat.le_of_ble_eq_true rfl) rfl) rfl rfl ?_; clear hS; intro w18 C19 hO19 hS
       refine wpList_nil ?_
       replace hA := hA.sel [0, 1, 2, 3, 4, 12, 13, 37, 38] (e' := [(0, .slice A l.length c), (1, .int .i64 fr), (2, .int .i64 to), (3, .int .u64 id), (4, .int .i64 ((s : Nat) : Int)), (12, .int .i64 ((nP l s : Nat) : Int)), (13, .slice (some ⟨b16, o17, none⟩) ps.length cp), (37, .int .i64 ((nP l s : Nat) : Int)), (38, .int .i64 ((k : Nat) : Int))]) rfl
       refine xb_norm ?_
       refine xt_norm ?_
       refine wp_region_lit ?_
       refine st_run tbOk 1 hA (e' := (67, .int .i64 (IntKind.i64.wrap (((k : Nat) : Int) + 1))) :: _) rfl ?_; clear hA; intro a hA
       replace hA := hA.rw 67 (v' := .int .i64 ((k + 1 : Nat) : Int)) rfl (wr64 (by omega) (by omega) (by omega))
       refine st_run tbOk 1 hA (e' := (38, .int .i64 ((k + 1 : Nat) : Int)) :: _) rfl ?_; clear hA; intro a hA
       refine wpList_nil ?_
       replace hA := hA.sel [0, 1, 2, 3, 4, 12, 13, 37, 38] (e' := [(0, .slice A l.length c), (1, .int .i64 fr), (2, .int .i64 to), (3, .int .u64 id), (4, .int .i64 ((s : Nat) : Int)), (12, .int .i64 ((nP l s : Nat) : Int)), (13, .slice (some ⟨b16, o17, none⟩) ps.length cp), (37, .int .i64 ((nP l s : Nat) : Int)), (38, .int .i64 ((k + 1 : Nat) : Int))]) rfl
       replace hS := hS.front 2 (C := D) (L' := C19 :: C13 :: F) rfl rfl
       replace hS := hS.front 2 (C := C13) (L' := D :: C19 :: F) rfl rfl
       replace hS := hS.join
       replace hS := hS.front 1 (C := C19) (L' := (C13 ++ D) :: F) rfl rfl
       have hdn := (DD.new (w0 := w0) hO13).right (E := D)
       have hkp : k < ps.length := by omega
       replace hA := hA.rw 13 (v' := .slice (some ⟨b16, o17, none⟩) ((ps.set k (fr, to, id, ((k : Nat) : Int), ((nP l s : Nat) : Int), A14, c15, (piece l s k))).length) cp) rfl (by rw [List.length_set])
       exact lp_next _ (by omega) ⟨(k + 1), (ps.set k (fr, to, id, ((k : Nat) : Int), ((nP l s : Nat) : Int), A14, c15, (piece l s k))), (some ⟨b16, o17, none⟩), cp, C19, (C13 ++ D), rfl, (hA.sel [0, 1, 2, 3, 4, 12, 13, 37, 38] rfl), hS, by omega, (by rw [List.length_set]; omega), (fun i x hi hx => by
             by_cases hik : i = k
             · subst hik
               rw [List.getElem?_set_self hkp] at hx
               injection hx with hx
               subst hx
               exact ⟨_, _, rfl⟩
             · rw [List.getElem?_set_ne (Ne.symm hik)] at hx
               exact hall i x (by omega) hx), (fun x hx => by
             rcases List.mem_or_eq_of_mem_set hx with hx | rfl
             · exact encPacket_left (hdd x hx)
             · exact hdn), (by rw [List.length_set]; exact hO19)⟩)
  · first
    | (exfalso; omega)
    | (replace hA := hA.rw 39 (v' := .bool false) rfl (vb_false hc10)
       refine cd_cond_f hA rfl ?_
       refine wp_exit ?_
       refine xt_exit ?_
       refine xt_exit ?_
       refine cd_exit_eq ?_
       refine xt_norm ?_
       refine wp_seq ?_
       refine wp_region_lit ?_
       refine st_run tbOk 3 hA (e' := (11, .nilIface) :: (10, .slice Ap ps.length cp) :: (68, .slice Ap ps.length cp) :: _) rfl ?_; clear hA; intro a hA
       refine wpList_nil ?_
       replace hA := hA.sel [10, 11] (e' := [(10, .slice Ap ps.length cp), (11, .nilIface)]) rfl
       refine xt_norm ?_
       refine wp_ret ?_
       refine ret2 (fn := Tryd.f6) hA rfl rfl rfl ?_
       have hkn : k = ps.length := by omega
       exact ⟨_, ps, C, D, hP, hpl, fun i x hx => hall i x (by have := (List.getElem?_eq_some_iff.1 hx).1; omega) hx, hdd, rfl, hS⟩)

def AllFit (ps : List Pkt) : Prop := ∀ (k : Nat) (x p0 : Pkt), ps[k]? = some x → ps[0]? = some p0 → fits ps p0 x k
theorem join10 {w0 w : World} {F : List Chunk} {D : Chunk} (hS : St w0 w (D :: F)) {v : Value} {ps : List Pkt} (hr : RdS w0 (D :: F) 6 v ps.length (rows encPacket ps)) (hdd : ∀ x ∈ ps, encPacket_dd w0 D x) :
    Ret Tryd.prog 10 #[v] w (fun v w' => ∃ C v1 out, Own 5 1 v1 out.length (rows encB out) C ∧ ((AllFit ps ∧ out = cat ps ps.length ∧ v = .tuple #[v1, .bool (decide (((ps.length : Nat) : Int) > 0))]) ∨ (¬ AllFit ps ∧ out = [] ∧ v = .tuple #[v1, .bool false])) ∧ St w0 w' (C :: D :: F)) := by
  obtain ⟨A, c, rfl, hmc, hcx⟩ := (hr w hS).open'
  refine enter (vs := [.slice A ps.length c]) 66 Tryd.func10 rfl rfl (by simp) ?_; intro a hA
  refine wp_seq ?_
  refine wp_region_lit ?_
  refine st_run tbOk 2 hA (e' := (3, .bool false) :: (2, .slice none 0 0) :: _) rfl ?_; clear hA; intro a hA
  refine wpList_nil ?_
  replace hA := hA.sel [0] (e' := [(0, .slice A ps.length c)]) rfl
  refine xt_norm ?_
  refine wp_seq ?_
  refine wp_region_lit ?_
  refine st_run tbOk 1 hA (e' := (4, .slice none 0 0) :: _) rfl ?_; clear hA; intro a hA
  refine wpList_nil ?_
  refine xt_norm ?_
  refine wp_seq ?_
  refine wp_seq ?_
  refine wp_region_lit ?_
  refine st_run tbOk 3 hA (e' := (9, .int .i64 0) :: (8, .int .i64 ((ps.length : Nat) : Int)) :: (7, .slice A ps.length c) :: _) rfl ?_; clear hA; intro a hA
  refine wpList_nil ?_
  refine xt_norm ?_
  refine wp_block ?_
  replace hS := hS.nil
  refine wp_loop_ghost (fun m a w => ∃ (k : Nat) (Ao : Option Addr) (co : Nat) (Co : Chunk), m = ps.length - k ∧ Has a 66 [(0, .slice A ps.length c), (4, .slice Ao ((cat ps k).length) co), (7, .slice A ps.length c), (8, .int .i64 ((ps.length : Nat) : Int)), (9, .int .i64 ((k : Nat) : Int))] ∧ St w0 w (Co :: D :: F) ∧ (k ≤ ps.length) ∧ ((cat ps k).length ≤ k * 32768) ∧ (∀ (i : Nat) (x p0 : Pkt), i < k → ps[i]? = some x → ps[0]? = some p0 → fits ps p0 x i) ∧ (Own 5 1 (.slice Ao (cat ps k).length co) (cat ps k).length (rows encB (cat ps k)) Co)) (ps.length - 0)
    ⟨0, none, 0, ([]), rfl, (hA.sel [0, 4, 7, 8, 9] rfl), hS, Nat.zero_le _, Nat.zero_le _, fun i x p0 hi => absurd hi (by omega), (Own.nil 5 1)⟩ ?_
  clear hA hS; rintro m0 a w1 ⟨k, Ao, co, Co, rfl, hA, hS, hk, hcl, hfit, hO⟩
  refine wp_seq ?_
  refine wp_region_lit ?_
  refine st_run tbOk 1 hA (e' := (10, .bool (decide (((k : Nat) : Int) < ((ps.length : Nat) : Int)))) :: _) rfl ?_; clear hA; intro a hA
  refine wpList_nil ?_
  refine xt_norm ?_
  refine wp_seq ?_
  by_cases hc2 : ((k : Nat) : Int) < ((ps.length : Nat) : Int)
  · first
    | (exfalso; omega)
    | (replace hA := hA.rw 10 (v' := .bool true) rfl (vb_true hc2)
       refine cd_cond_t hA rfl ?_
       refine wp_skip ?_
       refine xt_norm ?_
       refine wp_seq ?_
       refine wp_block ?_
       refine wp_seq ?_
       refine wp_region_lit ?_
       refine st_run tbOk 1 hA (e' := (11, .int .i64 ((k : Nat) : Int)) :: _) rfl ?_; clear hA; intro a hA
       obtain ⟨x3, hx3⟩ := get_ex (l := ps) (k := 0) (by omega)
       obtain ⟨x3f0, x3f1, x3f2, x3f3, x3f4, x3A5, x3c5, x3b5⟩ := x3
       have hd4 := hdd _ (List.mem_of_getElem? hx3)
       obtain ⟨x5, hx5⟩ := get_ex (l := ps) (k := k) (by omega)
       obtain ⟨x5f0, x5f1, x5f2, x5f3, x5f4, x5A5, x5c5, x5b5⟩ := x5
       have hd6 := hdd _ (List.mem_of_getElem? hx5)
       obtain ⟨b7, o8, rfl⟩ := (hr _ (hS.tail 1 rfl)).isSome (k := k) (by omega)
       refine st_val hA rfl rfl (by decide) (rn_indexAddr tbOk hA k (o8 + (k * 6)) rfl rfl rfl rfl rfl rfl (by rfl) (by omega) (by first | rfl | simp [Nat.mul_one, Nat.zero_add] | omega)) ?_; clear hA; intro a hA
       refine st_val hA rfl rfl (by decide) (rn_loadA tbOk hA ([.int .i64 x5f0, .int .i64 x5f1, .int .u64 x5f2, .int .i64 x5f3, .int .i64 x5f4, .slice x5A5 x5b5.length x5c5]) rfl rfl rfl rfl (by rfl) ((hr _ (hS.tail 1 rfl)).elem (k := k) encPacket_ok hx5)) ?_; clear hA; intro a hA
       refine st_alloc tbOk hA hS [.int .i64 0, .int .i64 0, .int .u64 0, .int .i64 0, .int .i64 0, .slice none 0 0] rfl rfl rfl rfl rfl (by decide) ?_; clear hA hS; intro b9 w10 a hS hA
       refine st_run tbOk 1 hA (e' := (5, .int .i64 ((k : Nat) : Int)) :: _) rfl ?_; clear hA; intro a hA
       refine st_store tbOk hA hS [.int .i64 x5f0, .int .i64 x5f1, .int .u64 x5f2, .int .i64 x5f3, .int .i64 x5f4, .slice x5A5 x5b5.length x5c5] [.int .i64 x5f0, .int .i64 x5f1, .int .u64 x5f2, .int .i64 x5f3, .int .i64 x5f4, .slice x5A5 x5b5.length x5c5] rfl rfl rfl rfl rfl rfl (by simp [Value.oneCell']) (Nat.le_of_ble_eq_true rfl) rfl rfl rfl ?_; clear hS; intro w11 hS
       refine wpList_nil ?_
       replace hA := hA.sel [0, 4, 5, 6, 7, 8, 9] (e' := [(0, .slice (some ⟨b7, o8, none⟩) ps.length c), (4, .slice Ao ((cat ps k).length) co), (5, .int .i64 ((k : Nat) : Int)), (6, .pointer (some ⟨b9, 0, none⟩)), (7, .slice (some ⟨b7, o8, none⟩) ps.length c), (8, .int .i64 ((ps.length : Nat) : Int)), (9, .int .i64 ((k : Nat) : Int))]) rfl
       refine xt_norm ?_
       refine wp_seq ?_
       refine wp_seq ?_
       refine wp_draw (fun w' => St w0 w' ([(b9, rowO [.int .i64 x5f0, .int .i64 x5f1, .int .u64 x5f2, .int .i64 x5f3, .int .i64 x5f4, .slice x5A5 x5b5.length x5c5] 33)] :: Co :: D :: F)) [] [(0, true), (1, false), (2, true), (3, true), (4, true), (5, true), (6, true), (7, true), (8, true), (9, true), (10, true), (11, true), (12, true), (13, true), (14, true), (15, true), (16, true), (17, true), (18, true), (19, true), (20, true), (21, true), (22, true), (23, true), (24, true), (25, true), (26, true), (27, true), (28, true), (29, true), (30, true), (31, true), (32, true), (33, true), (34, true), (35, true), (36, true), (37, true), (38, true), (39, true), (40, true), (41, true), (42, true)] mixed (by kernel_rfl) (by rintro c a w ⟨_, _, h, _⟩; cases h) (by rfl) (by kernel_rfl) ?_
       replace hS := hS.drew
       refine dr_y hA rfl rfl rfl (by decide) hS (fun w' hS' => rn_loadA tbOk hA [.int .i64 x5f0, .int .i64 x5f1, .int .u64 x5f2, .int .i64 x5f3, .int .i64 x5f4, .slice x5A5 x5b5.length x5c5] rfl rfl rfl rfl rfl (cells_row (hS'.heapAt 0 rfl) rfl)) ?_; clear hA; intro a hA
       refine dr_b (o := _) rfl ?_
       refine st_call0 hA rfl rfl rfl isfn9 rfl rfl (by decide) (may9 hS x5f0 x5f1 x5f2 x5f3 x5f4 x5A5 x5c5 x5b5) ?_
       clear hA hS; rintro v w12 a ⟨rfl, hS⟩ hA
       refine dr_nil (.inr hS) ?_
       by_cases hc13 : 1 ≤ x5f4 ∧ x5f4 ≤ 256 ∧ 0 ≤ x5f3 ∧ x5f3 < x5f4 ∧ x5b5.length ≤ 32768
       · first
         | (exfalso; omega)
         | (replace hA := hA.rw 15 (v' := .bool true) rfl (vb_true hc13)
            refine dr_run tbOk 3 hA hS (e' := (18, .pointer (some ⟨b9, 3, none⟩)) :: (17, .bool false) :: (16, .bool false) :: _) rfl ?_; clear hA; intro a hA
            refine dr_y hA rfl rfl rfl (by decide) hS (fun w' hS' => rn_load tbOk hA rfl rfl rfl rfl (cell_row (hS'.heapAt 0 rfl) rfl)) ?_; clear hA; intro a hA
            refine dr_run tbOk 4 hA hS (e' := (23, .bool (x5f3 != ((k : Nat) : Int))) :: (22, .bool (x5f3 != ((k : Nat) : Int))) :: (21, .bool (x5f3 != ((k : Nat) : Int))) :: (20, .int .i64 ((k : Nat) : Int)) :: _) rfl ?_; clear hA; intro a hA
            by_cases hc14 : x5f3 = ((k : Nat) : Int)
            · first
              | (exfalso; omega)
              | (replace hA := hA.rw 21 (v' := .bool false) rfl (vb_ne_f hc14)
                 replace hA := hA.rw 22 (v' := .bool false) rfl (vb_ne_f hc14)
                 replace hA := hA.rw 23 (v' := .bool false) rfl (vb_ne_f hc14)
                 refine dr_run tbOk 1 hA hS (e' := (24, .pointer (some ⟨b9, 4, none⟩)) :: _) rfl ?_; clear hA; intro a hA
                 refine dr_y hA rfl rfl rfl (by decide) hS (fun w' hS' => rn_load tbOk hA rfl rfl rfl rfl (cell_row (hS'.heapAt 0 rfl) rfl)) ?_; clear hA; intro a hA
                 refine dr_run tbOk 5 hA hS (e' := (30, .bool (x5f4 != ((ps.length : Nat) : Int))) :: (29, .bool (x5f4 != ((ps.length : Nat) : Int))) :: (28, .bool (x5f4 != ((ps.length : Nat) : Int))) :: (27, .int .i64 ((ps.length : Nat) : Int)) :: (26, .slice (some ⟨b7, o8, none⟩) ps.length c) :: _) rfl ?_; clear hA; intro a hA
                 by_cases hc15 : x5f4 = ((ps.length : Nat) : Int)
                 · first
                   | (exfalso; omega)
                   | (replace hA := hA.rw 28 (v' := .bool false) rfl (vb_ne_f hc15)
                      replace hA := hA.rw 29 (v' := .bool false) rfl (vb_ne_f hc15)
                      replace hA := hA.rw 30 (v' := .bool false) rfl (vb_ne_f hc15)
                      refine dr_run tbOk 1 hA hS (e' := (31, .pointer (some ⟨b9, 2, none⟩)) :: _) rfl ?_; clear hA; intro a hA
                      refine dr_y hA rfl rfl rfl (by decide) hS (fun w' hS' => rn_load tbOk hA rfl rfl rfl rfl (cell_row (hS'.heapAt 0 rfl) rfl)) ?_; clear hA; intro a hA
                      refine dr_run tbOk 1 hA hS (e' := (33, .slice (some ⟨b7, o8, none⟩) ps.length c) :: _) rfl ?_; clear hA; intro a hA
                      refine dr_y hA rfl rfl rfl (by decide) hS (fun w' hS' => rn_indexAddr tbOk hA 0 o8 rfl rfl rfl rfl rfl rfl (by rfl) (by omega) (by first | rfl | simp [Nat.mul_one, Nat.zero_add] | omega)) ?_; clear hA; intro a hA
                      refine dr_run tbOk 1 hA hS (e' := (35, .pointer (some ⟨b7, o8 + 2, none⟩)) :: _) rfl ?_; clear hA; intro a hA
                      refine dr_y hA rfl rfl rfl (by decide) hS (fun w' hS' => rn_load tbOk hA rfl rfl rfl rfl ((hr _ (hS'.tail 2 rfl)).elemf (k := 0) encPacket_ok hx3 (j := 2) rfl)) ?_; clear hA; intro a hA
                      refine dr_run tbOk 3 hA hS (e' := (39, .bool (x5f2 != x3f2)) :: (38, .bool (x5f2 != x3f2)) :: (37, .bool (x5f2 != x3f2)) :: _) rfl ?_; clear hA; intro a hA
                      by_cases hc16 : x5f2 = x3f2
                      · first
                        | (exfalso; omega)
                        | (replace hA := hA.rw 37 (v' := .bool false) rfl (vb_ne_f hc16)
                           replace hA := hA.rw 38 (v' := .bool false) rfl (vb_ne_f hc16)
                           replace hA := hA.rw 39 (v' := .bool false) rfl (vb_ne_f hc16)
                           refine dr_run tbOk 1 hA hS (e' := (40, .pointer (some ⟨b9, 0, none⟩)) :: _) rfl ?_; clear hA; intro a hA
                           refine dr_y hA rfl rfl rfl (by decide) hS (fun w' hS' => rn_load tbOk hA rfl rfl rfl rfl (cell_row (hS'.heapAt 0 rfl) rfl)) ?_; clear hA; intro a hA
                           refine dr_run tbOk 1 hA hS (e' := (42, .slice (some ⟨b7, o8, none⟩) ps.length c) :: _) rfl ?_; clear hA; intro a hA
                           refine dr_y hA rfl rfl rfl (by decide) hS (fun w' hS' => rn_indexAddr tbOk hA 0 o8 rfl rfl rfl rfl rfl rfl (by rfl) (by omega) (by first | rfl | simp [Nat.mul_one, Nat.zero_add] | omega)) ?_; clear hA; intro a hA
                           refine dr_run tbOk 1 hA hS (e' := (44, .pointer (some ⟨b7, o8, none⟩)) :: _) rfl ?_; clear hA; intro a hA
                           refine dr_y hA rfl rfl rfl (by decide) hS (fun w' hS' => rn_load tbOk hA rfl rfl rfl rfl ((hr _ (hS'.tail 2 rfl)).elemf (k := 0) encPacket_ok hx3 (j := 0) rfl)) ?_; clear hA; intro a hA
                           refine dr_run tbOk 3 hA hS (e' := (48, .bool (x5f0 != x3f0)) :: (47, .bool (x5f0 != x3f0)) :: (46, .bool (x5f0 != x3f0)) :: _) rfl ?_; clear hA; intro a hA
                           by_cases hc17 : x5f0 = x3f0
                           · first
                             | (exfalso; omega)
                             | (replace hA := hA.rw 46 (v' := .bool false) rfl (vb_ne_f hc17)
                                replace hA := hA.rw 47 (v' := .bool false) rfl (vb_ne_f hc17)
                                replace hA := hA.rw 48 (v' := .bool false) rfl (vb_ne_f hc17)
                                refine dr_run tbOk 1 hA hS (e' := (49, .pointer (some ⟨b9, 1, none⟩)) :: _) rfl ?_; clear hA; intro a hA
                                refine dr_y hA rfl rfl rfl (by decide) hS (fun w' hS' => rn_load tbOk hA rfl rfl rfl rfl (cell_row (hS'.heapAt 0 rfl) rfl)) ?_; clear hA; intro a hA
                                refine dr_run tbOk 1 hA hS (e' := (51, .slice (some ⟨b7, o8, none⟩) ps.length c) :: _) rfl ?_; clear hA; intro a hA
                                refine dr_y hA rfl rfl rfl (by decide) hS (fun w' hS' => rn_indexAddr tbOk hA 0 o8 rfl rfl rfl rfl rfl rfl (by rfl) (by omega) (by first | rfl | simp [Nat.mul_one, Nat.zero_add] | omega)) ?_; clear hA; intro a hA
                                refine dr_run tbOk 1 hA hS (e' := (53, .pointer (some ⟨b7, o8 + 1, none⟩)) :: _) rfl ?_; clear hA; intro a hA
                                refine dr_y hA rfl rfl rfl (by decide) hS (fun w' hS' => rn_load tbOk hA rfl rfl rfl rfl ((hr _ (hS'.tail 2 rfl)).elemf (k := 0) encPacket_ok hx3 (j := 1) rfl)) ?_; clear hA; intro a hA
                                refine dr_run tbOk 2 hA hS (e' := (56, .bool (x5f1 != x3f1)) :: (55, .bool (x5f1 != x3f1)) :: _) rfl ?_; clear hA; intro a hA
                                refine dr_end ?_
                                replace hA := hA.sel [0, 4, 6, 7, 8, 9, 56] (e' := [(0, .slice (some ⟨b7, o8, none⟩) ps.length c), (4, .slice Ao ((cat ps k).length) co), (6, .pointer (some ⟨b9, 0, none⟩)), (7, .slice (some ⟨b7, o8, none⟩) ps.length c), (8, .int .i64 ((ps.length : Nat) : Int)), (9, .int .i64 ((k : Nat) : Int)), (56, .bool (x5f1 != x3f1))]) rfl
                                refine xt_norm ?_
                                by_cases hc18 : x5f1 = x3f1
                                · first
                                  | (exfalso; omega)
                                  | (replace hA := hA.rw 56 (v' := .bool false) rfl (vb_ne_f hc18)
                                     refine cd_cond_f hA rfl ?_
                                     refine wp_skip ?_
                                     refine xt_norm ?_
                                     refine wp_region_lit ?_
                                     refine st_run tbOk 2 hA (e' := (58, .pointer (some ⟨b9, 5, none⟩)) :: (57, .slice Ao ((cat ps k).length) co) :: _) rfl ?_; clear hA; intro a hA
                                     refine st_val hA rfl rfl (by decide) (rn_load tbOk hA rfl rfl rfl rfl (cell_row (hS.heapAt 0 rfl) rfl)) ?_; clear hA; intro a hA
                                     replace hS := hS.front 1 (C := Co) (L' := [(b9, rowO [.int .i64 x5f0, .int .i64 x5f1, .int .u64 x5f2, .int .i64 x5f3, .int .i64 x5f4, .slice x5A5 x5b5.length x5c5] 33)] :: D :: F) rfl rfl
                                     refine st_append tbOk hA (m := (cat ps k).length) (q := x5b5.length) (xs := rows encB (cat ps k)) (news := rows encB x5b5) rfl rfl rfl rfl rfl rfl rfl rfl (by decide) hO hS (hd6 _ (hS.only 2 rfl)) (rows_one encB_ok _) (maxLen_le (by omega)) (by show ((cat ps k).length + x5b5.length) * 1 ≤ 140737488355328; omega) rfl rfl (by decide) ?_
                                     clear hA hS; intro v19 w20 C21 a hO21 hS hA
                                     replace hO21 := Own.app (l := cat ps k) (l2 := x5b5) hO21
                                     obtain ⟨A22, c23, rfl, hmc23, hxc23⟩ := hO21.open'
                                     refine st_run tbOk 1 hA (e' := (4, .slice A22 (((cat ps k) ++ x5b5).length) c23) :: _) rfl ?_; clear hA; intro a hA
                                     refine wpList_nil ?_
                                     replace hA := hA.sel [0, 4, 7, 8, 9] (e' := [(0, .slice (some ⟨b7, o8, none⟩) ps.length c), (4, .slice A22 (((cat ps k) ++ x5b5).length) c23), (7, .slice (some ⟨b7, o8, none⟩) ps.length c), (8, .int .i64 ((ps.length : Nat) : Int)), (9, .int .i64 ((k : Nat) : Int))]) rfl
                                     refine xb_norm ?_
                                     refine xt_norm ?_
                                     refine wp_region_lit ?_
                                     refine st_run tbOk 1 hA (e' := (61, .int .i64 (IntKind.i64.wrap (((k : Nat) : Int) + 1))) :: _) rfl ?_; clear hA; intro a hA
                                     replace hA := hA.rw 61 (v' := .int .i64 ((k + 1 : Nat) : Int)) rfl (wr64 (by omega) (by omega) (by omega))
                                     refine st_run tbOk 1 hA (e' := (9, .int .i64 ((k + 1 : Nat) : Int)) :: _) rfl ?_; clear hA; intro a hA
                                     refine wpList_nil ?_
                                     replace hA := hA.sel [0, 4, 7, 8, 9] (e' := [(0, .slice (some ⟨b7, o8, none⟩) ps.length c), (4, .slice A22 (((cat ps k) ++ x5b5).length) c23), (7, .slice (some ⟨b7, o8, none⟩) ps.length c), (8, .int .i64 ((ps.length : Nat) : Int)), (9, .int .i64 ((k + 1 : Nat) : Int))]) rfl
                                     have hcs := cat_succ hx5
                                     have hcl : (cat ps (k + 1)).length ≤ (k + 1) * 32768 := by rw [← hcs, List.length_append]; show _ + x5b5.length ≤ _; omega
                                     have hl : (cat ps k) ++ x5b5 = cat ps (k + 1) := hcs
                                     rw [hl] at hO21; rw [hl] at hA
                                     replace hS := hS.front 1 (C := [(b9, rowO [.int .i64 x5f0, .int .i64 x5f1, .int .u64 x5f2, .int .i64 x5f3, .int .i64 x5f4, .slice x5A5 x5b5.length x5c5] 33)]) (L' := C21 :: D :: F) rfl rfl
                                     replace hS := hS.drop1
                                     exact lp_next _ (by omega) ⟨(k + 1), A22, c23, C21, rfl, (hA.sel [0, 4, 7, 8, 9] rfl), hS, by omega, hcl, (fun i y p0 hi hy h0 => by
                                           by_cases hik : i = k
                                           · subst hik
                                             rw [hx5] at hy; injection hy with hy; subst hy
                                             rw [hx3] at h0; injection h0 with h0; subst h0
                                             refine ⟨⟨?_, ?_, ?_, ?_, ?_⟩, ?_, ?_, ?_, ?_, ?_⟩ <;> dsimp only [pdat] <;> omega
                                           · exact hfit i y p0 (by omega) hy h0), hO21⟩)
                                · first
                                  | (exfalso; omega)
                                  | (replace hA := hA.rw 56 (v' := .bool true) rfl (vb_ne_t hc18)
                                     refine cd_cond_t hA rfl ?_
                                     refine wp_seq ?_
                                     refine wp_region_lit ?_
                                     refine st_run tbOk 2 hA (e' := (3, .bool false) :: (2, .slice none 0 0) :: _) rfl ?_; clear hA; intro a hA
                                     refine wpList_nil ?_
                                     replace hA := hA.sel [2, 3] (e' := [(2, .slice none 0 0), (3, .bool false)]) rfl
                                     refine xt_norm ?_
                                     refine wp_ret (xt_ret (xb_ret (xt_ret (xt_ret (xb_ret (xt_ret ?_))))))
                                     refine ret2 (fn := Tryd.f10) hA rfl rfl rfl ?_
                                     replace hS := hS.drop1
                                     replace hS := hS.drop1
                                     exact ⟨[], _, [], Own.nil 5 1, .inr ⟨fun hf => by have h9 := hf _ _ _ hx5 hx3; unfold fits at h9; dsimp only [pdat] at h9; omega, rfl, rfl⟩, hS.nil⟩))
                           · first
                             | (exfalso; omega)
                             | (replace hA := hA.rw 46 (v' := .bool true) rfl (vb_ne_t hc17)
                                replace hA := hA.rw 47 (v' := .bool true) rfl (vb_ne_t hc17)
                                replace hA := hA.rw 48 (v' := .bool true) rfl (vb_ne_t hc17)
                                refine dr_run tbOk 8 hA hS (e' := (56, .bool true) :: (55, undef) :: (54, undef) :: (53, undef) :: (52, undef) :: (51, undef) :: (50, undef) :: (49, undef) :: _) rfl ?_; clear hA; intro a hA
                                refine dr_end ?_
                                replace hA := hA.sel [0, 4, 6, 7, 8, 9, 56] (e' := [(0, .slice (some ⟨b7, o8, none⟩) ps.length c), (4, .slice Ao ((cat ps k).length) co), (6, .pointer (some ⟨b9, 0, none⟩)), (7, .slice (some ⟨b7, o8, none⟩) ps.length c), (8, .int .i64 ((ps.length : Nat) : Int)), (9, .int .i64 ((k : Nat) : Int)), (56, .bool true)]) rfl
                                refine xt_norm ?_
                                refine cd_cond_t hA rfl ?_
                                refine wp_seq ?_
                                refine wp_region_lit ?_
                                refine st_run tbOk 2 hA (e' := (3, .bool false) :: (2, .slice none 0 0) :: _) rfl ?_; clear hA; intro a hA
                                refine wpList_nil ?_
                                replace hA := hA.sel [2, 3] (e' := [(2, .slice none 0 0), (3, .bool false)]) rfl
                                refine xt_norm ?_
                                refine wp_ret (xt_ret (xb_ret (xt_ret (xt_ret (xb_ret (xt_ret ?_))))))
                                refine ret2 (fn := Tryd.f10) hA rfl rfl rfl ?_
                                replace hS := hS.drop1
                                replace hS := hS.drop1
                                exact ⟨[], _, [], Own.nil 5 1, .inr ⟨fun hf => by have h9 := hf _ _ _ hx5 hx3; unfold fits at h9; dsimp only [pdat] at h9; omega, rfl, rfl⟩, hS.nil⟩))
                      · first
                        | (exfalso; omega)
                        | (replace hA := hA.rw 37 (v' := .bool true) rfl (vb_ne_t hc16)
                           replace hA := hA.rw 38 (v' := .bool true) rfl (vb_ne_t hc16)
                           replace hA := hA.rw 39 (v' := .bool true) rfl (vb_ne_t hc16)
                           refine dr_run tbOk 17 hA hS (e' := (56, .bool true) :: (55, undef) :: (54, undef) :: (53, undef) :: (52, undef) :: (51, undef) :: (50, undef) :: (49, undef) :: (48, .bool true) :: (47, .bool true) :: (46, undef) :: (45, undef) :: (44, undef) :: (43, undef) :: (42, undef) :: (41, undef) :: (40, undef) :: _) rfl ?_; clear hA; intro a hA
                           refine dr_end ?_
                           replace hA := hA.sel [0, 4, 6, 7, 8, 9, 56] (e' := [(0, .slice (some ⟨b7, o8, none⟩) ps.length c), (4, .slice Ao ((cat ps k).length) co), (6, .pointer (some ⟨b9, 0, none⟩)), (7, .slice (some ⟨b7, o8, none⟩) ps.length c), (8, .int .i64 ((ps.length : Nat) : Int)), (9, .int .i64 ((k : Nat) : Int)), (56, .bool true)]) rfl
                           refine xt_norm ?_
                           refine cd_cond_t hA rfl ?_
                           refine wp_seq ?_
                           refine wp_region_lit ?_
                           refine st_run tbOk 2 hA (e' := (3, .bool false) :: (2, .slice none 0 0) :: _) rfl ?_; clear hA; intro a hA
                           refine wpList_nil ?_
                           replace hA := hA.sel [2, 3] (e' := [(2, .slice none 0 0), (3, .bool false)]) rfl
                           refine xt_norm ?_
                           refine wp_ret (xt_ret (xb_ret (xt_ret (xt_ret (xb_ret (xt_ret ?_))))))
                           refine ret2 (fn := Tryd.f10) hA rfl rfl rfl ?_
                           replace hS := hS.drop1
                           replace hS := hS.drop1
                           exact ⟨[], _, [], Own.nil 5 1, .inr ⟨fun hf => by have h9 := hf _ _ _ hx5 hx3; unfold fits at h9; dsimp only [pdat] at h9; omega, rfl, rfl⟩, hS.nil⟩))
                 · first
                   | (exfalso; omega)
                   | (replace hA := hA.rw 28 (v' := .bool true) rfl (vb_ne_t hc15)
                      replace hA := hA.rw 29 (v' := .bool true) rfl (vb_ne_t hc15)
                      replace hA := hA.rw 30 (v' := .bool true) rfl (vb_ne_t hc15)
                      refine dr_run tbOk 26 hA hS (e' := (56, .bool true) :: (55, undef) :: (54, undef) :: (53, undef) :: (52, undef) :: (51, undef) :: (50, undef) :: (49, undef) :: (48, .bool true) :: (47, .bool true) :: (46, undef) :: (45, undef) :: (44, undef) :: (43, undef) :: (42, undef) :: (41, undef) :: (40, undef) :: (39, .bool true) :: (38, .bool true) :: (37, undef) :: (36, undef) :: (35, undef) :: (34, undef) :: (33, undef) :: (32, undef) :: (31, undef) :: _) rfl ?_; clear hA; intro a hA
                      refine dr_end ?_
                      replace hA := hA.sel [0, 4, 6, 7, 8, 9, 56] (e' := [(0, .slice (some ⟨b7, o8, none⟩) ps.length c), (4, .slice Ao ((cat ps k).length) co), (6, .pointer (some ⟨b9, 0, none⟩)), (7, .slice (some ⟨b7, o8, none⟩) ps.length c), (8, .int .i64 ((ps.length : Nat) : Int)), (9, .int .i64 ((k : Nat) : Int)), (56, .bool true)]) rfl
                      refine xt_norm ?_
                      refine cd_cond_t hA rfl ?_
                      refine wp_seq ?_
                      refine wp_region_lit ?_
                      refine st_run tbOk 2 hA (e' := (3, .bool false) :: (2, .slice none 0 0) :: _) rfl ?_; clear hA; intro a hA
                      refine wpList_nil ?_
                      replace hA := hA.sel [2, 3] (e' := [(2, .slice none 0 0), (3, .bool false)]) rfl
                      refine xt_norm ?_
                      refine wp_ret (xt_ret (xb_ret (xt_ret (xt_ret (xb_ret (xt_ret ?_))))))
                      refine ret2 (fn := Tryd.f10) hA rfl rfl rfl ?_
                      replace hS := hS.drop1
                      replace hS := hS.drop1
                      exact ⟨[], _, [], Own.nil 5 1, .inr ⟨fun hf => by have h9 := hf _ _ _ hx5 hx3; unfold fits at h9; dsimp only [pdat] at h9; omega, rfl, rfl⟩, hS.nil⟩))
            · first
              | (exfalso; omega)
              | (replace hA := hA.rw 21 (v' := .bool true) rfl (vb_ne_t hc14)
                 replace hA := hA.rw 22 (v' := .bool true) rfl (vb_ne_t hc14)
                 replace hA := hA.rw 23 (v' := .bool true) rfl (vb_ne_t hc14)
                 refine dr_run tbOk 33 hA hS (e' := (56, .bool true) :: (55, undef) :: (54, undef) :: (53, undef) :: (52, undef) :: (51, undef) :: (50, undef) :: (49, undef) :: (48, .bool true) :: (47, .bool true) :: (46, undef) :: (45, undef) :: (44, undef) :: (43, undef) :: (42, undef) :: (41, undef) :: (40, undef) :: (39, .bool true) :: (38, .bool true) :: (37, undef) :: (36, undef) :: (35, undef) :: (34, undef) :: (33, undef) :: (32, undef) :: (31, undef) :: (30, .bool true) :: (29, .bool true) :: (28, undef) :: (27, undef) :: (26, undef) :: (25, undef) :: (24, undef) :: _) rfl ?_; clear hA; intro a hA
                 refine dr_end ?_
                 replace hA := hA.sel [0, 4, 6, 7, 8, 9, 56] (e' := [(0, .slice (some ⟨b7, o8, none⟩) ps.length c), (4, .slice Ao ((cat ps k).length) co), (6, .pointer (some ⟨b9, 0, none⟩)), (7, .slice (some ⟨b7, o8, none⟩) ps.length c), (8, .int .i64 ((ps.length : Nat) : Int)), (9, .int .i64 ((k : Nat) : Int)), (56, .bool true)]) rfl
                 refine xt_norm ?_
                 refine cd_cond_t hA rfl ?_
                 refine wp_seq ?_
                 refine wp_region_lit ?_
                 refine st_run tbOk 2 hA (e' := (3, .bool false) :: (2, .slice none 0 0) :: _) rfl ?_; clear hA; intro a hA
                 refine wpList_nil ?_
                 replace hA := hA.sel [2, 3] (e' := [(2, .slice none 0 0), (3, .bool false)]) rfl
                 refine xt_norm ?_
                 refine wp_ret (xt_ret (xb_ret (xt_ret (xt_ret (xb_ret (xt_ret ?_))))))
                 refine ret2 (fn := Tryd.f10) hA rfl rfl rfl ?_
                 replace hS := hS.drop1
                 replace hS := hS.drop1
                 exact ⟨[], _, [], Own.nil 5 1, .inr ⟨fun hf => by have h9 := hf _ _ _ hx5 hx3; unfold fits at h9; dsimp only [pdat] at h9; omega, rfl, rfl⟩, hS.nil⟩))
       · first
         | (exfalso; omega)
         | (replace hA := hA.rw 15 (v' := .bool false) rfl (vb_false hc13)
            refine dr_run tbOk 41 hA hS (e' := (56, .bool true) :: (55, undef) :: (54, undef) :: (53, undef) :: (52, undef) :: (51, undef) :: (50, undef) :: (49, undef) :: (48, .bool true) :: (47, .bool true) :: (46, undef) :: (45, undef) :: (44, undef) :: (43, undef) :: (42, undef) :: (41, undef) :: (40, undef) :: (39, .bool true) :: (38, .bool true) :: (37, undef) :: (36, undef) :: (35, undef) :: (34, undef) :: (33, undef) :: (32, undef) :: (31, undef) :: (30, .bool true) :: (29, .bool true) :: (28, undef) :: (27, undef) :: (26, undef) :: (25, undef) :: (24, undef) :: (23, .bool true) :: (22, .bool true) :: (21, undef) :: (20, undef) :: (19, undef) :: (18, undef) :: (17, .bool true) :: (16, .bool true) :: _) rfl ?_; clear hA; intro a hA
            refine dr_end ?_
            replace hA := hA.sel [0, 4, 6, 7, 8, 9, 56] (e' := [(0, .slice (some ⟨b7, o8, none⟩) ps.length c), (4, .slice Ao ((cat ps k).length) co), (6, .pointer (some ⟨b9, 0, none⟩)), (7, .slice (some ⟨b7, o8, none⟩) ps.length c), (8, .int .i64 ((ps.length : Nat) : Int)), (9, .int .i64 ((k : Nat) : Int)), (56, .bool true)]) rfl
            refine xt_norm ?_
            refine cd_cond_t hA rfl ?_
            refine wp_seq ?_
            refine wp_region_lit ?_
            refine st_run tbOk 2 hA (e' := (3, .bool false) :: (2, .slice none 0 0) :: _) rfl ?_; clear hA; intro a hA
            refine wpList_nil ?_
            replace hA := hA.sel [2, 3] (e' := [(2, .slice none 0 0), (3, .bool false)]) rfl
            refine xt_norm ?_
            refine wp_ret (xt_ret (xb_ret (xt_ret (xt_ret (xb_ret (xt_ret ?_))))))
            refine ret2 (fn := Tryd.f10) hA rfl rfl rfl ?_
            replace hS := hS.drop1
            replace hS := hS.drop1
            exact ⟨[], _, [], Own.nil 5 1, .inr ⟨fun hf => by have h9 := hf _ _ _ hx5 hx3; unfold fits at h9; dsimp only [pdat] at h9; omega, rfl, rfl⟩, hS.nil⟩))
  · first
    | (exfalso; omega)
    | (replace hA := hA.rw 10 (v' := .bool false) rfl (vb_false hc2)
       refine cd_cond_f hA rfl ?_
       refine wp_exit ?_
       refine xt_exit ?_
       refine xt_exit ?_
       refine cd_exit_eq ?_
       refine xt_norm ?_
       refine wp_seq ?_
       refine wp_region_lit ?_
       refine st_run tbOk 6 hA (e' := (3, .bool (decide (((ps.length : Nat) : Int) > 0))) :: (2, .slice Ao ((cat ps k).length) co) :: (65, .bool (decide (((ps.length : Nat) : Int) > 0))) :: (64, .int .i64 ((ps.length : Nat) : Int)) :: (63, .slice A ps.length c) :: (62, .slice Ao ((cat ps k).length) co) :: _) rfl ?_; clear hA; intro a hA
       refine wpList_nil ?_
       replace hA := hA.sel [2, 3] (e' := [(2, .slice Ao ((cat ps k).length) co), (3, .bool (decide (((ps.length : Nat) : Int) > 0)))]) rfl
       refine xt_norm ?_
       refine wp_ret ?_
       refine ret2 (fn := Tryd.f10) hA rfl rfl rfl ?_
       have hkl : k = ps.length := by omega
       subst hkl
       exact ⟨_, _, _, hO, .inl ⟨fun i x p0 hx h0 => hfit i x p0 (List.getElem?_eq_some_iff.1 hx).1 hx h0, rfl, rfl⟩, hS⟩)

theorem awake5 {w0 w : World} {F : List Chunk} (hS : St w0 w F) :
    Ret Tryd.prog 5 #[] w (fun v w' => v = .bool true ∧ St w0 w' F) := by
  refine enter (vs := []) 56 Tryd.func5 rfl rfl (by simp) ?_; intro a hA
  refine wp_seq ?_
  refine wp_region_lit ?_
  refine st_run tbOk 1 hA (e' := (0, .bool false) :: _) rfl ?_; clear hA; intro a hA
  refine wpList_nil ?_
  replace hA := hA.sel [] (e' := []) rfl
  refine xt_norm ?_
  refine wp_seq ?_
  refine wp_region_lit ?_
  refine st_buildSlice tbOk hA hS [.int .u8 97, .int .u8 98, .int .u8 99] rfl rfl rfl rfl rfl (by decide) (by kernel_rfl) rfl rfl (by decide) ?_; clear hA hS; intro b1 w2 a hS hA
  refine st_mark tbOk hA ([97, 98, 99] : List UInt8) hS rfl rfl rfl rfl rfl rfl rfl rfl (by decide) (by decide) (by decide) ?_; clear hA hS; intro C3 w4 a hDC3 hS hA
  refine st_call0 hA rfl rfl rfl isfn6 rfl rfl (by decide) (split_ok6 hS (l := ([97, 98, 99] : List UInt8)) (fun w' h => (hDC3 _ (h.only 0 rfl))) 1 2 3 2 (by decide) (by decide) (by decide) (by decide)) ?_
  clear hA hS; rintro _ w5 a ⟨v6, ps, C7, D8, hOC7, hpl, hpk, hdd, rfl, hS⟩ hA
  obtain ⟨A9, c10, rfl, hmc10, hxc10⟩ := hOC7.open'
  refine st_run tbOk 5 hA (e' := (2, .nilIface) :: (1, .slice A9 ps.length c10) :: (12, .nilIface) :: (11, .slice A9 ps.length c10) :: (7, .tuple #[.slice A9 ps.length c10, .nilIface]) :: _) rfl ?_; clear hA; intro a hA
  refine wpList_nil ?_
  replace hA := hA.sel [1, 2] (e' := [(1, .slice A9 ps.length c10), (2, .nilIface)]) rfl
  refine xt_norm ?_
  refine wp_seq ?_
  refine wp_seq ?_
  refine wp_region_lit ?_
  refine st_run tbOk 5 hA (e' := (17, .int .i64 ((ps.length : Nat) : Int)) :: (16, .slice A9 ps.length c10) :: (15, .bool false) :: (14, .bool false) :: (13, .nilIface) :: _) rfl ?_; clear hA; intro a hA
  have hp2 : ps.length = 2 := hpl
  obtain ⟨y1, hp1⟩ := get_ex (l := ps) (k := 1) (by omega)
  obtain ⟨B1, d1, rfl⟩ := hpk 1 y1 hp1
  have hdp := hdd _ (List.mem_of_getElem? hp1)
  replace hA := hA.rw 17 (v' := .int .i64 2) rfl (vint (by omega))
  refine st_run tbOk 2 hA (e' := (19, .bool false) :: (18, .bool false) :: _) rfl ?_; clear hA; intro a hA
  refine wpList_nil ?_
  replace hA := hA.sel [1, 19] (e' := [(1, .slice A9 ps.length c10), (19, .bool false)]) rfl
  refine xt_norm ?_
  refine cd_cond_f hA rfl ?_
  refine wp_skip ?_
  refine xt_norm ?_
  refine wp_seq ?_
  refine wp_region_lit ?_
  refine st_run tbOk 1 hA (e' := (21, .slice A9 ps.length c10) :: _) rfl ?_; clear hA; intro a hA
  replace hS := hS.front 1 (C := D8) (L' := C7 :: C3 :: F) rfl rfl
  refine st_call0 hA rfl rfl rfl isfn10 rfl rfl (by decide) (join10 hS (ps := ps) (RdS.own hOC7 1 rfl) hdd) ?_
  clear hA hS; rintro _ w11 a ⟨C13, v12, ou16, hO13, hjC13, hS⟩ hA
  obtain ⟨A14, c15, rfl, hmc15, hxc15⟩ := hO13.open'
  obtain ⟨-, rfl, rfl⟩ := hjC13.resolve_right (fun h => h.1 (fun i x p0 hx h0 => fits_split (by decide) hpl (by decide) hpk i x p0 hx h0))
  refine st_run tbOk 5 hA (e' := (4, .bool (decide (((ps.length : Nat) : Int) > 0))) :: (3, .slice A14 ((cat ps ps.length).length) c15) :: (24, .bool (decide (((ps.length : Nat) : Int) > 0))) :: (23, .slice A14 ((cat ps ps.length).length) c15) :: (20, .tuple #[.slice A14 ((cat ps ps.length).length) c15, .bool (decide (((ps.length : Nat) : Int) > 0))]) :: _) rfl ?_; clear hA; intro a hA
  refine wpList_nil ?_
  replace hA := hA.sel [1, 3, 4] (e' := [(1, .slice A9 ps.length c10), (3, .slice A14 ((cat ps ps.length).length) c15), (4, .bool (decide (((ps.length : Nat) : Int) > 0)))]) rfl
  refine xt_norm ?_
  refine wp_seq ?_
  refine wp_region_lit ?_
  refine st_run tbOk 1 hA (e' := (26, .slice A9 ps.length c10) :: _) rfl ?_; clear hA; intro a hA
  refine st_val hA rfl rfl (by decide) (rn_slice_l tbOk hA 1 rfl rfl rfl rfl rfl rfl (by rfl) (by omega)) ?_; clear hA; intro a hA
  replace hS := hS.front 1 (C := D8) (L' := C13 :: C7 :: C3 :: F) rfl rfl
  refine st_call0 hA rfl rfl rfl isfn10 rfl rfl (by decide) (join10 hS (ps := (ps.take ps.length).drop 1) (fun w' h => ((hOC7.rd (h.own_ 2 rfl)).rslv encPacket_ok 1 ps.length c10 (by omega) (by omega) (by omega) (by omega))) (fun x hx => hdd x (List.mem_of_mem_take (List.mem_of_mem_drop hx)))) ?_
  clear hA hS; rintro _ w17 a ⟨C19, v18, ou22, hO19, hjC19, hS⟩ hA
  obtain ⟨A20, c21, rfl, hmc21, hxc21⟩ := hO19.open'
  obtain ⟨-, rfl, rfl⟩ := hjC19.resolve_left (fun h => (fun h9 => by have h8 := h9 0 _ _ (show ((ps.take ps.length).drop 1)[0]? = some _ by rw [List.take_length, List.getElem?_drop]; exact hp1) (show ((ps.take ps.length).drop 1)[0]? = some _ by rw [List.take_length, List.getElem?_drop]; exact hp1); unfold fits at h8; dsimp only at h8; omega) h.1)
  refine st_run tbOk 5 hA (e' := (6, .bool false) :: (5, .slice A20 (([] : List UInt8).length) c21) :: (30, .bool false) :: (29, .slice A20 (([] : List UInt8).length) c21) :: (25, .tuple #[.slice A20 (([] : List UInt8).length) c21, .bool false]) :: _) rfl ?_; clear hA; intro a hA
  refine wpList_nil ?_
  replace hA := hA.sel [1, 3, 4, 6] (e' := [(1, .slice A9 ps.length c10), (3, .slice A14 ((cat ps ps.length).length) c15), (4, .bool (decide (((ps.length : Nat) : Int) > 0))), (6, .bool false)]) rfl
  refine xt_norm ?_
  refine wp_seq ?_
  refine wp_region_lit ?_
  refine st_run tbOk 1 hA (e' := (31, .slice A9 ps.length c10) :: _) rfl ?_; clear hA; intro a hA
  obtain ⟨b23, o24, rfl⟩ := hOC7.isSome (k := 1) (by omega)
  refine st_val hA rfl rfl (by decide) (rn_indexAddr tbOk hA 1 (o24 + 6) rfl rfl rfl rfl rfl rfl (by rfl) (by omega) (by first | rfl | simp [Nat.mul_one, Nat.zero_add] | omega)) ?_; clear hA; intro a hA
  refine st_run tbOk 1 hA (e' := (33, .pointer (some ⟨b23, o24 + 6 + 5, none⟩)) :: _) rfl ?_; clear hA; intro a hA
  refine st_val hA rfl rfl (by decide) (rn_load tbOk hA rfl rfl rfl rfl ((hOC7.rd (hS.own_ 3 rfl)).elemf (k := 1) encPacket_ok hp1 (j := 5) rfl)) ?_; clear hA; intro a hA
  refine st_val hA rfl rfl (by decide) (rn_bstr tbOk hA (bs := (piece ([97, 98, 99] : List UInt8) 2 1)) rfl rfl rfl rfl rfl rfl rfl rfl (hdp _ (hS.only 1 rfl))) ?_; clear hA; intro a hA
  refine st_run tbOk 1 hA (e' := (36, .bool ((bsv (piece ([97, 98, 99] : List UInt8) 2 1)).toList == (⟨#[99]⟩ : ByteArray).toList)) :: _) rfl ?_; clear hA; intro a hA
  replace hA := hA.rw 36 (v' := .bool true) rfl (congrArg Value.bool (by first | rfl | (rw [show (⟨#[99]⟩ : ByteArray) = bsv [99] from rfl, bsv_eq]; decide)))
  refine st_run tbOk 2 hA (e' := (38, .slice (some ⟨b23, o24, none⟩) ps.length c10) :: (37, .bool true) :: _) rfl ?_; clear hA; intro a hA
  refine st_val hA rfl rfl (by decide) (rn_indexAddr tbOk hA 1 (o24 + 6) rfl rfl rfl rfl rfl rfl (by rfl) (by omega) (by first | rfl | simp [Nat.mul_one, Nat.zero_add] | omega)) ?_; clear hA; intro a hA
  refine st_run tbOk 1 hA (e' := (40, .pointer (some ⟨b23, o24 + 6 + 4, none⟩)) :: _) rfl ?_; clear hA; intro a hA
  refine st_val hA rfl rfl (by decide) (rn_load tbOk hA rfl rfl rfl rfl ((hOC7.rd (hS.own_ 3 rfl)).elemf (k := 1) encPacket_ok hp1 (j := 4) rfl)) ?_; clear hA; intro a hA
  refine st_run tbOk 1 hA (e' := (42, .bool (((nP ([97, 98, 99] : List UInt8) 2 : Nat) : Int) == 2)) :: _) rfl ?_; clear hA; intro a hA
  replace hA := hA.rw 42 (v' := .bool true) rfl (congrArg Value.bool (by decide))
  refine st_run tbOk 3 hA (e' := (45, .slice A14 ((cat ps ps.length).length) c15) :: (44, .bool true) :: (43, .bool true) :: _) rfl ?_; clear hA; intro a hA
  refine st_val hA rfl rfl (by decide) (rn_bstr tbOk hA (bs := cat ps ps.length) rfl rfl rfl rfl rfl rfl rfl rfl (hO13.rd (hS.own_ 2 rfl))) ?_; clear hA; intro a hA
  refine st_run tbOk 1 hA (e' := (47, .bool ((bsv (cat ps ps.length)).toList == (⟨#[97, 98, 99]⟩ : ByteArray).toList)) :: _) rfl ?_; clear hA; intro a hA
  replace hA := hA.rw 47 (v' := .bool true) rfl (congrArg Value.bool (by rw [show (⟨#[97, 98, 99]⟩ : ByteArray) = bsv [97, 98, 99] from rfl, bsv_eq, decide_eq_true_eq]; exact cat_all (by decide) hpl hpk))
  refine st_run tbOk 5 hA (e' := (52, .bool (decide (((ps.length : Nat) : Int) > 0))) :: (51, .bool (decide (((ps.length : Nat) : Int) > 0))) :: (50, .bool (decide (((ps.length : Nat) : Int) > 0))) :: (49, .bool true) :: (48, .bool true) :: _) rfl ?_; clear hA; intro a hA
  by_cases hc25 : ((ps.length : Nat) : Int) > 0
  · first
    | (exfalso; omega)
    | (replace hA := hA.rw 4 (v' := .bool true) rfl (vb_true hc25)
       replace hA := hA.rw 50 (v' := .bool true) rfl (vb_true hc25)
       replace hA := hA.rw 51 (v' := .bool true) rfl (vb_true hc25)
       replace hA := hA.rw 52 (v' := .bool true) rfl (vb_true hc25)
       refine st_run tbOk 4 hA (e' := (0, .bool true) :: (55, .bool true) :: (54, .bool true) :: (53, .bool false) :: _) rfl ?_; clear hA; intro a hA
       refine wpList_nil ?_
       replace hA := hA.sel [0] (e' := [(0, .bool true)]) rfl
       refine xt_norm ?_
       refine wp_ret ?_
       refine ret1 (fn := Tryd.f5) hA rfl rfl ?_
       replace hS := hS.drop1
       replace hS := hS.drop1
       replace hS := hS.drop1
       replace hS := hS.drop1
       replace hS := hS.drop1
       exact ⟨rfl, hS⟩)
  · first
    | (exfalso; omega)
    | (replace hA := hA.rw 4 (v' := .bool false) rfl (vb_false hc25)
       replace hA := hA.rw 50 (v' := .bool false) rfl (vb_false hc25)
       replace hA := hA.rw 51 (v' := .bool false) rfl (vb_false hc25)
       replace hA := hA.rw 52 (v' := .bool false) rfl (vb_false hc25)
       refine st_run tbOk 4 hA (e' := (0, .bool false) :: (55, .bool false) :: (54, undef) :: (53, undef) :: _) rfl ?_; clear hA; intro a hA
       refine wpList_nil ?_
       replace hA := hA.sel [0] (e' := [(0, .bool false)]) rfl
       refine xt_norm ?_
       refine wp_ret ?_
       refine ret1 (fn := Tryd.f5) hA rfl rfl ?_
       exfalso; omega)

theorem upd_setCell {w : World} {b : Nat} {x v : Value} {T : TypeId} (hb : w.heap[b]? = some (rowO [x] T)) : Upd w (w.setCell ⟨b, 0, none⟩ v) b (rowO [v] T) := by
  refine ⟨rfl, rfl, rfl, by simp [World.setCell], ?_, fun k _ hk => RowKit.Below.heap_setCell w _ _ k hk⟩
  simp only [World.setCell, Array.getElem?_modify, if_true, hb]
  rfl
/-- What the listed variable holds, in the world that the law begins in. -/
def HG (w : World) : Prop := w.cell? ⟨0, 0, none⟩ = some (.iface 56 (.agg #[.pointer (some ⟨1, 27, none⟩)]))
theorem asHit {w0 w : World} {F : List Chunk} {b : Nat} {x : Value} (hS : St w0 w ([(b, rowO [x] 30)] :: F)) (hg : HG w0) (n : Int) :
    Ret Tryd.prog 11 #[.iface 30 (.int .i64 n), .iface 42 (.pointer (some ⟨b, 0, none⟩))] w (fun v w' => v = .bool true ∧ St w0 w' ([(b, rowO [.int .i64 n] 30)] :: F)) := by
  have hb := hS.heapAt 0 rfl
  refine Calls.mono (as_hit n ⟨b, 0, none⟩ x w (hS.old hg) (cell_row hb rfl) (by simp [World.frozen?, hb, rowO])) fun e w' ⟨he, hw⟩ => ⟨_, he, rfl, ?_⟩
  subst hw
  have h4 := (((hS.alloc (.cells #[.pointer (some ⟨b, 0, none⟩)] 42)).alloc (.cells #[.pointer (some ⟨1, 42, none⟩), .pointer (some ⟨w.heap.size, 0, none⟩), .int .u64 150] 46)).alloc (.cells #[.pointer (some ⟨1, 42, none⟩), .pointer (some ⟨w.heap.size, 0, none⟩), .int .u64 150] 46)).alloc (.cells #[.int .i64 n] 30)
  have h5 := h4.drop1.drop1.drop1.drop1
  exact h5.upd (upd_setCell (h5.heapAt 0 rfl))
theorem asNil {w0 w : World} {F : List Chunk} (hS : St w0 w F) (t : Value) :
    Ret Tryd.prog 11 #[.nilIface, t] w (fun v w' => v = .bool false ∧ St w0 w' F) :=
  Calls.mono (as_nil t w) fun e w' ⟨he, hw⟩ => ⟨_, he, rfl, hw ▸ hS⟩

theorem number_hit7 {w0 w : World} {F : List Chunk} (hS : St w0 w F) (hg : HG w0) (n : Int) :
    Ret Tryd.prog 7 #[.iface 30 (.int .i64 n)] w (fun v w' => v = .int .i64 n ∧ St w0 w' F) := by
  refine enter (vs := [.iface 30 (.int .i64 n)]) 8 Tryd.func7 rfl rfl (by simp) ?_; intro a hA
  refine wp_seq ?_
  refine wp_region_lit ?_
  refine st_run tbOk 1 hA (e' := (2, .int .i64 0) :: _) rfl ?_; clear hA; intro a hA
  refine wpList_nil ?_
  replace hA := hA.sel [0] (e' := [(0, .iface 30 (.int .i64 n))]) rfl
  refine xt_norm ?_
  refine wp_seq ?_
  refine wp_region_lit ?_
  refine st_alloc tbOk hA hS [.int .i64 0] rfl rfl rfl rfl rfl (by decide) ?_; clear hA hS; intro b1 w2 a hS hA
  refine wpList_nil ?_
  refine xt_norm ?_
  refine wp_seq ?_
  refine wp_seq ?_
  refine wp_region_lit ?_
  refine st_run tbOk 2 hA (e' := (5, .iface 42 (.pointer (some ⟨b1, 0, none⟩))) :: (4, .iface 30 (.int .i64 n)) :: _) rfl ?_; clear hA; intro a hA
  refine st_call0 hA rfl rfl rfl isfn11 rfl rfl (by decide) (asHit hS hg n) ?_
  clear hA hS; rintro v w3 a ⟨rfl, hS⟩ hA
  refine wpList_nil ?_
  replace hA := hA.sel [3, 6] (e' := [(3, .pointer (some ⟨b1, 0, none⟩)), (6, .bool true)]) rfl
  refine xt_norm ?_
  refine cd_cond_t hA rfl ?_
  refine wp_seq ?_
  refine wp_region_lit ?_
  refine st_val hA rfl rfl (by decide) (rn_load tbOk hA rfl rfl rfl rfl (cell_row (hS.heapAt 0 rfl) rfl)) ?_; clear hA; intro a hA
  refine st_run tbOk 1 hA (e' := (2, .int .i64 n) :: _) rfl ?_; clear hA; intro a hA
  refine wpList_nil ?_
  replace hA := hA.sel [2] (e' := [(2, .int .i64 n)]) rfl
  refine xt_norm ?_
  refine wp_ret (xt_ret ?_)
  refine ret1 (fn := Tryd.f7) hA rfl rfl ?_
  replace hS := hS.drop1
  exact ⟨rfl, hS⟩

theorem number_nil7 {w0 w : World} {F : List Chunk} (hS : St w0 w F) (hg : HG w0) :
    Ret Tryd.prog 7 #[.nilIface] w (fun v w' => v = .int .i64 0 ∧ St w0 w' F) := by
  refine enter (vs := [.nilIface]) 8 Tryd.func7 rfl rfl (by simp) ?_; intro a hA
  refine wp_seq ?_
  refine wp_region_lit ?_
  refine st_run tbOk 1 hA (e' := (2, .int .i64 0) :: _) rfl ?_; clear hA; intro a hA
  refine wpList_nil ?_
  replace hA := hA.sel [0] (e' := [(0, .nilIface)]) rfl
  refine xt_norm ?_
  refine wp_seq ?_
  refine wp_region_lit ?_
  refine st_alloc tbOk hA hS [.int .i64 0] rfl rfl rfl rfl rfl (by decide) ?_; clear hA hS; intro b1 w2 a hS hA
  refine wpList_nil ?_
  refine xt_norm ?_
  refine wp_seq ?_
  refine wp_seq ?_
  refine wp_region_lit ?_
  refine st_run tbOk 2 hA (e' := (5, .iface 42 (.pointer (some ⟨b1, 0, none⟩))) :: (4, .nilIface) :: _) rfl ?_; clear hA; intro a hA
  refine st_call0 hA rfl rfl rfl isfn11 rfl rfl (by decide) (asNil hS _) ?_
  clear hA hS; rintro v w3 a ⟨rfl, hS⟩ hA
  refine wpList_nil ?_
  replace hA := hA.sel [3, 6] (e' := [(3, .pointer (some ⟨b1, 0, none⟩)), (6, .bool false)]) rfl
  refine xt_norm ?_
  refine cd_cond_f hA rfl ?_
  refine wp_skip ?_
  refine xt_norm ?_
  refine wp_seq ?_
  refine wp_region_lit ?_
  refine st_run tbOk 1 hA (e' := (2, .int .i64 0) :: _) rfl ?_; clear hA; intro a hA
  refine wpList_nil ?_
  replace hA := hA.sel [2] (e' := [(2, .int .i64 0)]) rfl
  refine xt_norm ?_
  refine wp_ret ?_
  refine ret1 (fn := Tryd.f7) hA rfl rfl ?_
  replace hS := hS.drop1
  exact ⟨rfl, hS⟩

theorem nP_many {l : List UInt8} {s : Nat} (hs : 1 ≤ s) (h : 256 < nP l s) : 256 * s < l.length := by
  have h1 : 257 ≤ (l.length + s - 1) / s := by unfold nP at h; omega
  have h2 := Nat.div_add_mod (l.length + s - 1) s
  have h4 : 257 * s ≤ (l.length + s - 1) / s * s := Nat.mul_le_mul_right s h1
  rw [Nat.mul_comm] at h2
  omega
theorem piece_pos {l : List UInt8} {s i : Nat} (hs : 1 ≤ s) (hn : 1 < nP l s) (hi : i < nP l s) : 0 < (piece l s i).length := by
  have h5 : (i + 1) * s = i * s + s := Nat.succ_mul i s
  rw [piece_len]
  cases i with
  | zero => have := nP_low (i := 0) hs (by omega); rw [Nat.zero_mul] at *; omega
  | succ j => have := nP_low (i := j) hs hi; omega

theorem same15_8 {w0 w : World} {F : List Chunk} (hS : St w0 w F) (x0 x1 x2 x3 x4 y0 y1 y2 y3 y4 : Int) {d1 d2 : Value} {bs cs : List UInt8} (h1 : RdS w0 F 1 d1 bs.length (rows encB bs)) (h2 : RdS w0 F 1 d2 cs.length (rows encB cs)) :
    Ret Tryd.prog 8 #[.agg #[.int .i64 x0, .int .i64 x1, .int .u64 x2, .int .i64 x3, .int .i64 x4, d1], .agg #[.int .i64 y0, .int .i64 y1, .int .u64 y2, .int .i64 y3, .int .i64 y4, d2]] w (fun v w' => v = .bool (decide (x0 = y0 ∧ x1 = y1 ∧ x2 = y2 ∧ x3 = y3 ∧ x4 = y4 ∧ bs = cs)) ∧ St w0 w' F) := by
  obtain ⟨A, c, rfl, hmc, hcx⟩ := (h1 w hS).open'
  obtain ⟨B, d, rfl, hmd, hdx⟩ := (h2 w hS).open'
  refine enter (vs := [.agg #[.int .i64 x0, .int .i64 x1, .int .u64 x2, .int .i64 x3, .int .i64 x4, .slice A bs.length c], .agg #[.int .i64 y0, .int .i64 y1, .int .u64 y2, .int .i64 y3, .int .i64 y4, .slice B cs.length d]]) 47 Tryd.func8 rfl rfl (by simp) ?_; intro a hA
  refine wp_seq ?_
  refine wp_region_lit ?_
  refine st_box hA hS [.int .i64 x0, .int .i64 x1, .int .u64 x2, .int .i64 x3, .int .i64 x4, .slice A bs.length c] rfl rfl rfl rfl rfl (by decide) ?_; clear hA hS; intro b1 w2 a hS hA
  refine st_box hA hS [.int .i64 y0, .int .i64 y1, .int .u64 y2, .int .i64 y3, .int .i64 y4, .slice B cs.length d] rfl rfl rfl rfl rfl (by decide) ?_; clear hA hS; intro b3 w4 a hS hA
  refine st_run tbOk 1 hA (e' := (4, .bool false) :: _) rfl ?_; clear hA; intro a hA
  refine wpList_nil ?_
  replace hA := hA.sel [2, 3] (e' := [(2, .pointer (some ⟨b1, 0, none⟩)), (3, .pointer (some ⟨b3, 0, none⟩))]) rfl
  refine xt_norm ?_
  refine wp_seq ?_
  refine wp_region_lit ?_
  refine st_run tbOk 1 hA (e' := (5, .pointer (some ⟨b1, 0, none⟩)) :: _) rfl ?_; clear hA; intro a hA
  refine st_val hA rfl rfl (by decide) (rn_load tbOk hA rfl rfl rfl rfl (cell_row (hS.heapAt 1 rfl) rfl)) ?_; clear hA; intro a hA
  refine st_run tbOk 1 hA (e' := (7, .pointer (some ⟨b3, 0, none⟩)) :: _) rfl ?_; clear hA; intro a hA
  refine st_val hA rfl rfl (by decide) (rn_load tbOk hA rfl rfl rfl rfl (cell_row (hS.heapAt 0 rfl) rfl)) ?_; clear hA; intro a hA
  refine st_run tbOk 2 hA (e' := (10, .bool (x0 == y0)) :: (9, .bool (x0 == y0)) :: _) rfl ?_; clear hA; intro a hA
  by_cases hc5 : x0 = y0
  · replace hA := hA.rw 9 (v' := .bool true) rfl (vb_eq_t hc5)
    replace hA := hA.rw 10 (v' := .bool true) rfl (vb_eq_t hc5)
    refine st_run tbOk 1 hA (e' := (11, .pointer (some ⟨b1, 1, none⟩)) :: _) rfl ?_; clear hA; intro a hA
    refine st_val hA rfl rfl (by decide) (rn_load tbOk hA rfl rfl rfl rfl (cell_row (hS.heapAt 1 rfl) rfl)) ?_; clear hA; intro a hA
    refine st_run tbOk 1 hA (e' := (13, .pointer (some ⟨b3, 1, none⟩)) :: _) rfl ?_; clear hA; intro a hA
    refine st_val hA rfl rfl (by decide) (rn_load tbOk hA rfl rfl rfl rfl (cell_row (hS.heapAt 0 rfl) rfl)) ?_; clear hA; intro a hA
    refine st_run tbOk 3 hA (e' := (17, .bool (x1 == y1)) :: (16, .bool (x1 == y1)) :: (15, .bool (x1 == y1)) :: _) rfl ?_; clear hA; intro a hA
    by_cases hc6 : x1 = y1
    · replace hA := hA.rw 15 (v' := .bool true) rfl (vb_eq_t hc6)
      replace hA := hA.rw 16 (v' := .bool true) rfl (vb_eq_t hc6)
      replace hA := hA.rw 17 (v' := .bool true) rfl (vb_eq_t hc6)
      refine st_run tbOk 1 hA (e' := (18, .pointer (some ⟨b1, 2, none⟩)) :: _) rfl ?_; clear hA; intro a hA
      refine st_val hA rfl rfl (by decide) (rn_load tbOk hA rfl rfl rfl rfl (cell_row (hS.heapAt 1 rfl) rfl)) ?_; clear hA; intro a hA
      refine st_run tbOk 1 hA (e' := (20, .pointer (some ⟨b3, 2, none⟩)) :: _) rfl ?_; clear hA; intro a hA
      refine st_val hA rfl rfl (by decide) (rn_load tbOk hA rfl rfl rfl rfl (cell_row (hS.heapAt 0 rfl) rfl)) ?_; clear hA; intro a hA
      refine st_run tbOk 3 hA (e' := (24, .bool (x2 == y2)) :: (23, .bool (x2 == y2)) :: (22, .bool (x2 == y2)) :: _) rfl ?_; clear hA; intro a hA
      by_cases hc7 : x2 = y2
      · replace hA := hA.rw 22 (v' := .bool true) rfl (vb_eq_t hc7)
        replace hA := hA.rw 23 (v' := .bool true) rfl (vb_eq_t hc7)
        replace hA := hA.rw 24 (v' := .bool true) rfl (vb_eq_t hc7)
        refine st_run tbOk 1 hA (e' := (25, .pointer (some ⟨b1, 3, none⟩)) :: _) rfl ?_; clear hA; intro a hA
        refine st_val hA rfl rfl (by decide) (rn_load tbOk hA rfl rfl rfl rfl (cell_row (hS.heapAt 1 rfl) rfl)) ?_; clear hA; intro a hA
        refine st_run tbOk 1 hA (e' := (27, .pointer (some ⟨b3, 3, none⟩)) :: _) rfl ?_; clear hA; intro a hA
        refine st_val hA rfl rfl (by decide) (rn_load tbOk hA rfl rfl rfl rfl (cell_row (hS.heapAt 0 rfl) rfl)) ?_; clear hA; intro a hA
        refine st_run tbOk 3 hA (e' := (31, .bool (x3 == y3)) :: (30, .bool (x3 == y3)) :: (29, .bool (x3 == y3)) :: _) rfl ?_; clear hA; intro a hA
        by_cases hc8 : x3 = y3
        · replace hA := hA.rw 29 (v' := .bool true) rfl (vb_eq_t hc8)
          replace hA := hA.rw 30 (v' := .bool true) rfl (vb_eq_t hc8)
          replace hA := hA.rw 31 (v' := .bool true) rfl (vb_eq_t hc8)
          refine st_run tbOk 1 hA (e' := (32, .pointer (some ⟨b1, 4, none⟩)) :: _) rfl ?_; clear hA; intro a hA
          refine st_val hA rfl rfl (by decide) (rn_load tbOk hA rfl rfl rfl rfl (cell_row (hS.heapAt 1 rfl) rfl)) ?_; clear hA; intro a hA
          refine st_run tbOk 1 hA (e' := (34, .pointer (some ⟨b3, 4, none⟩)) :: _) rfl ?_; clear hA; intro a hA
          refine st_val hA rfl rfl (by decide) (rn_load tbOk hA rfl rfl rfl rfl (cell_row (hS.heapAt 0 rfl) rfl)) ?_; clear hA; intro a hA
          refine st_run tbOk 3 hA (e' := (38, .bool (x4 == y4)) :: (37, .bool (x4 == y4)) :: (36, .bool (x4 == y4)) :: _) rfl ?_; clear hA; intro a hA
          by_cases hc9 : x4 = y4
          · replace hA := hA.rw 36 (v' := .bool true) rfl (vb_eq_t hc9)
            replace hA := hA.rw 37 (v' := .bool true) rfl (vb_eq_t hc9)
            replace hA := hA.rw 38 (v' := .bool true) rfl (vb_eq_t hc9)
            refine st_run tbOk 1 hA (e' := (39, .pointer (some ⟨b1, 5, none⟩)) :: _) rfl ?_; clear hA; intro a hA
            refine st_val hA rfl rfl (by decide) (rn_load tbOk hA rfl rfl rfl rfl (cell_row (hS.heapAt 1 rfl) rfl)) ?_; clear hA; intro a hA
            refine st_val hA rfl rfl (by decide) (rn_bstr tbOk hA (bs := bs) rfl rfl rfl rfl rfl rfl rfl rfl (h1 _ (hS.tail 2 rfl))) ?_; clear hA; intro a hA
            refine st_run tbOk 1 hA (e' := (42, .pointer (some ⟨b3, 5, none⟩)) :: _) rfl ?_; clear hA; intro a hA
            refine st_val hA rfl rfl (by decide) (rn_load tbOk hA rfl rfl rfl rfl (cell_row (hS.heapAt 0 rfl) rfl)) ?_; clear hA; intro a hA
            refine st_val hA rfl rfl (by decide) (rn_bstr tbOk hA (bs := cs) rfl rfl rfl rfl rfl rfl rfl rfl (h2 _ (hS.tail 2 rfl))) ?_; clear hA; intro a hA
            refine st_run tbOk 1 hA (e' := (45, .bool ((bsv bs).toList == (bsv cs).toList)) :: _) rfl ?_; clear hA; intro a hA
            replace hA := hA.rw 45 (v' := .bool (decide (bs = cs))) rfl (congrArg Value.bool (bsv_eq _ _))
            refine st_run tbOk 2 hA (e' := (4, .bool (decide (bs = cs))) :: (46, .bool (decide (bs = cs))) :: _) rfl ?_; clear hA; intro a hA
            refine wpList_nil ?_
            replace hA := hA.sel [4] (e' := [(4, .bool (decide (bs = cs)))]) rfl
            refine xt_norm ?_
            refine wp_ret ?_
            refine ret1 (fn := Tryd.f8) hA rfl rfl ?_
            replace hS := hS.drop1
            replace hS := hS.drop1
            exact ⟨congrArg Value.bool (decide_eq_decide.2 ⟨fun h => ⟨by assumption, by assumption, by assumption, by assumption, by assumption, h⟩, fun h => h.2.2.2.2.2⟩), hS⟩
          · replace hA := hA.rw 36 (v' := .bool false) rfl (vb_eq_f hc9)
            replace hA := hA.rw 37 (v' := .bool false) rfl (vb_eq_f hc9)
            replace hA := hA.rw 38 (v' := .bool false) rfl (vb_eq_f hc9)
            refine st_run tbOk 7 hA (e' := (45, undef) :: (44, undef) :: (43, undef) :: (42, undef) :: (41, undef) :: (40, undef) :: (39, undef) :: _) rfl ?_; clear hA; intro a hA
            refine st_run tbOk 2 hA (e' := (4, .bool false) :: (46, .bool false) :: _) rfl ?_; clear hA; intro a hA
            refine wpList_nil ?_
            replace hA := hA.sel [4] (e' := [(4, .bool false)]) rfl
            refine xt_norm ?_
            refine wp_ret ?_
            refine ret1 (fn := Tryd.f8) hA rfl rfl ?_
            replace hS := hS.drop1
            replace hS := hS.drop1
            exact ⟨congrArg Value.bool (decide_eq_false (fun h => by first | exact absurd h.1 (by assumption) | exact absurd h.2.1 (by assumption) | exact absurd h.2.2.1 (by assumption) | exact absurd h.2.2.2.1 (by assumption) | exact absurd h.2.2.2.2.1 (by assumption) | exact absurd h.2.2.2.2.2 (by assumption))).symm, hS⟩
        · replace hA := hA.rw 29 (v' := .bool false) rfl (vb_eq_f hc8)
          replace hA := hA.rw 30 (v' := .bool false) rfl (vb_eq_f hc8)
          replace hA := hA.rw 31 (v' := .bool false) rfl (vb_eq_f hc8)
          refine st_run tbOk 14 hA (e' := (45, undef) :: (44, undef) :: (43, undef) :: (42, undef) :: (41, undef) :: (40, undef) :: (39, undef) :: (38, .bool false) :: (37, .bool false) :: (36, undef) :: (35, undef) :: (34, undef) :: (33, undef) :: (32, undef) :: _) rfl ?_; clear hA; intro a hA
          refine st_run tbOk 2 hA (e' := (4, .bool false) :: (46, .bool false) :: _) rfl ?_; clear hA; intro a hA
          refine wpList_nil ?_
          replace hA := hA.sel [4] (e' := [(4, .bool false)]) rfl
          refine xt_norm ?_
          refine wp_ret ?_
          refine ret1 (fn := Tryd.f8) hA rfl rfl ?_
          replace hS := hS.drop1
          replace hS := hS.drop1
          exact ⟨congrArg Value.bool (decide_eq_false (fun h => by first | exact absurd h.1 (by assumption) | exact absurd h.2.1 (by assumption) | exact absurd h.2.2.1 (by assumption) | exact absurd h.2.2.2.1 (by assumption) | exact absurd h.2.2.2.2.1 (by assumption) | exact absurd h.2.2.2.2.2 (by assumption))).symm, hS⟩
      · replace hA := hA.rw 22 (v' := .bool false) rfl (vb_eq_f hc7)
        replace hA := hA.rw 23 (v' := .bool false) rfl (vb_eq_f hc7)
        replace hA := hA.rw 24 (v' := .bool false) rfl (vb_eq_f hc7)
        refine st_run tbOk 21 hA (e' := (45, undef) :: (44, undef) :: (43, undef) :: (42, undef) :: (41, undef) :: (40, undef) :: (39, undef) :: (38, .bool false) :: (37, .bool false) :: (36, undef) :: (35, undef) :: (34, undef) :: (33, undef) :: (32, undef) :: (31, .bool false) :: (30, .bool false) :: (29, undef) :: (28, undef) :: (27, undef) :: (26, undef) :: (25, undef) :: _) rfl ?_; clear hA; intro a hA
        refine st_run tbOk 2 hA (e' := (4, .bool false) :: (46, .bool false) :: _) rfl ?_; clear hA; intro a hA
        refine wpList_nil ?_
        replace hA := hA.sel [4] (e' := [(4, .bool false)]) rfl
        refine xt_norm ?_
        refine wp_ret ?_
        refine ret1 (fn := Tryd.f8) hA rfl rfl ?_
        replace hS := hS.drop1
        replace hS := hS.drop1
        exact ⟨congrArg Value.bool (decide_eq_false (fun h => by first | exact absurd h.1 (by assumption) | exact absurd h.2.1 (by assumption) | exact absurd h.2.2.1 (by assumption) | exact absurd h.2.2.2.1 (by assumption) | exact absurd h.2.2.2.2.1 (by assumption) | exact absurd h.2.2.2.2.2 (by assumption))).symm, hS⟩
    · replace hA := hA.rw 15 (v' := .bool false) rfl (vb_eq_f hc6)
      replace hA := hA.rw 16 (v' := .bool false) rfl (vb_eq_f hc6)
      replace hA := hA.rw 17 (v' := .bool false) rfl (vb_eq_f hc6)
      refine st_run tbOk 28 hA (e' := (45, undef) :: (44, undef) :: (43, undef) :: (42, undef) :: (41, undef) :: (40, undef) :: (39, undef) :: (38, .bool false) :: (37, .bool false) :: (36, undef) :: (35, undef) :: (34, undef) :: (33, undef) :: (32, undef) :: (31, .bool false) :: (30, .bool false) :: (29, undef) :: (28, undef) :: (27, undef) :: (26, undef) :: (25, undef) :: (24, .bool false) :: (23, .bool false) :: (22, undef) :: (21, undef) :: (20, undef) :: (19, undef) :: (18, undef) :: _) rfl ?_; clear hA; intro a hA
      refine st_run tbOk 2 hA (e' := (4, .bool false) :: (46, .bool false) :: _) rfl ?_; clear hA; intro a hA
      refine wpList_nil ?_
      replace hA := hA.sel [4] (e' := [(4, .bool false)]) rfl
      refine xt_norm ?_
      refine wp_ret ?_
      refine ret1 (fn := Tryd.f8) hA rfl rfl ?_
      replace hS := hS.drop1
      replace hS := hS.drop1
      exact ⟨congrArg Value.bool (decide_eq_false (fun h => by first | exact absurd h.1 (by assumption) | exact absurd h.2.1 (by assumption) | exact absurd h.2.2.1 (by assumption) | exact absurd h.2.2.2.1 (by assumption) | exact absurd h.2.2.2.2.1 (by assumption) | exact absurd h.2.2.2.2.2 (by assumption))).symm, hS⟩
  · replace hA := hA.rw 9 (v' := .bool false) rfl (vb_eq_f hc5)
    replace hA := hA.rw 10 (v' := .bool false) rfl (vb_eq_f hc5)
    refine st_run tbOk 35 hA (e' := (45, undef) :: (44, undef) :: (43, undef) :: (42, undef) :: (41, undef) :: (40, undef) :: (39, undef) :: (38, .bool false) :: (37, .bool false) :: (36, undef) :: (35, undef) :: (34, undef) :: (33, undef) :: (32, undef) :: (31, .bool false) :: (30, .bool false) :: (29, undef) :: (28, undef) :: (27, undef) :: (26, undef) :: (25, undef) :: (24, .bool false) :: (23, .bool false) :: (22, undef) :: (21, undef) :: (20, undef) :: (19, undef) :: (18, undef) :: (17, .bool false) :: (16, .bool false) :: (15, undef) :: (14, undef) :: (13, undef) :: (12, undef) :: (11, undef) :: _) rfl ?_; clear hA; intro a hA
    refine st_run tbOk 2 hA (e' := (4, .bool false) :: (46, .bool false) :: _) rfl ?_; clear hA; intro a hA
    refine wpList_nil ?_
    replace hA := hA.sel [4] (e' := [(4, .bool false)]) rfl
    refine xt_norm ?_
    refine wp_ret ?_
    refine ret1 (fn := Tryd.f8) hA rfl rfl ?_
    replace hS := hS.drop1
    replace hS := hS.drop1
    exact ⟨congrArg Value.bool (decide_eq_false (fun h => by first | exact absurd h.1 (by assumption) | exact absurd h.2.1 (by assumption) | exact absurd h.2.2.1 (by assumption) | exact absurd h.2.2.2.1 (by assumption) | exact absurd h.2.2.2.2.1 (by assumption) | exact absurd h.2.2.2.2.2 (by assumption))).symm, hS⟩

theorem back4 {w0 w : World} {F : List Chunk} (hS : St w0 w F) (hg : HG w0) {v : Value} {l : List UInt8} (hr : RdS w0 F 1 v l.length (rows encB l)) (hb : l.length * 1 ≤ 140737488351232) (a1 id : Int) (h1 : 0 ≤ a1) (hb1 : a1 < 65536) :
    Ret Tryd.prog 4 #[v, .int .u16 a1, .int .u64 id] w (fun v w' => v = .bool true ∧ St w0 w' F) := by
  obtain ⟨g, rfl⟩ := Int.eq_ofNat_of_zero_le h1
  obtain ⟨A, c, rfl, hmc, hcx⟩ := (hr w hS).open'
  refine enter (vs := [.slice A l.length c, .int .u16 ((g : Nat) : Int), .int .u64 id]) 46 Tryd.func4 rfl rfl (by simp) ?_; intro a hA
  refine wp_seq ?_
  refine wp_region_lit ?_
  refine st_run tbOk 1 hA (e' := (6, .bool false) :: _) rfl ?_; clear hA; intro a hA
  refine wpList_nil ?_
  replace hA := hA.sel [0, 1, 2] (e' := [(0, .slice A l.length c), (1, .int .u16 ((g : Nat) : Int)), (2, .int .u64 id)]) rfl
  refine xt_norm ?_
  refine wp_seq ?_
  refine wp_seq ?_
  refine wp_region_lit ?_
  refine st_call0 hA rfl rfl rfl isfn5 rfl rfl (by decide) (awake5 hS) ?_
  clear hA hS; rintro v w1 a ⟨rfl, hS⟩ hA
  refine st_run tbOk 1 hA (e' := (12, .bool false) :: _) rfl ?_; clear hA; intro a hA
  refine wpList_nil ?_
  replace hA := hA.sel [0, 1, 2, 12] (e' := [(0, .slice A l.length c), (1, .int .u16 ((g : Nat) : Int)), (2, .int .u64 id), (12, .bool false)]) rfl
  refine xt_norm ?_
  refine cd_cond_f hA rfl ?_
  refine wp_skip ?_
  refine xt_norm ?_
  refine wp_seq ?_
  refine wp_region_lit ?_
  refine st_run tbOk 4 hA (e' := (17, .int .i64 (IntKind.i64.wrap ((g : Nat) : Int))) :: (16, .int .u16 ((g : Nat) : Int)) :: (15, .int .u64 id) :: (14, .slice A l.length c) :: _) rfl ?_; clear hA; intro a hA
  replace hA := hA.rw 17 (v' := .int .i64 ((g : Nat) : Int)) rfl (wr64 (by rfl) (by omega) (by omega))
  refine st_run tbOk 1 hA (e' := (18, .int .i64 (((g : Nat) : Int).tmod 2000)) :: _) rfl ?_; clear hA; intro a hA
  replace hA := hA.rw 18 (v' := .int .i64 ((g % 2000 : Nat) : Int)) rfl (vint (Int.ofNat_tmod _ _).symm)
  refine st_run tbOk 1 hA (e' := (19, .int .i64 (IntKind.i64.wrap (1 + ((g % 2000 : Nat) : Int)))) :: _) rfl ?_; clear hA; intro a hA
  replace hA := hA.rw 19 (v' := .int .i64 ((1 + (g % 2000) : Nat) : Int)) rfl (wr64 (by omega) (by omega) (by omega))
  obtain ⟨s, hs⟩ : ∃ s, s = 1 + g % 2000 := ⟨_, rfl⟩
  replace hA := hA.rw 19 (v' := .int .i64 ((s : Nat) : Int)) rfl (by rw [hs])
  rcases Nat.lt_or_ge 256 (nP l s) with h3 | h3
  · have h9 := nP_many (by omega) h3
    refine st_call0 hA rfl rfl rfl isfn6 rfl rfl (by decide) (split_many6 hS (l := l) (fun w' h => (hr _ h)) 0 1 id s (by omega) (by omega) h3 (by omega)) ?_
    clear hA hS; rintro v w2 a ⟨rfl, hS⟩ hA
    refine st_run tbOk 5 hA (e' := (8, .iface 30 (.int .i64 13)) :: (7, .slice none 0 0) :: (22, .iface 30 (.int .i64 13)) :: (21, .slice none 0 0) :: (13, .tuple #[.slice none 0 0, .iface 30 (.int .i64 13)]) :: _) rfl ?_; clear hA; intro a hA
    refine wpList_nil ?_
    replace hA := hA.sel [0, 7, 8] (e' := [(0, .slice A l.length c), (7, .slice none 0 0), (8, .iface 30 (.int .i64 13))]) rfl
    refine xt_norm ?_
    refine wp_seq ?_
    refine wp_seq ?_
    refine wp_region_lit ?_
    refine st_run tbOk 2 hA (e' := (24, .bool true) :: (23, .iface 30 (.int .i64 13)) :: _) rfl ?_; clear hA; intro a hA
    refine wpList_nil ?_
    replace hA := hA.sel [0, 7, 8, 24] (e' := [(0, .slice A l.length c), (7, .slice none 0 0), (8, .iface 30 (.int .i64 13)), (24, .bool true)]) rfl
    refine xt_norm ?_
    refine cd_cond_t hA rfl ?_
    refine wp_seq ?_
    refine wp_region_lit ?_
    refine st_run tbOk 1 hA (e' := (25, .iface 30 (.int .i64 13)) :: _) rfl ?_; clear hA; intro a hA
    refine st_call0 hA rfl rfl rfl isfn7 rfl rfl (by decide) (number_hit7 hS hg 13) ?_
    clear hA hS; rintro v w3 a ⟨rfl, hS⟩ hA
    refine st_run tbOk 7 hA (e' := (6, .bool (decide (((l.length : Nat) : Int) > 256))) :: (32, .bool (decide (((l.length : Nat) : Int) > 256))) :: (31, .bool (decide (((l.length : Nat) : Int) > 256))) :: (30, .int .i64 ((l.length : Nat) : Int)) :: (29, .slice A l.length c) :: (28, .bool true) :: (27, .bool true) :: _) rfl ?_; clear hA; intro a hA
    refine wpList_nil ?_
    replace hA := hA.sel [6] (e' := [(6, .bool (decide (((l.length : Nat) : Int) > 256)))]) rfl
    refine xt_norm ?_
    refine wp_ret (xt_ret ?_)
    refine ret1 (fn := Tryd.f4) hA rfl rfl ?_
    exact ⟨congrArg Value.bool (decide_eq_true (by omega)), hS⟩
  · have hnp := nP_pos l s
    refine st_call0 hA rfl rfl rfl isfn6 rfl rfl (by decide) (split_ok6 hS (l := l) (fun w' h => (hr _ h)) 0 1 id s (by omega) (by omega) h3 (by omega)) ?_
    clear hA hS; rintro _ w4 a ⟨v5, ps, C6, D7, hOC6, hpl, hpk, hdd, rfl, hS⟩ hA
    obtain ⟨A8, c9, rfl, hmc9, hxc9⟩ := hOC6.open'
    refine st_run tbOk 5 hA (e' := (8, .nilIface) :: (7, .slice A8 ps.length c9) :: (22, .nilIface) :: (21, .slice A8 ps.length c9) :: (13, .tuple #[.slice A8 ps.length c9, .nilIface]) :: _) rfl ?_; clear hA; intro a hA
    refine wpList_nil ?_
    replace hA := hA.sel [0, 7, 8] (e' := [(0, .slice A l.length c), (7, .slice A8 ps.length c9), (8, .nilIface)]) rfl
    refine xt_norm ?_
    refine wp_seq ?_
    refine wp_seq ?_
    refine wp_region_lit ?_
    refine st_run tbOk 2 hA (e' := (24, .bool false) :: (23, .nilIface) :: _) rfl ?_; clear hA; intro a hA
    refine wpList_nil ?_
    replace hA := hA.sel [0, 7, 8, 24] (e' := [(0, .slice A l.length c), (7, .slice A8 ps.length c9), (8, .nilIface), (24, .bool false)]) rfl
    refine xt_norm ?_
    refine cd_cond_f hA rfl ?_
    refine wp_skip ?_
    refine xt_norm ?_
    refine wp_seq ?_
    refine wp_region_lit ?_
    refine st_run tbOk 1 hA (e' := (34, .slice A8 ps.length c9) :: _) rfl ?_; clear hA; intro a hA
    replace hS := hS.front 1 (C := D7) (L' := C6 :: F) rfl rfl
    refine st_call0 hA rfl rfl rfl isfn10 rfl rfl (by decide) (join10 hS (ps := ps) (RdS.own hOC6 1 rfl) hdd) ?_
    clear hA hS; rintro _ w10 a ⟨C12, v11, ou15, hO12, hjC12, hS⟩ hA
    obtain ⟨A13, c14, rfl, hmc14, hxc14⟩ := hO12.open'
    obtain ⟨-, rfl, rfl⟩ := hjC12.resolve_right (fun h => h.1 (fun i x p0 hx h0 => fits_split (by omega) hpl h3 hpk i x p0 hx h0))
    refine st_run tbOk 5 hA (e' := (10, .bool (decide (((ps.length : Nat) : Int) > 0))) :: (9, .slice A13 ((cat ps ps.length).length) c14) :: (37, .bool (decide (((ps.length : Nat) : Int) > 0))) :: (36, .slice A13 ((cat ps ps.length).length) c14) :: (33, .tuple #[.slice A13 ((cat ps ps.length).length) c14, .bool (decide (((ps.length : Nat) : Int) > 0))]) :: _) rfl ?_; clear hA; intro a hA
    refine wpList_nil ?_
    replace hA := hA.sel [0, 9, 10] (e' := [(0, .slice A l.length c), (9, .slice A13 ((cat ps ps.length).length) c14), (10, .bool (decide (((ps.length : Nat) : Int) > 0)))]) rfl
    refine xt_norm ?_
    refine wp_seq ?_
    refine wp_region_lit ?_
    refine st_run tbOk 2 hA (e' := (39, .bool (decide (((ps.length : Nat) : Int) > 0))) :: (38, .bool (decide (((ps.length : Nat) : Int) > 0))) :: _) rfl ?_; clear hA; intro a hA
    by_cases hc16 : ((ps.length : Nat) : Int) > 0
    · first
      | (exfalso; omega)
      | (replace hA := hA.rw 10 (v' := .bool true) rfl (vb_true hc16)
         replace hA := hA.rw 38 (v' := .bool true) rfl (vb_true hc16)
         replace hA := hA.rw 39 (v' := .bool true) rfl (vb_true hc16)
         refine st_run tbOk 1 hA (e' := (40, .slice A13 ((cat ps ps.length).length) c14) :: _) rfl ?_; clear hA; intro a hA
         refine st_val hA rfl rfl (by decide) (rn_bstr tbOk hA (bs := cat ps ps.length) rfl rfl rfl rfl rfl rfl rfl rfl (hO12.rd (hS.own_ 0 rfl))) ?_; clear hA; intro a hA
         refine st_run tbOk 1 hA (e' := (42, .slice A l.length c) :: _) rfl ?_; clear hA; intro a hA
         refine st_val hA rfl rfl (by decide) (rn_bstr tbOk hA (bs := l) rfl rfl rfl rfl rfl rfl rfl rfl (hr _ (hS.tail 3 rfl))) ?_; clear hA; intro a hA
         refine st_run tbOk 1 hA (e' := (44, .bool ((bsv (cat ps ps.length)).toList == (bsv l).toList)) :: _) rfl ?_; clear hA; intro a hA
         replace hA := hA.rw 44 (v' := .bool true) rfl (congrArg Value.bool (by rw [bsv_eq, decide_eq_true_eq]; exact cat_all (by omega) hpl hpk))
         refine st_run tbOk 2 hA (e' := (6, .bool true) :: (45, .bool true) :: _) rfl ?_; clear hA; intro a hA
         refine wpList_nil ?_
         replace hA := hA.sel [6] (e' := [(6, .bool true)]) rfl
         refine xt_norm ?_
         refine wp_ret ?_
         refine ret1 (fn := Tryd.f4) hA rfl rfl ?_
         replace hS := hS.drop1
         replace hS := hS.drop1
         replace hS := hS.drop1
         exact ⟨rfl, hS⟩)
    · first
      | (exfalso; omega)
      | (replace hA := hA.rw 10 (v' := .bool false) rfl (vb_false hc16)
         replace hA := hA.rw 38 (v' := .bool false) rfl (vb_false hc16)
         replace hA := hA.rw 39 (v' := .bool false) rfl (vb_false hc16)
         refine st_run tbOk 5 hA (e' := (44, undef) :: (43, undef) :: (42, undef) :: (41, undef) :: (40, undef) :: _) rfl ?_; clear hA; intro a hA
         replace hA := hA.rw 44 (v' := .bool true) rfl (congrArg Value.bool (by rw [bsv_eq, decide_eq_true_eq]; exact cat_all (by omega) hpl hpk))
         refine st_run tbOk 2 hA (e' := (6, .bool false) :: (45, .bool false) :: _) rfl ?_; clear hA; intro a hA
         refine wpList_nil ?_
         replace hA := hA.sel [6] (e' := [(6, .bool false)]) rfl
         refine xt_norm ?_
         refine wp_ret ?_
         refine ret1 (fn := Tryd.f4) hA rfl rfl ?_
         exfalso; omega)

theorem nP_eq (l : List UInt8) {s : Nat} (hs : 1 ≤ s) : (0 < l.length % s ∨ l.length / s = 0 → l.length / s + 1 = nP l s) ∧ (¬ (0 < l.length % s ∨ l.length / s = 0) → l.length / s = nP l s) := by
  have h2 := Nat.div_add_mod l.length s
  have h3 := Nat.mod_lt l.length (show 0 < s by omega)
  generalize hq : l.length / s = q at *
  generalize hr : l.length % s = r at *
  have e : (l.length + s - 1) / s = if r = 0 then q else q + 1 := by
    split
    · rename_i h0
      subst h0
      rw [show l.length + s - 1 = (s - 1) + s * q by omega, Nat.add_mul_div_left _ _ (by omega), Nat.div_eq_of_lt (by omega)]; omega
    · rw [show l.length + s - 1 = (r - 1) + s * (q + 1) by rw [Nat.mul_succ]; omega, Nat.add_mul_div_left _ _ (by omega), Nat.div_eq_of_lt (by omega)]; omega
  unfold nP
  rw [e]
  by_cases h0 : r = 0
  · simp only [h0, if_true]; omega
  · simp only [h0, if_false]; omega
theorem low_le {l : List UInt8} {s k : Nat} (hs : 1 ≤ s) (hk : k < nP l s) : k * s ≤ l.length := by
  cases k with
  | zero => omega
  | succ j => have := nP_low (i := j) hs hk; omega
theorem splitLaw3 {w0 w : World} {F : List Chunk} (hS : St w0 w F) (hg : HG w0) {v : Value} {l : List UInt8} (hr : RdS w0 F 1 v l.length (rows encB l)) (hb : l.length * 1 ≤ 140737488351232) (fr to id z : Int) :
    Ret Tryd.prog 3 #[v, .int .i64 fr, .int .i64 to, .int .u64 id, .int .i64 z] w (fun v w' => v = .bool true ∧ St w0 w' F) := by
  obtain ⟨A, c, rfl, hmc, hcx⟩ := (hr w hS).open'
  refine enter (vs := [.slice A l.length c, .int .i64 fr, .int .i64 to, .int .u64 id, .int .i64 z]) 110 Tryd.func3 rfl rfl (by simp) ?_; intro a hA
  refine wp_seq ?_
  refine wp_region_lit ?_
  refine st_run tbOk 1 hA (e' := (10, .bool false) :: _) rfl ?_; clear hA; intro a hA
  refine wpList_nil ?_
  replace hA := hA.sel [0, 1, 2, 3, 4] (e' := [(0, .slice A l.length c), (1, .int .i64 fr), (2, .int .i64 to), (3, .int .u64 id), (4, .int .i64 z)]) rfl
  refine xt_norm ?_
  refine wp_seq ?_
  refine wp_seq ?_
  refine wp_region_lit ?_
  refine st_call0 hA rfl rfl rfl isfn5 rfl rfl (by decide) (awake5 hS) ?_
  clear hA hS; rintro v w1 a ⟨rfl, hS⟩ hA
  refine st_run tbOk 1 hA (e' := (18, .bool false) :: _) rfl ?_; clear hA; intro a hA
  refine wpList_nil ?_
  replace hA := hA.sel [0, 1, 2, 3, 4, 18] (e' := [(0, .slice A l.length c), (1, .int .i64 fr), (2, .int .i64 to), (3, .int .u64 id), (4, .int .i64 z), (18, .bool false)]) rfl
  refine xt_norm ?_
  refine cd_cond_f hA rfl ?_
  refine wp_skip ?_
  refine xt_norm ?_
  refine wp_seq ?_
  refine wp_region_lit ?_
  refine st_run tbOk 5 hA (e' := (24, .int .i64 z) :: (23, .int .u64 id) :: (22, .int .i64 to) :: (21, .int .i64 fr) :: (20, .slice A l.length c) :: _) rfl ?_; clear hA; intro a hA
  have hcs : (z < 1 ∨ 32768 < z) ∨ (∃ s : Nat, z = ((s : Nat) : Int) ∧ 1 ≤ s ∧ s ≤ 32768 ∧ 256 < nP l s) ∨ (∃ s : Nat, z = ((s : Nat) : Int) ∧ 1 ≤ s ∧ s ≤ 32768 ∧ nP l s ≤ 256) := by
      rcases Int.lt_or_le z 1 with h | h
      · exact .inl (.inl h)
      · rcases Int.lt_or_le 32768 z with h2 | h2
        · exact .inl (.inr h2)
        · rcases Nat.lt_or_ge 256 (nP l z.toNat) with h3 | h3
          · exact .inr (.inl ⟨z.toNat, by omega, by omega, by omega, h3⟩)
          · exact .inr (.inr ⟨z.toNat, by omega, by omega, by omega, h3⟩)
  rcases hcs with h1 | ⟨s, rfl, h1, h2, h3⟩ | ⟨s, rfl, h1, h2, h3⟩
  · refine st_call0 hA rfl rfl rfl isfn6 rfl rfl (by decide) (split_arg6 hS (l := l) (fun w' h => (hr _ h)) fr to id z h1) ?_
    clear hA hS; rintro v w2 a ⟨rfl, hS⟩ hA
    refine st_run tbOk 5 hA (e' := (12, .iface 30 (.int .i64 4)) :: (11, .slice none 0 0) :: (27, .iface 30 (.int .i64 4)) :: (26, .slice none 0 0) :: (19, .tuple #[.slice none 0 0, .iface 30 (.int .i64 4)]) :: _) rfl ?_; clear hA; intro a hA
    refine wpList_nil ?_
    replace hA := hA.sel [0, 1, 2, 3, 4, 11, 12] (e' := [(0, .slice A l.length c), (1, .int .i64 fr), (2, .int .i64 to), (3, .int .u64 id), (4, .int .i64 z), (11, .slice none 0 0), (12, .iface 30 (.int .i64 4))]) rfl
    refine xt_norm ?_
    refine wp_seq ?_
    refine wp_seq ?_
    refine wp_region_lit ?_
    refine st_run tbOk 3 hA (e' := (30, .bool (decide (z < 1))) :: (29, .bool (decide (z < 1))) :: (28, .int .i64 z) :: _) rfl ?_; clear hA; intro a hA
    by_cases hc3 : z < 1
    · first
      | (exfalso; omega)
      | (replace hA := hA.rw 29 (v' := .bool true) rfl (vb_true hc3)
         replace hA := hA.rw 30 (v' := .bool true) rfl (vb_true hc3)
         refine st_run tbOk 3 hA (e' := (33, .bool true) :: (32, undef) :: (31, undef) :: _) rfl ?_; clear hA; intro a hA
         refine wpList_nil ?_
         replace hA := hA.sel [0, 1, 2, 3, 4, 11, 12, 33] (e' := [(0, .slice A l.length c), (1, .int .i64 fr), (2, .int .i64 to), (3, .int .u64 id), (4, .int .i64 z), (11, .slice none 0 0), (12, .iface 30 (.int .i64 4)), (33, .bool true)]) rfl
         refine xt_norm ?_
         refine cd_cond_t hA rfl ?_
         refine wp_seq ?_
         refine wp_region_lit ?_
         refine st_run tbOk 5 hA (e' := (38, .iface 30 (.int .i64 4)) :: (37, .bool true) :: (36, .bool true) :: (35, .int .i64 0) :: (34, .slice none 0 0) :: _) rfl ?_; clear hA; intro a hA
         refine st_call0 hA rfl rfl rfl isfn7 rfl rfl (by decide) (number_hit7 hS hg 4) ?_
         clear hA hS; rintro v w4 a ⟨rfl, hS⟩ hA
         refine st_run tbOk 3 hA (e' := (10, .bool true) :: (41, .bool true) :: (40, .bool true) :: _) rfl ?_; clear hA; intro a hA
         refine wpList_nil ?_
         replace hA := hA.sel [10] (e' := [(10, .bool true)]) rfl
         refine xt_norm ?_
         refine wp_ret (xt_ret ?_)
         refine ret1 (fn := Tryd.f3) hA rfl rfl ?_
         exact ⟨rfl, hS⟩)
    · first
      | (exfalso; omega)
      | (replace hA := hA.rw 29 (v' := .bool false) rfl (vb_false hc3)
         replace hA := hA.rw 30 (v' := .bool false) rfl (vb_false hc3)
         refine st_run tbOk 3 hA (e' := (33, .bool (decide (z > 32768))) :: (32, .bool (decide (z > 32768))) :: (31, .int .i64 z) :: _) rfl ?_; clear hA; intro a hA
         refine wpList_nil ?_
         replace hA := hA.sel [0, 1, 2, 3, 4, 11, 12, 33] (e' := [(0, .slice A l.length c), (1, .int .i64 fr), (2, .int .i64 to), (3, .int .u64 id), (4, .int .i64 z), (11, .slice none 0 0), (12, .iface 30 (.int .i64 4)), (33, .bool (decide (z > 32768)))]) rfl
         refine xt_norm ?_
         by_cases hc5 : z > 32768
         · first
           | (exfalso; omega)
           | (replace hA := hA.rw 33 (v' := .bool true) rfl (vb_true hc5)
              refine cd_cond_t hA rfl ?_
              refine wp_seq ?_
              refine wp_region_lit ?_
              refine st_run tbOk 5 hA (e' := (38, .iface 30 (.int .i64 4)) :: (37, .bool true) :: (36, .bool true) :: (35, .int .i64 0) :: (34, .slice none 0 0) :: _) rfl ?_; clear hA; intro a hA
              refine st_call0 hA rfl rfl rfl isfn7 rfl rfl (by decide) (number_hit7 hS hg 4) ?_
              clear hA hS; rintro v w6 a ⟨rfl, hS⟩ hA
              refine st_run tbOk 3 hA (e' := (10, .bool true) :: (41, .bool true) :: (40, .bool true) :: _) rfl ?_; clear hA; intro a hA
              refine wpList_nil ?_
              replace hA := hA.sel [10] (e' := [(10, .bool true)]) rfl
              refine xt_norm ?_
              refine wp_ret (xt_ret ?_)
              refine ret1 (fn := Tryd.f3) hA rfl rfl ?_
              exact ⟨rfl, hS⟩)
         · first
           | (exfalso; omega)
           | (replace hA := hA.rw 33 (v' := .bool false) rfl (vb_false hc5)
              refine cd_cond_f hA rfl ?_
              refine wp_skip ?_
              refine xt_norm ?_
              refine wp_seq ?_
              refine wp_region_lit ?_
              refine st_run tbOk 3 hA (e' := (44, .int .i64 z) :: (43, .int .i64 ((l.length : Nat) : Int)) :: (42, .slice A l.length c) :: _) rfl ?_; clear hA; intro a hA
              refine st_val hA rfl rfl (by decide) (rn_quo hA rfl rfl rfl (by omega)) ?_; clear hA; intro a hA
              refine st_run tbOk 1 hA (e' := (13, .int .i64 (IntKind.i64.wrap (((l.length : Nat) : Int).tdiv z))) :: _) rfl ?_; clear hA; intro a hA
              refine wpList_nil ?_
              replace hA := hA.sel [0, 1, 2, 3, 4, 11, 12, 13] (e' := [(0, .slice A l.length c), (1, .int .i64 fr), (2, .int .i64 to), (3, .int .u64 id), (4, .int .i64 z), (11, .slice none 0 0), (12, .iface 30 (.int .i64 4)), (13, .int .i64 (IntKind.i64.wrap (((l.length : Nat) : Int).tdiv z)))]) rfl
              refine xt_norm ?_
              exfalso; omega))
  · have hnq := nP_eq l h1
    have hnp := nP_pos l s
    refine st_call0 hA rfl rfl rfl isfn6 rfl rfl (by decide) (split_many6 hS (l := l) (fun w' h => (hr _ h)) fr to id s h1 h2 h3 (by omega)) ?_
    clear hA hS; rintro v w7 a ⟨rfl, hS⟩ hA
    refine st_run tbOk 5 hA (e' := (12, .iface 30 (.int .i64 13)) :: (11, .slice none 0 0) :: (27, .iface 30 (.int .i64 13)) :: (26, .slice none 0 0) :: (19, .tuple #[.slice none 0 0, .iface 30 (.int .i64 13)]) :: _) rfl ?_; clear hA; intro a hA
    refine wpList_nil ?_
    replace hA := hA.sel [0, 1, 2, 3, 4, 11, 12] (e' := [(0, .slice A l.length c), (1, .int .i64 fr), (2, .int .i64 to), (3, .int .u64 id), (4, .int .i64 ((s : Nat) : Int)), (11, .slice none 0 0), (12, .iface 30 (.int .i64 13))]) rfl
    refine xt_norm ?_
    refine wp_seq ?_
    refine wp_seq ?_
    refine wp_region_lit ?_
    refine st_run tbOk 3 hA (e' := (30, .bool (decide (((s : Nat) : Int) < 1))) :: (29, .bool (decide (((s : Nat) : Int) < 1))) :: (28, .int .i64 ((s : Nat) : Int)) :: _) rfl ?_; clear hA; intro a hA
    by_cases hc8 : ((s : Nat) : Int) < 1
    · first
      | (exfalso; omega)
      | (replace hA := hA.rw 29 (v' := .bool true) rfl (vb_true hc8)
         replace hA := hA.rw 30 (v' := .bool true) rfl (vb_true hc8)
         refine st_run tbOk 3 hA (e' := (33, .bool true) :: (32, undef) :: (31, undef) :: _) rfl ?_; clear hA; intro a hA
         refine wpList_nil ?_
         replace hA := hA.sel [0, 1, 2, 3, 4, 11, 12, 33] (e' := [(0, .slice A l.length c), (1, .int .i64 fr), (2, .int .i64 to), (3, .int .u64 id), (4, .int .i64 ((s : Nat) : Int)), (11, .slice none 0 0), (12, .iface 30 (.int .i64 13)), (33, .bool true)]) rfl
         refine xt_norm ?_
         refine cd_cond_t hA rfl ?_
         refine wp_seq ?_
         refine wp_region_lit ?_
         refine st_run tbOk 5 hA (e' := (38, .iface 30 (.int .i64 13)) :: (37, .bool true) :: (36, .bool true) :: (35, .int .i64 0) :: (34, .slice none 0 0) :: _) rfl ?_; clear hA; intro a hA
         refine st_call0 hA rfl rfl rfl isfn7 rfl rfl (by decide) (number_hit7 hS hg 13) ?_
         clear hA hS; rintro v w9 a ⟨rfl, hS⟩ hA
         refine st_run tbOk 3 hA (e' := (10, .bool false) :: (41, .bool false) :: (40, .bool false) :: _) rfl ?_; clear hA; intro a hA
         refine wpList_nil ?_
         replace hA := hA.sel [10] (e' := [(10, .bool false)]) rfl
         refine xt_norm ?_
         refine wp_ret (xt_ret ?_)
         refine ret1 (fn := Tryd.f3) hA rfl rfl ?_
         exfalso; omega)
    · first
      | (exfalso; omega)
      | (replace hA := hA.rw 29 (v' := .bool false) rfl (vb_false hc8)
         replace hA := hA.rw 30 (v' := .bool false) rfl (vb_false hc8)
         refine st_run tbOk 3 hA (e' := (33, .bool (decide (((s : Nat) : Int) > 32768))) :: (32, .bool (decide (((s : Nat) : Int) > 32768))) :: (31, .int .i64 ((s : Nat) : Int)) :: _) rfl ?_; clear hA; intro a hA
         refine wpList_nil ?_
         replace hA := hA.sel [0, 1, 2, 3, 4, 11, 12, 33] (e' := [(0, .slice A l.length c), (1, .int .i64 fr), (2, .int .i64 to), (3, .int .u64 id), (4, .int .i64 ((s : Nat) : Int)), (11, .slice none 0 0), (12, .iface 30 (.int .i64 13)), (33, .bool (decide (((s : Nat) : Int) > 32768)))]) rfl
         refine xt_norm ?_
         by_cases hc10 : ((s : Nat) : Int) > 32768
         · first
           | (exfalso; omega)
           | (replace hA := hA.rw 33 (v' := .bool true) rfl (vb_true hc10)
              refine cd_cond_t hA rfl ?_
              refine wp_seq ?_
              refine wp_region_lit ?_
              refine st_run tbOk 5 hA (e' := (38, .iface 30 (.int .i64 13)) :: (37, .bool true) :: (36, .bool true) :: (35, .int .i64 0) :: (34, .slice none 0 0) :: _) rfl ?_; clear hA; intro a hA
              refine st_call0 hA rfl rfl rfl isfn7 rfl rfl (by decide) (number_hit7 hS hg 13) ?_
              clear hA hS; rintro v w11 a ⟨rfl, hS⟩ hA
              refine st_run tbOk 3 hA (e' := (10, .bool false) :: (41, .bool false) :: (40, .bool false) :: _) rfl ?_; clear hA; intro a hA
              refine wpList_nil ?_
              replace hA := hA.sel [10] (e' := [(10, .bool false)]) rfl
              refine xt_norm ?_
              refine wp_ret (xt_ret ?_)
              refine ret1 (fn := Tryd.f3) hA rfl rfl ?_
              exfalso; omega)
         · first
           | (exfalso; omega)
           | (replace hA := hA.rw 33 (v' := .bool false) rfl (vb_false hc10)
              refine cd_cond_f hA rfl ?_
              refine wp_skip ?_
              refine xt_norm ?_
              refine wp_seq ?_
              refine wp_region_lit ?_
              refine st_run tbOk 3 hA (e' := (44, .int .i64 ((s : Nat) : Int)) :: (43, .int .i64 ((l.length : Nat) : Int)) :: (42, .slice A l.length c) :: _) rfl ?_; clear hA; intro a hA
              refine st_val hA rfl rfl (by decide) (rn_quo hA rfl rfl rfl (by omega)) ?_; clear hA; intro a hA
              have hdv12 := Nat.div_le_self l.length s
              replace hA := hA.rw 45 (v' := .int .i64 ((l.length / s : Nat) : Int)) rfl (wr64 (Int.ofNat_tdiv _ _).symm (Int.le_trans (show (-9223372036854775808 : Int) ≤ 0 by decide) (Int.natCast_nonneg _)) (by omega))
              refine st_run tbOk 1 hA (e' := (13, .int .i64 ((l.length / s : Nat) : Int)) :: _) rfl ?_; clear hA; intro a hA
              refine wpList_nil ?_
              replace hA := hA.sel [0, 1, 2, 3, 4, 11, 12, 13] (e' := [(0, .slice A l.length c), (1, .int .i64 fr), (2, .int .i64 to), (3, .int .u64 id), (4, .int .i64 ((s : Nat) : Int)), (11, .slice none 0 0), (12, .iface 30 (.int .i64 13)), (13, .int .i64 ((l.length / s : Nat) : Int))]) rfl
              refine xt_norm ?_
              refine wp_seq_join (fun a w => Has a 110 [(0, .slice A l.length c), (1, .int .i64 fr), (2, .int .i64 to), (3, .int .u64 id), (4, .int .i64 ((s : Nat) : Int)), (11, .slice none 0 0), (12, .iface 30 (.int .i64 13)), (13, .int .i64 ((nP l s : Nat) : Int))] ∧ St w0 w (F)) ?_ ?_
              · refine wp_seq ?_
                refine wp_region_lit ?_
                refine st_run tbOk 3 hA (e' := (48, .int .i64 ((s : Nat) : Int)) :: (47, .int .i64 ((l.length : Nat) : Int)) :: (46, .slice A l.length c) :: _) rfl ?_; clear hA; intro a hA
                refine st_val hA rfl rfl (by decide) (rn_rem hA rfl rfl rfl (by omega)) ?_; clear hA; intro a hA
                have hmd13 := Nat.mod_lt l.length (show 0 < s by omega)
                replace hA := hA.rw 49 (v' := .int .i64 ((l.length % s : Nat) : Int)) rfl (vint (Int.ofNat_tmod _ _).symm)
                refine st_run tbOk 2 hA (e' := (51, .bool (decide (((l.length % s : Nat) : Int) > 0))) :: (50, .bool (decide (((l.length % s : Nat) : Int) > 0))) :: _) rfl ?_; clear hA; intro a hA
                by_cases hc14 : ((l.length % s : Nat) : Int) > 0
                · first
                  | (exfalso; omega)
                  | (replace hA := hA.rw 50 (v' := .bool true) rfl (vb_true hc14)
                     replace hA := hA.rw 51 (v' := .bool true) rfl (vb_true hc14)
                     refine st_run tbOk 3 hA (e' := (54, .bool true) :: (53, undef) :: (52, undef) :: _) rfl ?_; clear hA; intro a hA
                     refine wpList_nil ?_
                     replace hA := hA.sel [0, 1, 2, 3, 4, 11, 12, 13, 54] (e' := [(0, .slice A l.length c), (1, .int .i64 fr), (2, .int .i64 to), (3, .int .u64 id), (4, .int .i64 ((s : Nat) : Int)), (11, .slice none 0 0), (12, .iface 30 (.int .i64 13)), (13, .int .i64 ((l.length / s : Nat) : Int)), (54, .bool true)]) rfl
                     refine xt_norm ?_
                     refine cd_cond_t hA rfl ?_
                     refine wp_region_lit ?_
                     refine st_run tbOk 2 hA (e' := (56, .int .i64 (IntKind.i64.wrap (((l.length / s : Nat) : Int) + 1))) :: (55, .int .i64 ((l.length / s : Nat) : Int)) :: _) rfl ?_; clear hA; intro a hA
                     replace hA := hA.rw 56 (v' := .int .i64 (((l.length / s) + 1 : Nat) : Int)) rfl (wr64 (by omega) (by omega) (by omega))
                     refine st_run tbOk 1 hA (e' := (13, .int .i64 (((l.length / s) + 1 : Nat) : Int)) :: _) rfl ?_; clear hA; intro a hA
                     refine wpList_nil ?_
                     replace hA := hA.sel [0, 1, 2, 3, 4, 11, 12, 13] (e' := [(0, .slice A l.length c), (1, .int .i64 fr), (2, .int .i64 to), (3, .int .u64 id), (4, .int .i64 ((s : Nat) : Int)), (11, .slice none 0 0), (12, .iface 30 (.int .i64 13)), (13, .int .i64 (((l.length / s) + 1 : Nat) : Int))]) rfl
                     refine xt_norm ?_
                     replace hA := hA.rw 13 (v' := .int .i64 ((nP l s : Nat) : Int)) rfl (vint (by omega))
                     exact ⟨(hA.sel [0, 1, 2, 3, 4, 11, 12, 13] rfl), hS⟩)
                · first
                  | (exfalso; omega)
                  | (replace hA := hA.rw 50 (v' := .bool false) rfl (vb_false hc14)
                     replace hA := hA.rw 51 (v' := .bool false) rfl (vb_false hc14)
                     refine st_run tbOk 3 hA (e' := (54, .bool (((l.length / s : Nat) : Int) == 0)) :: (53, .bool (((l.length / s : Nat) : Int) == 0)) :: (52, .int .i64 ((l.length / s : Nat) : Int)) :: _) rfl ?_; clear hA; intro a hA
                     refine wpList_nil ?_
                     replace hA := hA.sel [0, 1, 2, 3, 4, 11, 12, 13, 54] (e' := [(0, .slice A l.length c), (1, .int .i64 fr), (2, .int .i64 to), (3, .int .u64 id), (4, .int .i64 ((s : Nat) : Int)), (11, .slice none 0 0), (12, .iface 30 (.int .i64 13)), (13, .int .i64 ((l.length / s : Nat) : Int)), (54, .bool (((l.length / s : Nat) : Int) == 0))]) rfl
                     refine xt_norm ?_
                     by_cases hc15 : ((l.length / s : Nat) : Int) = 0
                     · first
                       | (exfalso; omega)
                       | (replace hA := hA.rw 54 (v' := .bool true) rfl (vb_eq_t hc15)
                          refine cd_cond_t hA rfl ?_
                          refine wp_region_lit ?_
                          refine st_run tbOk 2 hA (e' := (56, .int .i64 (IntKind.i64.wrap (((l.length / s : Nat) : Int) + 1))) :: (55, .int .i64 ((l.length / s : Nat) : Int)) :: _) rfl ?_; clear hA; intro a hA
                          replace hA := hA.rw 56 (v' := .int .i64 (((l.length / s) + 1 : Nat) : Int)) rfl (wr64 (by omega) (by omega) (by omega))
                          refine st_run tbOk 1 hA (e' := (13, .int .i64 (((l.length / s) + 1 : Nat) : Int)) :: _) rfl ?_; clear hA; intro a hA
                          refine wpList_nil ?_
                          replace hA := hA.sel [0, 1, 2, 3, 4, 11, 12, 13] (e' := [(0, .slice A l.length c), (1, .int .i64 fr), (2, .int .i64 to), (3, .int .u64 id), (4, .int .i64 ((s : Nat) : Int)), (11, .slice none 0 0), (12, .iface 30 (.int .i64 13)), (13, .int .i64 (((l.length / s) + 1 : Nat) : Int))]) rfl
                          refine xt_norm ?_
                          replace hA := hA.rw 13 (v' := .int .i64 ((nP l s : Nat) : Int)) rfl (vint (by omega))
                          exact ⟨(hA.sel [0, 1, 2, 3, 4, 11, 12, 13] rfl), hS⟩)
                     · first
                       | (exfalso; omega)
                       | (replace hA := hA.rw 54 (v' := .bool false) rfl (vb_eq_f hc15)
                          refine cd_cond_f hA rfl ?_
                          refine wp_skip ?_
                          refine xt_norm ?_
                          replace hA := hA.rw 13 (v' := .int .i64 ((nP l s : Nat) : Int)) rfl (vint (by omega))
                          exact ⟨(hA.sel [0, 1, 2, 3, 4, 11, 12, 13] rfl), hS⟩))
              · clear hA hS; rintro a w16 ⟨hA, hS⟩
                refine wp_seq ?_
                refine wp_seq ?_
                refine wp_region_lit ?_
                refine st_run tbOk 2 hA (e' := (58, .bool (decide (((nP l s : Nat) : Int) > 256))) :: (57, .int .i64 ((nP l s : Nat) : Int)) :: _) rfl ?_; clear hA; intro a hA
                refine wpList_nil ?_
                replace hA := hA.sel [0, 1, 2, 3, 4, 11, 12, 13, 58] (e' := [(0, .slice A l.length c), (1, .int .i64 fr), (2, .int .i64 to), (3, .int .u64 id), (4, .int .i64 ((s : Nat) : Int)), (11, .slice none 0 0), (12, .iface 30 (.int .i64 13)), (13, .int .i64 ((nP l s : Nat) : Int)), (58, .bool (decide (((nP l s : Nat) : Int) > 256)))]) rfl
                refine xt_norm ?_
                by_cases hc17 : ((nP l s : Nat) : Int) > 256
                · first
                  | (exfalso; omega)
                  | (replace hA := hA.rw 58 (v' := .bool true) rfl (vb_true hc17)
                     refine cd_cond_t hA rfl ?_
                     refine wp_seq ?_
                     refine wp_region_lit ?_
                     refine st_run tbOk 5 hA (e' := (63, .iface 30 (.int .i64 13)) :: (62, .bool true) :: (61, .bool true) :: (60, .int .i64 0) :: (59, .slice none 0 0) :: _) rfl ?_; clear hA; intro a hA
                     refine st_call0 hA rfl rfl rfl isfn7 rfl rfl (by decide) (number_hit7 hS hg 13) ?_
                     clear hA hS; rintro v w18 a ⟨rfl, hS⟩ hA
                     refine st_run tbOk 3 hA (e' := (10, .bool true) :: (66, .bool true) :: (65, .bool true) :: _) rfl ?_; clear hA; intro a hA
                     refine wpList_nil ?_
                     replace hA := hA.sel [10] (e' := [(10, .bool true)]) rfl
                     refine xt_norm ?_
                     refine wp_ret (xt_ret ?_)
                     refine ret1 (fn := Tryd.f3) hA rfl rfl ?_
                     exact ⟨rfl, hS⟩)
                · first
                  | (exfalso; omega)
                  | (replace hA := hA.rw 58 (v' := .bool false) rfl (vb_false hc17)
                     refine cd_cond_f hA rfl ?_
                     refine wp_skip ?_
                     refine xt_norm ?_
                     refine wp_seq ?_
                     refine wp_seq ?_
                     refine wp_region_lit ?_
                     refine st_run tbOk 8 hA (e' := (74, .bool true) :: (73, undef) :: (72, undef) :: (71, undef) :: (70, undef) :: (69, .bool true) :: (68, .bool true) :: (67, .iface 30 (.int .i64 13)) :: _) rfl ?_; clear hA; intro a hA
                     refine wpList_nil ?_
                     replace hA := hA.sel [0, 1, 2, 3, 4, 11, 13, 74] (e' := [(0, .slice A l.length c), (1, .int .i64 fr), (2, .int .i64 to), (3, .int .u64 id), (4, .int .i64 ((s : Nat) : Int)), (11, .slice none 0 0), (13, .int .i64 ((nP l s : Nat) : Int)), (74, .bool true)]) rfl
                     refine xt_norm ?_
                     refine cd_cond_t hA rfl ?_
                     refine wp_seq ?_
                     refine wp_region_lit ?_
                     refine st_run tbOk 1 hA (e' := (10, .bool false) :: _) rfl ?_; clear hA; intro a hA
                     refine wpList_nil ?_
                     replace hA := hA.sel [10] (e' := [(10, .bool false)]) rfl
                     refine xt_norm ?_
                     refine wp_ret (xt_ret ?_)
                     refine ret1 (fn := Tryd.f3) hA rfl rfl ?_
                     exfalso; omega)))
  · have hnq := nP_eq l h1
    have hnp := nP_pos l s
    refine st_call0 hA rfl rfl rfl isfn6 rfl rfl (by decide) (split_ok6 hS (l := l) (fun w' h => (hr _ h)) fr to id s h1 h2 h3 (by omega)) ?_
    clear hA hS; rintro _ w19 a ⟨v20, ps, C21, D22, hOC21, hpl, hpk, hdd, rfl, hS⟩ hA
    obtain ⟨A23, c24, rfl, hmc24, hxc24⟩ := hOC21.open'
    refine st_run tbOk 5 hA (e' := (12, .nilIface) :: (11, .slice A23 ps.length c24) :: (27, .nilIface) :: (26, .slice A23 ps.length c24) :: (19, .tuple #[.slice A23 ps.length c24, .nilIface]) :: _) rfl ?_; clear hA; intro a hA
    refine wpList_nil ?_
    replace hA := hA.sel [0, 1, 2, 3, 4, 11, 12] (e' := [(0, .slice A l.length c), (1, .int .i64 fr), (2, .int .i64 to), (3, .int .u64 id), (4, .int .i64 ((s : Nat) : Int)), (11, .slice A23 ps.length c24), (12, .nilIface)]) rfl
    refine xt_norm ?_
    refine wp_seq ?_
    refine wp_seq ?_
    refine wp_region_lit ?_
    refine st_run tbOk 3 hA (e' := (30, .bool (decide (((s : Nat) : Int) < 1))) :: (29, .bool (decide (((s : Nat) : Int) < 1))) :: (28, .int .i64 ((s : Nat) : Int)) :: _) rfl ?_; clear hA; intro a hA
    by_cases hc25 : ((s : Nat) : Int) < 1
    · first
      | (exfalso; omega)
      | (replace hA := hA.rw 29 (v' := .bool true) rfl (vb_true hc25)
         replace hA := hA.rw 30 (v' := .bool true) rfl (vb_true hc25)
         refine st_run tbOk 3 hA (e' := (33, .bool true) :: (32, undef) :: (31, undef) :: _) rfl ?_; clear hA; intro a hA
         refine wpList_nil ?_
         replace hA := hA.sel [0, 1, 2, 3, 4, 11, 12, 33] (e' := [(0, .slice A l.length c), (1, .int .i64 fr), (2, .int .i64 to), (3, .int .u64 id), (4, .int .i64 ((s : Nat) : Int)), (11, .slice A23 ps.length c24), (12, .nilIface), (33, .bool true)]) rfl
         refine xt_norm ?_
         refine cd_cond_t hA rfl ?_
         refine wp_seq ?_
         refine wp_region_lit ?_
         refine st_run tbOk 4 hA (e' := (37, .bool (((ps.length : Nat) : Int) == 0)) :: (36, .bool (((ps.length : Nat) : Int) == 0)) :: (35, .int .i64 ((ps.length : Nat) : Int)) :: (34, .slice A23 ps.length c24) :: _) rfl ?_; clear hA; intro a hA
         by_cases hc26 : ((ps.length : Nat) : Int) = 0
         · first
           | (exfalso; omega)
           | (replace hA := hA.rw 36 (v' := .bool true) rfl (vb_eq_t hc26)
              replace hA := hA.rw 37 (v' := .bool true) rfl (vb_eq_t hc26)
              refine st_run tbOk 1 hA (e' := (38, .nilIface) :: _) rfl ?_; clear hA; intro a hA
              refine st_call0 hA rfl rfl rfl isfn7 rfl rfl (by decide) (number_nil7 hS hg) ?_
              clear hA hS; rintro v w27 a ⟨rfl, hS⟩ hA
              refine st_run tbOk 3 hA (e' := (10, .bool false) :: (41, .bool false) :: (40, .bool false) :: _) rfl ?_; clear hA; intro a hA
              refine wpList_nil ?_
              replace hA := hA.sel [10] (e' := [(10, .bool false)]) rfl
              refine xt_norm ?_
              refine wp_ret (xt_ret ?_)
              refine ret1 (fn := Tryd.f3) hA rfl rfl ?_
              exfalso; omega)
         · first
           | (exfalso; omega)
           | (replace hA := hA.rw 36 (v' := .bool false) rfl (vb_eq_f hc26)
              replace hA := hA.rw 37 (v' := .bool false) rfl (vb_eq_f hc26)
              refine st_run tbOk 5 hA (e' := (10, .bool false) :: (41, .bool false) :: (40, undef) :: (39, undef) :: (38, undef) :: _) rfl ?_; clear hA; intro a hA
              refine wpList_nil ?_
              replace hA := hA.sel [10] (e' := [(10, .bool false)]) rfl
              refine xt_norm ?_
              refine wp_ret (xt_ret ?_)
              refine ret1 (fn := Tryd.f3) hA rfl rfl ?_
              exfalso; omega))
    · first
      | (exfalso; omega)
      | (replace hA := hA.rw 29 (v' := .bool false) rfl (vb_false hc25)
         replace hA := hA.rw 30 (v' := .bool false) rfl (vb_false hc25)
         refine st_run tbOk 3 hA (e' := (33, .bool (decide (((s : Nat) : Int) > 32768))) :: (32, .bool (decide (((s : Nat) : Int) > 32768))) :: (31, .int .i64 ((s : Nat) : Int)) :: _) rfl ?_; clear hA; intro a hA
         refine wpList_nil ?_
         replace hA := hA.sel [0, 1, 2, 3, 4, 11, 12, 33] (e' := [(0, .slice A l.length c), (1, .int .i64 fr), (2, .int .i64 to), (3, .int .u64 id), (4, .int .i64 ((s : Nat) : Int)), (11, .slice A23 ps.length c24), (12, .nilIface), (33, .bool (decide (((s : Nat) : Int) > 32768)))]) rfl
         refine xt_norm ?_
         by_cases hc28 : ((s : Nat) : Int) > 32768
         · first
           | (exfalso; omega)
           | (replace hA := hA.rw 33 (v' := .bool true) rfl (vb_true hc28)
              refine cd_cond_t hA rfl ?_
              refine wp_seq ?_
              refine wp_region_lit ?_
              refine st_run tbOk 4 hA (e' := (37, .bool (((ps.length : Nat) : Int) == 0)) :: (36, .bool (((ps.length : Nat) : Int) == 0)) :: (35, .int .i64 ((ps.length : Nat) : Int)) :: (34, .slice A23 ps.length c24) :: _) rfl ?_; clear hA; intro a hA
              by_cases hc29 : ((ps.length : Nat) : Int) = 0
              · first
                | (exfalso; omega)
                | (replace hA := hA.rw 36 (v' := .bool true) rfl (vb_eq_t hc29)
                   replace hA := hA.rw 37 (v' := .bool true) rfl (vb_eq_t hc29)
                   refine st_run tbOk 1 hA (e' := (38, .nilIface) :: _) rfl ?_; clear hA; intro a hA
                   refine st_call0 hA rfl rfl rfl isfn7 rfl rfl (by decide) (number_nil7 hS hg) ?_
                   clear hA hS; rintro v w30 a ⟨rfl, hS⟩ hA
                   refine st_run tbOk 3 hA (e' := (10, .bool false) :: (41, .bool false) :: (40, .bool false) :: _) rfl ?_; clear hA; intro a hA
                   refine wpList_nil ?_
                   replace hA := hA.sel [10] (e' := [(10, .bool false)]) rfl
                   refine xt_norm ?_
                   refine wp_ret (xt_ret ?_)
                   refine ret1 (fn := Tryd.f3) hA rfl rfl ?_
                   exfalso; omega)
              · first
                | (exfalso; omega)
                | (replace hA := hA.rw 36 (v' := .bool false) rfl (vb_eq_f hc29)
                   replace hA := hA.rw 37 (v' := .bool false) rfl (vb_eq_f hc29)
                   refine st_run tbOk 5 hA (e' := (10, .bool false) :: (41, .bool false) :: (40, undef) :: (39, undef) :: (38, undef) :: _) rfl ?_; clear hA; intro a hA
                   refine wpList_nil ?_
                   replace hA := hA.sel [10] (e' := [(10, .bool false)]) rfl
                   refine xt_norm ?_
                   refine wp_ret (xt_ret ?_)
                   refine ret1 (fn := Tryd.f3) hA rfl rfl ?_
                   exfalso; omega))
         · first
           | (exfalso; omega)
           | (replace hA := hA.rw 33 (v' := .bool false) rfl (vb_false hc28)
              refine cd_cond_f hA rfl ?_
              refine wp_skip ?_
              refine xt_norm ?_
              refine wp_seq ?_
              refine wp_region_lit ?_
              refine st_run tbOk 3 hA (e' := (44, .int .i64 ((s : Nat) : Int)) :: (43, .int .i64 ((l.length : Nat) : Int)) :: (42, .slice A l.length c) :: _) rfl ?_; clear hA; intro a hA
              refine st_val hA rfl rfl (by decide) (rn_quo hA rfl rfl rfl (by omega)) ?_; clear hA; intro a hA
              have hdv31 := Nat.div_le_self l.length s
              replace hA := hA.rw 45 (v' := .int .i64 ((l.length / s : Nat) : Int)) rfl (wr64 (Int.ofNat_tdiv _ _).symm (Int.le_trans (show (-9223372036854775808 : Int) ≤ 0 by decide) (Int.natCast_nonneg _)) (by omega))
              refine st_run tbOk 1 hA (e' := (13, .int .i64 ((l.length / s : Nat) : Int)) :: _) rfl ?_; clear hA; intro a hA
              refine wpList_nil ?_
              replace hA := hA.sel [0, 1, 2, 3, 4, 11, 12, 13] (e' := [(0, .slice A l.length c), (1, .int .i64 fr), (2, .int .i64 to), (3, .int .u64 id), (4, .int .i64 ((s : Nat) : Int)), (11, .slice A23 ps.length c24), (12, .nilIface), (13, .int .i64 ((l.length / s : Nat) : Int))]) rfl
              refine xt_norm ?_
              refine wp_seq_join (fun a w => Has a 110 [(0, .slice A l.length c), (1, .int .i64 fr), (2, .int .i64 to), (3, .int .u64 id), (4, .int .i64 ((s : Nat) : Int)), (11, .slice A23 ps.length c24), (12, .nilIface), (13, .int .i64 ((nP l s : Nat) : Int))] ∧ St w0 w (C21 :: D22 :: F)) ?_ ?_
              · refine wp_seq ?_
                refine wp_region_lit ?_
                refine st_run tbOk 3 hA (e' := (48, .int .i64 ((s : Nat) : Int)) :: (47, .int .i64 ((l.length : Nat) : Int)) :: (46, .slice A l.length c) :: _) rfl ?_; clear hA; intro a hA
                refine st_val hA rfl rfl (by decide) (rn_rem hA rfl rfl rfl (by omega)) ?_; clear hA; intro a hA
                have hmd32 := Nat.mod_lt l.length (show 0 < s by omega)
                replace hA := hA.rw 49 (v' := .int .i64 ((l.length % s : Nat) : Int)) rfl (vint (Int.ofNat_tmod _ _).symm)
                refine st_run tbOk 2 hA (e' := (51, .bool (decide (((l.length % s : Nat) : Int) > 0))) :: (50, .bool (decide (((l.length % s : Nat) : Int) > 0))) :: _) rfl ?_; clear hA; intro a hA
                by_cases hc33 : ((l.length % s : Nat) : Int) > 0
                · first
                  | (exfalso; omega)
                  | (replace hA := hA.rw 50 (v' := .bool true) rfl (vb_true hc33)
                     replace hA := hA.rw 51 (v' := .bool true) rfl (vb_true hc33)
                     refine st_run tbOk 3 hA (e' := (54, .bool true) :: (53, undef) :: (52, undef) :: _) rfl ?_; clear hA; intro a hA
                     refine wpList_nil ?_
                     replace hA := hA.sel [0, 1, 2, 3, 4, 11, 12, 13, 54] (e' := [(0, .slice A l.length c), (1, .int .i64 fr), (2, .int .i64 to), (3, .int .u64 id), (4, .int .i64 ((s : Nat) : Int)), (11, .slice A23 ps.length c24), (12, .nilIface), (13, .int .i64 ((l.length / s : Nat) : Int)), (54, .bool true)]) rfl
                     refine xt_norm ?_
                     refine cd_cond_t hA rfl ?_
                     refine wp_region_lit ?_
                     refine st_run tbOk 2 hA (e' := (56, .int .i64 (IntKind.i64.wrap (((l.length / s : Nat) : Int) + 1))) :: (55, .int .i64 ((l.length / s : Nat) : Int)) :: _) rfl ?_; clear hA; intro a hA
                     replace hA := hA.rw 56 (v' := .int .i64 (((l.length / s) + 1 : Nat) : Int)) rfl (wr64 (by omega) (by omega) (by omega))
                     refine st_run tbOk 1 hA (e' := (13, .int .i64 (((l.length / s) + 1 : Nat) : Int)) :: _) rfl ?_; clear hA; intro a hA
                     refine wpList_nil ?_
                     replace hA := hA.sel [0, 1, 2, 3, 4, 11, 12, 13] (e' := [(0, .slice A l.length c), (1, .int .i64 fr), (2, .int .i64 to), (3, .int .u64 id), (4, .int .i64 ((s : Nat) : Int)), (11, .slice A23 ps.length c24), (12, .nilIface), (13, .int .i64 (((l.length / s) + 1 : Nat) : Int))]) rfl
                     refine xt_norm ?_
                     replace hA := hA.rw 13 (v' := .int .i64 ((nP l s : Nat) : Int)) rfl (vint (by omega))
                     exact ⟨(hA.sel [0, 1, 2, 3, 4, 11, 12, 13] rfl), hS⟩)
                · first
                  | (exfalso; omega)
                  | (replace hA := hA.rw 50 (v' := .bool false) rfl (vb_false hc33)
                     replace hA := hA.rw 51 (v' := .bool false) rfl (vb_false hc33)
                     refine st_run tbOk 3 hA (e' := (54, .bool (((l.length / s : Nat) : Int) == 0)) :: (53, .bool (((l.length / s : Nat) : Int) == 0)) :: (52, .int .i64 ((l.length / s : Nat) : Int)) :: _) rfl ?_; clear hA; intro a hA
                     refine wpList_nil ?_
                     replace hA := hA.sel [0, 1, 2, 3, 4, 11, 12, 13, 54] (e' := [(0, .slice A l.length c), (1, .int .i64 fr), (2, .int .i64 to), (3, .int .u64 id), (4, .int .i64 ((s : Nat) : Int)), (11, .slice A23 ps.length c24), (12, .nilIface), (13, .int .i64 ((l.length / s : Nat) : Int)), (54, .bool (((l.length / s : Nat) : Int) == 0))]) rfl
                     refine xt_norm ?_
                     by_cases hc34 : ((l.length / s : Nat) : Int) = 0
                     · first
                       | (exfalso; omega)
                       | (replace hA := hA.rw 54 (v' := .bool true) rfl (vb_eq_t hc34)
                          refine cd_cond_t hA rfl ?_
                          refine wp_region_lit ?_
                          refine st_run tbOk 2 hA (e' := (56, .int .i64 (IntKind.i64.wrap (((l.length / s : Nat) : Int) + 1))) :: (55, .int .i64 ((l.length / s : Nat) : Int)) :: _) rfl ?_; clear hA; intro a hA
                          replace hA := hA.rw 56 (v' := .int .i64 (((l.length / s) + 1 : Nat) : Int)) rfl (wr64 (by omega) (by omega) (by omega))
                          refine st_run tbOk 1 hA (e' := (13, .int .i64 (((l.length / s) + 1 : Nat) : Int)) :: _) rfl ?_; clear hA; intro a hA
                          refine wpList_nil ?_
                          replace hA := hA.sel [0, 1, 2, 3, 4, 11, 12, 13] (e' := [(0, .slice A l.length c), (1, .int .i64 fr), (2, .int .i64 to), (3, .int .u64 id), (4, .int .i64 ((s : Nat) : Int)), (11, .slice A23 ps.length c24), (12, .nilIface), (13, .int .i64 (((l.length / s) + 1 : Nat) : Int))]) rfl
                          refine xt_norm ?_
                          replace hA := hA.rw 13 (v' := .int .i64 ((nP l s : Nat) : Int)) rfl (vint (by omega))
                          exact ⟨(hA.sel [0, 1, 2, 3, 4, 11, 12, 13] rfl), hS⟩)
                     · first
                       | (exfalso; omega)
                       | (replace hA := hA.rw 54 (v' := .bool false) rfl (vb_eq_f hc34)
                          refine cd_cond_f hA rfl ?_
                          refine wp_skip ?_
                          refine xt_norm ?_
                          replace hA := hA.rw 13 (v' := .int .i64 ((nP l s : Nat) : Int)) rfl (vint (by omega))
                          exact ⟨(hA.sel [0, 1, 2, 3, 4, 11, 12, 13] rfl), hS⟩))
              · clear hA hS; rintro a w35 ⟨hA, hS⟩
                refine wp_seq ?_
                refine wp_seq ?_
                refine wp_region_lit ?_
                refine st_run tbOk 2 hA (e' := (58, .bool (decide (((nP l s : Nat) : Int) > 256))) :: (57, .int .i64 ((nP l s : Nat) : Int)) :: _) rfl ?_; clear hA; intro a hA
                refine wpList_nil ?_
                replace hA := hA.sel [0, 1, 2, 3, 4, 11, 12, 13, 58] (e' := [(0, .slice A l.length c), (1, .int .i64 fr), (2, .int .i64 to), (3, .int .u64 id), (4, .int .i64 ((s : Nat) : Int)), (11, .slice A23 ps.length c24), (12, .nilIface), (13, .int .i64 ((nP l s : Nat) : Int)), (58, .bool (decide (((nP l s : Nat) : Int) > 256)))]) rfl
                refine xt_norm ?_
                by_cases hc36 : ((nP l s : Nat) : Int) > 256
                · first
                  | (exfalso; omega)
                  | (replace hA := hA.rw 58 (v' := .bool true) rfl (vb_true hc36)
                     refine cd_cond_t hA rfl ?_
                     refine wp_seq ?_
                     refine wp_region_lit ?_
                     refine st_run tbOk 4 hA (e' := (62, .bool (((ps.length : Nat) : Int) == 0)) :: (61, .bool (((ps.length : Nat) : Int) == 0)) :: (60, .int .i64 ((ps.length : Nat) : Int)) :: (59, .slice A23 ps.length c24) :: _) rfl ?_; clear hA; intro a hA
                     by_cases hc37 : ((ps.length : Nat) : Int) = 0
                     · first
                       | (exfalso; omega)
                       | (replace hA := hA.rw 61 (v' := .bool true) rfl (vb_eq_t hc37)
                          replace hA := hA.rw 62 (v' := .bool true) rfl (vb_eq_t hc37)
                          refine st_run tbOk 1 hA (e' := (63, .nilIface) :: _) rfl ?_; clear hA; intro a hA
                          refine st_call0 hA rfl rfl rfl isfn7 rfl rfl (by decide) (number_nil7 hS hg) ?_
                          clear hA hS; rintro v w38 a ⟨rfl, hS⟩ hA
                          refine st_run tbOk 3 hA (e' := (10, .bool false) :: (66, .bool false) :: (65, .bool false) :: _) rfl ?_; clear hA; intro a hA
                          refine wpList_nil ?_
                          replace hA := hA.sel [10] (e' := [(10, .bool false)]) rfl
                          refine xt_norm ?_
                          refine wp_ret (xt_ret ?_)
                          refine ret1 (fn := Tryd.f3) hA rfl rfl ?_
                          exfalso; omega)
                     · first
                       | (exfalso; omega)
                       | (replace hA := hA.rw 61 (v' := .bool false) rfl (vb_eq_f hc37)
                          replace hA := hA.rw 62 (v' := .bool false) rfl (vb_eq_f hc37)
                          refine st_run tbOk 5 hA (e' := (10, .bool false) :: (66, .bool false) :: (65, undef) :: (64, undef) :: (63, undef) :: _) rfl ?_; clear hA; intro a hA
                          refine wpList_nil ?_
                          replace hA := hA.sel [10] (e' := [(10, .bool false)]) rfl
                          refine xt_norm ?_
                          refine wp_ret (xt_ret ?_)
                          refine ret1 (fn := Tryd.f3) hA rfl rfl ?_
                          exfalso; omega))
                · first
                  | (exfalso; omega)
                  | (replace hA := hA.rw 58 (v' := .bool false) rfl (vb_false hc36)
                     refine cd_cond_f hA rfl ?_
                     refine wp_skip ?_
                     refine xt_norm ?_
                     refine wp_seq ?_
                     refine wp_seq ?_
                     refine wp_region_lit ?_
                     refine st_run tbOk 8 hA (e' := (74, .bool (((ps.length : Nat) : Int) != ((nP l s : Nat) : Int))) :: (73, .bool (((ps.length : Nat) : Int) != ((nP l s : Nat) : Int))) :: (72, .int .i64 ((nP l s : Nat) : Int)) :: (71, .int .i64 ((ps.length : Nat) : Int)) :: (70, .slice A23 ps.length c24) :: (69, .bool false) :: (68, .bool false) :: (67, .nilIface) :: _) rfl ?_; clear hA; intro a hA
                     refine wpList_nil ?_
                     replace hA := hA.sel [0, 1, 2, 3, 4, 11, 13, 74] (e' := [(0, .slice A l.length c), (1, .int .i64 fr), (2, .int .i64 to), (3, .int .u64 id), (4, .int .i64 ((s : Nat) : Int)), (11, .slice A23 ps.length c24), (13, .int .i64 ((nP l s : Nat) : Int)), (74, .bool (((ps.length : Nat) : Int) != ((nP l s : Nat) : Int)))]) rfl
                     refine xt_norm ?_
                     by_cases hc39 : ((ps.length : Nat) : Int) = ((nP l s : Nat) : Int)
                     · first
                       | (exfalso; omega)
                       | (replace hA := hA.rw 74 (v' := .bool false) rfl (vb_ne_f hc39)
                          refine cd_cond_f hA rfl ?_
                          refine wp_skip ?_
                          refine xt_norm ?_
                          refine wp_seq ?_
                          refine wp_seq ?_
                          refine wp_region_lit ?_
                          refine st_run tbOk 3 hA (e' := (77, .int .i64 0) :: (76, .int .i64 ((ps.length : Nat) : Int)) :: (75, .slice A23 ps.length c24) :: _) rfl ?_; clear hA; intro a hA
                          refine wpList_nil ?_
                          replace hA := hA.sel [0, 1, 2, 3, 4, 13, 75, 76, 77] (e' := [(0, .slice A l.length c), (1, .int .i64 fr), (2, .int .i64 to), (3, .int .u64 id), (4, .int .i64 ((s : Nat) : Int)), (13, .int .i64 ((nP l s : Nat) : Int)), (75, .slice A23 ps.length c24), (76, .int .i64 ((ps.length : Nat) : Int)), (77, .int .i64 0)]) rfl
                          refine xt_norm ?_
                          refine wp_block ?_
                          refine wp_loop_ghost (fun m a w => ∃ (k : Nat), m = ps.length - k ∧ Has a 110 [(0, .slice A l.length c), (1, .int .i64 fr), (2, .int .i64 to), (3, .int .u64 id), (4, .int .i64 ((s : Nat) : Int)), (13, .int .i64 ((nP l s : Nat) : Int)), (75, .slice A23 ps.length c24), (76, .int .i64 ((ps.length : Nat) : Int)), (77, .int .i64 ((k : Nat) : Int))] ∧ St w0 w (C21 :: D22 :: F) ∧ (k ≤ ps.length)) (ps.length - 0)
                            ⟨0, rfl, (hA.sel [0, 1, 2, 3, 4, 13, 75, 76, 77] rfl), hS, Nat.zero_le _⟩ ?_
                          clear hA hS; rintro m0 a w40 ⟨k, rfl, hA, hS, hk⟩
                          refine wp_seq ?_
                          refine wp_region_lit ?_
                          refine st_run tbOk 1 hA (e' := (78, .bool (decide (((k : Nat) : Int) < ((ps.length : Nat) : Int)))) :: _) rfl ?_; clear hA; intro a hA
                          refine wpList_nil ?_
                          refine xt_norm ?_
                          refine wp_seq ?_
                          by_cases hc41 : ((k : Nat) : Int) < ((ps.length : Nat) : Int)
                          · first
                            | (exfalso; omega)
                            | (replace hA := hA.rw 78 (v' := .bool true) rfl (vb_true hc41)
                               refine cd_cond_t hA rfl ?_
                               refine wp_skip ?_
                               refine xt_norm ?_
                               refine wp_seq ?_
                               refine wp_block ?_
                               refine wp_seq ?_
                               refine wp_region_lit ?_
                               refine st_run tbOk 1 hA (e' := (79, .int .i64 ((k : Nat) : Int)) :: _) rfl ?_; clear hA; intro a hA
                               obtain ⟨y, hy⟩ := get_ex (l := ps) (k := k) (by omega)
                               obtain ⟨B1, d1, rfl⟩ := hpk k y hy
                               have hdp := hdd _ (List.mem_of_getElem? hy)
                               have hks : k * s ≤ 256 * 32768 := Nat.mul_le_mul (by omega) (by omega)
                               have hk1 : (k + 1) * s = k * s + s := Nat.succ_mul k s
                               have hkl := low_le (l := l) (k := k) h1 (by omega)
                               have hpl2 := piece_le l s k
                               obtain ⟨b42, o43, rfl⟩ := hOC21.isSome (k := k) (by omega)
                               refine st_val hA rfl rfl (by decide) (rn_indexAddr tbOk hA k (o43 + (k * 6)) rfl rfl rfl rfl rfl rfl (by rfl) (by omega) (by first | rfl | simp [Nat.mul_one, Nat.zero_add] | omega)) ?_; clear hA; intro a hA
                               refine st_val hA rfl rfl (by decide) (rn_loadA tbOk hA ([.int .i64 fr, .int .i64 to, .int .u64 id, .int .i64 ((k : Nat) : Int), .int .i64 ((nP l s : Nat) : Int), .slice B1 ((piece l s k).length) d1]) rfl rfl rfl rfl (by rfl) ((hOC21.rd (hS.own_ 0 rfl)).elem (k := k) encPacket_ok hy)) ?_; clear hA; intro a hA
                               refine st_alloc tbOk hA hS [.int .i64 0, .int .i64 0, .int .u64 0, .int .i64 0, .int .i64 0, .slice none 0 0] rfl rfl rfl rfl rfl (by decide) ?_; clear hA hS; intro b44 w45 a hS hA
                               refine st_run tbOk 1 hA (e' := (14, .int .i64 ((k : Nat) : Int)) :: _) rfl ?_; clear hA; intro a hA
                               refine st_store tbOk hA hS [.int .i64 fr, .int .i64 to, .int .u64 id, .int .i64 ((k : Nat) : Int), .int .i64 ((nP l s : Nat) : Int), .slice B1 ((piece l s k).length) d1] [.int .i64 fr, .int .i64 to, .int .u64 id, .int .i64 ((k : Nat) : Int), .int .i64 ((nP l s : Nat) : Int), .slice B1 ((piece l s k).length) d1] rfl rfl rfl rfl rfl rfl (by simp [Value.oneCell']) (Nat.le_of_ble_eq_true rfl) rfl rfl rfl ?_; clear hS; intro w46 hS
                               refine wpList_nil ?_
                               replace hA := hA.sel [0, 1, 2, 3, 4, 13, 14, 15, 75, 76, 77] (e' := [(0, .slice A l.length c), (1, .int .i64 fr), (2, .int .i64 to), (3, .int .u64 id), (4, .int .i64 ((s : Nat) : Int)), (13, .int .i64 ((nP l s : Nat) : Int)), (14, .int .i64 ((k : Nat) : Int)), (15, .pointer (some ⟨b44, 0, none⟩)), (75, .slice (some ⟨b42, o43, none⟩) ps.length c24), (76, .int .i64 ((ps.length : Nat) : Int)), (77, .int .i64 ((k : Nat) : Int))]) rfl
                               refine xt_norm ?_
                               refine wp_seq ?_
                               refine wp_region_lit ?_
                               refine st_run tbOk 4 hA (e' := (85, .int .i64 (IntKind.i64.wrap (((k : Nat) : Int) * ((s : Nat) : Int)))) :: (84, .int .i64 ((s : Nat) : Int)) :: (83, .int .i64 ((k : Nat) : Int)) :: (82, .slice A l.length c) :: _) rfl ?_; clear hA; intro a hA
                               replace hA := hA.rw 85 (v' := .int .i64 ((k * s : Nat) : Int)) rfl (wr64 (by omega) (by omega) (by omega))
                               refine st_run tbOk 4 hA (e' := (89, .int .i64 (IntKind.i64.wrap (((k : Nat) : Int) + 1))) :: (88, .int .i64 ((k : Nat) : Int)) :: (87, .int .i64 ((l.length : Nat) : Int)) :: (86, .slice A l.length c) :: _) rfl ?_; clear hA; intro a hA
                               replace hA := hA.rw 89 (v' := .int .i64 ((k + 1 : Nat) : Int)) rfl (wr64 (by omega) (by omega) (by omega))
                               refine st_run tbOk 2 hA (e' := (91, .int .i64 (IntKind.i64.wrap (((k + 1 : Nat) : Int) * ((s : Nat) : Int)))) :: (90, .int .i64 ((s : Nat) : Int)) :: _) rfl ?_; clear hA; intro a hA
                               replace hA := hA.rw 91 (v' := .int .i64 (((k + 1) * s : Nat) : Int)) rfl (wr64 (by omega) (by omega) (by omega))
                               refine st_run tbOk 1 hA (e' := (92, .int .i64 (if (((k + 1) * s : Nat) : Int) < ((l.length : Nat) : Int) then (((k + 1) * s : Nat) : Int) else ((l.length : Nat) : Int))) :: _) rfl ?_; clear hA; intro a hA
                               replace hA := hA.rw 92 (v' := .int .i64 ((min ((k + 1) * s) l.length : Nat) : Int)) rfl (vint (by split <;> omega))
                               refine st_val hA rfl rfl (by decide) (rn_slice_lh tbOk hA (k * s) (min ((k + 1) * s) l.length) rfl rfl rfl rfl rfl rfl rfl (by rfl) (by rfl) (by omega) (by omega)) ?_; clear hA; intro a hA
                               refine st_run tbOk 1 hA (e' := (16, slv A (k * s) (min ((k + 1) * s) l.length) c 1) :: _) rfl ?_; clear hA; intro a hA
                               refine wpList_nil ?_
                               replace hA := hA.sel [0, 1, 2, 3, 4, 13, 14, 15, 16, 75, 76, 77] (e' := [(0, .slice A l.length c), (1, .int .i64 fr), (2, .int .i64 to), (3, .int .u64 id), (4, .int .i64 ((s : Nat) : Int)), (13, .int .i64 ((nP l s : Nat) : Int)), (14, .int .i64 ((k : Nat) : Int)), (15, .pointer (some ⟨b44, 0, none⟩)), (16, slv A (k * s) (min ((k + 1) * s) l.length) c 1), (75, .slice (some ⟨b42, o43, none⟩) ps.length c24), (76, .int .i64 ((ps.length : Nat) : Int)), (77, .int .i64 ((k : Nat) : Int))]) rfl
                               refine xt_norm ?_
                               refine wp_seq ?_
                               refine wp_region_lit ?_
                               refine st_val hA rfl rfl (by decide) (rn_loadA tbOk hA [.int .i64 fr, .int .i64 to, .int .u64 id, .int .i64 ((k : Nat) : Int), .int .i64 ((nP l s : Nat) : Int), .slice B1 ((piece l s k).length) d1] rfl rfl rfl rfl rfl (cells_row (hS.heapAt 0 rfl) rfl)) ?_; clear hA; intro a hA
                               refine st_run tbOk 6 hA (e' := (100, slv A (k * s) (min ((k + 1) * s) l.length) c 1) :: (99, .int .i64 ((nP l s : Nat) : Int)) :: (98, .int .i64 ((k : Nat) : Int)) :: (97, .int .u64 id) :: (96, .int .i64 to) :: (95, .int .i64 fr) :: _) rfl ?_; clear hA; intro a hA
                               refine st_val hA rfl rfl (by decide) (rn_build tbOk hA rfl rfl rfl rfl rfl rfl rfl) ?_; clear hA; intro a hA
                               refine st_call0 hA rfl rfl rfl isfn8 rfl rfl (by decide) (same15_8 hS fr to id ((k : Nat) : Int) ((nP l s : Nat) : Int) fr to id ((k : Nat) : Int) ((nP l s : Nat) : Int) (bs := (piece l s k)) (cs := (l.take (min ((k + 1) * s) l.length)).drop (k * s)) (fun w' h => (hdp _ (h.only 2 rfl))) (fun w' h => ((hr _ (h.tail 3 rfl)).rslv encB_ok (k * s) (min ((k + 1) * s) l.length) c (by omega) (by omega) (by omega) (by omega)))) ?_
                               clear hA hS; rintro v w47 a ⟨rfl, hS⟩ hA
                               replace hA := hA.rw 102 (v' := .bool true) rfl (congrArg Value.bool (by rw [decide_eq_true_eq]; refine ⟨rfl, rfl, rfl, rfl, rfl, ?_⟩; rw [piece, Nat.min_eq_left hkl]))
                               refine st_run tbOk 2 hA (e' := (104, .bool false) :: (103, .bool false) :: _) rfl ?_; clear hA; intro a hA
                               refine st_val hA rfl rfl (by decide) (rn_loadA tbOk hA [.int .i64 fr, .int .i64 to, .int .u64 id, .int .i64 ((k : Nat) : Int), .int .i64 ((nP l s : Nat) : Int), .slice B1 ((piece l s k).length) d1] rfl rfl rfl rfl rfl (cells_row (hS.heapAt 0 rfl) rfl)) ?_; clear hA; intro a hA
                               refine st_call0 hA rfl rfl rfl isfn9 rfl rfl (by decide) (may9 hS fr to id ((k : Nat) : Int) ((nP l s : Nat) : Int) B1 d1 (piece l s k)) ?_
                               clear hA hS; rintro v w48 a ⟨rfl, hS⟩ hA
                               by_cases hc49 : 1 ≤ ((nP l s : Nat) : Int) ∧ ((nP l s : Nat) : Int) ≤ 256 ∧ 0 ≤ ((k : Nat) : Int) ∧ ((k : Nat) : Int) < ((nP l s : Nat) : Int) ∧ (piece l s k).length ≤ 32768
                               · first
                                 | (exfalso; omega)
                                 | (replace hA := hA.rw 106 (v' := .bool true) rfl (vb_true hc49)
                                    refine st_run tbOk 2 hA (e' := (108, .bool false) :: (107, .bool false) :: _) rfl ?_; clear hA; intro a hA
                                    refine wpList_nil ?_
                                    replace hA := hA.sel [0, 1, 2, 3, 4, 13, 75, 76, 77, 108] (e' := [(0, .slice A l.length c), (1, .int .i64 fr), (2, .int .i64 to), (3, .int .u64 id), (4, .int .i64 ((s : Nat) : Int)), (13, .int .i64 ((nP l s : Nat) : Int)), (75, .slice (some ⟨b42, o43, none⟩) ps.length c24), (76, .int .i64 ((ps.length : Nat) : Int)), (77, .int .i64 ((k : Nat) : Int)), (108, .bool false)]) rfl
                                    refine xt_norm ?_
                                    refine cd_cond_f hA rfl ?_
                                    refine wp_skip ?_
                                    refine xb_norm ?_
                                    refine xt_norm ?_
                                    refine wp_region_lit ?_
                                    refine st_run tbOk 1 hA (e' := (109, .int .i64 (IntKind.i64.wrap (((k : Nat) : Int) + 1))) :: _) rfl ?_; clear hA; intro a hA
                                    replace hA := hA.rw 109 (v' := .int .i64 ((k + 1 : Nat) : Int)) rfl (wr64 (by omega) (by omega) (by omega))
                                    refine st_run tbOk 1 hA (e' := (77, .int .i64 ((k + 1 : Nat) : Int)) :: _) rfl ?_; clear hA; intro a hA
                                    refine wpList_nil ?_
                                    replace hA := hA.sel [0, 1, 2, 3, 4, 13, 75, 76, 77] (e' := [(0, .slice A l.length c), (1, .int .i64 fr), (2, .int .i64 to), (3, .int .u64 id), (4, .int .i64 ((s : Nat) : Int)), (13, .int .i64 ((nP l s : Nat) : Int)), (75, .slice (some ⟨b42, o43, none⟩) ps.length c24), (76, .int .i64 ((ps.length : Nat) : Int)), (77, .int .i64 ((k + 1 : Nat) : Int))]) rfl
                                    replace hS := hS.drop1
                                    exact lp_next _ (by omega) ⟨(k + 1), rfl, (hA.sel [0, 1, 2, 3, 4, 13, 75, 76, 77] rfl), hS, by omega⟩)
                               · first
                                 | (exfalso; omega)
                                 | (replace hA := hA.rw 106 (v' := .bool false) rfl (vb_false hc49)
                                    refine st_run tbOk 2 hA (e' := (108, .bool true) :: (107, .bool true) :: _) rfl ?_; clear hA; intro a hA
                                    refine wpList_nil ?_
                                    replace hA := hA.sel [0, 1, 2, 3, 4, 13, 75, 76, 77, 108] (e' := [(0, .slice A l.length c), (1, .int .i64 fr), (2, .int .i64 to), (3, .int .u64 id), (4, .int .i64 ((s : Nat) : Int)), (13, .int .i64 ((nP l s : Nat) : Int)), (75, .slice (some ⟨b42, o43, none⟩) ps.length c24), (76, .int .i64 ((ps.length : Nat) : Int)), (77, .int .i64 ((k : Nat) : Int)), (108, .bool true)]) rfl
                                    refine xt_norm ?_
                                    refine cd_cond_t hA rfl ?_
                                    refine wp_seq ?_
                                    refine wp_region_lit ?_
                                    refine st_run tbOk 1 hA (e' := (10, .bool false) :: _) rfl ?_; clear hA; intro a hA
                                    refine wpList_nil ?_
                                    replace hA := hA.sel [10] (e' := [(10, .bool false)]) rfl
                                    refine xt_norm ?_
                                    refine wp_ret (xb_ret (xt_ret (xt_ret (xb_ret (xt_ret ?_)))))
                                    refine ret1 (fn := Tryd.f3) hA rfl rfl ?_
                                    exfalso; omega))
                          · first
                            | (exfalso; omega)
                            | (replace hA := hA.rw 78 (v' := .bool false) rfl (vb_false hc41)
                               refine cd_cond_f hA rfl ?_
                               refine wp_exit ?_
                               refine xt_exit ?_
                               refine xt_exit ?_
                               refine cd_exit_eq ?_
                               refine xt_norm ?_
                               refine wp_seq ?_
                               refine wp_region_lit ?_
                               refine st_run tbOk 1 hA (e' := (10, .bool true) :: _) rfl ?_; clear hA; intro a hA
                               refine wpList_nil ?_
                               replace hA := hA.sel [10] (e' := [(10, .bool true)]) rfl
                               refine xt_norm ?_
                               refine wp_ret ?_
                               refine ret1 (fn := Tryd.f3) hA rfl rfl ?_
                               replace hS := hS.drop1
                               replace hS := hS.drop1
                               exact ⟨rfl, hS⟩))
                     · first
                       | (exfalso; omega)
                       | (replace hA := hA.rw 74 (v' := .bool true) rfl (vb_ne_t hc39)
                          refine cd_cond_t hA rfl ?_
                          refine wp_seq ?_
                          refine wp_region_lit ?_
                          refine st_run tbOk 1 hA (e' := (10, .bool false) :: _) rfl ?_; clear hA; intro a hA
                          refine wpList_nil ?_
                          replace hA := hA.sel [10] (e' := [(10, .bool false)]) rfl
                          refine xt_norm ?_
                          refine wp_ret (xt_ret ?_)
                          refine ret1 (fn := Tryd.f3) hA rfl rfl ?_
                          exfalso; omega))))

end Go.Proofs.YtjgcdlkbgneldaaDoor
