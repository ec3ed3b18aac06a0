import Derived.Test.YtbfdppfddlilgaaSK8
set_option linter.unusedVariables false
set_option linter.unusedSimpArgs false
namespace Go.SK
open Go

/-! ### 14. Rows of elements -/
section
variable {α : Type} {enc : α → List Value} {size : Nat}
def rows (enc : α → List Value) (l : List α) : List Value := (l.map enc).flatten

structure Enc (enc : α → List Value) (size : Nat) : Prop where
  len : ∀ x, (enc x).length = size
  one : ∀ x, ∀ u ∈ enc x, u.oneCell' = true

theorem rows_nil : rows enc ([] : List α) = [] := rfl
theorem rows_cons (x : α) (l : List α) : rows enc (x :: l) = enc x ++ rows enc l := by simp [rows]
theorem rows_append (l l2 : List α) : rows enc (l ++ l2) = rows enc l ++ rows enc l2 := by simp [rows]
theorem rows_length (h : Enc enc size) (l : List α) : (rows enc l).length = l.length * size := by
  induction l with
  | nil => simp [rows]
  | cons x l ih => rw [rows_cons, List.length_append, h.len, ih, List.length_cons, Nat.add_mul, Nat.one_mul, Nat.add_comm]
theorem rows_one (h : Enc enc size) (l : List α) : ∀ u ∈ rows enc l, u.oneCell' = true := by
  intro u hu
  simp only [rows, List.mem_flatten, List.mem_map] at hu
  obtain ⟨_, ⟨x, _, rfl⟩, hu⟩ := hu
  exact h.one x u hu
theorem rows_take (h : Enc enc size) (l : List α) (k : Nat) : (rows enc l).take (k * size) = rows enc (l.take k) := by
  induction l generalizing k with
  | nil => simp [rows]
  | cons x l ih =>
    cases k with
    | zero => simp [rows]
    | succ k =>
      rw [rows_cons, List.take_succ_cons, rows_cons, List.take_append, h.len, List.take_of_length_le (by rw [h.len, Nat.add_mul]; omega), show (k + 1) * size - size = k * size by rw [Nat.add_mul]; omega, ih]
theorem rows_drop (h : Enc enc size) (l : List α) (k : Nat) : (rows enc l).drop (k * size) = rows enc (l.drop k) := by
  induction l generalizing k with
  | nil => simp [rows]
  | cons x l ih =>
    cases k with
    | zero => simp [rows]
    | succ k =>
      rw [rows_cons, List.drop_succ_cons, List.drop_append, h.len, List.drop_eq_nil_of_le (by rw [h.len, Nat.add_mul]; omega), show (k + 1) * size - size = k * size by rw [Nat.add_mul]; omega, ih, List.nil_append]
theorem rows_at (h : Enc enc size) {l : List α} {k : Nat} {x : α} (hx : l[k]? = some x) : ∀ j u, (enc x)[j]? = some u → (rows enc l)[k * size + j]? = some u := by
  intro j u hu
  have hk := (List.getElem?_eq_some_iff.1 hx).1
  have e : l = l.take k ++ (x :: l.drop (k + 1)) := by
    have := (List.getElem?_eq_some_iff.1 hx).2
    rw [← this, List.getElem_cons_drop, List.take_append_drop]
  have hl : (rows enc (l.take k)).length = k * size := by rw [rows_length h, List.length_take, Nat.min_eq_left (by omega)]
  rw [e, rows_append, List.getElem?_append_right (by omega), hl, Nat.add_sub_cancel_left, rows_cons, List.getElem?_append_left (List.getElem?_eq_some_iff.1 hu).1]
  exact hu
theorem rows_at0 (h : Enc enc 1) {l : List α} {k : Nat} {x : α} {u : Value} (hx : l[k]? = some x) (hu : enc x = [u]) : (rows enc l)[k]? = some u := by
  have := rows_at h hx 0 u (by rw [hu]; rfl)
  simpa using this
theorem rows_set (h : Enc enc size) {l : List α} {k : Nat} {x : α} (hk : k < l.length) : (rows enc l).take (k * size) ++ (enc x ++ (rows enc l).drop (k * size + (enc x).length)) = rows enc (l.set k x) := by
  rw [h.len, rows_take h, show k * size + size = (k + 1) * size by rw [Nat.add_mul, Nat.one_mul], rows_drop h, ← rows_cons, ← rows_append, List.set_eq_take_append_cons_drop, if_pos hk]

theorem get_ex {l : List α} {k : Nat} (h : k < l.length) : ∃ x, l[k]? = some x := ⟨_, List.getElem?_eq_getElem h⟩

variable {w0 w w' : World} {L F : List Chunk} {E m c : Nat} {A : Option Addr} {C : Chunk} {v : Value} {l l2 : List α}
theorem Own.app (h : Own E size v (l.length + l2.length) (rows enc l ++ rows enc l2) C) : Own E size v (l ++ l2).length (rows enc (l ++ l2)) C := by rw [rows_append, List.length_append]; exact h
theorem Own.rcap (h : Own E size (.slice A l.length c) l.length (rows enc l) C) : l.length ≤ c ∧ c ≤ 9223372036854775807 := h.cap
/-- s[lo:hi] of a row. -/
theorem Own.rslv (he : Enc enc size) (h : Own E size (.slice A l.length c) l.length (rows enc l) C) (lo hi cc : Nat) (hlh : lo ≤ hi) (hm : hi ≤ l.length) (hc : hi ≤ cc) (hcc : cc ≤ c) :
    Own E size (SK.slv A lo hi cc size) ((l.take hi).drop lo).length (rows enc ((l.take hi).drop lo)) C := by
  have := h.slv lo hi cc hlh hm hc hcc
  rw [rows_take he, rows_drop he] at this
  have e : ((l.take hi).drop lo).length = hi - lo := by simp; omega
  rw [e]; exact this
theorem Own.rhead (he : Enc enc size) (h : Own E size (.slice A l.length c) l.length (rows enc l) C) (hi : Nat) (hm : hi ≤ l.length) :
    Own E size (.slice A (l.take hi).length c) (l.take hi).length (rows enc (l.take hi)) C := by
  have := h.head hi hm
  rw [rows_take he] at this
  have e : (l.take hi).length = hi := by simp; omega
  rw [e]; exact this
theorem Rd.rslv (he : Enc enc size) (h : Rd w size (.slice A l.length c) l.length (rows enc l)) (lo hi cc : Nat) (hlh : lo ≤ hi) (hm : hi ≤ l.length) (hc : hi ≤ cc) (hcc : cc ≤ c) :
    Rd w size (SK.slv A lo hi cc size) ((l.take hi).drop lo).length (rows enc ((l.take hi).drop lo)) := by
  have := h.slv lo hi cc hlh hm hc hcc
  rw [rows_take he, rows_drop he] at this
  have e : ((l.take hi).drop lo).length = hi - lo := by simp; omega
  rw [e]; exact this
theorem Rd.rhead (he : Enc enc size) (h : Rd w size (.slice A l.length c) l.length (rows enc l)) (hi : Nat) (hm : hi ≤ l.length) :
    Rd w size (.slice A (l.take hi).length c) (l.take hi).length (rows enc (l.take hi)) := by
  have := h.head hi hm
  rw [rows_take he] at this
  have e : (l.take hi).length = hi := by simp; omega
  rw [e]; exact this
/-- The element at k is read. -/
theorem Rd.elem {b off : Nat} (he : Enc enc size) (h : Rd w size (.slice (some ⟨b, off, none⟩) m c) m (rows enc l)) {k : Nat} {x : α} (hx : l[k]? = some x) :
    ∀ j u, (enc x)[j]? = some u → w.cell? ⟨b, off + k * size + j, none⟩ = some u := h.cells (rows_at he hx)
theorem Rd.elem0 {b off : Nat} (he : Enc enc 1) (h : Rd w 1 (.slice (some ⟨b, off, none⟩) m c) m (rows enc l)) {k : Nat} {x : α} {u : Value} (hx : l[k]? = some x) (hu : enc x = [u]) :
    w.cell? ⟨b, off + k, none⟩ = some u := h.cell (rows_at0 he hx hu)
/-- One cell of the element at k. -/
theorem Rd.elemf {b off : Nat} (he : Enc enc size) (h : Rd w size (.slice (some ⟨b, off, none⟩) m c) m (rows enc l)) {k : Nat} {x : α} (hx : l[k]? = some x) {j : Nat} {u : Value} (hj : (enc x)[j]? = some u) :
    w.cell? ⟨b, off + k * size + j, none⟩ = some u := h.elem he hx j u hj

theorem RdS.cases {xs : List Value} (h : RdS w0 F size v m xs) (hS : St w0 w F) : (v = .slice none 0 0 ∧ m = 0 ∧ xs = []) ∨ ∃ b off c, v = .slice (some ⟨b, off, none⟩) m c ∧ m ≤ c ∧ c ≤ 9223372036854775807 := by
  obtain ⟨hl, ⟨hv, hm⟩ | ⟨b, off, c, hv, hc, hmx, hx⟩⟩ := h w hS
  · subst hm
    exact .inl ⟨hv, rfl, List.eq_nil_of_length_eq_zero (by simpa using hl)⟩
  · exact .inr ⟨b, off, c, hv, hc, hmx⟩

/-! A predicate that is handed over -/
def Pred (P : Program) (w0 : World) (F : List Chunk) (g : Nat) (first cap : Array Value) (val : α → Value) (p : α → Bool) : Prop :=
  ∀ w x, St w0 w F → Ret P g (first ++ #[val x] ++ cap) w (fun v w' => v = .bool (p x) ∧ St w w' [])

theorem Pred.cons {P : Program} {w0 : World} {F : List Chunk} {C : Chunk} {g : Nat} {first cap : Array Value} {val : α → Value} {p : α → Bool} (h : Pred P w0 F g first cap val p) : Pred P w0 (C :: F) g first cap val p := fun w x hS => h w x hS.drop1

/-- Where the first is that one asks for; -1: there is none. -/
def idx (p : α → Bool) : List α → Int
  | [] => -1
  | x :: l => if p x then 0 else (match idx p l with | .ofNat n => .ofNat (n + 1) | .negSucc _ => -1)

theorem idx_none {p : α → Bool} : ∀ {l : List α}, (∀ (k : Nat) (x : α), l[k]? = some x → p x = false) → idx p l = -1
  | [], _ => rfl
  | x :: l, h => by
    have h0 := h 0 x rfl
    have := idx_none (l := l) (fun k y hy => h (k + 1) y (by simpa using hy))
    simp [idx, h0, this]
    rfl
theorem idx_some {p : α → Bool} : ∀ {l : List α} {k : Nat} {x : α}, l[k]? = some x → p x = true → (∀ (i : Nat) (y : α), i < k → l[i]? = some y → p y = false) → idx p l = (k : Int)
  | [], k, x, hx, _, _ => by simp at hx
  | y :: l, 0, x, hx, hp, _ => by
    simp at hx; subst hx; simp [idx, hp]
  | y :: l, k + 1, x, hx, hp, hb => by
    have h0 := hb 0 y (by omega) rfl
    have := idx_some (l := l) (k := k) (x := x) (by simpa using hx) hp (fun i z hi hz => hb (i + 1) z (by omega) (by simpa using hz))
    simp [idx, h0, this]
theorem idx_cases (p : α → Bool) (l : List α) : (idx p l = -1 ∧ ∀ (k : Nat) (x : α), l[k]? = some x → p x = false) ∨ ∃ (k : Nat) (x : α), idx p l = ((k : Nat) : Int) ∧ l[k]? = some x ∧ p x = true ∧ ∀ (i : Nat) (y : α), i < k → l[i]? = some y → p y = false := by
  by_cases h : ∃ (k : Nat) (x : α), l[k]? = some x ∧ p x = true
  · right
    have : ∃ (k : Nat), ∃ (x : α), l[k]? = some x ∧ p x = true := h
    obtain ⟨k, ⟨x, hx, hp⟩, hmin⟩ := exists_least this
    exact ⟨k, x, idx_some hx hp (fun i y hi hy => by
      cases hpy : p y with
      | false => rfl
      | true => have := hmin i ⟨y, hy, hpy⟩; omega), hx, hp, fun i y hi hy => by
      cases hpy : p y with
      | false => rfl
      | true => have := hmin i ⟨y, hy, hpy⟩; omega⟩
  · left
    have hf : ∀ (k : Nat) (x : α), l[k]? = some x → p x = false := fun k x hx => by
      cases hp : p x with
      | false => rfl
      | true => exact absurd ⟨k, x, hx, hp⟩ h
    exact ⟨idx_none hf, hf⟩
theorem idx_any (p : α → Bool) (l : List α) : decide (idx p l ≥ 0) = l.any p := by
  rcases idx_cases p l with ⟨h, hf⟩ | ⟨k, x, h, hx, hp, _⟩
  · rw [h]
    have : l.any p = false := by
      rw [List.any_eq_false]
      intro x hx
      obtain ⟨k, hk⟩ := List.mem_iff_getElem?.1 hx
      simp [hf k x hk]
    rw [this]; rfl
  · rw [h]
    have : l.any p = true := List.any_eq_true.2 ⟨x, List.mem_of_getElem? hx, hp⟩
    rw [this]
    simp

/-! What DeleteFunc has made of a row behind j elements -/
def kept (p : α → Bool) (l : List α) (j : Nat) : List α := (l.take j).filter (fun x => !p x)
theorem kept_le (p : α → Bool) (l : List α) (j : Nat) : (kept p l j).length ≤ j := by
  unfold kept
  exact Nat.le_trans (List.length_filter_le _ _) (by simp; omega)
theorem kept_le' (p : α → Bool) (l : List α) (j : Nat) : (kept p l j).length ≤ l.length := by
  unfold kept
  exact Nat.le_trans (List.length_filter_le _ _) (by simp; omega)
theorem kept_step {p : α → Bool} {l : List α} {j : Nat} {x : α} (hx : l[j]? = some x) : kept p l (j + 1) = if p x then kept p l j else kept p l j ++ [x] := by
  unfold kept
  rw [List.take_add_one, hx, List.filter_append]
  cases h : p x <;> simp [h]
theorem kept_first {p : α → Bool} {l : List α} {k : Nat} (hb : ∀ (i : Nat) (y : α), i < k → l[i]? = some y → p y = false) : kept p l k = l.take k := by
  unfold kept
  rw [List.filter_eq_self]
  intro x hx
  obtain ⟨i, hi⟩ := List.mem_iff_getElem?.1 hx
  rw [List.getElem?_take] at hi
  split at hi
  · rename_i h; simp [hb i x h hi]
  · cases hi
theorem kept_all (p : α → Bool) (l : List α) : kept p l l.length = l.filter (fun x => !p x) := by unfold kept; rw [List.take_length]
/-- the row as it lies behind j elements -/
def mid (p : α → Bool) (l : List α) (j : Nat) : List α := kept p l j ++ l.drop (kept p l j).length
theorem mid_length (p : α → Bool) (l : List α) (j : Nat) : (mid p l j).length = l.length := by
  have := kept_le' p l j
  simp [mid]; omega
theorem mid_at {p : α → Bool} {l : List α} {j k : Nat} (h : j ≤ k) : (mid p l j)[k]? = l[k]? := by
  have := kept_le p l j
  unfold mid
  rw [List.getElem?_append_right (by omega), List.getElem?_drop]
  congr 1; omega
theorem mid_no {p : α → Bool} {l : List α} {j : Nat} {x : α} (hx : l[j]? = some x) (hp : p x = true) : mid p l (j + 1) = mid p l j := by
  unfold mid; rw [kept_step hx, if_pos hp]
theorem mid_yes {p : α → Bool} {l : List α} {j : Nat} {x : α} (hx : l[j]? = some x) (hp : p x = false) : mid p l (j + 1) = (mid p l j).set (kept p l j).length x := by
  have h1 := kept_le p l j
  have hj := (List.getElem?_eq_some_iff.1 hx).1
  unfold mid
  rw [kept_step hx, if_neg (by simp [hp])]
  have e : l.drop (kept p l j).length = l[(kept p l j).length] :: l.drop ((kept p l j).length + 1) := List.drop_eq_getElem_cons (by omega)
  rw [List.set_append_right _ _ (Nat.le_refl _), Nat.sub_self, e, List.set_cons_zero, List.length_append, List.length_singleton, List.append_assoc, List.singleton_append]
theorem mid_first {p : α → Bool} {l : List α} {k : Nat} (hk : k ≤ l.length) (hb : ∀ (i : Nat) (y : α), i < k → l[i]? = some y → p y = false) : mid p l k = l := by
  unfold mid
  rw [kept_first hb, List.length_take, Nat.min_eq_left hk, List.take_append_drop]
theorem mid_head (p : α → Bool) (l : List α) (j : Nat) : (mid p l j).take (kept p l j).length = kept p l j := by
  unfold mid; exact List.take_left
end
def encI (x : Int) : List Value := [.int .i64 x]
theorem encI_ok : Enc encI 1 := ⟨fun _ => rfl, fun x u hu => by rw [List.mem_singleton.1 hu]; rfl⟩
def encB (x : UInt8) : List Value := [.int .u8 (x.toNat : Int)]
theorem encB_ok : Enc encB 1 := ⟨fun _ => rfl, fun x u hu => by rw [List.mem_singleton.1 hu]; rfl⟩
end Go.SK
