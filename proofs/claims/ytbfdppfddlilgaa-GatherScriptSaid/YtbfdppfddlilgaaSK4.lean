import Derived.Test.YtbfdppfddlilgaaSK3
set_option linter.unusedVariables false
set_option linter.unusedSimpArgs false
namespace Go.SK
open Go

/-! ### 8. Memory: what was there at the beginning, and chunks of the call's own -/
abbrev Chunk := List (Nat × Obj)
def rowO (l : List Value) (T : TypeId) : Obj := .cells l.toArray T (0, 0)

structure St (w0 w : World) (L : List Chunk) : Prop where
  os : w.os = w0.os
  tape : w.tape = w0.tape
  output : w.output = w0.output
  size : w0.heap.size ≤ w.heap.size
  below : ∀ k, k < w0.heap.size → w.heap[k]? = w0.heap[k]?
  own : ∀ p ∈ L.flatten, w0.heap.size ≤ p.1 ∧ w.heap[p.1]? = some p.2
  nd : (L.flatten.map Prod.fst).Nodup

section
variable {w0 w w' : World} {L L' : List Chunk}

theorem St.refl (w : World) : St w w [] := ⟨rfl, rfl, rfl, Nat.le_refl _, fun _ _ => rfl, by simp, by simp⟩

theorem St.below_ (h : St w0 w L) : RowKit.Below w0.heap.size w0 w := ⟨h.os, h.tape, h.output, h.size, h.below⟩

theorem St.lt (h : St w0 w L) {p : Nat × Obj} (hp : p ∈ L.flatten) : p.1 < w.heap.size :=
  (Array.getElem?_eq_some_iff.1 (h.own p hp).2).1

theorem St.sub (h : St w0 w L) (hs : L'.flatten.Sublist L.flatten) : St w0 w L' :=
  ⟨h.os, h.tape, h.output, h.size, h.below, fun p hp => h.own p (hs.subset hp), (hs.map _).nodup h.nd⟩

theorem St.perm (h : St w0 w L) (hs : L.flatten.Perm L'.flatten) : St w0 w L' :=
  ⟨h.os, h.tape, h.output, h.size, h.below, fun p hp => h.own p (hs.mem_iff.2 hp), ((hs.map _).nodup_iff).1 h.nd⟩

theorem St.cast (h : St w0 w L) (hs : L.flatten = L'.flatten) : St w0 w L' := h.perm (hs ▸ List.Perm.refl _)

theorem St.tail (h : St w0 w L) (k : Nat) (hL : L.drop k = L') : St w0 w L' := h.sub (by
  subst hL
  have e : L.flatten = (L.take k).flatten ++ (L.drop k).flatten := by rw [← List.flatten_append, List.take_append_drop]
  rw [e]
  exact List.sublist_append_right _ _)
theorem St.drop1 {C : Chunk} (h : St w0 w (C :: L)) : St w0 w L := h.sub (by simp)
theorem St.drop2 {C D : Chunk} (h : St w0 w (C :: D :: L)) : St w0 w (C :: L) := h.sub (by simp)

theorem perm_front : ∀ (L : List Chunk) (i : Nat) (C : Chunk), L[i]? = some C → L.flatten.Perm (C ++ (L.eraseIdx i).flatten)
  | [], i, C, h => by simp at h
  | D :: L, 0, C, h => by simp at h; subst h; simp
  | D :: L, i + 1, C, h => by
    simp only [List.getElem?_cons_succ] at h
    have ih := perm_front L i C h
    simp only [List.flatten_cons, List.eraseIdx_cons_succ]
    exact (List.Perm.append_left D ih).trans (by rw [← List.append_assoc, ← List.append_assoc]; exact List.Perm.append_right _ List.perm_append_comm)

/-- Chunk number i comes to the front. -/
theorem St.front (h : St w0 w L) (i : Nat) {C : Chunk} (hi : L[i]? = some C) (hL : L.eraseIdx i = L') : St w0 w (C :: L') := by
  subst hL
  exact h.perm (by simpa using perm_front L i C hi)

theorem St.swap {C D : Chunk} (h : St w0 w (C :: D :: L)) : St w0 w (D :: C :: L) := h.front 1 rfl rfl
theorem St.join {C D : Chunk} (h : St w0 w (C :: D :: L)) : St w0 w ((C ++ D) :: L) := h.cast (by simp)
theorem St.split {C D : Chunk} (h : St w0 w ((C ++ D) :: L)) : St w0 w (C :: D :: L) := h.cast (by simp)
theorem St.nil (h : St w0 w L) : St w0 w ([] :: L) := h.cast (by simp)
theorem St.unnil (h : St w0 w ([] :: L)) : St w0 w L := h.cast (by simp)

theorem St.drew (h : St w0 w L) : St w0 w.drew L := ⟨h.os, h.tape, h.output, h.size, h.below, h.own, h.nd⟩
theorem St.drawn (h : St w0 w L) (k : Nat) : St w0 { w with drawn := k } L := ⟨h.os, h.tape, h.output, h.size, h.below, h.own, h.nd⟩

theorem St.alloc (h : St w0 w L) (o : Obj) : St w0 (w.alloc o) ([(w.heap.size, o)] :: L) := by
  refine ⟨h.os, h.tape, h.output, by have := h.size; simp; omega, fun k hk => ?_, ?_, ?_⟩
  · have := h.size
    rw [RowKit.Below.heap_alloc w o k (by omega)]
    exact h.below k hk
  · intro p hp
    simp only [List.flatten_cons, List.singleton_append, List.mem_cons] at hp
    rcases hp with rfl | hp
    · exact ⟨h.size, heap_alloc_new w o⟩
    · exact ⟨(h.own p hp).1, by rw [RowKit.Below.heap_alloc w o p.1 (h.lt hp)]; exact (h.own p hp).2⟩
  · simp only [List.flatten_cons, List.singleton_append, List.map_cons, List.nodup_cons]
    refine ⟨fun hm => ?_, h.nd⟩
    obtain ⟨p, hp, he⟩ := List.mem_map.1 hm
    have := h.lt hp
    omega

/-- One block of the front chunk is written; new blocks may have come. -/
structure Upd (w w' : World) (b : Nat) (o : Obj) : Prop where
  os : w'.os = w.os
  tape : w'.tape = w.tape
  output : w'.output = w.output
  size : w.heap.size ≤ w'.heap.size
  at_ : w'.heap[b]? = some o
  other : ∀ k, k < w.heap.size → k ≠ b → w'.heap[k]? = w.heap[k]?

theorem St.upd {b : Nat} {o o' : Obj} (h : St w0 w ([(b, o)] :: L)) (hu : Upd w w' b o') : St w0 w' ([(b, o')] :: L) := by
  have hb := h.own (b, o) (by simp)
  have hnd := h.nd
  simp only [List.flatten_cons, List.singleton_append, List.map_cons, List.nodup_cons] at hnd
  refine ⟨hu.os.trans h.os, hu.tape.trans h.tape, hu.output.trans h.output, Nat.le_trans h.size hu.size, fun k hk => ?_, ?_, ?_⟩
  · have := h.size
    rw [hu.other k (by omega) (by have := hb.1; simp at this; omega)]
    exact h.below k hk
  · intro p hp
    simp only [List.flatten_cons, List.singleton_append, List.mem_cons] at hp
    rcases hp with rfl | hp
    · exact ⟨hb.1, hu.at_⟩
    · have hp' : p ∈ ([(b, o)] :: L).flatten := by simp only [List.flatten_cons, List.singleton_append, List.mem_cons]; exact .inr hp
      refine ⟨(h.own p hp').1, ?_⟩
      rw [hu.other p.1 (h.lt hp') (fun he => hnd.1 (List.mem_map.2 ⟨p, hp, he⟩))]
      exact (h.own p hp').2
  · simpa using hnd

theorem upd_setRow {b : Nat} {l l' : List Value} {T : TypeId} (hb : w.heap[b]? = some (rowO l T)) : Upd w (w.setRow b l'.toArray) b (rowO l' T) :=
  ⟨rfl, rfl, rfl, by simp [World.setRow], setRow_heap w b _ _ T (0, 0) hb, fun k _ hk => setRow_other w b k _ hk⟩

theorem St.heap (h : St w0 w L) {p : Nat × Obj} (hp : p ∈ L.flatten) : w.heap[p.1]? = some p.2 := (h.own p hp).2
theorem St.heapAt (h : St w0 w L) (i : Nat) {b : Nat} {o : Obj} {C : Chunk} (hi : L[i]? = some ((b, o) :: C)) : w.heap[b]? = some o := by
  have := h.own (b, o) (List.mem_flatten.2 ⟨_, List.mem_of_getElem? hi, by simp⟩)
  exact this.2

theorem cell_of {b : Nat} {c : Array Value} {T : TypeId} {fz : Nat × Nat} (h : w.heap[b]? = some (.cells c T fz)) (off : Nat) : w.cell? ⟨b, off, none⟩ = c[off]? := by
  simp [World.cell?, h]
theorem cell_row {b : Nat} {l : List Value} {T : TypeId} (h : w.heap[b]? = some (rowO l T)) {off : Nat} {v : Value} (hv : l[off]? = some v) : w.cell? ⟨b, off, none⟩ = some v := by
  rw [cell_of h]; simpa using hv

theorem St.old (h : St w0 w L) {p : Addr} {v : Value} (hc : w0.cell? p = some v) : w.cell? p = some v := by
  have hlt := World.block_lt_of_cell? w0 p hc
  rw [World.cell?_of_block (h.below p.block hlt)]
  exact hc

/-! ### 9. Slices that are read, and rows of the call's own -/
/-- A slice value that reads as a row of cells. -/
def Rd (w : World) (size : Nat) (v : Value) (m : Nat) (xs : List Value) : Prop :=
  xs.length = m * size ∧ ((v = .slice none 0 0 ∧ m = 0) ∨ ∃ b off c, v = .slice (some ⟨b, off, none⟩) m c ∧ m ≤ c ∧ c ≤ maxLen ∧ ∀ j u, xs[j]? = some u → w.cell? ⟨b, off + j, none⟩ = some u)

/-- The same, wherever in a block it begins, whatever its address bears. -/
def RdX (w : World) (size : Nat) (v : Value) (m : Nat) (xs : List Value) : Prop :=
  xs.length = m * size ∧ ((v = .slice none 0 0 ∧ m = 0) ∨ ∃ (a : Addr) (c : Nat), v = .slice (some a) m c ∧ m ≤ c ∧ c ≤ maxLen ∧ ∀ j u, xs[j]? = some u → w.cell? (a.add j) = some u)
theorem Rd.x {size : Nat} {v : Value} {m : Nat} {xs : List Value} (h : Rd w size v m xs) : RdX w size v m xs := by
  obtain ⟨hl, h1 | ⟨b, off, c, hv, hc, hm, hx⟩⟩ := h
  · exact ⟨hl, .inl h1⟩
  · exact ⟨hl, .inr ⟨⟨b, off, none⟩, c, hv, hc, hm, fun j u hu => by rw [Addr.add_lit]; exact hx j u hu⟩⟩
theorem RdX.old {size : Nat} {v : Value} {m : Nat} {xs : List Value} (h : St w0 w L) (hr : RdX w0 size v m xs) : RdX w size v m xs := by
  obtain ⟨hl, h1 | ⟨a, c, hv, hc, hm, hx⟩⟩ := hr
  · exact ⟨hl, .inl h1⟩
  · exact ⟨hl, .inr ⟨a, c, hv, hc, hm, fun j u hu => h.old (hx j u hu)⟩⟩
theorem RdX.nil (w : World) (size : Nat) : RdX w size (.slice none 0 0) 0 [] := ⟨by simp, .inl ⟨rfl, rfl⟩⟩
theorem RdX.open' {size : Nat} {v : Value} {m : Nat} {xs : List Value} (ho : RdX w size v m xs) : ∃ A c, v = .slice A m c ∧ m ≤ c ∧ c ≤ 9223372036854775807 := by
  obtain ⟨hl, ⟨hv, hm⟩ | ⟨a, c, hv, hc, hmx, hx⟩⟩ := ho
  · subst hm; exact ⟨none, 0, hv, Nat.le_refl _, Nat.zero_le _⟩
  · exact ⟨_, c, hv, hc, hmx⟩

/-- A slice value over a row of the call's own; 'C' is its chunk. -/
def Own (T size : Nat) (v : Value) (m : Nat) (xs : List Value) (C : Chunk) : Prop :=
  xs.length = m * size ∧ ((v = .slice none 0 0 ∧ m = 0 ∧ C = []) ∨
    ∃ g pre sp post c, v = .slice (some ⟨g, pre.length, none⟩) m c ∧ m ≤ c ∧ c ≤ maxLen ∧ sp.length = (c - m) * size ∧ C = [(g, rowO (pre ++ (xs ++ (sp ++ post))) T)])

theorem Rd.old {size : Nat} {v : Value} {m : Nat} {xs : List Value} (h : St w0 w L) (hr : Rd w0 size v m xs) : Rd w size v m xs := by
  obtain ⟨hl, h1 | ⟨b, off, c, hv, hc, hm, hx⟩⟩ := hr
  · exact ⟨hl, .inl h1⟩
  · exact ⟨hl, .inr ⟨b, off, c, hv, hc, hm, fun j u hu => h.old (hx j u hu)⟩⟩

theorem Own.rd {T size : Nat} {v : Value} {m : Nat} {xs : List Value} {C : Chunk} (ho : Own T size v m xs C) (hC : ∀ p ∈ C, w.heap[p.1]? = some p.2) : Rd w size v m xs := by
  obtain ⟨hl, ⟨hv, hm, _⟩ | ⟨g, pre, sp, post, c, hv, hc, hmx, hsp, rfl⟩⟩ := ho
  · exact ⟨hl, .inl ⟨hv, hm⟩⟩
  · refine ⟨hl, .inr ⟨g, pre.length, c, hv, hc, hmx, fun j u hu => ?_⟩⟩
    have hg := hC _ (List.mem_singleton.2 rfl)
    refine cell_row hg ?_
    have hj := (List.getElem?_eq_some_iff.1 hu).1
    rw [List.getElem?_append_right (by omega), Nat.add_sub_cancel_left, List.getElem?_append_left hj]
    exact hu

theorem St.own_ (h : St w0 w L) (i : Nat) {C : Chunk} (hi : L[i]? = some C) : ∀ p ∈ C, w.heap[p.1]? = some p.2 :=
  fun p hp => h.heap (List.mem_flatten.2 ⟨C, List.mem_of_getElem? hi, hp⟩)

theorem Own.nil (T size : Nat) : Own T size (.slice none 0 0) 0 [] [] := ⟨by simp, .inl ⟨rfl, rfl, rfl⟩⟩
theorem Rd.nil (w : World) (size : Nat) : Rd w size (.slice none 0 0) 0 [] := ⟨by simp, .inl ⟨rfl, rfl⟩⟩
theorem Own.row {T size g m c : Nat} {xs sp : List Value} (hl : xs.length = m * size) (hc : m ≤ c) (hm : c ≤ maxLen) (hs : sp.length = (c - m) * size) :
    Own T size (.slice (some ⟨g, 0, none⟩) m c) m xs [(g, rowO (xs ++ sp) T)] := ⟨hl, .inr ⟨g, [], sp, [], c, rfl, hc, hm, hs, by simp⟩⟩
theorem Own.full {T size g m : Nat} {xs : List Value} (hl : xs.length = m * size) (hm : m ≤ maxLen) :
    Own T size (.slice (some ⟨g, 0, none⟩) m m) m xs [(g, rowO xs T)] := by
  have := Own.row (T := T) (g := g) (sp := []) hl (Nat.le_refl m) hm (by simp)
  simpa using this
/-- Every slice value, laid open. -/
theorem Own.open {T size : Nat} {v : Value} {m : Nat} {xs : List Value} {C : Chunk} (ho : Own T size v m xs C) : ∃ A c, v = .slice A m c ∧ m ≤ c ∧ c ≤ maxLen := by
  obtain ⟨hl, ⟨hv, hm, _⟩ | ⟨g, pre, sp, post, c, hv, hc, hmx, hsp, rfl⟩⟩ := ho
  · subst hm; exact ⟨none, 0, hv, Nat.le_refl _, Nat.zero_le _⟩
  · exact ⟨_, c, hv, hc, hmx⟩
theorem Rd.open {size : Nat} {v : Value} {m : Nat} {xs : List Value} (ho : Rd w size v m xs) : ∃ A c, v = .slice A m c ∧ m ≤ c ∧ c ≤ maxLen := by
  obtain ⟨hl, ⟨hv, hm⟩ | ⟨b, off, c, hv, hc, hmx, hx⟩⟩ := ho
  · subst hm; exact ⟨none, 0, hv, Nat.le_refl _, Nat.zero_le _⟩
  · exact ⟨_, c, hv, hc, hmx⟩
theorem Own.len {T size : Nat} {v : Value} {m : Nat} {xs : List Value} {C : Chunk} (ho : Own T size v m xs C) : xs.length = m * size := ho.1

/-- Of a row that is read: the cells of element k. -/
theorem Rd.at_ {size : Nat} {A : Option Addr} {m c : Nat} {xs : List Value} (h : Rd w size (.slice A m c) m xs) (k : Nat) (hk : k < m) :
    ∃ b off, A = some ⟨b, off, none⟩ ∧ ∀ j u, xs[k * size + j]? = some u → w.cell? ⟨b, off + k * size + j, none⟩ = some u := by
  obtain ⟨hl, ⟨hv, hm⟩ | ⟨b, off, c', hv, hc, hmx, hx⟩⟩ := h
  · omega
  · injection hv with h1 h2 h3
    refine ⟨b, off, h1, fun j u hu => ?_⟩
    rw [Nat.add_assoc]
    exact hx _ u hu
end
end Go.SK
