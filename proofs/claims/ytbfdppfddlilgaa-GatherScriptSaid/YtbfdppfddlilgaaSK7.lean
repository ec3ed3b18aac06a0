import Derived.Test.YtbfdppfddlilgaaSK6
set_option linter.unusedVariables false
set_option linter.unusedSimpArgs false
namespace Go.SK
open Go

/-! ### 12. Small words for walks -/
theorem wrap_i64 {x : Int} (h0 : -9223372036854775808 ≤ x) (h1 : x ≤ 9223372036854775807) : IntKind.i64.wrap x = x := by
  simp only [IntKind.wrap, IntKind.bits, IntKind.signed]
  simp
  omega
theorem wr64 {x y : Int} (h : x = y) (h0 : -9223372036854775808 ≤ y) (h1 : y ≤ 9223372036854775807) : Value.int .i64 (IntKind.i64.wrap x) = .int .i64 y := by
  rw [h, wrap_i64 h0 h1]
theorem wrap_u8 {x : Int} (h0 : 0 ≤ x) (h1 : x ≤ 255) : IntKind.u8.wrap x = x := by
  simp only [IntKind.wrap, IntKind.bits, IntKind.signed]
  simp
  omega
theorem wrap_u32 {x : Int} (h0 : 0 ≤ x) (h1 : x ≤ 4294967295) : IntKind.u32.wrap x = x := by
  simp only [IntKind.wrap, IntKind.bits, IntKind.signed]
  simp
  omega
theorem wrap_u64 {x : Int} (h0 : 0 ≤ x) (h1 : x ≤ 18446744073709551615) : IntKind.u64.wrap x = x := by
  simp only [IntKind.wrap, IntKind.bits, IntKind.signed]
  simp
  omega
theorem vint {k : IntKind} {x y : Int} (h : x = y) : Value.int k x = .int k y := by rw [h]
theorem vbool {x y : Bool} (h : x = y) : Value.bool x = .bool y := by rw [h]
theorem vb_true {p : Prop} [Decidable p] (h : p) : Value.bool (decide p) = .bool true := by rw [decide_eq_true h]
theorem vb_false {p : Prop} [Decidable p] (h : ¬ p) : Value.bool (decide p) = .bool false := by rw [decide_eq_false h]
theorem vb_eq_t {x y : Int} (h : x = y) : Value.bool (x == y) = .bool true := by rw [beq_iff_eq.2 h]
theorem vb_eq_f {x y : Int} (h : ¬ x = y) : Value.bool (x == y) = .bool false := by rw [beq_eq_false_iff_ne.2 h]
theorem vb_ne_t {x y : Int} (h : ¬ x = y) : Value.bool (x != y) = .bool true := by rw [bne_iff_ne.2 h]
theorem vb_ne_f {x y : Int} (h : x = y) : Value.bool (x != y) = .bool false := by subst h; simp
theorem vb_t {b : Bool} (h : b = true) : Value.bool b = .bool true := by rw [h]
theorem vb_f {b : Bool} (h : ¬ b = true) : Value.bool b = .bool false := by cases b <;> simp_all

def ints (zs : List Int) : List Value := zs.map (.int .i64)
theorem ints_length (zs : List Int) : (ints zs).length = zs.length := by simp [ints]
theorem ints_one (zs : List Int) : ∀ u ∈ ints zs, u.oneCell' = true := by
  intro u hu
  obtain ⟨x, _, rfl⟩ := List.mem_map.1 hu
  rfl
theorem ints_at {zs : List Int} {k : Nat} (h : k < zs.length) : (ints zs)[k]? = some (.int .i64 (zs.getD k 0)) := by
  simp [ints, h]
theorem ints_append (xs ys : List Int) : ints (xs ++ ys) = ints xs ++ ints ys := by simp [ints]

section
variable {w0 w w' : World} {L L' F : List Chunk}
def RdS (w0 : World) (F : List Chunk) (size : Nat) (v : Value) (m : Nat) (xs : List Value) : Prop := ∀ w', St w0 w' F → Rd w' size v m xs

theorem Rd.open' {size : Nat} {v : Value} {m : Nat} {xs : List Value} (ho : Rd w size v m xs) : ∃ A c, v = .slice A m c ∧ m ≤ c ∧ c ≤ 9223372036854775807 := ho.open
theorem Own.open' {T size : Nat} {v : Value} {m : Nat} {xs : List Value} {C : Chunk} (ho : Own T size v m xs C) : ∃ A c, v = .slice A m c ∧ m ≤ c ∧ c ≤ 9223372036854775807 := ho.open

theorem Rd.isSome {size : Nat} {A : Option Addr} {m c : Nat} {xs : List Value} (h : Rd w size (.slice A m c) m xs) {k : Nat} (hk : k < m) : ∃ b off, A = some ⟨b, off, none⟩ := by
  obtain ⟨hl, ⟨hv, hm⟩ | ⟨b, off, c', hv, hc, hmx, hx⟩⟩ := h
  · omega
  · injection hv with h1 h2 h3
    exact ⟨b, off, h1⟩
theorem Rd.cell {size : Nat} {b off m c : Nat} {xs : List Value} (h : Rd w size (.slice (some ⟨b, off, none⟩) m c) m xs) {q : Nat} {u : Value} (hu : xs[q]? = some u) : w.cell? ⟨b, off + q, none⟩ = some u := by
  obtain ⟨hl, ⟨hv, hm⟩ | ⟨b', off', c', hv, hc, hmx, hx⟩⟩ := h
  · injection hv with h1; cases h1
  · injection hv with h1 h2 h3
    injection h1 with h1
    injection h1 with h1 h4
    subst h1; subst h4
    exact hx q u hu
theorem Rd.cells {size : Nat} {b off m c : Nat} {xs cs : List Value} (h : Rd w size (.slice (some ⟨b, off, none⟩) m c) m xs) {q : Nat} (hu : ∀ j u, cs[j]? = some u → xs[q + j]? = some u) :
    ∀ j u, cs[j]? = some u → w.cell? ⟨b, off + q + j, none⟩ = some u := fun j u hj => by
  rw [Nat.add_assoc]; exact h.cell (hu j u hj)

theorem cells_row {b : Nat} {l cs : List Value} {T off : Nat} (h : w.heap[b]? = some (rowO l T)) (hc : (l.drop off).take cs.length = cs) : ∀ j u, cs[j]? = some u → w.cell? ⟨b, off + j, none⟩ = some u := by
  intro j u hj
  refine cell_row h ?_
  have hlt := (List.getElem?_eq_some_iff.1 hj).1
  rw [← hc] at hj
  rw [List.getElem?_take, if_pos hlt, List.getElem?_drop] at hj
  exact hj

/-- What holds over a world of its own holds over the elder one. -/
theorem St.trans {X : List Chunk} (h : St w0 w L) (k : St w w' X) : St w0 w' (X ++ L) := by
  refine ⟨k.os.trans h.os, k.tape.trans h.tape, k.output.trans h.output, Nat.le_trans h.size k.size, fun i hi => ?_, ?_, ?_⟩
  · have := h.size
    rw [k.below i (by omega)]; exact h.below i hi
  · intro p hp
    simp only [List.flatten_append, List.mem_append] at hp
    rcases hp with hp | hp
    · have := k.own p hp
      exact ⟨Nat.le_trans h.size this.1, this.2⟩
    · have h1 := h.own p hp
      exact ⟨h1.1, by rw [k.below p.1 (h.lt hp)]; exact h1.2⟩
  · simp only [List.flatten_append, List.map_append]
    refine List.nodup_append.2 ⟨k.nd, h.nd, ?_⟩
    intro x hx y hy hxy
    subst hxy
    obtain ⟨p, hp, rfl⟩ := List.mem_map.1 hx
    obtain ⟨q, hq, he⟩ := List.mem_map.1 hy
    have h1 := (k.own p hp).1
    have h2 := h.lt hq
    omega

theorem RdS.old {size : Nat} {v : Value} {m : Nat} {xs : List Value} (h : Rd w0 size v m xs) : RdS w0 F size v m xs := fun _ hS => Rd.old hS h
theorem RdS.own {T size : Nat} {v : Value} {m : Nat} {xs : List Value} {C : Chunk} (ho : Own T size v m xs C) (i : Nat) (hi : F[i]? = some C) : RdS w0 F size v m xs := fun _ hS => ho.rd (hS.own_ i hi)
theorem RdS.cons {size : Nat} {v : Value} {m : Nat} {xs : List Value} {C : Chunk} (h : RdS w0 F size v m xs) : RdS w0 (C :: F) size v m xs := fun _ hS => h _ hS.drop1
theorem RdS.nil {size : Nat} : RdS w0 F size (.slice none 0 0) 0 [] := fun w' _ => Rd.nil w' size
end

section
variable {P : Program} {Q : Exit → Act → World → Prop} {a : Act} {w : World}
variable {K : Act → World → Prop} {id : Nat}
theorem xt_ret (h : Q .ret a w) : Exit.then K Q .ret a w := h
theorem xb_ret (h : Q .ret a w) : Exit.inBlock id Q .ret a w := h
theorem xt_exit {i : Nat} (h : Q (.exit i) a w) : Exit.then K Q (.exit i) a w := h
theorem xt_norm (h : K a w) : Exit.then K Q .normal a w := h
theorem xb_norm (h : Q .normal a w) : Exit.inBlock id Q .normal a w := h
theorem lp_next {I : Nat → Act → World → Prop} {m : Nat} (m' : Nat) (h : m' < m) (hI : I m' a w) : Exit.then (fun a' w' => ∃ n', n' < m ∧ I n' a' w') Q .normal a w := ⟨m', h, hI⟩
end
end Go.SK
