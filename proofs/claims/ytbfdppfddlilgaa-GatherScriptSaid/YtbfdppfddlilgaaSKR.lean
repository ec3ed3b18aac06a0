import Derived.Test.YtbfdppfddlilgaaSK11
import Derived.WalkKit
import Derived.ProofKit
import Derived.OpenShut
import Derived.ShutString
import Derived.ChangeOld
import Derived.Below
import Derived.SizedLaws
import Derived.ChangeSlices
import Derived.Carry
set_option linter.unusedVariables false
set_option linter.unusedSimpArgs false
/-! ### The arguments of a law, laid open for the walk. Own work. -/
namespace Go.SK
open Go Go.RowKit Go.ChangeShapes Go.WideShapes

theorem slice_addr {P : Program} {w : World} {r : Reach} {b0 : Nat} {t e : TypeId} {v : Value} (ht : P.underlying t = some (.slice e)) (h : Value.okWide P w r b0 t v) :
    v = .slice none 0 0 ∨ ∃ b off len cap, v = .slice (some ⟨b, off, none⟩) len cap ∧ len ≤ cap ∧ cap ≤ maxLen := by
  simp only [Value.okWide, ht, Cell.okWide] at h
  cases v <;> simp_all [Cell.ok]
  rename_i p len cap
  cases p with
  | none => 
    left
    split at h
    all_goals simp_all
  | some a =>
    right
    obtain ⟨b, off, sp⟩ := a
    obtain ⟨h1, h2, h3⟩ := h
    obtain ⟨_, h4, _⟩ := h3
    simp only at h4
    subst h4
    refine ⟨b, off, len, cap, ⟨rfl, rfl, rfl⟩, h1, ?_⟩
    show cap ≤ 9223372036854775807
    omega

theorem list_of {α : Type} {R : Nat → α → Prop} : ∀ n : Nat, (∀ i, i < n → ∃ a, R i a) → ∃ l : List α, l.length = n ∧ ∀ (i : Nat) a, l[i]? = some a → R i a
  | 0, _ => ⟨[], rfl, fun i a h => by cases h⟩
  | n + 1, h => by
    obtain ⟨l, hl, hr⟩ := list_of n (fun i hi => h i (by omega))
    obtain ⟨a, ha⟩ := h n (by omega)
    refine ⟨l ++ [a], by simp [hl], fun i b hb => ?_⟩
    by_cases hi : i < n
    · rw [List.getElem?_append_left (by omega)] at hb; exact hr i b hb
    · have h2 := (List.getElem?_eq_some_iff.1 hb).1
      simp only [List.length_append, List.length_cons, List.length_nil] at h2
      obtain rfl : i = n := by omega
      rw [List.getElem?_append_right (by omega)] at hb
      simp [hl] at hb
      subst hb; exact ha

theorem mapM_at {α : Type} {f : Nat → Option α} {n : Nat} {cs : List α} (h : (List.range n).mapM f = some cs) {j : Nat} {u : α} (hu : cs[j]? = some u) : f j = some u := by
  have h1 := mapM_some_length h
  have hj := (List.getElem?_eq_some_iff.1 hu).1
  have h2 := mapM_some_get h j j (by rw [List.getElem?_range (by simp at h1; omega)])
  rw [h2, hu]

theorem rows_div {α : Type} {en : α → List Value} {size : Nat} (he : Enc en size) (hs : 0 < size) {l : List α} {j : Nat} {u : Value} (hu : (rows en l)[j]? = some u) :
    ∃ k r x, j = k * size + r ∧ l[k]? = some x ∧ (en x)[r]? = some u := by
  have hj := (List.getElem?_eq_some_iff.1 hu).1
  rw [rows_length he] at hj
  have hd := Nat.div_add_mod' j size
  have hk : j / size < l.length := by rw [Nat.div_lt_iff_lt_mul hs]; exact hj
  have hr := Nat.mod_lt j hs
  refine ⟨j / size, j % size, l[j / size], hd.symm, List.getElem?_eq_getElem hk, ?_⟩
  have hx : (en l[j / size])[j % size]? = some ((en l[j / size])[j % size]'(by rw [he.len]; exact hr)) := List.getElem?_eq_getElem _
  have := rows_at he (List.getElem?_eq_getElem hk) _ _ hx
  rw [hd, hu] at this
  rw [hx, ← this]

theorem add_add (b off i j : Nat) : ((⟨b, off, none⟩ : Addr).add i).add j = ⟨b, off + i + j, none⟩ := by
  unfold Addr.add
  by_cases h : i = 0 <;> by_cases g : j = 0 <;> simp [h, g]

/-- A slice among the arguments, laid open: its elements by their encoding. -/
theorem open_rows {H : Type} {enc : TypeId × Value → H} {P : Program} {w : World} {r : Reach} {spare : Nat → Bool} {held : Bool} {t e : TypeId} {v : Value} {d : DataW H} {ps : List MemPlace} {b0 : Nat}
    {α : Type} {en : α → List Value} {size : Nat} {G : α → Prop} (he : Enc en size) (hs : 0 < size)
    (ht : P.underlying t = some (.slice e)) (hc : P.cellsOf e = size) (hval : Value.okWide P w r b0 t v)
    (dec : ∀ n cs x, DataW.trod enc P w 0 spare held n e cs = some x → ∃ a, cs = en a ∧ G a)
    (h : DataW.Trod enc P w 0 spare held t v d ps) :
    ∃ l : List α, Rd w size v l.length (rows en l) ∧ (∀ x ∈ l, G x) ∧ (d = .nil ∧ l.length = 0 ∨ ∃ elems sp, d = .slice elems sp ∧ l.length = elems.length) := by
  obtain ⟨fuel, hf⟩ := h
  rcases slice_addr ht hval with rfl | ⟨b, off, len, cap, rfl, hl, hm⟩
  · refine ⟨[], ⟨by simp [rows], .inl ⟨rfl, rfl⟩⟩, by simp, ?_⟩
    rcases DataW.trod_slice ht hf with ⟨_, h0⟩ | ⟨a, len, cap, elems, rest, n, _, h0, _⟩
    · injection h0 with h0 _; exact .inl ⟨h0, rfl⟩
    · simp [Value.cells] at h0
  · rcases DataW.trod_slice ht hf with ⟨h0, _⟩ | ⟨a, len', cap', elems, rest, n, _, h0, hx, _, _, _, hlen, hel, _⟩
    · simp [Value.cells] at h0
    · simp only [Value.cells] at h0
      injection h0 with h0 _
      injection h0 with h1 h2 h3
      injection h1 with h1
      subst h1; subst h2; subst h3
      injection hx with hd _
      obtain ⟨l, hll, hR⟩ := list_of (R := fun i (a : α) => (w.cells? 0 ((⟨b, off, none⟩ : Addr).add (i * size)) size) = some (en a) ∧ G a) len (fun i hi => by
        have h1 := hel i hi
        rw [hc] at h1
        rw [List.getElem?_eq_getElem (by omega)] at h1
        obtain ⟨cs, hcs, htr⟩ := Option.bind_eq_some_iff.1 h1
        obtain ⟨a, rfl, ha⟩ := dec n cs _ htr
        exact ⟨a, hcs, ha⟩)
      refine ⟨l, ⟨by rw [rows_length he], .inr ⟨b, off, cap, by rw [hll], by omega, hm, fun j u hu => ?_⟩⟩, fun x hx => ?_, .inr ⟨_, _, hd, by simp [hll, hlen]⟩⟩
      · obtain ⟨k, r', x, rfl, hx, hu⟩ := rows_div he hs hu
        have h1 := (hR k x hx).1
        unfold World.cells? at h1
        rw [if_pos (Nat.zero_le _)] at h1
        have := mapM_at h1 hu
        rw [add_add] at this
        rw [← Nat.add_assoc]
        exact this
      · obtain ⟨i, hi⟩ := List.mem_iff_getElem?.1 hx
        exact (hR i x hi).2

/-- Its length keeps to the reach. -/
theorem sized_rows {H : Type} {P : Program} {ts : List TypeId} {ds : List (DataW H)} (h : (DataW.weightsEach P ts ds).all (· ≤ reachBytes) = true) {j : Nat} {t e : TypeId} {d : DataW H} (ht : ts[j]? = some t) (hd : ds[j]? = some d)
    (hu : P.underlying t = some (.slice e)) {B n : Nat} (hB : P.bytesOf e = B) (hn : d = .nil ∧ n = 0 ∨ ∃ elems sp, d = .slice elems sp ∧ n = elems.length) : n * B ≤ 140737488351232 := by
  rcases hn with ⟨_, rfl⟩ | ⟨elems, sp, rfl, rfl⟩
  · simp
  · have z := sized_slice h ht hd hu
    rw [hB] at z
    exact Nat.le_trans (Nat.mul_le_mul_right _ (Nat.le_add_right _ _)) z

theorem dec_i64 {H : Type} {enc : TypeId × Value → H} {P : Program} {w : World} {spare : Nat → Bool} {held : Bool} {e : TypeId} (ht : P.underlying e = some (.int .i64)) :
    ∀ n cs x, DataW.trod enc P w 0 spare held n e cs = some x → ∃ a, cs = encI a ∧ (Lit.int .i64 a).wf = true := fun n cs x h => by
  obtain ⟨a, rfl, _, ha⟩ := DataW.trod_int ht h
  exact ⟨a, rfl, ha⟩
theorem wf_u8 {n : Int} (h : (Lit.int .u8 n).wf = true) : 0 ≤ n ∧ n < 256 := by
  have e1 : IntKind.u8.min = 0 := by decide
  have e2 : IntKind.u8.max = 255 := by decide
  simp [Lit.wf, e1, e2] at h
  omega
theorem wf_i64 {n : Int} (h : (Lit.int .i64 n).wf = true) : -9223372036854775808 ≤ n ∧ n < 9223372036854775808 := by
  have e1 : IntKind.i64.min = -9223372036854775808 := by decide
  have e2 : IntKind.i64.max = 9223372036854775807 := by decide
  simp [Lit.wf, e1, e2] at h
  omega
theorem wf_i8 {n : Int} (h : (Lit.int .i8 n).wf = true) : -128 ≤ n ∧ n < 128 := by
  have e1 : IntKind.i8.min = -128 := by decide
  have e2 : IntKind.i8.max = 127 := by decide
  simp [Lit.wf, e1, e2] at h
  omega
theorem wf_u16 {n : Int} (h : (Lit.int .u16 n).wf = true) : 0 ≤ n ∧ n < 65536 := by
  have e1 : IntKind.u16.min = 0 := by decide
  have e2 : IntKind.u16.max = 65535 := by decide
  simp [Lit.wf, e1, e2] at h
  omega
theorem wf_u32 {n : Int} (h : (Lit.int .u32 n).wf = true) : 0 ≤ n ∧ n < 4294967296 := by
  have e1 : IntKind.u32.min = 0 := by decide
  have e2 : IntKind.u32.max = 4294967295 := by decide
  simp [Lit.wf, e1, e2] at h
  omega
theorem wf_i32 {n : Int} (h : (Lit.int .i32 n).wf = true) : -2147483648 ≤ n ∧ n < 2147483648 := by
  have e1 : IntKind.i32.min = -2147483648 := by decide
  have e2 : IntKind.i32.max = 2147483647 := by decide
  simp [Lit.wf, e1, e2] at h
  omega
theorem wf_u64 {n : Int} (h : (Lit.int .u64 n).wf = true) : 0 ≤ n ∧ n < 18446744073709551616 := by
  have e1 : IntKind.u64.min = 0 := by decide
  have e2 : IntKind.u64.max = 18446744073709551615 := by decide
  simp [Lit.wf, e1, e2] at h
  omega
theorem dec_u8 {H : Type} {enc : TypeId × Value → H} {P : Program} {w : World} {spare : Nat → Bool} {held : Bool} {e : TypeId} (ht : P.underlying e = some (.int .u8)) :
    ∀ n cs x, DataW.trod enc P w 0 spare held n e cs = some x → ∃ a : UInt8, cs = encB a ∧ True := fun n cs x h => by
  obtain ⟨a, rfl, _, ha⟩ := DataW.trod_int ht h
  have := wf_u8 ha
  refine ⟨UInt8.ofNat a.toNat, ?_, trivial⟩
  have e : ((UInt8.ofNat a.toNat).toNat : Int) = a := by
    rw [UInt8.toNat_ofNat']
    omega
  simp only [encB, e]

theorem dec_bool {H : Type} {enc : TypeId × Value → H} {P : Program} {w : World} {spare : Nat → Bool} {held : Bool} {e : TypeId} (ht : P.underlying e = some .bool) :
    ∀ n cs x, DataW.trod enc P w 0 spare held n e cs = some x → ∃ a : Bool, cs = encBo a ∧ True := fun n cs x h => by
  obtain ⟨a, rfl, _⟩ := DataW.trod_bool ht h
  exact ⟨a, rfl, trivial⟩

theorem trod_back {H : Type} {enc : TypeId × Value → H} {P : Program} {t : TypeId} (hl : laidOutB P = true) (hr : P.readableRec t = true) (hrow : t < P.types.size) {W W' : World} {v : Value} {d : DataW H} {ps : List MemPlace}
    (h : DataW.Trod enc P W 0 (fun _ => true) true t v d ps) (hb : Below W.heap.size W W') : DataW.Trod enc P W' 0 (fun b => decide (b < W.heap.size)) true t v d ps :=
  Below.trod hl hr hrow h hb (by obtain ⟨m, hm⟩ := h; exact DataW.trod_lt m _ _ _ hm)
theorem RdS.of {w : World} {size : Nat} {v : Value} {m : Nat} {xs : List Value} (h : Rd w size v m xs) : RdS w [] size v m xs := RdS.old h
end Go.SK
