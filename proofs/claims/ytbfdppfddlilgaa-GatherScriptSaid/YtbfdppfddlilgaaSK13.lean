import Derived.Test.YtbfdppfddlilgaaSK12
set_option linter.unusedVariables false
set_option linter.unusedSimpArgs false
/-! ### 14. Arguments with data of bytes inside of structs. Own work. -/
namespace Go.SK
open Go Go.RowKit Go.ChangeShapes Go.WideShapes
section
variable {H : Type} {enc : TypeId × Value → H} {P : Program} {w : World} {spare : Nat → Bool} {held : Bool}
/-- What is handed over keeps to the reach, with all that lies in it. -/
def WOk (P : Program) (t : TypeId) (d : DataW H) : Prop := ∀ k ∈ d.weights P t, k ≤ reachBytes
theorem weightsAll_mem {e : TypeId} {k : Nat} : ∀ {elems : List (DataW H)} {i : Nat} {d : DataW H}, elems[i]? = some d → k ∈ d.weights P e → k ∈ DataW.weightsAll P e elems
  | [], i, d, h, _ => by simp at h
  | x :: xs, 0, d, h, hk => by
    simp only [List.getElem?_cons_zero, Option.some.injEq] at h
    subst h
    simp only [DataW.weightsAll, List.mem_append]; exact .inl hk
  | x :: xs, i + 1, d, h, hk => by
    simp only [List.getElem?_cons_succ] at h
    simp only [DataW.weightsAll, List.mem_append]; exact .inr (weightsAll_mem h hk)
theorem WOk.elem {t e : TypeId} {elems sp : List (DataW H)} (h : WOk P t (.slice elems sp)) (ht : P.underlying t = some (.slice e)) {i : Nat} {d : DataW H} (hi : elems[i]? = some d) : WOk P e d := fun k hk =>
  h k (by simp only [DataW.weights, ht, List.mem_cons, List.mem_append]; exact .inr (.inl (weightsAll_mem hi hk)))
theorem WOk.len {t e : TypeId} {elems sp : List (DataW H)} (h : WOk P t (.slice elems sp)) (ht : P.underlying t = some (.slice e)) : (elems.length + sp.length) * P.bytesOf e ≤ reachBytes :=
  h _ (by simp only [DataW.weights, ht, List.mem_cons]; exact .inl trivial)
theorem WOk.part {t : TypeId} {fs : Array Field} {parts : List (DataW H)} (h : WOk P t (.agg parts)) (ht : P.underlying t = some (.struct fs)) {i : Nat} {f : Field} {d : DataW H} (hf : fs[i]? = some f) (hd : parts[i]? = some d) : WOk P f.type d := fun k hk =>
  h k (by simp only [DataW.weights, ht]; exact DataW.weights_mem_each (j := i) (t := f.type) (by rw [List.getElem?_map]; simp [hf]) hd k hk)
theorem WOk.arg {ts : List TypeId} {ds : List (DataW H)} (h : (DataW.weightsEach P ts ds).all (· ≤ reachBytes) = true) {j : Nat} {t : TypeId} {d : DataW H} (ht : ts[j]? = some t) (hd : ds[j]? = some d) : WOk P t d := fun k hk => by
  have := List.all_eq_true.1 h _ (DataW.weights_mem_each ht hd k hk)
  simpa using this
theorem dec_bytes {t e : TypeId} (ht : P.underlying t = some (.slice e)) (he : P.underlying e = some (.int .u8)) (hc : P.cellsOf e = 1) (hb : P.bytesOf e = 1) :
    ∀ n cs x, DataW.trod enc P w 0 spare held n t cs = some x → WOk P t x.1 → ∃ A c bs, cs = [.slice A (bs : List UInt8).length c] ∧ RdX w 1 (.slice A bs.length c) bs.length (rows encB bs) ∧ bs.length ≤ 140737488351232 := fun n cs x h hw => by
  rcases DataW.trod_slice ht h with ⟨rfl, rfl⟩ | ⟨a, len, cap, elems, rest, n', _, rfl, rfl, _, hl, hm, hlen, hel, _⟩
  · exact ⟨none, 0, [], rfl, RdX.nil _ 1, Nat.zero_le _⟩
  · obtain ⟨bs, hbl, hR⟩ := list_of (R := fun i (b : UInt8) => w.cell? (a.add i) = some (.int .u8 ((b.toNat : Nat) : Int))) len (fun i hi => by
      have h1 := hel i hi
      rw [hc, List.getElem?_eq_getElem (by omega)] at h1
      obtain ⟨cs, hcs, htr⟩ := Option.bind_eq_some_iff.1 h1
      obtain ⟨b, rfl, _⟩ := dec_u8 he _ _ _ htr
      refine ⟨b, ?_⟩
      unfold World.cells? at hcs
      rw [if_pos (Nat.zero_le _)] at hcs
      have h2 := mapM_at hcs (j := 0) (u := .int .u8 ((b.toNat : Nat) : Int)) rfl
      rw [Nat.mul_one] at h2
      simpa [Addr.add] using h2)
    subst hbl
    refine ⟨some a, cap, bs, rfl, ⟨by rw [rows_length encB_ok], .inr ⟨a, cap, rfl, hl, hm, fun j u hu => ?_⟩⟩, ?_⟩
    · rw [rows_bytes] at hu
      have hj : j < bs.length := by have := (List.getElem?_eq_some_iff.1 hu).1; simpa using this
      simp only [List.getElem?_map, List.getElem?_eq_getElem hj, Option.map_some, Option.some.injEq] at hu
      rw [← hu]
      exact hR j _ (List.getElem?_eq_getElem hj)
    · have := hw.len ht
      rw [hb] at this
      simp only [List.length_map, reachBytes] at this
      omega
/-- A slice among the arguments, laid open: its elements by their encoding; of what lies in them it is known that it keeps to the reach. -/
theorem open_rows2 {r : Reach} {t e : TypeId} {v : Value} {d : DataW H} {ps : List MemPlace} {b0 : Nat}
    {α : Type} {en : α → List Value} {size : Nat} {G : α → Prop} (he : Enc en size) (hs : 0 < size)
    (ht : P.underlying t = some (.slice e)) (hc : P.cellsOf e = size) (hval : Value.okWide P w r b0 t v) (hw : WOk P t d)
    (dec : ∀ n cs x, DataW.trod enc P w 0 spare held n e cs = some x → WOk P e x.1 → ∃ a, cs = en a ∧ G a)
    (h : DataW.Trod enc P w 0 spare held t v d ps) :
    ∃ l : List α, Rd w size v l.length (rows en l) ∧ (∀ x ∈ l, G x) ∧ (d = .nil ∧ l.length = 0 ∨ ∃ elems sp, d = .slice elems sp ∧ l.length = elems.length) := by
  obtain ⟨fuel, hf⟩ := h
  rcases slice_addr ht hval with rfl | ⟨b, off, len, cap, rfl, hl, hm⟩
  · refine ⟨[], ⟨by simp [rows], .inl ⟨rfl, rfl⟩⟩, by simp, ?_⟩
    rcases DataW.trod_slice ht hf with ⟨_, h0⟩ | ⟨a, len, cap, elems, rest, n, _, h0, _⟩
    · injection h0 with h0 _; exact .inl ⟨h0, rfl⟩
    · simp [Value.cells] at h0
  · rcases DataW.trod_slice ht hf with ⟨h0, _⟩ | ⟨a, len', cap', elems, rest, n, _, h0, hx, _, _, _, hlen, hel, _⟩
    · simp [Value.cells] at h0
    · simp only [Value.cells] at h0
      injection h0 with h0 _
      injection h0 with h1 h2 h3
      injection h1 with h1
      subst h1; subst h2; subst h3
      injection hx with hd _
      subst hd
      obtain ⟨l, hll, hR⟩ := list_of (R := fun i (a : α) => (w.cells? 0 ((⟨b, off, none⟩ : Addr).add (i * size)) size) = some (en a) ∧ G a) len (fun i hi => by
        have h1 := hel i hi
        rw [hc] at h1
        rw [List.getElem?_eq_getElem (by omega)] at h1
        obtain ⟨cs, hcs, htr⟩ := Option.bind_eq_some_iff.1 h1
        obtain ⟨a, rfl, ha⟩ := dec n cs _ htr (hw.elem ht (i := i) (by rw [List.getElem?_map, List.getElem?_eq_getElem (by omega)]; rfl))
        exact ⟨a, hcs, ha⟩)
      refine ⟨l, ⟨by rw [rows_length he], .inr ⟨b, off, cap, by rw [hll], by omega, hm, fun j u hu => ?_⟩⟩, fun x hx => ?_, .inr ⟨_, _, rfl, by simp [hll, hlen]⟩⟩
      · obtain ⟨k, r', x, rfl, hx, hu⟩ := rows_div he hs hu
        have h1 := (hR k x hx).1
        unfold World.cells? at h1
        rw [if_pos (Nat.zero_le _)] at h1
        have := mapM_at h1 hu
        rw [add_add] at this
        rw [← Nat.add_assoc]
        exact this
      · obtain ⟨i, hi⟩ := List.mem_iff_getElem?.1 hx
        exact (hR i x hi).2
theorem sum_le {α β : Type} {f : α → Nat} {g : β → Nat} : ∀ {l : List α} {ys : List β}, l.length = ys.length → (∀ (i : Nat) (a : α), l[i]? = some a → ∃ y, ys[i]? = some y ∧ f a ≤ g y) → (l.map f).sum ≤ (ys.map g).sum
  | [], ys, _, _ => by simp
  | a :: l, [], h, _ => by simp at h
  | a :: l, y :: ys, h, hp => by
    obtain ⟨z, hz, hle⟩ := hp 0 a rfl
    simp only [List.getElem?_cons_zero, Option.some.injEq] at hz
    subst hz
    have := sum_le (l := l) (ys := ys) (f := f) (g := g) (by simpa using h) (fun i b hb => hp (i + 1) b (by simpa using hb))
    simp only [List.map_cons, List.sum_cons]
    omega
/-- The same, with a measure of the elements that what is handed over bounds. -/
theorem open_rows3 {r : Reach} {t e : TypeId} {v : Value} {d : DataW H} {ps : List MemPlace} {b0 : Nat}
    {α : Type} {en : α → List Value} {size : Nat} {G : α → Prop} {sz : α → Nat} {B : DataW H → Nat} (he : Enc en size) (hs : 0 < size)
    (ht : P.underlying t = some (.slice e)) (hc : P.cellsOf e = size) (hval : Value.okWide P w r b0 t v) (hw : WOk P t d)
    (dec : ∀ n cs x, DataW.trod enc P w 0 spare held n e cs = some x → WOk P e x.1 → ∃ a, cs = en a ∧ G a ∧ sz a ≤ B x.1)
    (h : DataW.Trod enc P w 0 spare held t v d ps) :
    ∃ l : List α, Rd w size v l.length (rows en l) ∧ (∀ x ∈ l, G x) ∧ (d = .nil ∧ l.length = 0 ∨ ∃ elems sp, d = .slice elems sp ∧ l.length = elems.length ∧ (l.map sz).sum ≤ (elems.map B).sum) := by
  obtain ⟨fuel, hf⟩ := h
  rcases slice_addr ht hval with rfl | ⟨b, off, len, cap, rfl, hl, hm⟩
  · refine ⟨[], ⟨by simp [rows], .inl ⟨rfl, rfl⟩⟩, by simp, ?_⟩
    rcases DataW.trod_slice ht hf with ⟨_, h0⟩ | ⟨a, len, cap, elems, rest, n, _, h0, _⟩
    · injection h0 with h0 _; exact .inl ⟨h0, rfl⟩
    · simp [Value.cells] at h0
  · rcases DataW.trod_slice ht hf with ⟨h0, _⟩ | ⟨a, len', cap', elems, rest, n, _, h0, hx, _, _, _, hlen, hel, _⟩
    · simp [Value.cells] at h0
    · simp only [Value.cells] at h0
      injection h0 with h0 _
      injection h0 with h1 h2 h3
      injection h1 with h1
      subst h1; subst h2; subst h3
      injection hx with hd _
      subst hd
      obtain ⟨l, hll, hR⟩ := list_of (R := fun i (a : α) => (w.cells? 0 ((⟨b, off, none⟩ : Addr).add (i * size)) size) = some (en a) ∧ G a ∧ ∃ y, (elems.map (·.1))[i]? = some y ∧ sz a ≤ B y) len (fun i hi => by
        have h1 := hel i hi
        rw [hc] at h1
        rw [List.getElem?_eq_getElem (by omega)] at h1
        obtain ⟨cs, hcs, htr⟩ := Option.bind_eq_some_iff.1 h1
        have hm2 : (elems.map (·.1))[i]? = some (elems[i]'(by omega)).1 := by rw [List.getElem?_map, List.getElem?_eq_getElem (by omega)]; rfl
        obtain ⟨a, rfl, ha, hb⟩ := dec n cs _ htr (hw.elem ht hm2)
        exact ⟨a, hcs, ha, _, hm2, hb⟩)
      refine ⟨l, ⟨by rw [rows_length he], .inr ⟨b, off, cap, by rw [hll], by omega, hm, fun j u hu => ?_⟩⟩, fun x hx => ?_, .inr ⟨_, _, rfl, by simp [hll, hlen], sum_le (by simp [hll, hlen]) (fun i a ha => (hR i a ha).2.2)⟩⟩
      · obtain ⟨k, r', x, rfl, hx, hu⟩ := rows_div he hs hu
        have h1 := (hR k x hx).1
        unfold World.cells? at h1
        rw [if_pos (Nat.zero_le _)] at h1
        have := mapM_at h1 hu
        rw [add_add] at this
        rw [← Nat.add_assoc]
        exact this
      · obtain ⟨i, hi⟩ := List.mem_iff_getElem?.1 hx
        exact (hR i x hi).2.1
/-- A struct among the arguments. -/
theorem open_struct {r : Reach} {t : TypeId} {fs : Array Field} {v : Value} {d : DataW H} {ps : List MemPlace} {b0 : Nat} {α : Type} {en : α → List Value} {G : α → Prop}
    (ht : P.underlying t = some (.struct fs)) (hval : Value.okWide P w r b0 t v) (hw : WOk P t d)
    (dec : ∀ n cs x, DataW.trod enc P w 0 spare held n t cs = some x → WOk P t x.1 → ∃ a, cs = en a ∧ G a)
    (h : DataW.Trod enc P w 0 spare held t v d ps) : ∃ a, v = .agg (en a).toArray ∧ G a := by
  obtain ⟨fuel, hf⟩ := h
  obtain ⟨a, ha, hg⟩ := dec fuel _ _ hf hw
  simp only [Value.okWide, ht] at hval
  obtain ⟨cs, rfl, _⟩ := hval
  refine ⟨a, ?_, hg⟩
  simp only [Value.cells] at ha
  rw [← ha]
end
end Go.SK
