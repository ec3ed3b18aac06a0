import Derived.Test.YtplhgbfibiinaaaDoorProg
import Derived.Test.YtplhgbfibiinaaaDoorAs
import Derived.Test.YtplhgbfibiinaaaDoorSK14
set_option linter.unusedVariables false
set_option linter.unusedSimpArgs false
set_option maxRecDepth 4000
namespace Go.Proofs.YtplhgbfibiinaaaDoor
open Go Go.SK
theorem mixed : Tryd.prog.follows .mixedOrders = true := by kernel_rfl
theorem isfn3 : IsFn Tryd.prog 3 := fun args w => by kernel_rfl
theorem isfn4 : IsFn Tryd.prog 4 := fun args w => by kernel_rfl
theorem isfn5 : IsFn Tryd.prog 5 := fun args w => by kernel_rfl
theorem isfn6 : IsFn Tryd.prog 6 := fun args w => by kernel_rfl
theorem isfn7 : IsFn Tryd.prog 7 := fun args w => by kernel_rfl
theorem isfn8 : IsFn Tryd.prog 8 := fun args w => by kernel_rfl
theorem isfn9 : IsFn Tryd.prog 9 := fun args w => by kernel_rfl
theorem isfn10 : IsFn Tryd.prog 10 := fun args w => by kernel_rfl
theorem isfn11 : IsFn Tryd.prog 11 := fun args w => by kernel_rfl
theorem isfn12 : IsFn Tryd.prog 12 := fun args w => by kernel_rfl
theorem isfn13 : IsFn Tryd.prog 13 := fun args w => by kernel_rfl
theorem isfn14 : IsFn Tryd.prog 14 := fun args w => by kernel_rfl
theorem isfn15 : IsFn Tryd.prog 15 := fun args w => by kernel_rfl
theorem isfn16 : IsFn Tryd.prog 16 := fun args w => by kernel_rfl
theorem isfn17 : IsFn Tryd.prog 17 := fun args w => by kernel_rfl
theorem isfn18 : IsFn Tryd.prog 18 := fun args w => by kernel_rfl
theorem isfn19 : IsFn Tryd.prog 19 := fun args w => by kernel_rfl
theorem isfn20 : IsFn Tryd.prog 20 := fun args w => by kernel_rfl
theorem isfn21 : IsFn Tryd.prog 21 := fun args w => by kernel_rfl
theorem isfn23 : IsFn Tryd.prog 23 := fun args w => by kernel_rfl
theorem isfn28 : IsFn Tryd.prog 28 := fun args w => by kernel_rfl
theorem isfn32 : IsFn Tryd.prog 32 := fun args w => by kernel_rfl
noncomputable def tb : List TI := [
  ⟨3, Tryd.t3.desc, 1, 8, .int .i64 0⟩,
  ⟨4, Tryd.t4.desc, 1, 1, .bool false⟩,
  ⟨5, Tryd.t5.desc, 1, 1, .int .u8 0⟩,
  ⟨22, Tryd.t22.desc, 1, 24, .slice none 0 0⟩,
  ⟨24, Tryd.t23.desc, 5, 40, .agg #[.int .i64 0, .int .i64 0, .int .i64 0, .int .i64 0, .bool false]⟩,
  ⟨26, Tryd.t22.desc, 1, 24, .slice none 0 0⟩,
  ⟨30, Tryd.t3.desc, 1, 8, .int .i64 0⟩,
  ⟨32, Tryd.t31.desc, 1, 16, .nilIface⟩,
  ⟨37, Tryd.t37.desc, 1, 2, .int .u16 0⟩,
  ⟨38, Tryd.t38.desc, 1, 24, .slice none 0 0⟩,
  ⟨44, Tryd.t43.desc, 3, 24, .agg #[.int .i64 0, .int .i64 0, .int .i64 0]⟩,
  ⟨54, Tryd.t54.desc, 1, 8, .pointer none⟩]
theorem tbOk : TabOk Tryd.prog tb := ⟨
  ⟨by kernel_rfl, Tryd.t3, by kernel_rfl, by kernel_rfl, by kernel_rfl, by kernel_rfl⟩,
  ⟨by kernel_rfl, Tryd.t4, by kernel_rfl, by kernel_rfl, by kernel_rfl, by kernel_rfl⟩,
  ⟨by kernel_rfl, Tryd.t5, by kernel_rfl, by kernel_rfl, by kernel_rfl, by kernel_rfl⟩,
  ⟨by kernel_rfl, Tryd.t22, by kernel_rfl, by kernel_rfl, by kernel_rfl, by kernel_rfl⟩,
  ⟨by kernel_rfl, Tryd.t24, by kernel_rfl, by kernel_rfl, by kernel_rfl, by kernel_rfl⟩,
  ⟨by kernel_rfl, Tryd.t26, by kernel_rfl, by kernel_rfl, by kernel_rfl, by kernel_rfl⟩,
  ⟨by kernel_rfl, Tryd.t30, by kernel_rfl, by kernel_rfl, by kernel_rfl, by kernel_rfl⟩,
  ⟨by kernel_rfl, Tryd.t32, by kernel_rfl, by kernel_rfl, by kernel_rfl, by kernel_rfl⟩,
  ⟨by kernel_rfl, Tryd.t37, by kernel_rfl, by kernel_rfl, by kernel_rfl, by kernel_rfl⟩,
  ⟨by kernel_rfl, Tryd.t38, by kernel_rfl, by kernel_rfl, by kernel_rfl, by kernel_rfl⟩,
  ⟨by kernel_rfl, Tryd.t44, by kernel_rfl, by kernel_rfl, by kernel_rfl, by kernel_rfl⟩,
  ⟨by kernel_rfl, Tryd.t54, by kernel_rfl, by kernel_rfl, by kernel_rfl, by kernel_rfl⟩,
  trivial⟩
def encArea (x : Int × Int × Int × Int × Bool) : List Value := [.int .i64 x.1, .int .i64 x.2.1, .int .i64 x.2.2.1, .int .i64 x.2.2.2.1, .bool x.2.2.2.2]
theorem encArea_ok : Enc encArea 5 := ⟨fun _ => rfl, fun x u hu => by simp only [encArea, List.mem_cons, List.not_mem_nil, or_false] at hu; rcases hu with rfl | rfl | rfl | rfl | rfl <;> rfl⟩
def encArea_dd (w0 : World) (D : Chunk) (x : Int × Int × Int × Int × Bool) : Prop := True
theorem encArea_left {w0 : World} {D E : Chunk} {x : Int × Int × Int × Int × Bool} (h : encArea_dd w0 D x) : encArea_dd w0 (E ++ D) x := trivial
theorem encArea_lefts {w0 : World} {D E : Chunk} {l : List (Int × Int × Int × Int × Bool)} (h : ∀ x ∈ l, encArea_dd w0 D x) : ∀ x ∈ l, encArea_dd w0 (E ++ D) x := fun x hx => encArea_left (h x hx)

def encPiece (x : Int × Int × Int) : List Value := [.int .i64 x.1, .int .i64 x.2.1, .int .i64 x.2.2]
theorem encPiece_ok : Enc encPiece 3 := ⟨fun _ => rfl, fun x u hu => by simp only [encPiece, List.mem_cons, List.not_mem_nil, or_false] at hu; rcases hu with rfl | rfl | rfl <;> rfl⟩
def encPiece_dd (w0 : World) (D : Chunk) (x : Int × Int × Int) : Prop := True
theorem encPiece_left {w0 : World} {D E : Chunk} {x : Int × Int × Int} (h : encPiece_dd w0 D x) : encPiece_dd w0 (E ++ D) x := trivial
theorem encPiece_lefts {w0 : World} {D E : Chunk} {l : List (Int × Int × Int)} (h : ∀ x ∈ l, encPiece_dd w0 D x) : ∀ x ∈ l, encPiece_dd w0 (E ++ D) x := fun x hx => encPiece_left (h x hx)

abbrev Area := Int × Int × Int × Int × Bool
abbrev Piece := Int × Int × Int
def ab (x : Area) : Int := x.1
def az (x : Area) : Int := x.2.1
def ag (x : Area) : Int := x.2.2.1
def ao (x : Area) : Int := x.2.2.2.1
def aw (x : Area) : Bool := x.2.2.2.2
def Val (x : Area) : Prop := 1 ≤ az x ∧ 0 ≤ ab x ∧ ab x ≤ 1073741824 ∧ az x ≤ 1073741824 - ab x
def SOk (x : Area) : Prop := 0 ≤ ab x ∧ ab x < 200 ∧ 1 ≤ az x ∧ az x ≤ 30 ∧ 0 ≤ ag x ∧ ag x < 5 ∧ 0 ≤ ao x ∧ ao x < 100
def Ovl (x y : Area) : Prop := ab x < ab y + az y ∧ ab y < ab x + az x
def InA (x : Area) (t : Int) : Prop := ab x ≤ t ∧ t < ab x + az x
instance (x : Area) (t : Int) : Decidable (InA x t) := inferInstanceAs (Decidable (_ ∧ _))
instance (x y : Area) : Decidable (Ovl x y) := inferInstanceAs (Decidable (_ ∧ _))
theorem SOk.val {x : Area} (h : SOk x) : Val x := by unfold SOk at h; unfold Val; omega
structure MOk (l : List Area) : Prop where
  s : ∀ x ∈ l, SOk x
  o : ∀ (i j : Nat) (x y : Area), i < j → l[i]? = some x → l[j]? = some y → ab x + az x ≤ ab y
  n : l.length ≤ 64
structure Pl (l : List Area) (a : Area) (i : Nat) : Prop where
  le : i ≤ l.length
  bf : ∀ (k : Nat) (x : Area), k < i → l[k]? = some x → ab x < ab a
  af : ∀ (k : Nat) (x : Area), i ≤ k → l[k]? = some x → ¬ ab x < ab a
theorem MOk.nil : MOk [] := ⟨fun x h => (by cases h), fun i j x y _ h => (by simp at h), by decide⟩
theorem place_ex (a : Area) : ∀ l : List Area, (∀ (i j : Nat) (x y : Area), i < j → l[i]? = some x → l[j]? = some y → ab x ≤ ab y) → ∃ i, Pl l a i
  | [], _ => ⟨0, Nat.le_refl _, fun k x h => absurd h (by omega), fun k x _ h => by simp at h⟩
  | z :: l, h => by
    by_cases hz : ab z < ab a
    · obtain ⟨i, h1, h2, h3⟩ := place_ex a l (fun i j x y hij hx hy => h (i + 1) (j + 1) x y (by omega) hx hy)
      refine ⟨i + 1, by simpa using h1, fun k x hk hx => ?_, fun k x hk hx => ?_⟩
      · cases k with
        | zero => simp at hx; subst hx; exact hz
        | succ k => exact h2 k x (by omega) (by simpa using hx)
      · cases k with
        | zero => omega
        | succ k => exact h3 k x (by omega) (by simpa using hx)
    · refine ⟨0, Nat.zero_le _, fun k x hk => absurd hk (by omega), fun k x _ hx => ?_⟩
      cases k with
      | zero => simp at hx; subst hx; exact hz
      | succ k => have := h 0 (k + 1) z x (by omega) rfl hx; omega
theorem MOk.place {l : List Area} (h : MOk l) (a : Area) : ∃ i, Pl l a i := place_ex a l (fun i j x y hij hx hy => by
  have := h.o i j x y hij hx hy; have := h.s x (List.mem_of_getElem? hx); unfold SOk at this; omega)
theorem ins_get {α : Type} {l : List α} {a : α} {i : Nat} (hi : i ≤ l.length) (k : Nat) : (l.take i ++ (a :: l.drop i))[k]? = if k < i then l[k]? else if k = i then some a else l[k - 1]? := by
  have hl : (l.take i).length = i := by rw [List.length_take]; omega
  by_cases h : k < i
  · rw [if_pos h, List.getElem?_append_left (by omega), List.getElem?_take_of_lt h]
  · rw [if_neg h, List.getElem?_append_right (by omega), hl]
    by_cases h2 : k = i
    · rw [if_pos h2, h2, Nat.sub_self]; rfl
    · rw [if_neg h2, show k - i = (k - i - 1) + 1 by omega, List.getElem?_cons_succ, List.getElem?_drop, show i + (k - i - 1) = k - 1 by omega]
theorem ins_len {α : Type} {l : List α} {a : α} {i : Nat} (hi : i ≤ l.length) : (l.take i ++ (a :: l.drop i)).length = l.length + 1 := by
  rw [List.length_append, List.length_cons, List.length_take, List.length_drop]; omega
theorem ins_mem {α : Type} {l : List α} {a x : α} {i : Nat} (h : x ∈ l.take i ++ (a :: l.drop i)) : x = a ∨ x ∈ l := by
  rcases List.mem_append.1 h with h | h
  · exact .inr (List.mem_of_mem_take h)
  · rcases List.mem_cons.1 h with h | h
    · exact .inl h
    · exact .inr (List.mem_of_mem_drop h)
/-- What a map keeps: it rises, without an overlap. -/
def Ris (l : List Area) : Prop := ∀ (i j : Nat) (x y : Area), i < j → l[i]? = some x → l[j]? = some y → ab x + az x ≤ ab y
theorem ins_ris {l : List Area} {a : Area} {i : Nat} (h : Ris l) (hp : Pl l a i) (hs : ∀ x ∈ l, 1 ≤ az x) (ha : 1 ≤ az a) (hn : ∀ x ∈ l, ¬ Ovl a x) : Ris (l.take i ++ (a :: l.drop i)) := fun p q x y hpq hx hy => by
  rw [ins_get hp.le] at hx hy
  have key : ∀ (k : Nat) (z : Area), l[k]? = some z → (k < i → ab z + az z ≤ ab a) ∧ (i ≤ k → ab a + az a ≤ ab z) := fun k z hz => by
    have h1 := hn z (List.mem_of_getElem? hz); have h3 := hs z (List.mem_of_getElem? hz)
    unfold Ovl at h1
    exact ⟨fun hk => by have := hp.bf k z hk hz; omega, fun hk => by have := hp.af k z hk hz; omega⟩
  by_cases h1 : q < i
  · rw [if_pos h1] at hy; rw [if_pos (by omega)] at hx; exact h p q x y hpq hx hy
  · rw [if_neg h1] at hy
    by_cases h2 : q = i
    · rw [if_pos h2] at hy; rw [if_pos (by omega)] at hx; injection hy with hy; subst hy; exact (key p x hx).1 (by omega)
    · rw [if_neg h2] at hy
      by_cases h3 : p < i
      · rw [if_pos h3] at hx; exact h p (q - 1) x y (by omega) hx hy
      · rw [if_neg h3] at hx
        by_cases h4 : p = i
        · rw [if_pos h4] at hx; injection hx with hx; subst hx; exact (key (q - 1) y hy).2 (by omega)
        · rw [if_neg h4] at hx; exact h (p - 1) (q - 1) x y (by omega) hx hy
theorem MOk.ins {l : List Area} {a : Area} {i : Nat} (h : MOk l) (ha : SOk a) (hn : ∀ x ∈ l, ¬ Ovl a x) (hp : Pl l a i) (hl : l.length < 64) : MOk (l.take i ++ (a :: l.drop i)) :=
  ⟨fun x hx => (ins_mem hx).elim (fun e => e ▸ ha) (h.s x), ins_ris h.o hp (fun x hx => (h.s x hx).2.2.1) ha.2.2.1 hn, by rw [ins_len hp.le]; omega⟩
theorem MOk.uniq {l : List Area} (h : MOk l) {i j : Nat} {x y : Area} {t : Int} (hx : l[i]? = some x) (hy : l[j]? = some y) (h1 : InA x t) (h2 : InA y t) : i = j := by
  unfold InA at h1 h2
  rcases Nat.lt_trichotomy i j with hc | hc | hc
  · have := h.o i j x y hc hx hy; omega
  · exact hc
  · have := h.o j i y x hc hy hx; omega
theorem MOk.del {l : List Area} (h : MOk l) (i : Nat) (hi : i < l.length) : MOk (l.take i ++ l.drop (i + 1)) := by
  have g : ∀ k, (l.take i ++ l.drop (i + 1))[k]? = if k < i then l[k]? else l[k + 1]? := fun k => by
    have hl : (l.take i).length = i := by rw [List.length_take]; omega
    by_cases hk : k < i
    · rw [if_pos hk, List.getElem?_append_left (by omega), List.getElem?_take_of_lt hk]
    · rw [if_neg hk, List.getElem?_append_right (by omega), hl, List.getElem?_drop, show i + 1 + (k - i) = k + 1 by omega]
  refine ⟨fun x hx => (List.mem_append.1 hx).elim (fun h1 => h.s x (List.mem_of_mem_take h1)) (fun h1 => h.s x (List.mem_of_mem_drop h1)), fun p q x y hpq hx hy => ?_, ?_⟩
  · rw [g] at hx hy
    split at hx <;> split at hy
    · exact h.o _ _ x y hpq hx hy
    · exact h.o _ _ x y (by omega) hx hy
    · omega
    · exact h.o _ _ x y (by omega) hx hy
  · have := h.n
    rw [List.length_append, List.length_take, List.length_drop]; omega
theorem del_mem {l : List Area} {i : Nat} {y : Area} (h : y ∈ l.take i ++ l.drop (i + 1)) : ∃ j, ¬ j = i ∧ l[j]? = some y := by
  rcases List.mem_append.1 h with h | h
  · obtain ⟨j, hj⟩ := List.mem_iff_getElem?.1 h
    rw [List.getElem?_take] at hj
    split at hj
    · exact ⟨j, by omega, hj⟩
    · cases hj
  · obtain ⟨j, hj⟩ := List.mem_iff_getElem?.1 h
    rw [List.getElem?_drop] at hj
    exact ⟨i + 1 + j, by omega, hj⟩
theorem del_ins {α : Type} {l : List α} {x : α} {i : Nat} (hx : l[i]? = some x) : (l.take i ++ l.drop (i + 1)).take i ++ (x :: (l.take i ++ l.drop (i + 1)).drop i) = l := by
  have hi := (List.getElem?_eq_some_iff.1 hx).1
  have he := (List.getElem?_eq_some_iff.1 hx).2
  have hl : (l.take i).length = i := by rw [List.length_take]; omega
  rw [List.take_left' hl, List.drop_left' hl, ← he, ← List.drop_eq_getElem_cons hi, List.take_append_drop]
theorem MOk.delpl {l : List Area} (h : MOk l) {i : Nat} {x : Area} (hx : l[i]? = some x) : Pl (l.take i ++ l.drop (i + 1)) x i := by
  have hi := (List.getElem?_eq_some_iff.1 hx).1
  have hl : (l.take i).length = i := by rw [List.length_take]; omega
  have hxs := h.s x (List.mem_of_getElem? hx)
  unfold SOk at hxs
  refine ⟨by rw [List.length_append, hl]; omega, fun k y hk hy => ?_, fun k y hk hy => ?_⟩
  · rw [List.getElem?_append_left (by omega), List.getElem?_take_of_lt hk] at hy
    have := h.o k i y x hk hy hx; have := h.s y (List.mem_of_getElem? hy); unfold SOk at this; omega
  · rw [List.getElem?_append_right (by omega), hl, List.getElem?_drop] at hy
    have := h.o i _ x y (by omega) hx hy; omega
theorem MOk.delno {l : List Area} (h : MOk l) {i : Nat} {x : Area} (hx : l[i]? = some x) : ∀ y ∈ l.take i ++ l.drop (i + 1), ¬ Ovl x y := fun y hy => by
  obtain ⟨j, hj, hy⟩ := del_mem hy
  unfold Ovl
  rcases Nat.lt_or_ge i j with hc | hc
  · have := h.o i j x y hc hx hy; omega
  · have := h.o j i y x (by omega) hy hx; omega
theorem MOk.delin {l : List Area} (h : MOk l) {i : Nat} {x : Area} (hx : l[i]? = some x) {t : Int} (ht : InA x t) : ∀ y ∈ l.take i ++ l.drop (i + 1), ¬ InA y t := fun y hy h2 => by
  obtain ⟨j, hj, hy⟩ := del_mem hy
  exact hj (h.uniq hy hx h2 ht)
-- find
theorem find_ex (l : List Area) (t : Int) : (∀ (k : Nat) (y : Area), l[k]? = some y → ¬ InA y t) ∨ ∃ (i : Nat) (x : Area), l[i]? = some x ∧ InA x t := by
  by_cases h : ∃ (i : Nat) (x : Area), l[i]? = some x ∧ InA x t
  · exact .inr h
  · exact .inl (fun k y hy h2 => h ⟨k, y, hy, h2⟩)
-- pieces
def bump (l : List Piece) : List Piece := match l[l.length - 1]? with
  | some x => l.set (l.length - 1) (x.1, x.2.1, x.2.2 + 1)
  | none => l
theorem bump_snoc (l : List Piece) (s o n : Int) : bump (l ++ [(s, o, n)]) = l ++ [(s, o, n + 1)] := by
  have h : (l ++ [(s, o, n)])[(l ++ [(s, o, n)]).length - 1]? = some (s, o, n) := by
    rw [List.length_append, List.length_singleton, Nat.add_sub_cancel, List.getElem?_append_right (Nat.le_refl _), Nat.sub_self]; rfl
  rw [bump, h]
  show (l ++ [(s, o, n)]).set ((l ++ [(s, o, n)]).length - 1) (s, o, n + 1) = _
  rw [List.length_append, List.length_singleton, Nat.add_sub_cancel, List.set_append_right _ _ (Nat.le_refl _), Nat.sub_self]; rfl
theorem bump_set {l : List Piece} {x : Piece} (h : l[l.length - 1]? = some x) : bump l = l.set (l.length - 1) (x.1, x.2.1, x.2.2 + 1) := by rw [bump, h]
theorem bump_len (l : List Piece) : (bump l).length = l.length := by unfold bump; split <;> simp
def fnd (l : List Area) (t : Int) : Option Area := l.find? (fun x => decide (InA x t))
theorem MOk.fnd {l : List Area} (h : MOk l) {i : Nat} {x : Area} {t : Int} (hx : l[i]? = some x) (ht : InA x t) : fnd l t = some x := by
  have hi := (List.getElem?_eq_some_iff.1 hx).1
  rw [Go.Proofs.YtplhgbfibiinaaaDoor.fnd, List.find?_eq_some_iff_getElem]
  refine ⟨by simpa using ht, i, hi, (List.getElem?_eq_some_iff.1 hx).2, fun j hj => ?_⟩
  have hy : l[j]? = some l[j] := List.getElem?_eq_getElem (by omega)
  simp only [decide_eq_true_eq, Bool.not_eq_true', decide_eq_false_iff_not]
  exact fun h2 => by have := h.uniq hy hx h2 ht; omega
def stepP (l : List Area) (t0 : Nat) (k : Nat) (r : List Piece) : List Piece := match fnd l ((t0 + k : Nat) : Int) with
  | some a => bump (if k = 0 ∨ ab a = ((t0 + k : Nat) : Int) then r ++ [(ag a, ao a + ((t0 + k : Nat) : Int) - ab a, 0)] else r)
  | none => r
def pa (l : List Area) (t0 : Nat) : Nat → List Piece
  | 0 => []
  | k + 1 => stepP l t0 k (pa l t0 k)
theorem pa_new {l : List Area} {t0 : Nat} {k : Nat} {a : Area} (h : fnd l ((t0 + k : Nat) : Int) = some a) (h2 : k = 0 ∨ ab a = ((t0 + k : Nat) : Int)) : pa l t0 (k + 1) = bump (pa l t0 k ++ [(ag a, ao a + ((t0 + k : Nat) : Int) - ab a, 0)]) := by
  rw [pa, stepP, h]; show bump _ = _; rw [if_pos h2]
theorem pa_old {l : List Area} {t0 : Nat} {k : Nat} {a : Area} (h : fnd l ((t0 + k : Nat) : Int) = some a) (h2 : ¬ (k = 0 ∨ ab a = ((t0 + k : Nat) : Int))) : pa l t0 (k + 1) = bump (pa l t0 k) := by
  rw [pa, stepP, h]; show bump _ = _; rw [if_neg h2]
theorem pa_le (l : List Area) (t0 : Nat) : ∀ k, (pa l t0 k).length ≤ k
  | 0 => Nat.le_refl _
  | k + 1 => by
    have := pa_le l t0 k
    rw [pa, stepP]
    split
    · rw [bump_len]; split
      · rw [List.length_append, List.length_singleton]; omega
      · omega
    · omega
theorem pa_step {l : List Area} {t0 : Nat} {k : Nat} {a : Area} (h2 : k = 0 ∨ ab a = ((t0 + k : Nat) : Int)) (hk : ab a ≤ ((t0 + k : Nat) : Int)) : ∀ q : Nat, (∀ i : Nat, i < q + 1 → fnd l ((t0 + (k + i) : Nat) : Int) = some a) → pa l t0 (k + (q + 1)) = pa l t0 k ++ [(ag a, ao a + ((t0 + k : Nat) : Int) - ab a, ((q + 1 : Nat) : Int))]
  | 0, h => by
    have h0 := h 0 (by omega)
    rw [Nat.add_zero] at h0
    rw [pa_new h0 h2, bump_snoc]; rfl
  | q + 1, h => by
    have ih := pa_step h2 hk q (fun i hi => h i (by omega))
    have h0 := h (q + 1) (by omega)
    rw [show k + (q + 1 + 1) = (k + (q + 1)) + 1 by omega, pa_old h0 (by omega), ih, bump_snoc]
    rfl
theorem pa_ne {l : List Area} {t0 : Nat} {k : Nat} (h : ∀ i : Nat, i < k → ∃ a, fnd l ((t0 + i : Nat) : Int) = some a) (hk : 0 < k) : 0 < (pa l t0 k).length := by
  induction k with
  | zero => omega
  | succ k ih =>
    obtain ⟨a, ha⟩ := h k (by omega)
    by_cases h2 : k = 0 ∨ ab a = ((t0 + k : Nat) : Int)
    · rw [pa_new ha h2, bump_len, List.length_append, List.length_singleton]; omega
    · rw [pa_old ha h2, bump_len]; exact ih (fun i hi => h i (by omega)) (by omega)
def psum (l : List Piece) : Int := (l.map (fun x => x.2.2)).foldl (· + ·) 0
theorem foldl_snoc (l : List Int) (x : Int) : (l ++ [x]).foldl (· + ·) 0 = l.foldl (· + ·) 0 + x := by simp [List.foldl_append]
theorem psum_snoc (l : List Piece) (x : Piece) : psum (l ++ [x]) = psum l + x.2.2 := by rw [psum, List.map_append, List.map_singleton, foldl_snoc]; rfl
theorem psum_take {l : List Piece} {k : Nat} {x : Piece} (h : l[k]? = some x) : psum (l.take (k + 1)) = psum (l.take k) + x.2.2 := by
  rw [List.take_add_one, h]; exact psum_snoc _ _
theorem snoc_ex {α : Type} (l : List α) (h : 0 < l.length) : ∃ l' x, l = l' ++ [x] := ⟨l.dropLast, l.getLast (by intro e; rw [e] at h; simp at h), (List.dropLast_concat_getLast _).symm⟩
theorem pa_sum {l : List Area} {t0 : Nat} {n : Nat} (h : ∀ i : Nat, i < n → ∃ a, fnd l ((t0 + i : Nat) : Int) = some a) : psum (pa l t0 n) = n := by
  induction n with
  | zero => rfl
  | succ k ih =>
    obtain ⟨a, ha⟩ := h k (by omega)
    have ih := ih (fun i hi => h i (by omega))
    by_cases h2 : k = 0 ∨ ab a = ((t0 + k : Nat) : Int)
    · rw [pa_new ha h2, bump_snoc, psum_snoc, ih]; show (k : Int) + (0 + 1) = ((k + 1 : Nat) : Int); omega
    · rw [pa_old ha h2]
      obtain ⟨l', ⟨s, o, n⟩, he⟩ := snoc_ex (pa l t0 k) (pa_ne (fun i hi => h i (by omega)) (by omega))
      rw [he] at ih ⊢
      rw [bump_snoc, psum_snoc]; rw [psum_snoc] at ih; simp only at ih ⊢; omega
theorem pa_pos {l : List Area} {t0 : Nat} {n : Nat} (h : ∀ i : Nat, i < n → ∃ a, fnd l ((t0 + i : Nat) : Int) = some a) : ∀ x ∈ pa l t0 n, 1 ≤ x.2.2 ∧ x.2.2 ≤ n := by
  induction n with
  | zero => intro x hx; cases hx
  | succ k ih =>
    obtain ⟨a, ha⟩ := h k (by omega)
    have ih := ih (fun i hi => h i (by omega))
    by_cases h2 : k = 0 ∨ ab a = ((t0 + k : Nat) : Int)
    · rw [pa_new ha h2, bump_snoc]
      intro x hx
      rcases List.mem_append.1 hx with hx | hx
      · have := ih x hx; omega
      · rw [List.mem_singleton.1 hx]; show (1 : Int) ≤ 0 + 1 ∧ (0 : Int) + 1 ≤ _; omega
    · rw [pa_old ha h2]
      obtain ⟨l', ⟨s, o, n⟩, he⟩ := snoc_ex (pa l t0 k) (pa_ne (fun i hi => h i (by omega)) (by omega))
      rw [he] at ih ⊢
      rw [bump_snoc]
      intro x hx
      rcases List.mem_append.1 hx with hx | hx
      · have := ih x (List.mem_append_left _ hx); omega
      · rw [List.mem_singleton.1 hx]; have := ih (s, o, n) (by simp); simp only at this ⊢; omega
theorem psum_nn {l : List Piece} (h : ∀ x ∈ l, 1 ≤ x.2.2) : 0 ≤ psum l := by
  have : ∀ (l : List Piece) (a : Int), 0 ≤ a → (∀ x ∈ l, 1 ≤ x.2.2) → 0 ≤ (l.map (fun x => x.2.2)).foldl (· + ·) a := by
    intro l
    induction l with
    | nil => intro a ha _; exact ha
    | cons x l ih => intro a ha h; exact ih (a + x.2.2) (by have := h x (by simp); omega) (fun y hy => h y (by simp [hy]))
  exact this l 0 (by omega) h
theorem psum_app (l : List Piece) : ∀ m : List Piece, psum (l ++ m) = psum l + psum m := by
  have : ∀ (m : List Piece) (a b : Int), (m.map (fun x => x.2.2)).foldl (· + ·) (a + b) = a + (m.map (fun x => x.2.2)).foldl (· + ·) b := by
    intro m
    induction m with
    | nil => intro a b; rfl
    | cons x m ih => intro a b; rw [List.map_cons, List.foldl_cons, List.foldl_cons, Int.add_assoc, ih]
  intro m
  have h := this m (psum l) 0
  rw [Int.add_zero] at h
  rw [psum, List.map_append, List.foldl_append]; exact h
theorem psum_le {l : List Piece} {m : Int} (h0 : ∀ x ∈ l, 1 ≤ x.2.2 ∧ x.2.2 ≤ m) (k : Nat) : 0 ≤ psum (l.take k) ∧ psum (l.take k) ≤ psum l := by
  have h : ∀ x ∈ l, 1 ≤ x.2.2 := fun x hx => (h0 x hx).1
  have h1 := psum_nn (l := l.take k) (fun x hx => h x (List.mem_of_mem_take hx))
  have h2 := psum_nn (l := l.drop k) (fun x hx => h x (List.mem_of_mem_drop hx))
  have h3 := psum_app (l.take k) (l.drop k)
  rw [List.take_append_drop] at h3
  omega
theorem fnd_ix {l : List Area} {t : Int} {a : Area} (h : fnd l t = some a) : ∃ i : Nat, l[i]? = some a ∧ InA a t ∧ ∀ (k : Nat) (y : Area), k < i → l[k]? = some y → ¬ InA y t := by
  rw [fnd, List.find?_eq_some_iff_getElem] at h
  obtain ⟨h1, i, hi, h2, h3⟩ := h
  refine ⟨i, List.getElem?_eq_some_iff.2 ⟨hi, h2⟩, by simpa using h1, fun k y hk hy => ?_⟩
  have := h3 k hk
  have he := (List.getElem?_eq_some_iff.1 hy).2
  rw [he] at this
  simpa using this
theorem fnd_no {l : List Area} {t : Int} (h : fnd l t = none) : ∀ (k : Nat) (y : Area), l[k]? = some y → ¬ InA y t := fun k y hy => by
  rw [fnd, List.find?_eq_none] at h
  have := h y (List.mem_of_getElem? hy)
  simpa using this
def Fine (l : List Area) (wr : Bool) (t : Nat) (k : Nat) : Prop := ∃ a, fnd l ((t + k : Nat) : Int) = some a ∧ (wr = true → aw a = true)
theorem bad_ex (l : List Area) (wr : Bool) (t : Nat) : ∀ n : Nat, (∀ k, k < n → Fine l wr t k) ∨ ∃ j, j < n ∧ (∀ k, k < j → Fine l wr t k) ∧ (fnd l ((t + j : Nat) : Int) = none ∨ ∃ a, fnd l ((t + j : Nat) : Int) = some a ∧ wr = true ∧ aw a = false)
  | 0 => .inl (fun k hk => absurd hk (by omega))
  | n + 1 => by
    rcases bad_ex l wr t n with h | ⟨j, hj, h1, h2⟩
    · cases hf : fnd l ((t + n : Nat) : Int) with
      | none => exact .inr ⟨n, by omega, h, .inl hf⟩
      | some a =>
        by_cases hw : wr = true ∧ aw a = false
        · exact .inr ⟨n, by omega, h, .inr ⟨a, hf, hw.1, hw.2⟩⟩
        · refine .inl (fun k hk => ?_)
          rcases Nat.lt_succ_iff_lt_or_eq.1 hk with hk | rfl
          · exact h k hk
          · refine ⟨a, hf, fun h9 => ?_⟩
            cases ha : aw a with
            | true => rfl
            | false => exact absurd ⟨h9, ha⟩ hw
    · exact .inr ⟨j, by omega, h1, h2⟩
theorem Fine.ex {l : List Area} {wr : Bool} {t k : Nat} (h : Fine l wr t k) : ∃ a, fnd l ((t + k : Nat) : Int) = some a := h.elim (fun a h => ⟨a, h.1⟩)
/-- Behind an area the next one begins where it begins. -/
theorem MOk.next {l : List Area} (h : MOk l) {i : Nat} {x : Area} {t : Int} (hx : l[i]? = some x) (ht : t = ab x + az x) : ∀ y ∈ l, InA y t → ab y = t := fun y hy h2 => by
  obtain ⟨j, hj⟩ := List.mem_iff_getElem?.1 hy
  have hxs := h.s x (List.mem_of_getElem? hx)
  unfold SOk at hxs
  unfold InA at h2
  by_cases hb : ab y = t
  · exact hb
  · have e := h.uniq hx hj (t := t - 1) (by unfold InA; omega) (by unfold InA; omega)
    subst e; rw [hx] at hj; injection hj with hj; subst hj; omega
theorem ovl_at {l : List Area} {a : Area} : (∀ y ∈ l, ¬ Ovl a y) ∨ ∃ (j : Nat) (y : Area), l[j]? = some y ∧ Ovl a y := by
  by_cases h : ∃ (j : Nat) (y : Area), l[j]? = some y ∧ Ovl a y
  · exact .inr h
  · exact .inl (fun y hy h2 => by obtain ⟨j, hj⟩ := List.mem_iff_getElem?.1 hy; exact h ⟨j, y, hj, h2⟩)

theorem ins_src {R ys : List Value} {i n s : Nat} (hR : R.length = n * s) (hy : ys.length = 1 * s) (hi : i ≤ n) : ((((R ++ ys).take ((n + 1) * s)).drop (i * s)).take ((n - i) * s)) = R.drop (i * s) := by
  have h1 : i * s ≤ n * s := Nat.mul_le_mul_right _ hi
  have e : (R ++ ys).take ((n + 1) * s) = R ++ ys := List.take_of_length_le (by rw [List.length_append, Nat.add_mul]; omega)
  rw [e, List.drop_append_of_le_length (by omega)]
  exact List.take_left' (by rw [List.length_drop, Nat.sub_mul]; omega)
theorem lst_in (R ys X : List Value) (a N s : Nat) (hR : R.length = N) (hy : ys.length = s) (hX : X.length = s) (ha : a ≤ N) :
    ((R ++ ys).take (a + s) ++ (R.drop a ++ (R ++ ys).drop (N + s))).take a ++ (X.take s ++ ((R ++ ys).take (a + s) ++ (R.drop a ++ (R ++ ys).drop (N + s))).drop (a + s)) = R.take a ++ (X ++ R.drop a) := by
  have d1 : (R ++ ys).drop (N + s) = [] := List.drop_eq_nil_of_le (by rw [List.length_append]; omega)
  have l1 : ((R ++ ys).take (a + s)).length = a + s := by rw [List.length_take, List.length_append]; omega
  have t1 : ((R ++ ys).take (a + s) ++ (R.drop a ++ (R ++ ys).drop (N + s))).take a = R.take a := by
    rw [List.take_append_of_le_length (by omega), List.take_take, Nat.min_eq_left (by omega), List.take_append_of_le_length (by omega)]
  have t2 : ((R ++ ys).take (a + s) ++ (R.drop a ++ (R ++ ys).drop (N + s))).drop (a + s) = R.drop a := by
    rw [List.drop_left' l1, d1, List.append_nil]
  have t3 : X.take s = X := List.take_of_length_le (by omega)
  rw [t1, t2, t3]
theorem lst_gr (R zs X : List Value) (a N s : Nat) (hR : R.length = N) (hz : zs.length = N + s - a) (hX : X.length = s) (ha : a ≤ N) :
    ((R.take a ++ zs).take a ++ (X.take s ++ (R.take a ++ zs).drop (a + s))).take (a + s) ++ (R.drop a ++ ((R.take a ++ zs).take a ++ (X.take s ++ (R.take a ++ zs).drop (a + s))).drop (N + s)) = R.take a ++ (X ++ R.drop a) := by
  have l0 : (R.take a).length = a := by rw [List.length_take]; omega
  have t1 : (R.take a ++ zs).take a = R.take a := List.take_left' l0
  have t3 : X.take s = X := List.take_of_length_le (by omega)
  rw [t1, t3]
  have l2 : (R.take a ++ X).length = a + s := by rw [List.length_append]; omega
  have l3 : (R.take a ++ (X ++ (R.take a ++ zs).drop (a + s))).length ≤ N + s := by
    rw [List.length_append, List.length_append, List.length_drop, List.length_append]; omega
  have t4 : (R.take a ++ (X ++ (R.take a ++ zs).drop (a + s))).drop (N + s) = [] := List.drop_eq_nil_of_le l3
  have t5 : (R.take a ++ (X ++ (R.take a ++ zs).drop (a + s))).take (a + s) = R.take a ++ X := by
    rw [← List.append_assoc]; exact List.take_left' l2
  rw [t4, t5, List.append_nil, List.append_assoc]
theorem ins_in {R ys X S : List Value} {i n s : Nat} (hR : R.length = n * s) (hy : ys.length = 1 * s) (hX : X.length = s) (hi : i ≤ n) (hS : S = R.drop (i * s)) :
    ((R ++ ys).take ((i + 1) * s) ++ (S ++ (R ++ ys).drop ((i + 1) * s + (n - i) * s))).take (i * s) ++ (X.take (1 * s) ++ ((R ++ ys).take ((i + 1) * s) ++ (S ++ (R ++ ys).drop ((i + 1) * s + (n - i) * s))).drop (i * s + 1 * s)) = R.take (i * s) ++ (X ++ R.drop (i * s)) := by
  subst hS
  have h1 : i * s ≤ n * s := Nat.mul_le_mul_right _ hi
  have e1 : (i + 1) * s = i * s + s := by rw [Nat.add_mul, Nat.one_mul]
  have e2 : (i + 1) * s + (n - i) * s = n * s + s := by rw [Nat.sub_mul, e1]; omega
  rw [e2, e1, Nat.one_mul]
  exact lst_in R ys X _ _ s hR (by omega) hX h1
theorem ins_gr {R zs X S : List Value} {i n s : Nat} (hR : R.length = n * s) (hz : zs.length = (n + 1 - i) * s) (hX : X.length = s) (hi : i < n) (hS : S = R.drop (i * s)) :
    ((R.take (i * s) ++ zs).take (i * s) ++ (X.take (1 * s) ++ (R.take (i * s) ++ zs).drop (i * s + 1 * s))).take ((i + 1) * s) ++ (S ++ ((R.take (i * s) ++ zs).take (i * s) ++ (X.take (1 * s) ++ (R.take (i * s) ++ zs).drop (i * s + 1 * s))).drop ((i + 1) * s + (n - i) * s)) = R.take (i * s) ++ (X ++ R.drop (i * s)) := by
  subst hS
  have h1 : i * s ≤ n * s := Nat.mul_le_mul_right _ (by omega)
  have e1 : (i + 1) * s = i * s + s := by rw [Nat.add_mul, Nat.one_mul]
  have e2 : (i + 1) * s + (n - i) * s = n * s + s := by rw [Nat.sub_mul, e1]; omega
  rw [e2, e1, Nat.one_mul]
  exact lst_gr R zs X _ _ s hR (by rw [hz, Nat.sub_mul, Nat.add_mul, Nat.one_mul]) hX h1

theorem insert18 {w0 w : World} {F : List Chunk} {C : Chunk} {bx : Nat} {x : (Int × Int × Int × Int × Bool)} (hS : St w0 w (C :: [(bx, rowO [.int .i64 x.1, .int .i64 x.2.1, .int .i64 x.2.2.1, .int .i64 x.2.2.2.1, .bool x.2.2.2.2] 24)] :: F)) {v : Value} {l : List (Int × Int × Int × Int × Bool)} (hO : Own 24 5 v l.length (rows encArea l) C) (i : Nat) (hi : i ≤ l.length) (hl : l.length ≤ 1048576) :
    Ret Tryd.prog 18 #[v, .int .i64 ((i : Nat) : Int), .slice (some ⟨bx, 0, none⟩) 1 1] w (fun v w' => ∃ C', Own 24 5 v (l.take i ++ (x :: l.drop i)).length (rows encArea (l.take i ++ (x :: l.drop i))) C' ∧ St w0 w' (C' :: F)) := by
  obtain ⟨A, c, rfl, hmc, hcx⟩ := hO.open'
  obtain ⟨n, hn⟩ : ∃ n, n = l.length := ⟨_, rfl⟩
  obtain ⟨R, hR⟩ : ∃ R, R = rows encArea l := ⟨_, rfl⟩
  rw [← hn, ← hR] at hO; rw [← hn] at hmc hi hl
  rw [← hn]
  have hRl : R.length = n * 5 := by rw [hR, hn, rows_length encArea_ok]
  have hR1 : ∀ u ∈ R, u.oneCell' = true := by rw [hR]; exact rows_one encArea_ok _
  obtain ⟨X, hXe⟩ : ∃ X, X = encArea x := ⟨_, rfl⟩
  have hXl : X.length = 5 := by rw [hXe]; rfl
  have hX1 : ∀ u ∈ X, u.oneCell' = true := by rw [hXe]; exact encArea_ok.one x
  refine enter (vs := [.slice A n c, .int .i64 ((i : Nat) : Int), .slice (some ⟨bx, 0, none⟩) 1 1]) 95 Tryd.func18 rfl rfl (by simp) ?_; intro a hA
  refine wp_seq ?_
  refine wp_region_lit ?_
  refine st_run tbOk 1 hA (e' := (6, .slice none 0 0) :: _) rfl ?_; clear hA; intro a hA
  refine wpList_nil ?_
  replace hA := hA.sel [0, 1, 2] (e' := [(0, .slice A n c), (1, .int .i64 ((i : Nat) : Int)), (2, .slice (some ⟨bx, 0, none⟩) 1 1)]) rfl
  refine xt_norm ?_
  refine wp_seq ?_
  refine wp_region_lit ?_
  refine st_run tbOk 2 hA (e' := (11, .int .i64 ((i : Nat) : Int)) :: (10, .slice A n c) :: _) rfl ?_; clear hA; intro a hA
  refine st_val hA rfl rfl (by decide) (rn_slice_l tbOk hA i rfl rfl rfl rfl rfl rfl (by rfl) (by omega)) ?_; clear hA; intro a hA
  refine wpList_nil ?_
  replace hA := hA.sel [0, 1, 2] (e' := [(0, .slice A n c), (1, .int .i64 ((i : Nat) : Int)), (2, .slice (some ⟨bx, 0, none⟩) 1 1)]) rfl
  refine xt_norm ?_
  refine wp_seq ?_
  refine wp_region_lit ?_
  refine st_run tbOk 3 hA (e' := (7, .int .i64 1) :: (14, .int .i64 1) :: (13, .slice (some ⟨bx, 0, none⟩) 1 1) :: _) rfl ?_; clear hA; intro a hA
  refine wpList_nil ?_
  replace hA := hA.sel [0, 1, 2, 7] (e' := [(0, .slice A n c), (1, .int .i64 ((i : Nat) : Int)), (2, .slice (some ⟨bx, 0, none⟩) 1 1), (7, .int .i64 1)]) rfl
  refine xt_norm ?_
  refine wp_seq ?_
  refine wp_seq ?_
  refine wp_region_lit ?_
  refine st_run tbOk 2 hA (e' := (16, .bool false) :: (15, .int .i64 1) :: _) rfl ?_; clear hA; intro a hA
  refine wpList_nil ?_
  replace hA := hA.sel [0, 1, 2, 7, 16] (e' := [(0, .slice A n c), (1, .int .i64 ((i : Nat) : Int)), (2, .slice (some ⟨bx, 0, none⟩) 1 1), (7, .int .i64 1), (16, .bool false)]) rfl
  refine xt_norm ?_
  refine cd_cond_f hA rfl ?_
  refine wp_skip ?_
  refine xt_norm ?_
  refine wp_seq ?_
  refine wp_region_lit ?_
  refine st_run tbOk 3 hA (e' := (8, .int .i64 ((n : Nat) : Int)) :: (19, .int .i64 ((n : Nat) : Int)) :: (18, .slice A n c) :: _) rfl ?_; clear hA; intro a hA
  refine wpList_nil ?_
  replace hA := hA.sel [0, 1, 2, 7, 8] (e' := [(0, .slice A n c), (1, .int .i64 ((i : Nat) : Int)), (2, .slice (some ⟨bx, 0, none⟩) 1 1), (7, .int .i64 1), (8, .int .i64 ((n : Nat) : Int))]) rfl
  refine xt_norm ?_
  refine wp_seq ?_
  refine wp_seq ?_
  refine wp_region_lit ?_
  refine st_run tbOk 3 hA (e' := (22, .bool (((i : Nat) : Int) == ((n : Nat) : Int))) :: (21, .int .i64 ((n : Nat) : Int)) :: (20, .int .i64 ((i : Nat) : Int)) :: _) rfl ?_; clear hA; intro a hA
  refine wpList_nil ?_
  replace hA := hA.sel [0, 1, 2, 7, 8, 22] (e' := [(0, .slice A n c), (1, .int .i64 ((i : Nat) : Int)), (2, .slice (some ⟨bx, 0, none⟩) 1 1), (7, .int .i64 1), (8, .int .i64 ((n : Nat) : Int)), (22, .bool (((i : Nat) : Int) == ((n : Nat) : Int)))]) rfl
  refine xt_norm ?_
  by_cases hc1 : ((i : Nat) : Int) = ((n : Nat) : Int)
  · first
    | (exfalso; omega)
    | (replace hA := hA.rw 22 (v' := .bool true) rfl (vb_eq_t hc1)
       refine cd_cond_t hA rfl ?_
       refine wp_seq ?_
       refine wp_region_lit ?_
       refine st_run tbOk 2 hA (e' := (24, .slice (some ⟨bx, 0, none⟩) 1 1) :: (23, .slice A n c) :: _) rfl ?_; clear hA; intro a hA
       refine st_append2 tbOk hA (m := n) (q := 1) (xs := R) (news := [.int .i64 x.1, .int .i64 x.2.1, .int .i64 x.2.2.1, .int .i64 x.2.2.2.1, .bool x.2.2.2.2]) rfl rfl rfl rfl rfl rfl rfl rfl rfl rfl (by decide) hO hS ((Own.full (T := 24) (size := 5) (g := bx) (m := 1) rfl (by decide)).rd (hS.own_ 1 rfl)).x (by intro u hu; exact hX1 u (by rw [hXe]; exact hu)) (maxLen_le (by omega)) (by show (n + 1) * 40 ≤ 140737488355328; omega) rfl rfl (by decide) ?_
       clear hA hS; intro v5 w2 C3 a hO3 hS hA
       refine st_run tbOk 1 hA (e' := (6, v5) :: _) rfl ?_; clear hA; intro a hA
       refine wpList_nil ?_
       replace hA := hA.sel [6] (e' := [(6, v5)]) rfl
       refine xt_norm ?_
       refine wp_ret (xt_ret ?_)
       refine ret1 (fn := Tryd.f18) hA rfl rfl ?_
       replace hS := hS.front 1 (C := [(bx, rowO [.int .i64 x.1, .int .i64 x.2.1, .int .i64 x.2.2.1, .int .i64 x.2.2.2.1, .bool x.2.2.2.2] 24)]) (L' := C3 :: F) rfl rfl
       replace hS := hS.drop1
       have hrr : rows encArea (l.take i ++ (x :: l.drop i)) = R.take (i * 5) ++ (X ++ R.drop (i * 5)) := by rw [rows_append, rows_cons, hR, hXe, rows_take encArea_ok, rows_drop encArea_ok]
       have hrl : (l.take i ++ (x :: l.drop i)).length = n + 1 := by rw [List.length_append, List.length_cons, List.length_take, List.length_drop]; omega
       have hin : i = n := by omega
       exact ⟨_, by rw [hrr, hrl, hin, List.take_of_length_le (l := R) (by omega), List.drop_eq_nil_of_le («as» := R) (by omega), List.append_nil, hXe]; exact hO3, hS⟩)
  · first
    | (exfalso; omega)
    | (replace hA := hA.rw 22 (v' := .bool false) rfl (vb_eq_f hc1)
       refine cd_cond_f hA rfl ?_
       refine wp_skip ?_
       refine xt_norm ?_
       refine wp_seq ?_
       refine wp_seq ?_
       refine wp_region_lit ?_
       refine st_run tbOk 3 hA (e' := (28, .int .i64 (IntKind.i64.wrap (((n : Nat) : Int) + 1))) :: (27, .int .i64 1) :: (26, .int .i64 ((n : Nat) : Int)) :: _) rfl ?_; clear hA; intro a hA
       replace hA := hA.rw 28 (v' := .int .i64 ((n + 1 : Nat) : Int)) rfl (wr64 (by omega) (by omega) (by omega))
       refine st_run tbOk 3 hA (e' := (31, .bool (decide (((n + 1 : Nat) : Int) > ((c : Nat) : Int)))) :: (30, .int .i64 ((c : Nat) : Int)) :: (29, .slice A n c) :: _) rfl ?_; clear hA; intro a hA
       refine wpList_nil ?_
       replace hA := hA.sel [0, 1, 2, 7, 8, 31] (e' := [(0, .slice A n c), (1, .int .i64 ((i : Nat) : Int)), (2, .slice (some ⟨bx, 0, none⟩) 1 1), (7, .int .i64 1), (8, .int .i64 ((n : Nat) : Int)), (31, .bool (decide (((n + 1 : Nat) : Int) > ((c : Nat) : Int))))]) rfl
       refine xt_norm ?_
       by_cases hc6 : ((n + 1 : Nat) : Int) > ((c : Nat) : Int)
       · first
         | (exfalso; omega)
         | (replace hA := hA.rw 31 (v' := .bool true) rfl (vb_true hc6)
            refine cd_cond_t hA rfl ?_
            refine wp_seq ?_
            refine wp_region_lit ?_
            refine st_run tbOk 2 hA (e' := (33, .int .i64 ((i : Nat) : Int)) :: (32, .slice A n c) :: _) rfl ?_; clear hA; intro a hA
            refine st_val hA rfl rfl (by decide) (rn_slice_h tbOk hA i rfl rfl rfl rfl rfl rfl (by rfl) (by omega)) ?_; clear hA; intro a hA
            refine st_run tbOk 3 hA (e' := (37, .int .i64 (IntKind.i64.wrap (((n : Nat) : Int) + 1))) :: (36, .int .i64 1) :: (35, .int .i64 ((n : Nat) : Int)) :: _) rfl ?_; clear hA; intro a hA
            replace hA := hA.rw 37 (v' := .int .i64 ((n + 1 : Nat) : Int)) rfl (wr64 (by omega) (by omega) (by omega))
            refine st_run tbOk 2 hA (e' := (39, .int .i64 (IntKind.i64.wrap (((n + 1 : Nat) : Int) - ((i : Nat) : Int)))) :: (38, .int .i64 ((i : Nat) : Int)) :: _) rfl ?_; clear hA; intro a hA
            replace hA := hA.rw 39 (v' := .int .i64 (((n + 1 : Nat) : Int) - ((i : Nat) : Int))) rfl (wr64 (by omega) (by omega) (by omega))
            refine st_append_zeros tbOk hA (m := i) (c := c) (q := n + 1 - i) rfl rfl (by show some (Value.int .i64 _) = _; exact congrArg some (vint (by omega))) rfl rfl rfl rfl rfl (by decide) rfl rfl (hO.head i (by omega)) hS (by omega) (by show (i + (n + 1 - i)) * 40 ≤ 140737488355328; omega) (by omega) rfl rfl (by decide) ?_
            clear hA hS; intro A2 c2 w2 C2 a zs hzl hZ hS hA
            rw [show i + (n + 1 - i) = n + 1 by omega] at hZ hA
            refine st_run tbOk 1 hA (e' := (9, .slice A2 (n + 1) c2) :: _) rfl ?_; clear hA; intro a hA
            refine wpList_nil ?_
            replace hA := hA.sel [0, 1, 2, 7, 9] (e' := [(0, .slice A n c), (1, .int .i64 ((i : Nat) : Int)), (2, .slice (some ⟨bx, 0, none⟩) 1 1), (7, .int .i64 1), (9, .slice A2 (n + 1) c2)]) rfl
            refine xt_norm ?_
            refine wp_seq ?_
            refine wp_region_lit ?_
            refine st_run tbOk 2 hA (e' := (42, .int .i64 ((i : Nat) : Int)) :: (41, .slice A2 (n + 1) c2) :: _) rfl ?_; clear hA; intro a hA
            refine st_val hA rfl rfl (by decide) (rn_slice_l tbOk hA i rfl rfl rfl rfl rfl rfl (by rfl) (by omega)) ?_; clear hA; intro a hA
            refine st_run tbOk 1 hA (e' := (44, .slice (some ⟨bx, 0, none⟩) 1 1) :: _) rfl ?_; clear hA; intro a hA
            refine st_copy_own tbOk hA (m := n + 1) (c := c2) (lo := i) (q := 1) (srcs := [.int .i64 x.1, .int .i64 x.2.1, .int .i64 x.2.2.1, .int .i64 x.2.2.2.1, .bool x.2.2.2.2]) 1 rfl rfl rfl rfl rfl rfl rfl hZ hS ((Own.full (T := 24) (size := 5) (g := bx) (m := 1) rfl (by decide)).rd (hS.own_ 2 rfl)) (by intro u hu; exact hX1 u (by rw [hXe]; exact List.mem_of_mem_take hu)) (by omega) (by omega) rfl rfl (by decide) ?_
            clear hA hS; intro w7 C8 a hO8 hS hA
            refine wpList_nil ?_
            replace hA := hA.sel [0, 1, 7, 9] (e' := [(0, .slice A n c), (1, .int .i64 ((i : Nat) : Int)), (7, .int .i64 1), (9, .slice A2 (n + 1) c2)]) rfl
            refine xt_norm ?_
            refine wp_seq ?_
            refine wp_draw (fun w' => St w0 w' (C :: [(bx, rowO [.int .i64 x.1, .int .i64 x.2.1, .int .i64 x.2.2.1, .int .i64 x.2.2.2.1, .bool x.2.2.2.2] 24)] :: F)) [] [(0, true), (1, true), (2, true), (3, true), (4, true), (5, true), (6, true), (7, true), (8, false)] mixed (by kernel_rfl) (by rintro c a w ⟨_, _, h, _⟩; cases h) (by rfl) (by kernel_rfl) ?_
            replace hS := hS.drew
            refine dr_run tbOk 4 hA (hS.tail 1 rfl) (e' := (49, .int .i64 (IntKind.i64.wrap (((i : Nat) : Int) + 1))) :: (48, .int .i64 1) :: (47, .int .i64 ((i : Nat) : Int)) :: (46, .slice A2 (n + 1) c2) :: _) rfl ?_; clear hA; intro a hA
            replace hA := hA.rw 49 (v' := .int .i64 ((i + 1 : Nat) : Int)) rfl (wr64 (by omega) (by omega) (by omega))
            refine dr_y hA rfl rfl rfl (by decide) (hS.tail 1 rfl) (fun w' hS' => rn_slice_l tbOk hA (i + 1) rfl rfl rfl rfl rfl rfl (by rfl) (by omega)) ?_; clear hA; intro a hA
            refine dr_run tbOk 2 hA (hS.tail 1 rfl) (e' := (52, .int .i64 ((i : Nat) : Int)) :: (51, .slice A n c) :: _) rfl ?_; clear hA; intro a hA
            refine dr_y hA rfl rfl rfl (by decide) (hS.tail 1 rfl) (fun w' hS' => rn_slice_l tbOk hA i rfl rfl rfl rfl rfl rfl (by rfl) (by omega)) ?_; clear hA; intro a hA
            refine dr_b (o := _) rfl ?_
            have hse : ((R.take (n * 5)).drop (i * 5)).take ((n - i) * 5) = R.drop (i * 5) := (by rw [List.take_of_length_le (l := R) (by omega), List.take_of_length_le (by rw [List.length_drop, hRl, ← Nat.sub_mul]; exact Nat.le_refl _)])
            refine st_copy_own tbOk hA (m := n + 1) (c := c2) (lo := i + 1) (q := n - i) (srcs := (R.take (n * 5)).drop (i * 5)) (n - i) rfl rfl rfl rfl rfl rfl rfl hO8 hS ((hO.slv i n c (by omega) (by omega) (by omega) (Nat.le_refl _)).rd (hS.own_ 1 rfl)) (by rw [hse]; exact fun u hu => hR1 u (List.mem_of_mem_drop hu)) (by omega) (by omega) rfl rfl (by decide) ?_
            clear hA hS; intro w9 C10 a hO10 hS hA
            refine dr_nil (.inr (hS.tail 1 rfl)) ?_
            refine dr_end ?_
            replace hA := hA.sel [9] (e' := [(9, .slice A2 (n + 1) c2)]) rfl
            refine xt_norm ?_
            refine wp_seq ?_
            refine wp_region_lit ?_
            refine st_run tbOk 2 hA (e' := (6, .slice A2 (n + 1) c2) :: (55, .slice A2 (n + 1) c2) :: _) rfl ?_; clear hA; intro a hA
            refine wpList_nil ?_
            replace hA := hA.sel [6] (e' := [(6, .slice A2 (n + 1) c2)]) rfl
            refine xt_norm ?_
            refine wp_ret (xt_ret ?_)
            refine ret1 (fn := Tryd.f18) hA rfl rfl ?_
            replace hS := hS.front 1 (C := C) (L' := C10 :: [(bx, rowO [.int .i64 x.1, .int .i64 x.2.1, .int .i64 x.2.2.1, .int .i64 x.2.2.2.1, .bool x.2.2.2.2] 24)] :: F) rfl rfl
            replace hS := hS.drop1
            replace hS := hS.front 1 (C := [(bx, rowO [.int .i64 x.1, .int .i64 x.2.1, .int .i64 x.2.2.1, .int .i64 x.2.2.2.1, .bool x.2.2.2.2] 24)]) (L' := C10 :: F) rfl rfl
            replace hS := hS.drop1
            have hrr : rows encArea (l.take i ++ (x :: l.drop i)) = R.take (i * 5) ++ (X ++ R.drop (i * 5)) := by rw [rows_append, rows_cons, hR, hXe, rows_take encArea_ok, rows_drop encArea_ok]
            have hrl : (l.take i ++ (x :: l.drop i)).length = n + 1 := by rw [List.length_append, List.length_cons, List.length_take, List.length_drop]; omega
            exact ⟨_, by rw [hrr, hrl, ← ins_gr hRl hzl hXl (by omega) hse]; rw [hXe]; exact hO10, hS⟩)
       · first
         | (exfalso; omega)
         | (replace hA := hA.rw 31 (v' := .bool false) rfl (vb_false hc6)
            refine cd_cond_f hA rfl ?_
            refine wp_skip ?_
            refine xt_norm ?_
            refine wp_seq ?_
            refine wp_region_lit ?_
            obtain ⟨ys, hyl, hO2⟩ := hO.more 1 (by omega)
            refine st_run tbOk 4 hA (e' := (59, .int .i64 (IntKind.i64.wrap (((n : Nat) : Int) + 1))) :: (58, .int .i64 1) :: (57, .int .i64 ((n : Nat) : Int)) :: (56, .slice A n c) :: _) rfl ?_; clear hA; intro a hA
            replace hA := hA.rw 59 (v' := .int .i64 ((n + 1 : Nat) : Int)) rfl (wr64 (by omega) (by omega) (by omega))
            refine st_val hA rfl rfl (by decide) (rn_slice_h tbOk hA (n + 1) rfl rfl rfl rfl rfl rfl (by rfl) (by omega)) ?_; clear hA; intro a hA
            refine st_run tbOk 1 hA (e' := (0, .slice A (n + 1) c) :: _) rfl ?_; clear hA; intro a hA
            refine wpList_nil ?_
            replace hA := hA.sel [0, 1, 2, 7, 8] (e' := [(0, .slice A (n + 1) c), (1, .int .i64 ((i : Nat) : Int)), (2, .slice (some ⟨bx, 0, none⟩) 1 1), (7, .int .i64 1), (8, .int .i64 ((n : Nat) : Int))]) rfl
            refine xt_norm ?_
            refine wp_seq ?_
            refine wp_seq ?_
            refine wp_region_lit ?_
            refine st_run tbOk 5 hA (e' := (65, .int .i64 (IntKind.i64.wrap (((i : Nat) : Int) + 1))) :: (64, .int .i64 1) :: (63, .int .i64 ((i : Nat) : Int)) :: (62, .slice A (n + 1) c) :: (61, .slice (some ⟨bx, 0, none⟩) 1 1) :: _) rfl ?_; clear hA; intro a hA
            replace hA := hA.rw 65 (v' := .int .i64 ((i + 1 : Nat) : Int)) rfl (wr64 (by omega) (by omega) (by omega))
            refine st_val hA rfl rfl (by decide) (rn_slice_l tbOk hA (i + 1) rfl rfl rfl rfl rfl rfl (by rfl) (by omega)) ?_; clear hA; intro a hA
            replace hS := hS.front 1 (C := [(bx, rowO [.int .i64 x.1, .int .i64 x.2.1, .int .i64 x.2.2.1, .int .i64 x.2.2.2.1, .bool x.2.2.2.2] 24)]) (L' := C :: F) rfl rfl
            replace hS := hS.front 1 (C := C) (L' := [(bx, rowO [.int .i64 x.1, .int .i64 x.2.1, .int .i64 x.2.2.1, .int .i64 x.2.2.2.1, .bool x.2.2.2.2] 24)] :: F) rfl rfl
            refine st_ext hA rfl rfl rfl (run_overlaps_own tbOk (f := 22) (fn := Tryd.f22) (tS := 22) (tR := 4) rfl (by kernel_rfl) (by kernel_rfl) (by kernel_rfl) (by kernel_rfl) rfl rfl rfl hS hO2 (by omega) (by omega) (Nat.le_of_ble_eq_true rfl) 1 1 _ _ _ (fun b9 o9 s9 h9 => by rw [if_neg (by omega), h9]; exact ⟨_, rfl⟩)) rfl rfl (by decide) ?_; clear hA; intro a hA
            refine st_run tbOk 1 hA (e' := (68, .bool true) :: _) rfl ?_; clear hA; intro a hA
            refine wpList_nil ?_
            replace hA := hA.sel [0, 1, 2, 7, 8, 68] (e' := [(0, .slice A (n + 1) c), (1, .int .i64 ((i : Nat) : Int)), (2, .slice (some ⟨bx, 0, none⟩) 1 1), (7, .int .i64 1), (8, .int .i64 ((n : Nat) : Int)), (68, .bool true)]) rfl
            refine xt_norm ?_
            refine cd_cond_t hA rfl ?_
            refine wp_seq ?_
            refine wp_draw (fun w' => St w0 w' ([(bx, rowO [.int .i64 x.1, .int .i64 x.2.1, .int .i64 x.2.2.1, .int .i64 x.2.2.2.1, .bool x.2.2.2.2] 24)] :: F)) [] [(0, true), (1, true), (2, true), (3, true), (4, true), (5, true), (6, true), (7, true), (8, false)] mixed (by kernel_rfl) (by rintro c a w ⟨_, _, h, _⟩; cases h) (by rfl) (by kernel_rfl) ?_
            replace hS := hS.drew
            refine dr_run tbOk 4 hA (hS.tail 1 rfl) (e' := (72, .int .i64 (IntKind.i64.wrap (((i : Nat) : Int) + 1))) :: (71, .int .i64 1) :: (70, .int .i64 ((i : Nat) : Int)) :: (69, .slice A (n + 1) c) :: _) rfl ?_; clear hA; intro a hA
            replace hA := hA.rw 72 (v' := .int .i64 ((i + 1 : Nat) : Int)) rfl (wr64 (by omega) (by omega) (by omega))
            refine dr_y hA rfl rfl rfl (by decide) (hS.tail 1 rfl) (fun w' hS' => rn_slice_l tbOk hA (i + 1) rfl rfl rfl rfl rfl rfl (by rfl) (by omega)) ?_; clear hA; intro a hA
            refine dr_run tbOk 2 hA (hS.tail 1 rfl) (e' := (75, .int .i64 ((i : Nat) : Int)) :: (74, .slice A (n + 1) c) :: _) rfl ?_; clear hA; intro a hA
            refine dr_y hA rfl rfl rfl (by decide) (hS.tail 1 rfl) (fun w' hS' => rn_slice_l tbOk hA i rfl rfl rfl rfl rfl rfl (by rfl) (by omega)) ?_; clear hA; intro a hA
            refine dr_b (o := _) rfl ?_
            have hse : (((R ++ ys).take ((n + 1) * 5)).drop (i * 5)).take ((n - i) * 5) = R.drop (i * 5) := ins_src hRl hyl (by omega)
            refine st_copy_own tbOk hA (m := n + 1) (c := c) (lo := i + 1) (q := n + 1 - i) (srcs := ((R ++ ys).take ((n + 1) * 5)).drop (i * 5)) (n - i) rfl rfl rfl rfl rfl rfl rfl hO2 hS ((hO2.slv i (n + 1) c (by omega) (by omega) (by omega) (Nat.le_refl _)).rd (hS.own_ 0 rfl)) (by rw [hse]; exact fun u hu => hR1 u (List.mem_of_mem_drop hu)) (by omega) (by omega) rfl rfl (by decide) ?_
            clear hA hS; intro w11 C12 a hO12 hS hA
            refine dr_nil (.inr (hS.tail 1 rfl)) ?_
            refine dr_end ?_
            replace hA := hA.sel [0, 1, 2] (e' := [(0, .slice A (n + 1) c), (1, .int .i64 ((i : Nat) : Int)), (2, .slice (some ⟨bx, 0, none⟩) 1 1)]) rfl
            refine xt_norm ?_
            refine wp_seq ?_
            refine wp_region_lit ?_
            refine st_run tbOk 2 hA (e' := (79, .int .i64 ((i : Nat) : Int)) :: (78, .slice A (n + 1) c) :: _) rfl ?_; clear hA; intro a hA
            refine st_val hA rfl rfl (by decide) (rn_slice_l tbOk hA i rfl rfl rfl rfl rfl rfl (by rfl) (by omega)) ?_; clear hA; intro a hA
            refine st_run tbOk 1 hA (e' := (81, .slice (some ⟨bx, 0, none⟩) 1 1) :: _) rfl ?_; clear hA; intro a hA
            refine st_copy_own tbOk hA (m := n + 1) (c := c) (lo := i) (q := 1) (srcs := [.int .i64 x.1, .int .i64 x.2.1, .int .i64 x.2.2.1, .int .i64 x.2.2.2.1, .bool x.2.2.2.2]) 1 rfl rfl rfl rfl rfl rfl rfl hO12 hS ((Own.full (T := 24) (size := 5) (g := bx) (m := 1) rfl (by decide)).rd (hS.own_ 1 rfl)) (by intro u hu; exact hX1 u (by rw [hXe]; exact List.mem_of_mem_take hu)) (by omega) (by omega) rfl rfl (by decide) ?_
            clear hA hS; intro w13 C14 a hO14 hS hA
            refine wpList_nil ?_
            replace hA := hA.sel [0] (e' := [(0, .slice A (n + 1) c)]) rfl
            refine xt_norm ?_
            refine wp_seq ?_
            refine wp_region_lit ?_
            refine st_run tbOk 2 hA (e' := (6, .slice A (n + 1) c) :: (83, .slice A (n + 1) c) :: _) rfl ?_; clear hA; intro a hA
            refine wpList_nil ?_
            replace hA := hA.sel [6] (e' := [(6, .slice A (n + 1) c)]) rfl
            refine xt_norm ?_
            refine wp_ret (xt_ret ?_)
            refine ret1 (fn := Tryd.f18) hA rfl rfl ?_
            replace hS := hS.front 1 (C := [(bx, rowO [.int .i64 x.1, .int .i64 x.2.1, .int .i64 x.2.2.1, .int .i64 x.2.2.2.1, .bool x.2.2.2.2] 24)]) (L' := C14 :: F) rfl rfl
            replace hS := hS.drop1
            have hrr : rows encArea (l.take i ++ (x :: l.drop i)) = R.take (i * 5) ++ (X ++ R.drop (i * 5)) := by rw [rows_append, rows_cons, hR, hXe, rows_take encArea_ok, rows_drop encArea_ok]
            have hrl : (l.take i ++ (x :: l.drop i)).length = n + 1 := by rw [List.length_append, List.length_cons, List.length_take, List.length_drop]; omega
            exact ⟨_, by rw [hrr, hrl, ← ins_in hRl hyl hXl (by omega) hse]; rw [hXe]; exact hO14, hS⟩))

theorem clone19 {w0 w : World} {F : List Chunk} (hS : St w0 w F) {v : Value} {l : List (Int × Int × Int × Int × Bool)} (hr : RdS w0 F 5 v l.length (rows encArea l)) (hb : l.length * 40 ≤ 140737488355328) :
    Ret Tryd.prog 19 #[v] w (fun v w' => ∃ C, Own 24 5 v l.length (rows encArea l) C ∧ St w0 w' (C :: F)) := by
  rcases hr.cases hS with ⟨rfl, h0, h1⟩ | ⟨b, off, c, rfl, hmc, hcx⟩
  · obtain rfl := List.eq_nil_of_length_eq_zero h0
    refine enter (vs := [.slice none 0 0]) 8 Tryd.func19 rfl rfl (by simp) ?_; intro a hA
    refine wp_seq ?_
    refine wp_region_lit ?_
    refine st_run tbOk 1 hA (e' := (2, .slice none 0 0) :: _) rfl ?_; clear hA; intro a hA
    refine wpList_nil ?_
    replace hA := hA.sel [0] (e' := [(0, .slice none 0 0)]) rfl
    refine xt_norm ?_
    refine wp_seq ?_
    refine wp_seq ?_
    refine wp_region_lit ?_
    refine st_run tbOk 2 hA (e' := (4, .bool true) :: (3, .slice none 0 0) :: _) rfl ?_; clear hA; intro a hA
    refine wpList_nil ?_
    replace hA := hA.sel [0, 4] (e' := [(0, .slice none 0 0), (4, .bool true)]) rfl
    refine xt_norm ?_
    refine cd_cond_t hA rfl ?_
    refine wp_seq ?_
    refine wp_region_lit ?_
    refine st_run tbOk 1 hA (e' := (2, .slice none 0 0) :: _) rfl ?_; clear hA; intro a hA
    refine wpList_nil ?_
    replace hA := hA.sel [2] (e' := [(2, .slice none 0 0)]) rfl
    refine xt_norm ?_
    refine wp_ret (xt_ret ?_)
    refine ret1 (fn := Tryd.f19) hA rfl rfl ?_
    exact ⟨[], Own.nil _ _, hS.nil⟩
  · refine enter (vs := [.slice (some ⟨b, off, none⟩) l.length c]) 8 Tryd.func19 rfl rfl (by simp) ?_; intro a hA
    refine wp_seq ?_
    refine wp_region_lit ?_
    refine st_run tbOk 1 hA (e' := (2, .slice none 0 0) :: _) rfl ?_; clear hA; intro a hA
    refine wpList_nil ?_
    replace hA := hA.sel [0] (e' := [(0, .slice (some ⟨b, off, none⟩) l.length c)]) rfl
    refine xt_norm ?_
    refine wp_seq ?_
    refine wp_seq ?_
    refine wp_region_lit ?_
    refine st_run tbOk 2 hA (e' := (4, .bool false) :: (3, .slice (some ⟨b, off, none⟩) l.length c) :: _) rfl ?_; clear hA; intro a hA
    refine wpList_nil ?_
    replace hA := hA.sel [0, 4] (e' := [(0, .slice (some ⟨b, off, none⟩) l.length c), (4, .bool false)]) rfl
    refine xt_norm ?_
    refine cd_cond_f hA rfl ?_
    refine wp_skip ?_
    refine xt_norm ?_
    refine wp_seq ?_
    refine wp_region_lit ?_
    refine st_buildSlice tbOk hA hS [] rfl rfl rfl rfl rfl (by decide) (by kernel_rfl) rfl rfl (by decide) ?_; clear hA hS; intro b1 w2 a hS hA
    refine st_run tbOk 1 hA (e' := (6, .slice (some ⟨b, off, none⟩) l.length c) :: _) rfl ?_; clear hA; intro a hA
    refine st_append tbOk hA (m := 0) (q := l.length) (xs := rows encArea ([] : List (Int × Int × Int × Int × Bool))) (news := rows encArea l) rfl rfl rfl rfl rfl rfl rfl rfl (by decide) (Own.full (T := 24) (size := 5) (g := b1) (m := 0) rfl (by decide)) hS ((hr _ (hS.tail 1 rfl)).x) (rows_one encArea_ok _) (maxLen_le (by omega)) (by show (0 + l.length) * 40 ≤ 140737488355328; omega) rfl rfl (by decide) ?_
    clear hA hS; intro v3 w4 C5 a hO5 hS hA
    replace hO5 := Own.app (l := ([] : List (Int × Int × Int × Int × Bool))) (l2 := l) hO5
    replace hO5 : Own 24 5 v3 l.length (rows encArea l) C5 := hO5
    obtain ⟨A6, c7, rfl, hmc7, hxc7⟩ := hO5.open'
    refine st_run tbOk 1 hA (e' := (2, .slice A6 l.length c7) :: _) rfl ?_; clear hA; intro a hA
    refine wpList_nil ?_
    replace hA := hA.sel [2] (e' := [(2, .slice A6 l.length c7)]) rfl
    refine xt_norm ?_
    refine wp_ret ?_
    refine ret1 (fn := Tryd.f19) hA rfl rfl ?_
    exact ⟨C5, hO5, hS⟩

theorem delete21 {w0 w : World} {F : List Chunk} {C : Chunk} (hS : St w0 w (C :: F)) {v : Value} {l : List (Int × Int × Int × Int × Bool)} (hO : Own 24 5 v l.length (rows encArea l) C) (i j : Nat) (hij : i ≤ j) (hj : j ≤ l.length) :
    Ret Tryd.prog 21 #[v, .int .i64 ((i : Nat) : Int), .int .i64 ((j : Nat) : Int)] w (fun v w' => ∃ C', Own 24 5 v (l.take i ++ l.drop j).length (rows encArea (l.take i ++ l.drop j)) C' ∧ St w0 w' (C' :: F)) := by
  obtain ⟨A, c, rfl, hmc, hcx⟩ := hO.open'
  refine enter (vs := [.slice A l.length c, .int .i64 ((i : Nat) : Int), .int .i64 ((j : Nat) : Int)]) 33 Tryd.func21 rfl rfl (by simp) ?_; intro a hA
  refine wp_seq ?_
  refine wp_region_lit ?_
  refine st_run tbOk 1 hA (e' := (6, .slice none 0 0) :: _) rfl ?_; clear hA; intro a hA
  refine wpList_nil ?_
  replace hA := hA.sel [0, 1, 2] (e' := [(0, .slice A l.length c), (1, .int .i64 ((i : Nat) : Int)), (2, .int .i64 ((j : Nat) : Int))]) rfl
  refine xt_norm ?_
  refine wp_seq ?_
  refine wp_region_lit ?_
  refine st_run tbOk 5 hA (e' := (12, .int .i64 ((l.length : Nat) : Int)) :: (11, .slice A l.length c) :: (10, .int .i64 ((j : Nat) : Int)) :: (9, .int .i64 ((i : Nat) : Int)) :: (8, .slice A l.length c) :: _) rfl ?_; clear hA; intro a hA
  refine st_val hA rfl rfl (by decide) (rn_slice_lhm tbOk hA i j l.length rfl rfl rfl rfl rfl rfl rfl rfl (by rfl) (by rfl) (by rfl) (by omega) (by omega) (by omega)) ?_; clear hA; intro a hA
  refine wpList_nil ?_
  replace hA := hA.sel [0, 1, 2] (e' := [(0, .slice A l.length c), (1, .int .i64 ((i : Nat) : Int)), (2, .int .i64 ((j : Nat) : Int))]) rfl
  refine xt_norm ?_
  refine wp_seq ?_
  refine wp_seq ?_
  refine wp_region_lit ?_
  refine st_run tbOk 3 hA (e' := (16, .bool (((i : Nat) : Int) == ((j : Nat) : Int))) :: (15, .int .i64 ((j : Nat) : Int)) :: (14, .int .i64 ((i : Nat) : Int)) :: _) rfl ?_; clear hA; intro a hA
  refine wpList_nil ?_
  replace hA := hA.sel [0, 1, 2, 16] (e' := [(0, .slice A l.length c), (1, .int .i64 ((i : Nat) : Int)), (2, .int .i64 ((j : Nat) : Int)), (16, .bool (((i : Nat) : Int) == ((j : Nat) : Int)))]) rfl
  refine xt_norm ?_
  by_cases hc1 : ((i : Nat) : Int) = ((j : Nat) : Int)
  · first
    | (exfalso; omega)
    | (replace hA := hA.rw 16 (v' := .bool true) rfl (vb_eq_t hc1)
       refine cd_cond_t hA rfl ?_
       refine wp_seq ?_
       refine wp_region_lit ?_
       refine st_run tbOk 2 hA (e' := (6, .slice A l.length c) :: (17, .slice A l.length c) :: _) rfl ?_; clear hA; intro a hA
       refine wpList_nil ?_
       replace hA := hA.sel [6] (e' := [(6, .slice A l.length c)]) rfl
       refine xt_norm ?_
       refine wp_ret (xt_ret ?_)
       refine ret1 (fn := Tryd.f21) hA rfl rfl ?_
       have e0 : l.take i ++ l.drop j = l := by rw [show j = i by omega, List.take_append_drop]
       exact ⟨C, by rw [e0]; exact hO, hS⟩)
  · first
    | (exfalso; omega)
    | (replace hA := hA.rw 16 (v' := .bool false) rfl (vb_eq_f hc1)
       refine cd_cond_f hA rfl ?_
       refine wp_skip ?_
       refine xt_norm ?_
       refine wp_seq ?_
       refine wp_region_lit ?_
       refine st_run tbOk 3 hA (e' := (7, .int .i64 ((l.length : Nat) : Int)) :: (19, .int .i64 ((l.length : Nat) : Int)) :: (18, .slice A l.length c) :: _) rfl ?_; clear hA; intro a hA
       refine wpList_nil ?_
       replace hA := hA.sel [0, 1, 2, 7] (e' := [(0, .slice A l.length c), (1, .int .i64 ((i : Nat) : Int)), (2, .int .i64 ((j : Nat) : Int)), (7, .int .i64 ((l.length : Nat) : Int))]) rfl
       refine xt_norm ?_
       refine wp_seq ?_
       refine wp_draw (fun w' => St w0 w' (F)) [] [(0, true), (1, true), (2, true), (3, true), (4, true), (5, true), (6, false), (7, true)] mixed (by kernel_rfl) (by rintro c a w ⟨_, _, h, _⟩; cases h) (by rfl) (by kernel_rfl) ?_
       replace hS := hS.drew
       refine dr_run tbOk 2 hA (hS.tail 1 rfl) (e' := (21, .int .i64 ((i : Nat) : Int)) :: (20, .slice A l.length c) :: _) rfl ?_; clear hA; intro a hA
       refine dr_y hA rfl rfl rfl (by decide) (hS.tail 1 rfl) (fun w' hS' => rn_slice_h tbOk hA i rfl rfl rfl rfl rfl rfl (by rfl) (by omega)) ?_; clear hA; intro a hA
       refine dr_run tbOk 2 hA (hS.tail 1 rfl) (e' := (24, .int .i64 ((j : Nat) : Int)) :: (23, .slice A l.length c) :: _) rfl ?_; clear hA; intro a hA
       refine dr_y hA rfl rfl rfl (by decide) (hS.tail 1 rfl) (fun w' hS' => rn_slice_l tbOk hA j rfl rfl rfl rfl rfl rfl (by rfl) (by omega)) ?_; clear hA; intro a hA
       refine dr_b (o := _) rfl ?_
       refine st_append_rm tbOk hA (m := i) (q := ((l.take l.length).drop j).length) (c := c) (xs := (rows encArea l).take (i * 5)) (news := rows encArea ((l.take l.length).drop j)) rfl rfl rfl rfl rfl rfl rfl (hO.head i (by omega)) hS ((hO.rd (hS.own_ 0 rfl)).rslv encArea_ok j l.length c (by omega) (by omega) (by omega) (by omega)) (rows_one encArea_ok _) (by simp; omega) rfl rfl (by decide) ?_
       clear hA hS; intro w2 C3 a hO3 hS hA
       have e1 : i + ((l.take l.length).drop j).length = (l.take i ++ l.drop j).length := by simp; omega
       have e2 : (rows encArea l).take (i * 5) ++ rows encArea ((l.take l.length).drop j) = rows encArea (l.take i ++ l.drop j) := by rw [rows_take encArea_ok, rows_append, List.take_length]
       rw [e2, e1] at hO3
       rw [e1] at hA
       have e3 : (l.take i ++ l.drop j).length ≤ l.length := by simp; omega
       refine dr_nil (.inr (hS.tail 1 rfl)) ?_
       refine dr_run tbOk 1 hA (hS.tail 1 rfl) (e' := (0, .slice A ((l.take i ++ l.drop j).length) c) :: _) rfl ?_; clear hA; intro a hA
       refine dr_end ?_
       replace hA := hA.sel [0, 7] (e' := [(0, .slice A ((l.take i ++ l.drop j).length) c), (7, .int .i64 ((l.length : Nat) : Int))]) rfl
       refine xt_norm ?_
       refine wp_seq ?_
       refine wp_region_lit ?_
       refine st_run tbOk 4 hA (e' := (30, .int .i64 ((l.length : Nat) : Int)) :: (29, .int .i64 (((l.take i ++ l.drop j).length : Nat) : Int)) :: (28, .slice A ((l.take i ++ l.drop j).length) c) :: (27, .slice A ((l.take i ++ l.drop j).length) c) :: _) rfl ?_; clear hA; intro a hA
       refine st_val hA rfl rfl (by decide) (rn_slice_lh tbOk hA ((l.take i ++ l.drop j).length) l.length rfl rfl rfl rfl rfl rfl rfl (by rfl) (by rfl) (by omega) (by omega)) ?_; clear hA; intro a hA
       refine st_clear tbOk hA (h := (l.take i ++ l.drop j).length) (old := l.length) (c := c) rfl rfl rfl rfl rfl rfl (fun u hu => List.all_eq_true.1 (by rfl) u hu) hO3 hS (by omega) (by omega) rfl rfl ?_; clear hS; intro w4 C5 hO5 hS
       refine wpList_nil ?_
       replace hA := hA.sel [0] (e' := [(0, .slice A ((l.take i ++ l.drop j).length) c)]) rfl
       refine xt_norm ?_
       refine wp_seq ?_
       refine wp_region_lit ?_
       refine st_run tbOk 2 hA (e' := (6, .slice A ((l.take i ++ l.drop j).length) c) :: (32, .slice A ((l.take i ++ l.drop j).length) c) :: _) rfl ?_; clear hA; intro a hA
       refine wpList_nil ?_
       replace hA := hA.sel [6] (e' := [(6, .slice A ((l.take i ++ l.drop j).length) c)]) rfl
       refine xt_norm ?_
       refine wp_ret ?_
       refine ret1 (fn := Tryd.f21) hA rfl rfl ?_
       exact ⟨_, hO5, hS⟩)

theorem find_hit15 {w0 w : World} {F : List Chunk} (hS : St w0 w F) {v : Value} {l : List Area} (hr : RdS w0 F 5 v l.length (rows encArea l)) (hs : ∀ y ∈ l, SOk y) (t : Int) {i : Nat} {y : Area} (hy : l[i]? = some y) (hin : InA y t) (hb : ∀ (k : Nat) (z : Area), k < i → l[k]? = some z → ¬ InA z t) :
    Ret Tryd.prog 15 #[v, .int .i64 t] w (fun v w' => v = .tuple #[.agg #[.int .i64 y.1, .int .i64 y.2.1, .int .i64 y.2.2.1, .int .i64 y.2.2.2.1, .bool y.2.2.2.2], .bool true] ∧ St w0 w' F) := by
  obtain ⟨A, c, rfl, hmc, hcx⟩ := (hr w hS).open'
  obtain ⟨y0, y1, y2, y3, y4⟩ := y
  have hil := (List.getElem?_eq_some_iff.1 hy).1
  dsimp only [InA, ab, az] at hin
  have hys := hs _ (List.mem_of_getElem? hy); dsimp only [SOk, ab, az, ag, ao] at hys
  refine enter (vs := [.slice A l.length c, .int .i64 t]) 30 Tryd.func15 rfl rfl (by simp) ?_; intro a hA
  refine wp_seq ?_
  refine wp_region_lit ?_
  refine st_alloc tbOk hA hS [.int .i64 0, .int .i64 0, .int .i64 0, .int .i64 0, .bool false] rfl rfl rfl rfl rfl (by decide) ?_; clear hA hS; intro b1 w2 a hS hA
  refine st_run tbOk 1 hA (e' := (5, .bool false) :: _) rfl ?_; clear hA; intro a hA
  refine wpList_nil ?_
  replace hA := hA.sel [0, 1, 4] (e' := [(0, .slice A l.length c), (1, .int .i64 t), (4, .pointer (some ⟨b1, 0, none⟩))]) rfl
  refine xt_norm ?_
  refine wp_seq ?_
  refine wp_seq ?_
  refine wp_region_lit ?_
  refine st_run tbOk 3 hA (e' := (10, .int .i64 0) :: (9, .int .i64 ((l.length : Nat) : Int)) :: (8, .slice A l.length c) :: _) rfl ?_; clear hA; intro a hA
  refine wpList_nil ?_
  replace hA := hA.sel [1, 4, 8, 9, 10] (e' := [(1, .int .i64 t), (4, .pointer (some ⟨b1, 0, none⟩)), (8, .slice A l.length c), (9, .int .i64 ((l.length : Nat) : Int)), (10, .int .i64 0)]) rfl
  refine xt_norm ?_
  refine wp_block ?_
  refine wp_loop_ghost (fun m a w => ∃ (k : Nat), m = l.length - k ∧ Has a 30 [(1, .int .i64 t), (4, .pointer (some ⟨b1, 0, none⟩)), (8, .slice A l.length c), (9, .int .i64 ((l.length : Nat) : Int)), (10, .int .i64 ((k : Nat) : Int))] ∧ St w0 w ([(b1, rowO [.int .i64 0, .int .i64 0, .int .i64 0, .int .i64 0, .bool false] 24)] :: F) ∧ (k ≤ i)) (l.length - 0)
    ⟨0, rfl, (hA.sel [1, 4, 8, 9, 10] rfl), hS, Nat.zero_le _⟩ ?_
  clear hA hS; rintro m0 a w3 ⟨k, rfl, hA, hS, hk⟩
  refine wp_seq ?_
  refine wp_region_lit ?_
  refine st_run tbOk 1 hA (e' := (11, .bool (decide (((k : Nat) : Int) < ((l.length : Nat) : Int)))) :: _) rfl ?_; clear hA; intro a hA
  refine wpList_nil ?_
  refine xt_norm ?_
  refine wp_seq ?_
  by_cases hc4 : ((k : Nat) : Int) < ((l.length : Nat) : Int)
  · first
    | (exfalso; omega)
    | (replace hA := hA.rw 11 (v' := .bool true) rfl (vb_true hc4)
       refine cd_cond_t hA rfl ?_
       refine wp_skip ?_
       refine xt_norm ?_
       refine wp_seq ?_
       refine wp_block ?_
       refine wp_seq ?_
       refine wp_region_lit ?_
       obtain ⟨b5, o6, rfl⟩ := (hr _ (hS.tail 1 rfl)).isSome (k := k) (by omega)
       refine st_val hA rfl rfl (by decide) (rn_indexAddr tbOk hA k (o6 + (k * 5)) rfl rfl rfl rfl rfl rfl (by rfl) (by omega) (by first | rfl | simp [Nat.mul_one, Nat.zero_add] | omega)) ?_; clear hA; intro a hA
       obtain ⟨x7, hx7⟩ := get_ex (l := l) (k := k) (by omega)
       obtain ⟨x7f0, x7f1, x7f2, x7f3, x7f4⟩ := x7
       have hk8 := hs _ (List.mem_of_getElem? hx7); dsimp only [SOk, ab, az, ag, ao] at hk8
       refine st_val hA rfl rfl (by decide) (rn_loadA tbOk hA ([.int .i64 x7f0, .int .i64 x7f1, .int .i64 x7f2, .int .i64 x7f3, .bool x7f4]) rfl rfl rfl rfl (by rfl) ((hr _ (hS.tail 1 rfl)).elem (k := k) encArea_ok hx7)) ?_; clear hA; intro a hA
       refine st_alloc tbOk hA hS [.int .i64 0, .int .i64 0, .int .i64 0, .int .i64 0, .bool false] rfl rfl rfl rfl rfl (by decide) ?_; clear hA hS; intro b9 w10 a hS hA
       refine st_store tbOk hA hS [.int .i64 x7f0, .int .i64 x7f1, .int .i64 x7f2, .int .i64 x7f3, .bool x7f4] [.int .i64 x7f0, .int .i64 x7f1, .int .i64 x7f2, .int .i64 x7f3, .bool x7f4] rfl rfl rfl rfl rfl rfl (by simp [Value.oneCell']) (Nat.le_of_ble_eq_true rfl) rfl rfl rfl ?_; clear hS; intro w11 hS
       refine wpList_nil ?_
       replace hA := hA.sel [1, 4, 7, 8, 9, 10] (e' := [(1, .int .i64 t), (4, .pointer (some ⟨b1, 0, none⟩)), (7, .pointer (some ⟨b9, 0, none⟩)), (8, .slice (some ⟨b5, o6, none⟩) l.length c), (9, .int .i64 ((l.length : Nat) : Int)), (10, .int .i64 ((k : Nat) : Int))]) rfl
       refine xt_norm ?_
       refine wp_seq ?_
       refine wp_region_lit ?_
       have hno : k < i → ¬ (x7f0 ≤ t ∧ t < x7f0 + x7f1) := fun h => hb k _ h hx7
       have hyes : k = i → x7f0 = y0 ∧ x7f1 = y1 ∧ x7f2 = y2 ∧ x7f3 = y3 := fun h => by subst h; rw [hx7] at hy; simp at hy; omega
       have hyb : k = i → x7f4 = y4 := fun h => by subst h; rw [hx7] at hy; simp at hy; exact hy.2.2.2.2
       refine st_run tbOk 2 hA (e' := (15, .pointer (some ⟨b9, 0, none⟩)) :: (14, .int .i64 t) :: _) rfl ?_; clear hA; intro a hA
       refine st_val hA rfl rfl (by decide) (rn_load tbOk hA rfl rfl rfl rfl (cell_row (hS.heapAt 0 rfl) rfl)) ?_; clear hA; intro a hA
       refine st_run tbOk 2 hA (e' := (18, .bool (decide (t ≥ x7f0))) :: (17, .bool (decide (t ≥ x7f0))) :: _) rfl ?_; clear hA; intro a hA
       by_cases hc12 : t ≥ x7f0
       · first
         | (exfalso; omega)
         | (replace hA := hA.rw 17 (v' := .bool true) rfl (vb_true hc12)
            replace hA := hA.rw 18 (v' := .bool true) rfl (vb_true hc12)
            refine st_run tbOk 2 hA (e' := (20, .pointer (some ⟨b9, 0, none⟩)) :: (19, .int .i64 t) :: _) rfl ?_; clear hA; intro a hA
            refine st_val hA rfl rfl (by decide) (rn_load tbOk hA rfl rfl rfl rfl (cell_row (hS.heapAt 0 rfl) rfl)) ?_; clear hA; intro a hA
            refine st_run tbOk 1 hA (e' := (22, .pointer (some ⟨b9, 1, none⟩)) :: _) rfl ?_; clear hA; intro a hA
            refine st_val hA rfl rfl (by decide) (rn_load tbOk hA rfl rfl rfl rfl (cell_row (hS.heapAt 0 rfl) rfl)) ?_; clear hA; intro a hA
            refine st_run tbOk 1 hA (e' := (24, .int .i64 (IntKind.i64.wrap (x7f0 + x7f1))) :: _) rfl ?_; clear hA; intro a hA
            replace hA := hA.rw 24 (v' := .int .i64 (x7f0 + x7f1)) rfl (wr64 (by omega) (by omega) (by omega))
            refine st_run tbOk 2 hA (e' := (26, .bool (decide (t < x7f0 + x7f1))) :: (25, .bool (decide (t < x7f0 + x7f1))) :: _) rfl ?_; clear hA; intro a hA
            refine wpList_nil ?_
            replace hA := hA.sel [1, 4, 7, 8, 9, 10, 26] (e' := [(1, .int .i64 t), (4, .pointer (some ⟨b1, 0, none⟩)), (7, .pointer (some ⟨b9, 0, none⟩)), (8, .slice (some ⟨b5, o6, none⟩) l.length c), (9, .int .i64 ((l.length : Nat) : Int)), (10, .int .i64 ((k : Nat) : Int)), (26, .bool (decide (t < x7f0 + x7f1)))]) rfl
            refine xt_norm ?_
            by_cases hc13 : t < x7f0 + x7f1
            · first
              | (exfalso; omega)
              | (replace hA := hA.rw 26 (v' := .bool true) rfl (vb_true hc13)
                 refine cd_cond_t hA rfl ?_
                 refine wp_seq ?_
                 refine wp_region_lit ?_
                 refine st_val hA rfl rfl (by decide) (rn_loadA tbOk hA [.int .i64 x7f0, .int .i64 x7f1, .int .i64 x7f2, .int .i64 x7f3, .bool x7f4] rfl rfl rfl rfl rfl (cells_row (hS.heapAt 0 rfl) rfl)) ?_; clear hA; intro a hA
                 replace hS := hS.front 1 (C := [(b1, rowO [.int .i64 0, .int .i64 0, .int .i64 0, .int .i64 0, .bool false] 24)]) (L' := [(b9, rowO [.int .i64 x7f0, .int .i64 x7f1, .int .i64 x7f2, .int .i64 x7f3, .bool x7f4] 24)] :: F) rfl rfl
                 refine st_store tbOk hA hS [.int .i64 x7f0, .int .i64 x7f1, .int .i64 x7f2, .int .i64 x7f3, .bool x7f4] [.int .i64 x7f0, .int .i64 x7f1, .int .i64 x7f2, .int .i64 x7f3, .bool x7f4] rfl rfl rfl rfl rfl rfl (by simp [Value.oneCell']) (Nat.le_of_ble_eq_true rfl) rfl rfl rfl ?_; clear hS; intro w14 hS
                 refine st_run tbOk 1 hA (e' := (5, .bool true) :: _) rfl ?_; clear hA; intro a hA
                 refine wpList_nil ?_
                 replace hA := hA.sel [4, 5] (e' := [(4, .pointer (some ⟨b1, 0, none⟩)), (5, .bool true)]) rfl
                 refine xt_norm ?_
                 refine wp_ret (xb_ret (xt_ret (xt_ret (xb_ret (xt_ret ?_)))))
                 refine retc2 tbOk (fn := Tryd.f15) (cs := [.int .i64 x7f0, .int .i64 x7f1, .int .i64 x7f2, .int .i64 x7f3, .bool x7f4]) hA rfl rfl rfl rfl rfl rfl (cells_row (hS.heapAt 0 rfl) rfl) ?_
                 replace hS := hS.drop1
                 replace hS := hS.drop1
                 have hki : k = i := by omega
                 obtain ⟨rfl, rfl, rfl, rfl⟩ := hyes hki
                 obtain rfl := hyb hki
                 exact ⟨rfl, hS⟩)
            · first
              | (exfalso; omega)
              | (replace hA := hA.rw 26 (v' := .bool false) rfl (vb_false hc13)
                 refine cd_cond_f hA rfl ?_
                 refine wp_skip ?_
                 refine xb_norm ?_
                 refine xt_norm ?_
                 refine wp_region_lit ?_
                 refine st_run tbOk 1 hA (e' := (28, .int .i64 (IntKind.i64.wrap (((k : Nat) : Int) + 1))) :: _) rfl ?_; clear hA; intro a hA
                 replace hA := hA.rw 28 (v' := .int .i64 ((k + 1 : Nat) : Int)) rfl (wr64 (by omega) (by omega) (by omega))
                 refine st_run tbOk 1 hA (e' := (10, .int .i64 ((k + 1 : Nat) : Int)) :: _) rfl ?_; clear hA; intro a hA
                 refine wpList_nil ?_
                 replace hA := hA.sel [1, 4, 8, 9, 10] (e' := [(1, .int .i64 t), (4, .pointer (some ⟨b1, 0, none⟩)), (8, .slice (some ⟨b5, o6, none⟩) l.length c), (9, .int .i64 ((l.length : Nat) : Int)), (10, .int .i64 ((k + 1 : Nat) : Int))]) rfl
                 replace hS := hS.drop1
                 exact lp_next _ (by omega) ⟨(k + 1), rfl, (hA.sel [1, 4, 8, 9, 10] rfl), hS, by omega⟩))
       · first
         | (exfalso; omega)
         | (replace hA := hA.rw 17 (v' := .bool false) rfl (vb_false hc12)
            replace hA := hA.rw 18 (v' := .bool false) rfl (vb_false hc12)
            refine st_run tbOk 8 hA (e' := (26, .bool false) :: (25, undef) :: (24, undef) :: (23, undef) :: (22, undef) :: (21, undef) :: (20, undef) :: (19, undef) :: _) rfl ?_; clear hA; intro a hA
            refine wpList_nil ?_
            replace hA := hA.sel [1, 4, 7, 8, 9, 10, 26] (e' := [(1, .int .i64 t), (4, .pointer (some ⟨b1, 0, none⟩)), (7, .pointer (some ⟨b9, 0, none⟩)), (8, .slice (some ⟨b5, o6, none⟩) l.length c), (9, .int .i64 ((l.length : Nat) : Int)), (10, .int .i64 ((k : Nat) : Int)), (26, .bool false)]) rfl
            refine xt_norm ?_
            refine cd_cond_f hA rfl ?_
            refine wp_skip ?_
            refine xb_norm ?_
            refine xt_norm ?_
            refine wp_region_lit ?_
            refine st_run tbOk 1 hA (e' := (28, .int .i64 (IntKind.i64.wrap (((k : Nat) : Int) + 1))) :: _) rfl ?_; clear hA; intro a hA
            replace hA := hA.rw 28 (v' := .int .i64 ((k + 1 : Nat) : Int)) rfl (wr64 (by omega) (by omega) (by omega))
            refine st_run tbOk 1 hA (e' := (10, .int .i64 ((k + 1 : Nat) : Int)) :: _) rfl ?_; clear hA; intro a hA
            refine wpList_nil ?_
            replace hA := hA.sel [1, 4, 8, 9, 10] (e' := [(1, .int .i64 t), (4, .pointer (some ⟨b1, 0, none⟩)), (8, .slice (some ⟨b5, o6, none⟩) l.length c), (9, .int .i64 ((l.length : Nat) : Int)), (10, .int .i64 ((k + 1 : Nat) : Int))]) rfl
            replace hS := hS.drop1
            exact lp_next _ (by omega) ⟨(k + 1), rfl, (hA.sel [1, 4, 8, 9, 10] rfl), hS, by omega⟩))
  · first
    | (exfalso; omega)
    | (replace hA := hA.rw 11 (v' := .bool false) rfl (vb_false hc4)
       refine cd_cond_f hA rfl ?_
       refine wp_exit ?_
       refine xt_exit ?_
       refine xt_exit ?_
       refine cd_exit_eq ?_
       refine xt_norm ?_
       refine wp_seq ?_
       refine wp_region_lit ?_
       refine st_run tbOk 1 hA (e' := (29, .agg #[.int .i64 0, .int .i64 0, .int .i64 0, .int .i64 0, .bool false]) :: _) rfl ?_; clear hA; intro a hA
       refine st_store tbOk hA hS [.int .i64 0, .int .i64 0, .int .i64 0, .int .i64 0, .bool false] [.int .i64 0, .int .i64 0, .int .i64 0, .int .i64 0, .bool false] rfl rfl rfl rfl rfl rfl (by simp [Value.oneCell']) (Nat.le_of_ble_eq_true rfl) rfl rfl rfl ?_; clear hS; intro w15 hS
       refine st_run tbOk 1 hA (e' := (5, .bool false) :: _) rfl ?_; clear hA; intro a hA
       refine wpList_nil ?_
       replace hA := hA.sel [4, 5] (e' := [(4, .pointer (some ⟨b1, 0, none⟩)), (5, .bool false)]) rfl
       refine xt_norm ?_
       refine wp_ret ?_
       refine retc2 tbOk (fn := Tryd.f15) (cs := [.int .i64 0, .int .i64 0, .int .i64 0, .int .i64 0, .bool false]) hA rfl rfl rfl rfl rfl rfl (cells_row (hS.heapAt 0 rfl) rfl) ?_
       replace hS := hS.drop1
       exfalso; omega)

theorem find_none15 {w0 w : World} {F : List Chunk} (hS : St w0 w F) {v : Value} {l : List Area} (hr : RdS w0 F 5 v l.length (rows encArea l)) (hs : ∀ y ∈ l, SOk y) (t : Int) (hb : ∀ (k : Nat) (z : Area), l[k]? = some z → ¬ InA z t) :
    Ret Tryd.prog 15 #[v, .int .i64 t] w (fun v w' => v = .tuple #[.agg #[.int .i64 0, .int .i64 0, .int .i64 0, .int .i64 0, .bool false], .bool false] ∧ St w0 w' F) := by
  obtain ⟨A, c, rfl, hmc, hcx⟩ := (hr w hS).open'
  refine enter (vs := [.slice A l.length c, .int .i64 t]) 30 Tryd.func15 rfl rfl (by simp) ?_; intro a hA
  refine wp_seq ?_
  refine wp_region_lit ?_
  refine st_alloc tbOk hA hS [.int .i64 0, .int .i64 0, .int .i64 0, .int .i64 0, .bool false] rfl rfl rfl rfl rfl (by decide) ?_; clear hA hS; intro b1 w2 a hS hA
  refine st_run tbOk 1 hA (e' := (5, .bool false) :: _) rfl ?_; clear hA; intro a hA
  refine wpList_nil ?_
  replace hA := hA.sel [0, 1, 4] (e' := [(0, .slice A l.length c), (1, .int .i64 t), (4, .pointer (some ⟨b1, 0, none⟩))]) rfl
  refine xt_norm ?_
  refine wp_seq ?_
  refine wp_seq ?_
  refine wp_region_lit ?_
  refine st_run tbOk 3 hA (e' := (10, .int .i64 0) :: (9, .int .i64 ((l.length : Nat) : Int)) :: (8, .slice A l.length c) :: _) rfl ?_; clear hA; intro a hA
  refine wpList_nil ?_
  replace hA := hA.sel [1, 4, 8, 9, 10] (e' := [(1, .int .i64 t), (4, .pointer (some ⟨b1, 0, none⟩)), (8, .slice A l.length c), (9, .int .i64 ((l.length : Nat) : Int)), (10, .int .i64 0)]) rfl
  refine xt_norm ?_
  refine wp_block ?_
  refine wp_loop_ghost (fun m a w => ∃ (k : Nat), m = l.length - k ∧ Has a 30 [(1, .int .i64 t), (4, .pointer (some ⟨b1, 0, none⟩)), (8, .slice A l.length c), (9, .int .i64 ((l.length : Nat) : Int)), (10, .int .i64 ((k : Nat) : Int))] ∧ St w0 w ([(b1, rowO [.int .i64 0, .int .i64 0, .int .i64 0, .int .i64 0, .bool false] 24)] :: F) ∧ (k ≤ l.length)) (l.length - 0)
    ⟨0, rfl, (hA.sel [1, 4, 8, 9, 10] rfl), hS, Nat.zero_le _⟩ ?_
  clear hA hS; rintro m0 a w3 ⟨k, rfl, hA, hS, hk⟩
  refine wp_seq ?_
  refine wp_region_lit ?_
  refine st_run tbOk 1 hA (e' := (11, .bool (decide (((k : Nat) : Int) < ((l.length : Nat) : Int)))) :: _) rfl ?_; clear hA; intro a hA
  refine wpList_nil ?_
  refine xt_norm ?_
  refine wp_seq ?_
  by_cases hc4 : ((k : Nat) : Int) < ((l.length : Nat) : Int)
  · first
    | (exfalso; omega)
    | (replace hA := hA.rw 11 (v' := .bool true) rfl (vb_true hc4)
       refine cd_cond_t hA rfl ?_
       refine wp_skip ?_
       refine xt_norm ?_
       refine wp_seq ?_
       refine wp_block ?_
       refine wp_seq ?_
       refine wp_region_lit ?_
       obtain ⟨b5, o6, rfl⟩ := (hr _ (hS.tail 1 rfl)).isSome (k := k) (by omega)
       refine st_val hA rfl rfl (by decide) (rn_indexAddr tbOk hA k (o6 + (k * 5)) rfl rfl rfl rfl rfl rfl (by rfl) (by omega) (by first | rfl | simp [Nat.mul_one, Nat.zero_add] | omega)) ?_; clear hA; intro a hA
       obtain ⟨x7, hx7⟩ := get_ex (l := l) (k := k) (by omega)
       obtain ⟨x7f0, x7f1, x7f2, x7f3, x7f4⟩ := x7
       have hk8 := hs _ (List.mem_of_getElem? hx7); dsimp only [SOk, ab, az, ag, ao] at hk8
       refine st_val hA rfl rfl (by decide) (rn_loadA tbOk hA ([.int .i64 x7f0, .int .i64 x7f1, .int .i64 x7f2, .int .i64 x7f3, .bool x7f4]) rfl rfl rfl rfl (by rfl) ((hr _ (hS.tail 1 rfl)).elem (k := k) encArea_ok hx7)) ?_; clear hA; intro a hA
       refine st_alloc tbOk hA hS [.int .i64 0, .int .i64 0, .int .i64 0, .int .i64 0, .bool false] rfl rfl rfl rfl rfl (by decide) ?_; clear hA hS; intro b9 w10 a hS hA
       refine st_store tbOk hA hS [.int .i64 x7f0, .int .i64 x7f1, .int .i64 x7f2, .int .i64 x7f3, .bool x7f4] [.int .i64 x7f0, .int .i64 x7f1, .int .i64 x7f2, .int .i64 x7f3, .bool x7f4] rfl rfl rfl rfl rfl rfl (by simp [Value.oneCell']) (Nat.le_of_ble_eq_true rfl) rfl rfl rfl ?_; clear hS; intro w11 hS
       refine wpList_nil ?_
       replace hA := hA.sel [1, 4, 7, 8, 9, 10] (e' := [(1, .int .i64 t), (4, .pointer (some ⟨b1, 0, none⟩)), (7, .pointer (some ⟨b9, 0, none⟩)), (8, .slice (some ⟨b5, o6, none⟩) l.length c), (9, .int .i64 ((l.length : Nat) : Int)), (10, .int .i64 ((k : Nat) : Int))]) rfl
       refine xt_norm ?_
       refine wp_seq ?_
       refine wp_region_lit ?_
       have hno := hb k _ hx7; dsimp only [InA, ab, az] at hno
       refine st_run tbOk 2 hA (e' := (15, .pointer (some ⟨b9, 0, none⟩)) :: (14, .int .i64 t) :: _) rfl ?_; clear hA; intro a hA
       refine st_val hA rfl rfl (by decide) (rn_load tbOk hA rfl rfl rfl rfl (cell_row (hS.heapAt 0 rfl) rfl)) ?_; clear hA; intro a hA
       refine st_run tbOk 2 hA (e' := (18, .bool (decide (t ≥ x7f0))) :: (17, .bool (decide (t ≥ x7f0))) :: _) rfl ?_; clear hA; intro a hA
       by_cases hc12 : t ≥ x7f0
       · first
         | (exfalso; omega)
         | (replace hA := hA.rw 17 (v' := .bool true) rfl (vb_true hc12)
            replace hA := hA.rw 18 (v' := .bool true) rfl (vb_true hc12)
            refine st_run tbOk 2 hA (e' := (20, .pointer (some ⟨b9, 0, none⟩)) :: (19, .int .i64 t) :: _) rfl ?_; clear hA; intro a hA
            refine st_val hA rfl rfl (by decide) (rn_load tbOk hA rfl rfl rfl rfl (cell_row (hS.heapAt 0 rfl) rfl)) ?_; clear hA; intro a hA
            refine st_run tbOk 1 hA (e' := (22, .pointer (some ⟨b9, 1, none⟩)) :: _) rfl ?_; clear hA; intro a hA
            refine st_val hA rfl rfl (by decide) (rn_load tbOk hA rfl rfl rfl rfl (cell_row (hS.heapAt 0 rfl) rfl)) ?_; clear hA; intro a hA
            refine st_run tbOk 1 hA (e' := (24, .int .i64 (IntKind.i64.wrap (x7f0 + x7f1))) :: _) rfl ?_; clear hA; intro a hA
            replace hA := hA.rw 24 (v' := .int .i64 (x7f0 + x7f1)) rfl (wr64 (by omega) (by omega) (by omega))
            refine st_run tbOk 2 hA (e' := (26, .bool (decide (t < x7f0 + x7f1))) :: (25, .bool (decide (t < x7f0 + x7f1))) :: _) rfl ?_; clear hA; intro a hA
            refine wpList_nil ?_
            replace hA := hA.sel [1, 4, 7, 8, 9, 10, 26] (e' := [(1, .int .i64 t), (4, .pointer (some ⟨b1, 0, none⟩)), (7, .pointer (some ⟨b9, 0, none⟩)), (8, .slice (some ⟨b5, o6, none⟩) l.length c), (9, .int .i64 ((l.length : Nat) : Int)), (10, .int .i64 ((k : Nat) : Int)), (26, .bool (decide (t < x7f0 + x7f1)))]) rfl
            refine xt_norm ?_
            by_cases hc13 : t < x7f0 + x7f1
            · first
              | (exfalso; omega)
              | (replace hA := hA.rw 26 (v' := .bool true) rfl (vb_true hc13)
                 refine cd_cond_t hA rfl ?_
                 refine wp_seq ?_
                 refine wp_region_lit ?_
                 refine st_val hA rfl rfl (by decide) (rn_loadA tbOk hA [.int .i64 x7f0, .int .i64 x7f1, .int .i64 x7f2, .int .i64 x7f3, .bool x7f4] rfl rfl rfl rfl rfl (cells_row (hS.heapAt 0 rfl) rfl)) ?_; clear hA; intro a hA
                 replace hS := hS.front 1 (C := [(b1, rowO [.int .i64 0, .int .i64 0, .int .i64 0, .int .i64 0, .bool false] 24)]) (L' := [(b9, rowO [.int .i64 x7f0, .int .i64 x7f1, .int .i64 x7f2, .int .i64 x7f3, .bool x7f4] 24)] :: F) rfl rfl
                 refine st_store tbOk hA hS [.int .i64 x7f0, .int .i64 x7f1, .int .i64 x7f2, .int .i64 x7f3, .bool x7f4] [.int .i64 x7f0, .int .i64 x7f1, .int .i64 x7f2, .int .i64 x7f3, .bool x7f4] rfl rfl rfl rfl rfl rfl (by simp [Value.oneCell']) (Nat.le_of_ble_eq_true rfl) rfl rfl rfl ?_; clear hS; intro w14 hS
                 refine st_run tbOk 1 hA (e' := (5, .bool true) :: _) rfl ?_; clear hA; intro a hA
                 refine wpList_nil ?_
                 replace hA := hA.sel [4, 5] (e' := [(4, .pointer (some ⟨b1, 0, none⟩)), (5, .bool true)]) rfl
                 refine xt_norm ?_
                 refine wp_ret (xb_ret (xt_ret (xt_ret (xb_ret (xt_ret ?_)))))
                 refine retc2 tbOk (fn := Tryd.f15) (cs := [.int .i64 x7f0, .int .i64 x7f1, .int .i64 x7f2, .int .i64 x7f3, .bool x7f4]) hA rfl rfl rfl rfl rfl rfl (cells_row (hS.heapAt 0 rfl) rfl) ?_
                 replace hS := hS.drop1
                 replace hS := hS.drop1
                 exact ⟨rfl, hS⟩)
            · first
              | (exfalso; omega)
              | (replace hA := hA.rw 26 (v' := .bool false) rfl (vb_false hc13)
                 refine cd_cond_f hA rfl ?_
                 refine wp_skip ?_
                 refine xb_norm ?_
                 refine xt_norm ?_
                 refine wp_region_lit ?_
                 refine st_run tbOk 1 hA (e' := (28, .int .i64 (IntKind.i64.wrap (((k : Nat) : Int) + 1))) :: _) rfl ?_; clear hA; intro a hA
                 replace hA := hA.rw 28 (v' := .int .i64 ((k + 1 : Nat) : Int)) rfl (wr64 (by omega) (by omega) (by omega))
                 refine st_run tbOk 1 hA (e' := (10, .int .i64 ((k + 1 : Nat) : Int)) :: _) rfl ?_; clear hA; intro a hA
                 refine wpList_nil ?_
                 replace hA := hA.sel [1, 4, 8, 9, 10] (e' := [(1, .int .i64 t), (4, .pointer (some ⟨b1, 0, none⟩)), (8, .slice (some ⟨b5, o6, none⟩) l.length c), (9, .int .i64 ((l.length : Nat) : Int)), (10, .int .i64 ((k + 1 : Nat) : Int))]) rfl
                 replace hS := hS.drop1
                 exact lp_next _ (by omega) ⟨(k + 1), rfl, (hA.sel [1, 4, 8, 9, 10] rfl), hS, by omega⟩))
       · first
         | (exfalso; omega)
         | (replace hA := hA.rw 17 (v' := .bool false) rfl (vb_false hc12)
            replace hA := hA.rw 18 (v' := .bool false) rfl (vb_false hc12)
            refine st_run tbOk 8 hA (e' := (26, .bool false) :: (25, undef) :: (24, undef) :: (23, undef) :: (22, undef) :: (21, undef) :: (20, undef) :: (19, undef) :: _) rfl ?_; clear hA; intro a hA
            refine wpList_nil ?_
            replace hA := hA.sel [1, 4, 7, 8, 9, 10, 26] (e' := [(1, .int .i64 t), (4, .pointer (some ⟨b1, 0, none⟩)), (7, .pointer (some ⟨b9, 0, none⟩)), (8, .slice (some ⟨b5, o6, none⟩) l.length c), (9, .int .i64 ((l.length : Nat) : Int)), (10, .int .i64 ((k : Nat) : Int)), (26, .bool false)]) rfl
            refine xt_norm ?_
            refine cd_cond_f hA rfl ?_
            refine wp_skip ?_
            refine xb_norm ?_
            refine xt_norm ?_
            refine wp_region_lit ?_
            refine st_run tbOk 1 hA (e' := (28, .int .i64 (IntKind.i64.wrap (((k : Nat) : Int) + 1))) :: _) rfl ?_; clear hA; intro a hA
            replace hA := hA.rw 28 (v' := .int .i64 ((k + 1 : Nat) : Int)) rfl (wr64 (by omega) (by omega) (by omega))
            refine st_run tbOk 1 hA (e' := (10, .int .i64 ((k + 1 : Nat) : Int)) :: _) rfl ?_; clear hA; intro a hA
            refine wpList_nil ?_
            replace hA := hA.sel [1, 4, 8, 9, 10] (e' := [(1, .int .i64 t), (4, .pointer (some ⟨b1, 0, none⟩)), (8, .slice (some ⟨b5, o6, none⟩) l.length c), (9, .int .i64 ((l.length : Nat) : Int)), (10, .int .i64 ((k + 1 : Nat) : Int))]) rfl
            replace hS := hS.drop1
            exact lp_next _ (by omega) ⟨(k + 1), rfl, (hA.sel [1, 4, 8, 9, 10] rfl), hS, by omega⟩))
  · first
    | (exfalso; omega)
    | (replace hA := hA.rw 11 (v' := .bool false) rfl (vb_false hc4)
       refine cd_cond_f hA rfl ?_
       refine wp_exit ?_
       refine xt_exit ?_
       refine xt_exit ?_
       refine cd_exit_eq ?_
       refine xt_norm ?_
       refine wp_seq ?_
       refine wp_region_lit ?_
       refine st_run tbOk 1 hA (e' := (29, .agg #[.int .i64 0, .int .i64 0, .int .i64 0, .int .i64 0, .bool false]) :: _) rfl ?_; clear hA; intro a hA
       refine st_store tbOk hA hS [.int .i64 0, .int .i64 0, .int .i64 0, .int .i64 0, .bool false] [.int .i64 0, .int .i64 0, .int .i64 0, .int .i64 0, .bool false] rfl rfl rfl rfl rfl rfl (by simp [Value.oneCell']) (Nat.le_of_ble_eq_true rfl) rfl rfl rfl ?_; clear hS; intro w15 hS
       refine st_run tbOk 1 hA (e' := (5, .bool false) :: _) rfl ?_; clear hA; intro a hA
       refine wpList_nil ?_
       replace hA := hA.sel [4, 5] (e' := [(4, .pointer (some ⟨b1, 0, none⟩)), (5, .bool false)]) rfl
       refine xt_norm ?_
       refine wp_ret ?_
       refine retc2 tbOk (fn := Tryd.f15) (cs := [.int .i64 0, .int .i64 0, .int .i64 0, .int .i64 0, .bool false]) hA rfl rfl rfl rfl rfl rfl (cells_row (hS.heapAt 0 rfl) rfl) ?_
       replace hS := hS.drop1
       exact ⟨rfl, hS⟩)

theorem remove_ok17 {w0 w : World} {F : List Chunk} (hS : St w0 w F) {v : Value} {l : List Area} (hr : RdS w0 F 5 v l.length (rows encArea l)) (b : Int) {i : Nat} {y : Area} (hy : l[i]? = some y) (hyb : ab y = b) (hb : ∀ (k : Nat) (z : Area), k < i → l[k]? = some z → ¬ ab z = b) (hl : l.length ≤ 64) :
    Ret Tryd.prog 17 #[v, .int .i64 b] w (fun v w' => ∃ v1 C, Own 24 5 v1 (l.take i ++ l.drop (i + 1)).length (rows encArea (l.take i ++ l.drop (i + 1))) C ∧ v = .tuple #[v1, .nilIface] ∧ St w0 w' (C :: F)) := by
  obtain ⟨A, c, rfl, hmc, hcx⟩ := (hr w hS).open'
  obtain ⟨y0, y1, y2, y3, y4⟩ := y
  have hil := (List.getElem?_eq_some_iff.1 hy).1
  dsimp only [ab] at hyb
  refine enter (vs := [.slice A l.length c, .int .i64 b]) 27 Tryd.func17 rfl rfl (by simp) ?_; intro a hA
  refine wp_seq ?_
  refine wp_region_lit ?_
  refine st_run tbOk 2 hA (e' := (5, .nilIface) :: (4, .slice none 0 0) :: _) rfl ?_; clear hA; intro a hA
  refine wpList_nil ?_
  replace hA := hA.sel [0, 1] (e' := [(0, .slice A l.length c), (1, .int .i64 b)]) rfl
  refine xt_norm ?_
  refine wp_seq ?_
  refine wp_seq ?_
  refine wp_region_lit ?_
  refine st_run tbOk 3 hA (e' := (10, .int .i64 0) :: (9, .int .i64 ((l.length : Nat) : Int)) :: (8, .slice A l.length c) :: _) rfl ?_; clear hA; intro a hA
  refine wpList_nil ?_
  refine xt_norm ?_
  refine wp_block ?_
  refine wp_loop_ghost (fun m a w => ∃ (k : Nat), m = l.length - k ∧ Has a 27 [(0, .slice A l.length c), (1, .int .i64 b), (8, .slice A l.length c), (9, .int .i64 ((l.length : Nat) : Int)), (10, .int .i64 ((k : Nat) : Int))] ∧ St w0 w (F) ∧ (k ≤ i)) (l.length - 0)
    ⟨0, rfl, (hA.sel [0, 1, 8, 9, 10] rfl), hS, Nat.zero_le _⟩ ?_
  clear hA hS; rintro m0 a w1 ⟨k, rfl, hA, hS, hk⟩
  refine wp_seq ?_
  refine wp_region_lit ?_
  refine st_run tbOk 1 hA (e' := (11, .bool (decide (((k : Nat) : Int) < ((l.length : Nat) : Int)))) :: _) rfl ?_; clear hA; intro a hA
  refine wpList_nil ?_
  refine xt_norm ?_
  refine wp_seq ?_
  by_cases hc2 : ((k : Nat) : Int) < ((l.length : Nat) : Int)
  · first
    | (exfalso; omega)
    | (replace hA := hA.rw 11 (v' := .bool true) rfl (vb_true hc2)
       refine cd_cond_t hA rfl ?_
       refine wp_skip ?_
       refine xt_norm ?_
       refine wp_seq ?_
       refine wp_block ?_
       refine wp_seq ?_
       refine wp_region_lit ?_
       refine st_run tbOk 1 hA (e' := (12, .int .i64 ((k : Nat) : Int)) :: _) rfl ?_; clear hA; intro a hA
       obtain ⟨b3, o4, rfl⟩ := (hr _ hS).isSome (k := k) (by omega)
       refine st_val hA rfl rfl (by decide) (rn_indexAddr tbOk hA k (o4 + (k * 5)) rfl rfl rfl rfl rfl rfl (by rfl) (by omega) (by first | rfl | simp [Nat.mul_one, Nat.zero_add] | omega)) ?_; clear hA; intro a hA
       obtain ⟨x5, hx5⟩ := get_ex (l := l) (k := k) (by omega)
       obtain ⟨x5f0, x5f1, x5f2, x5f3, x5f4⟩ := x5
       refine st_val hA rfl rfl (by decide) (rn_loadA tbOk hA ([.int .i64 x5f0, .int .i64 x5f1, .int .i64 x5f2, .int .i64 x5f3, .bool x5f4]) rfl rfl rfl rfl (by rfl) ((hr _ hS).elem (k := k) encArea_ok hx5)) ?_; clear hA; intro a hA
       refine st_alloc tbOk hA hS [.int .i64 0, .int .i64 0, .int .i64 0, .int .i64 0, .bool false] rfl rfl rfl rfl rfl (by decide) ?_; clear hA hS; intro b6 w7 a hS hA
       refine st_run tbOk 1 hA (e' := (6, .int .i64 ((k : Nat) : Int)) :: _) rfl ?_; clear hA; intro a hA
       refine st_store tbOk hA hS [.int .i64 x5f0, .int .i64 x5f1, .int .i64 x5f2, .int .i64 x5f3, .bool x5f4] [.int .i64 x5f0, .int .i64 x5f1, .int .i64 x5f2, .int .i64 x5f3, .bool x5f4] rfl rfl rfl rfl rfl rfl (by simp [Value.oneCell']) (Nat.le_of_ble_eq_true rfl) rfl rfl rfl ?_; clear hS; intro w8 hS
       refine wpList_nil ?_
       replace hA := hA.sel [0, 1, 6, 7, 8, 9, 10] (e' := [(0, .slice (some ⟨b3, o4, none⟩) l.length c), (1, .int .i64 b), (6, .int .i64 ((k : Nat) : Int)), (7, .pointer (some ⟨b6, 0, none⟩)), (8, .slice (some ⟨b3, o4, none⟩) l.length c), (9, .int .i64 ((l.length : Nat) : Int)), (10, .int .i64 ((k : Nat) : Int))]) rfl
       refine xt_norm ?_
       refine wp_seq ?_
       refine wp_region_lit ?_
       have hno : k < i → ¬ x5f0 = b := fun h => hb k _ h hx5
       have hyes : k = i → x5f0 = y0 := fun h => by subst h; rw [hx5] at hy; simp at hy; omega
       refine st_run tbOk 1 hA (e' := (15, .pointer (some ⟨b6, 0, none⟩)) :: _) rfl ?_; clear hA; intro a hA
       refine st_val hA rfl rfl (by decide) (rn_load tbOk hA rfl rfl rfl rfl (cell_row (hS.heapAt 0 rfl) rfl)) ?_; clear hA; intro a hA
       refine st_run tbOk 2 hA (e' := (18, .bool (x5f0 == b)) :: (17, .int .i64 b) :: _) rfl ?_; clear hA; intro a hA
       refine wpList_nil ?_
       replace hA := hA.sel [0, 1, 6, 8, 9, 10, 18] (e' := [(0, .slice (some ⟨b3, o4, none⟩) l.length c), (1, .int .i64 b), (6, .int .i64 ((k : Nat) : Int)), (8, .slice (some ⟨b3, o4, none⟩) l.length c), (9, .int .i64 ((l.length : Nat) : Int)), (10, .int .i64 ((k : Nat) : Int)), (18, .bool (x5f0 == b))]) rfl
       refine xt_norm ?_
       by_cases hc9 : x5f0 = b
       · first
         | (exfalso; omega)
         | (replace hA := hA.rw 18 (v' := .bool true) rfl (vb_eq_t hc9)
            refine cd_cond_t hA rfl ?_
            refine wp_seq ?_
            refine wp_region_lit ?_
            have hki : k = i := by omega
            refine st_run tbOk 1 hA (e' := (19, .slice (some ⟨b3, o4, none⟩) l.length c) :: _) rfl ?_; clear hA; intro a hA
            refine st_call0 hA rfl rfl rfl isfn19 rfl rfl (by decide) (clone19 hS (l := l) (fun w' h => (hr _ (h.tail 1 rfl))) (by omega)) ?_
            clear hA hS; rintro v10 w11 a ⟨C12, hO12, hS⟩ hA
            obtain ⟨A13, c14, rfl, hmc14, hxc14⟩ := hO12.open'
            refine st_run tbOk 3 hA (e' := (23, .int .i64 (IntKind.i64.wrap (((k : Nat) : Int) + 1))) :: (22, .int .i64 ((k : Nat) : Int)) :: (21, .int .i64 ((k : Nat) : Int)) :: _) rfl ?_; clear hA; intro a hA
            replace hA := hA.rw 23 (v' := .int .i64 ((k + 1 : Nat) : Int)) rfl (wr64 (by omega) (by omega) (by omega))
            refine st_call0 hA rfl rfl rfl isfn21 rfl rfl (by decide) (delete21 hS hO12 k (k + 1) (by omega) (by omega)) ?_
            clear hA hS; rintro v15 w16 a ⟨C17, hO17, hS⟩ hA
            obtain ⟨A18, c19, rfl, hmc19, hxc19⟩ := hO17.open'
            refine st_run tbOk 2 hA (e' := (5, .nilIface) :: (4, .slice A18 ((l.take k ++ l.drop (k + 1)).length) c19) :: _) rfl ?_; clear hA; intro a hA
            refine wpList_nil ?_
            replace hA := hA.sel [4, 5] (e' := [(4, .slice A18 ((l.take k ++ l.drop (k + 1)).length) c19), (5, .nilIface)]) rfl
            refine xt_norm ?_
            refine wp_ret (xb_ret (xt_ret (xt_ret (xb_ret (xt_ret ?_)))))
            refine ret2 (fn := Tryd.f17) hA rfl rfl rfl ?_
            replace hS := hS.drop2
            subst hki
            exact ⟨_, C17, hO17, rfl, hS⟩)
       · first
         | (exfalso; omega)
         | (replace hA := hA.rw 18 (v' := .bool false) rfl (vb_eq_f hc9)
            refine cd_cond_f hA rfl ?_
            refine wp_skip ?_
            refine xb_norm ?_
            refine xt_norm ?_
            refine wp_region_lit ?_
            refine st_run tbOk 1 hA (e' := (25, .int .i64 (IntKind.i64.wrap (((k : Nat) : Int) + 1))) :: _) rfl ?_; clear hA; intro a hA
            replace hA := hA.rw 25 (v' := .int .i64 ((k + 1 : Nat) : Int)) rfl (wr64 (by omega) (by omega) (by omega))
            refine st_run tbOk 1 hA (e' := (10, .int .i64 ((k + 1 : Nat) : Int)) :: _) rfl ?_; clear hA; intro a hA
            refine wpList_nil ?_
            replace hA := hA.sel [0, 1, 8, 9, 10] (e' := [(0, .slice (some ⟨b3, o4, none⟩) l.length c), (1, .int .i64 b), (8, .slice (some ⟨b3, o4, none⟩) l.length c), (9, .int .i64 ((l.length : Nat) : Int)), (10, .int .i64 ((k + 1 : Nat) : Int))]) rfl
            replace hS := hS.drop1
            exact lp_next _ (by omega) ⟨(k + 1), rfl, (hA.sel [0, 1, 8, 9, 10] rfl), hS, by omega⟩))
  · first
    | (exfalso; omega)
    | (replace hA := hA.rw 11 (v' := .bool false) rfl (vb_false hc2)
       refine cd_cond_f hA rfl ?_
       refine wp_exit ?_
       refine xt_exit ?_
       refine xt_exit ?_
       refine cd_exit_eq ?_
       refine xt_norm ?_
       refine wp_seq ?_
       refine wp_region_lit ?_
       refine st_run tbOk 3 hA (e' := (5, .iface 30 (.int .i64 12)) :: (4, .slice none 0 0) :: (26, .iface 30 (.int .i64 12)) :: _) rfl ?_; clear hA; intro a hA
       refine wpList_nil ?_
       replace hA := hA.sel [4, 5] (e' := [(4, .slice none 0 0), (5, .iface 30 (.int .i64 12))]) rfl
       refine xt_norm ?_
       refine wp_ret ?_
       refine ret2 (fn := Tryd.f17) hA rfl rfl rfl ?_
       exfalso; omega)

theorem remove_none17 {w0 w : World} {F : List Chunk} (hS : St w0 w F) {v : Value} {l : List Area} (hr : RdS w0 F 5 v l.length (rows encArea l)) (b : Int) (hb : ∀ (k : Nat) (z : Area), l[k]? = some z → ¬ ab z = b) :
    Ret Tryd.prog 17 #[v, .int .i64 b] w (fun v w' => v = .tuple #[.slice none 0 0, .iface 30 (.int .i64 12)] ∧ St w0 w' F) := by
  obtain ⟨A, c, rfl, hmc, hcx⟩ := (hr w hS).open'
  refine enter (vs := [.slice A l.length c, .int .i64 b]) 27 Tryd.func17 rfl rfl (by simp) ?_; intro a hA
  refine wp_seq ?_
  refine wp_region_lit ?_
  refine st_run tbOk 2 hA (e' := (5, .nilIface) :: (4, .slice none 0 0) :: _) rfl ?_; clear hA; intro a hA
  refine wpList_nil ?_
  replace hA := hA.sel [0, 1] (e' := [(0, .slice A l.length c), (1, .int .i64 b)]) rfl
  refine xt_norm ?_
  refine wp_seq ?_
  refine wp_seq ?_
  refine wp_region_lit ?_
  refine st_run tbOk 3 hA (e' := (10, .int .i64 0) :: (9, .int .i64 ((l.length : Nat) : Int)) :: (8, .slice A l.length c) :: _) rfl ?_; clear hA; intro a hA
  refine wpList_nil ?_
  refine xt_norm ?_
  refine wp_block ?_
  refine wp_loop_ghost (fun m a w => ∃ (k : Nat), m = l.length - k ∧ Has a 27 [(0, .slice A l.length c), (1, .int .i64 b), (8, .slice A l.length c), (9, .int .i64 ((l.length : Nat) : Int)), (10, .int .i64 ((k : Nat) : Int))] ∧ St w0 w (F) ∧ (k ≤ l.length)) (l.length - 0)
    ⟨0, rfl, (hA.sel [0, 1, 8, 9, 10] rfl), hS, Nat.zero_le _⟩ ?_
  clear hA hS; rintro m0 a w1 ⟨k, rfl, hA, hS, hk⟩
  refine wp_seq ?_
  refine wp_region_lit ?_
  refine st_run tbOk 1 hA (e' := (11, .bool (decide (((k : Nat) : Int) < ((l.length : Nat) : Int)))) :: _) rfl ?_; clear hA; intro a hA
  refine wpList_nil ?_
  refine xt_norm ?_
  refine wp_seq ?_
  by_cases hc2 : ((k : Nat) : Int) < ((l.length : Nat) : Int)
  · first
    | (exfalso; omega)
    | (replace hA := hA.rw 11 (v' := .bool true) rfl (vb_true hc2)
       refine cd_cond_t hA rfl ?_
       refine wp_skip ?_
       refine xt_norm ?_
       refine wp_seq ?_
       refine wp_block ?_
       refine wp_seq ?_
       refine wp_region_lit ?_
       refine st_run tbOk 1 hA (e' := (12, .int .i64 ((k : Nat) : Int)) :: _) rfl ?_; clear hA; intro a hA
       obtain ⟨b3, o4, rfl⟩ := (hr _ hS).isSome (k := k) (by omega)
       refine st_val hA rfl rfl (by decide) (rn_indexAddr tbOk hA k (o4 + (k * 5)) rfl rfl rfl rfl rfl rfl (by rfl) (by omega) (by first | rfl | simp [Nat.mul_one, Nat.zero_add] | omega)) ?_; clear hA; intro a hA
       obtain ⟨x5, hx5⟩ := get_ex (l := l) (k := k) (by omega)
       obtain ⟨x5f0, x5f1, x5f2, x5f3, x5f4⟩ := x5
       refine st_val hA rfl rfl (by decide) (rn_loadA tbOk hA ([.int .i64 x5f0, .int .i64 x5f1, .int .i64 x5f2, .int .i64 x5f3, .bool x5f4]) rfl rfl rfl rfl (by rfl) ((hr _ hS).elem (k := k) encArea_ok hx5)) ?_; clear hA; intro a hA
       refine st_alloc tbOk hA hS [.int .i64 0, .int .i64 0, .int .i64 0, .int .i64 0, .bool false] rfl rfl rfl rfl rfl (by decide) ?_; clear hA hS; intro b6 w7 a hS hA
       refine st_run tbOk 1 hA (e' := (6, .int .i64 ((k : Nat) : Int)) :: _) rfl ?_; clear hA; intro a hA
       refine st_store tbOk hA hS [.int .i64 x5f0, .int .i64 x5f1, .int .i64 x5f2, .int .i64 x5f3, .bool x5f4] [.int .i64 x5f0, .int .i64 x5f1, .int .i64 x5f2, .int .i64 x5f3, .bool x5f4] rfl rfl rfl rfl rfl rfl (by simp [Value.oneCell']) (Nat.le_of_ble_eq_true rfl) rfl rfl rfl ?_; clear hS; intro w8 hS
       refine wpList_nil ?_
       replace hA := hA.sel [0, 1, 6, 7, 8, 9, 10] (e' := [(0, .slice (some ⟨b3, o4, none⟩) l.length c), (1, .int .i64 b), (6, .int .i64 ((k : Nat) : Int)), (7, .pointer (some ⟨b6, 0, none⟩)), (8, .slice (some ⟨b3, o4, none⟩) l.length c), (9, .int .i64 ((l.length : Nat) : Int)), (10, .int .i64 ((k : Nat) : Int))]) rfl
       refine xt_norm ?_
       refine wp_seq ?_
       refine wp_region_lit ?_
       have hno := hb k _ hx5; dsimp only [ab] at hno
       refine st_run tbOk 1 hA (e' := (15, .pointer (some ⟨b6, 0, none⟩)) :: _) rfl ?_; clear hA; intro a hA
       refine st_val hA rfl rfl (by decide) (rn_load tbOk hA rfl rfl rfl rfl (cell_row (hS.heapAt 0 rfl) rfl)) ?_; clear hA; intro a hA
       refine st_run tbOk 2 hA (e' := (18, .bool (x5f0 == b)) :: (17, .int .i64 b) :: _) rfl ?_; clear hA; intro a hA
       refine wpList_nil ?_
       replace hA := hA.sel [0, 1, 6, 8, 9, 10, 18] (e' := [(0, .slice (some ⟨b3, o4, none⟩) l.length c), (1, .int .i64 b), (6, .int .i64 ((k : Nat) : Int)), (8, .slice (some ⟨b3, o4, none⟩) l.length c), (9, .int .i64 ((l.length : Nat) : Int)), (10, .int .i64 ((k : Nat) : Int)), (18, .bool (x5f0 == b))]) rfl
       refine xt_norm ?_
       by_cases hc9 : x5f0 = b
       · first
         | (exfalso; omega)
         | (replace hA := hA.rw 18 (v' := .bool true) rfl (vb_eq_t hc9)
            refine cd_cond_t hA rfl ?_
            refine wp_seq ?_
            refine wp_region_lit ?_
            have hki : k = i := by omega
            refine st_run tbOk 1 hA (e' := (19, .slice (some ⟨b3, o4, none⟩) l.length c) :: _) rfl ?_; clear hA; intro a hA
            refine st_call0 hA rfl rfl rfl isfn19 rfl rfl (by decide) (clone19 hS (l := l) (fun w' h => (hr _ (h.tail 1 rfl))) (by omega)) ?_
            clear hA hS; rintro v10 w11 a ⟨C12, hO12, hS⟩ hA
            obtain ⟨A13, c14, rfl, hmc14, hxc14⟩ := hO12.open'
            refine st_run tbOk 3 hA (e' := (23, .int .i64 (IntKind.i64.wrap (((k : Nat) : Int) + 1))) :: (22, .int .i64 ((k : Nat) : Int)) :: (21, .int .i64 ((k : Nat) : Int)) :: _) rfl ?_; clear hA; intro a hA
            replace hA := hA.rw 23 (v' := .int .i64 ((k + 1 : Nat) : Int)) rfl (wr64 (by omega) (by omega) (by omega))
            refine st_call0 hA rfl rfl rfl isfn21 rfl rfl (by decide) (delete21 hS hO12 k (k + 1) (by omega) (by omega)) ?_
            clear hA hS; rintro v15 w16 a ⟨C17, hO17, hS⟩ hA
            obtain ⟨A18, c19, rfl, hmc19, hxc19⟩ := hO17.open'
            refine st_run tbOk 2 hA (e' := (5, .nilIface) :: (4, .slice A18 ((l.take k ++ l.drop (k + 1)).length) c19) :: _) rfl ?_; clear hA; intro a hA
            refine wpList_nil ?_
            replace hA := hA.sel [4, 5] (e' := [(4, .slice A18 ((l.take k ++ l.drop (k + 1)).length) c19), (5, .nilIface)]) rfl
            refine xt_norm ?_
            refine wp_ret (xb_ret (xt_ret (xt_ret (xb_ret (xt_ret ?_)))))
            refine ret2 (fn := Tryd.f17) hA rfl rfl rfl ?_
            replace hS := hS.drop1
            replace hS := hS.drop1
            exact ⟨rfl, hS⟩)
       · first
         | (exfalso; omega)
         | (replace hA := hA.rw 18 (v' := .bool false) rfl (vb_eq_f hc9)
            refine cd_cond_f hA rfl ?_
            refine wp_skip ?_
            refine xb_norm ?_
            refine xt_norm ?_
            refine wp_region_lit ?_
            refine st_run tbOk 1 hA (e' := (25, .int .i64 (IntKind.i64.wrap (((k : Nat) : Int) + 1))) :: _) rfl ?_; clear hA; intro a hA
            replace hA := hA.rw 25 (v' := .int .i64 ((k + 1 : Nat) : Int)) rfl (wr64 (by omega) (by omega) (by omega))
            refine st_run tbOk 1 hA (e' := (10, .int .i64 ((k + 1 : Nat) : Int)) :: _) rfl ?_; clear hA; intro a hA
            refine wpList_nil ?_
            replace hA := hA.sel [0, 1, 8, 9, 10] (e' := [(0, .slice (some ⟨b3, o4, none⟩) l.length c), (1, .int .i64 b), (8, .slice (some ⟨b3, o4, none⟩) l.length c), (9, .int .i64 ((l.length : Nat) : Int)), (10, .int .i64 ((k + 1 : Nat) : Int))]) rfl
            replace hS := hS.drop1
            exact lp_next _ (by omega) ⟨(k + 1), rfl, (hA.sel [0, 1, 8, 9, 10] rfl), hS, by omega⟩))
  · first
    | (exfalso; omega)
    | (replace hA := hA.rw 11 (v' := .bool false) rfl (vb_false hc2)
       refine cd_cond_f hA rfl ?_
       refine wp_exit ?_
       refine xt_exit ?_
       refine xt_exit ?_
       refine cd_exit_eq ?_
       refine xt_norm ?_
       refine wp_seq ?_
       refine wp_region_lit ?_
       refine st_run tbOk 3 hA (e' := (5, .iface 30 (.int .i64 12)) :: (4, .slice none 0 0) :: (26, .iface 30 (.int .i64 12)) :: _) rfl ?_; clear hA; intro a hA
       refine wpList_nil ?_
       replace hA := hA.sel [4, 5] (e' := [(4, .slice none 0 0), (5, .iface 30 (.int .i64 12))]) rfl
       refine xt_norm ?_
       refine wp_ret ?_
       refine ret2 (fn := Tryd.f17) hA rfl rfl rfl ?_
       exact ⟨rfl, hS⟩)

theorem add_bounds12 {w0 w : World} {F : List Chunk} (hS : St w0 w F) {v : Value} {l : List Area} (hr : RdS w0 F 5 v l.length (rows encArea l)) (x : Area) (hv : ¬ Val x) :
    Ret Tryd.prog 12 #[v, .agg #[.int .i64 x.1, .int .i64 x.2.1, .int .i64 x.2.2.1, .int .i64 x.2.2.2.1, .bool x.2.2.2.2]] w (fun v w' => v = .tuple #[.slice none 0 0, .iface 30 (.int .i64 13)] ∧ St w0 w' F) := by
  obtain ⟨A, c, rfl, hmc, hcx⟩ := (hr w hS).open'
  obtain ⟨a0, a1, a2, a3, a4⟩ := x
  dsimp only [Val, ab, az, ag, ao] at hv
  refine enter (vs := [.slice A l.length c, .agg #[.int .i64 a0, .int .i64 a1, .int .i64 a2, .int .i64 a3, .bool a4]]) 86 Tryd.func12 rfl rfl (by simp) ?_; intro a hA
  refine wp_seq ?_
  refine wp_region_lit ?_
  refine st_box hA hS [.int .i64 a0, .int .i64 a1, .int .i64 a2, .int .i64 a3, .bool a4] rfl rfl rfl rfl rfl (by decide) ?_; clear hA hS; intro b1 w2 a hS hA
  refine st_run tbOk 2 hA (e' := (5, .nilIface) :: (4, .slice none 0 0) :: _) rfl ?_; clear hA; intro a hA
  refine wpList_nil ?_
  replace hA := hA.sel [0, 3] (e' := [(0, .slice A l.length c), (3, .pointer (some ⟨b1, 0, none⟩))]) rfl
  refine xt_norm ?_
  refine wp_seq ?_
  refine wp_block ?_
  refine wp_seq ?_
  refine wp_region_lit ?_
  refine st_run tbOk 1 hA (e' := (10, .pointer (some ⟨b1, 1, none⟩)) :: _) rfl ?_; clear hA; intro a hA
  refine st_val hA rfl rfl (by decide) (rn_load tbOk hA rfl rfl rfl rfl (cell_row (hS.heapAt 0 rfl) rfl)) ?_; clear hA; intro a hA
  refine st_run tbOk 2 hA (e' := (13, .bool (decide (a1 < 1))) :: (12, .bool (decide (a1 < 1))) :: _) rfl ?_; clear hA; intro a hA
  by_cases hc3 : a1 < 1
  · first
    | (exfalso; omega)
    | (replace hA := hA.rw 12 (v' := .bool true) rfl (vb_true hc3)
       replace hA := hA.rw 13 (v' := .bool true) rfl (vb_true hc3)
       refine st_run tbOk 18 hA (e' := (9, .bool true) :: (30, .bool true) :: (29, undef) :: (28, undef) :: (27, undef) :: (26, undef) :: (25, undef) :: (24, undef) :: (23, .bool true) :: (22, .bool true) :: (21, undef) :: (20, undef) :: (19, undef) :: (18, .bool true) :: (17, .bool true) :: (16, undef) :: (15, undef) :: (14, undef) :: _) rfl ?_; clear hA; intro a hA
       refine wpList_nil ?_
       replace hA := hA.sel [0, 3, 9] (e' := [(0, .slice A l.length c), (3, .pointer (some ⟨b1, 0, none⟩)), (9, .bool true)]) rfl
       refine xt_norm ?_
       refine cd_cond_t hA rfl ?_
       refine wp_seq ?_
       refine wp_region_lit ?_
       refine st_run tbOk 3 hA (e' := (5, .iface 30 (.int .i64 13)) :: (4, .slice none 0 0) :: (31, .iface 30 (.int .i64 13)) :: _) rfl ?_; clear hA; intro a hA
       refine wpList_nil ?_
       replace hA := hA.sel [4, 5] (e' := [(4, .slice none 0 0), (5, .iface 30 (.int .i64 13))]) rfl
       refine xt_norm ?_
       refine wp_ret (xb_ret (xt_ret ?_))
       refine ret2 (fn := Tryd.f12) hA rfl rfl rfl ?_
       replace hS := hS.drop1
       exact ⟨rfl, hS⟩)
  · first
    | (exfalso; omega)
    | (replace hA := hA.rw 12 (v' := .bool false) rfl (vb_false hc3)
       replace hA := hA.rw 13 (v' := .bool false) rfl (vb_false hc3)
       refine st_run tbOk 1 hA (e' := (14, .pointer (some ⟨b1, 0, none⟩)) :: _) rfl ?_; clear hA; intro a hA
       refine st_val hA rfl rfl (by decide) (rn_load tbOk hA rfl rfl rfl rfl (cell_row (hS.heapAt 0 rfl) rfl)) ?_; clear hA; intro a hA
       refine st_run tbOk 3 hA (e' := (18, .bool (decide (a0 < 0))) :: (17, .bool (decide (a0 < 0))) :: (16, .bool (decide (a0 < 0))) :: _) rfl ?_; clear hA; intro a hA
       by_cases hc4 : a0 < 0
       · first
         | (exfalso; omega)
         | (replace hA := hA.rw 16 (v' := .bool true) rfl (vb_true hc4)
            replace hA := hA.rw 17 (v' := .bool true) rfl (vb_true hc4)
            replace hA := hA.rw 18 (v' := .bool true) rfl (vb_true hc4)
            refine st_run tbOk 13 hA (e' := (9, .bool true) :: (30, .bool true) :: (29, undef) :: (28, undef) :: (27, undef) :: (26, undef) :: (25, undef) :: (24, undef) :: (23, .bool true) :: (22, .bool true) :: (21, undef) :: (20, undef) :: (19, undef) :: _) rfl ?_; clear hA; intro a hA
            refine wpList_nil ?_
            replace hA := hA.sel [0, 3, 9] (e' := [(0, .slice A l.length c), (3, .pointer (some ⟨b1, 0, none⟩)), (9, .bool true)]) rfl
            refine xt_norm ?_
            refine cd_cond_t hA rfl ?_
            refine wp_seq ?_
            refine wp_region_lit ?_
            refine st_run tbOk 3 hA (e' := (5, .iface 30 (.int .i64 13)) :: (4, .slice none 0 0) :: (31, .iface 30 (.int .i64 13)) :: _) rfl ?_; clear hA; intro a hA
            refine wpList_nil ?_
            replace hA := hA.sel [4, 5] (e' := [(4, .slice none 0 0), (5, .iface 30 (.int .i64 13))]) rfl
            refine xt_norm ?_
            refine wp_ret (xb_ret (xt_ret ?_))
            refine ret2 (fn := Tryd.f12) hA rfl rfl rfl ?_
            replace hS := hS.drop1
            exact ⟨rfl, hS⟩)
       · first
         | (exfalso; omega)
         | (replace hA := hA.rw 16 (v' := .bool false) rfl (vb_false hc4)
            replace hA := hA.rw 17 (v' := .bool false) rfl (vb_false hc4)
            replace hA := hA.rw 18 (v' := .bool false) rfl (vb_false hc4)
            refine st_run tbOk 1 hA (e' := (19, .pointer (some ⟨b1, 0, none⟩)) :: _) rfl ?_; clear hA; intro a hA
            refine st_val hA rfl rfl (by decide) (rn_load tbOk hA rfl rfl rfl rfl (cell_row (hS.heapAt 0 rfl) rfl)) ?_; clear hA; intro a hA
            refine st_run tbOk 3 hA (e' := (23, .bool (decide (a0 > 1073741824))) :: (22, .bool (decide (a0 > 1073741824))) :: (21, .bool (decide (a0 > 1073741824))) :: _) rfl ?_; clear hA; intro a hA
            by_cases hc5 : a0 > 1073741824
            · first
              | (exfalso; omega)
              | (replace hA := hA.rw 21 (v' := .bool true) rfl (vb_true hc5)
                 replace hA := hA.rw 22 (v' := .bool true) rfl (vb_true hc5)
                 replace hA := hA.rw 23 (v' := .bool true) rfl (vb_true hc5)
                 refine st_run tbOk 8 hA (e' := (9, .bool true) :: (30, .bool true) :: (29, undef) :: (28, undef) :: (27, undef) :: (26, undef) :: (25, undef) :: (24, undef) :: _) rfl ?_; clear hA; intro a hA
                 refine wpList_nil ?_
                 replace hA := hA.sel [0, 3, 9] (e' := [(0, .slice A l.length c), (3, .pointer (some ⟨b1, 0, none⟩)), (9, .bool true)]) rfl
                 refine xt_norm ?_
                 refine cd_cond_t hA rfl ?_
                 refine wp_seq ?_
                 refine wp_region_lit ?_
                 refine st_run tbOk 3 hA (e' := (5, .iface 30 (.int .i64 13)) :: (4, .slice none 0 0) :: (31, .iface 30 (.int .i64 13)) :: _) rfl ?_; clear hA; intro a hA
                 refine wpList_nil ?_
                 replace hA := hA.sel [4, 5] (e' := [(4, .slice none 0 0), (5, .iface 30 (.int .i64 13))]) rfl
                 refine xt_norm ?_
                 refine wp_ret (xb_ret (xt_ret ?_))
                 refine ret2 (fn := Tryd.f12) hA rfl rfl rfl ?_
                 replace hS := hS.drop1
                 exact ⟨rfl, hS⟩)
            · first
              | (exfalso; omega)
              | (replace hA := hA.rw 21 (v' := .bool false) rfl (vb_false hc5)
                 replace hA := hA.rw 22 (v' := .bool false) rfl (vb_false hc5)
                 replace hA := hA.rw 23 (v' := .bool false) rfl (vb_false hc5)
                 refine st_run tbOk 1 hA (e' := (24, .pointer (some ⟨b1, 1, none⟩)) :: _) rfl ?_; clear hA; intro a hA
                 refine st_val hA rfl rfl (by decide) (rn_load tbOk hA rfl rfl rfl rfl (cell_row (hS.heapAt 0 rfl) rfl)) ?_; clear hA; intro a hA
                 refine st_run tbOk 1 hA (e' := (26, .pointer (some ⟨b1, 0, none⟩)) :: _) rfl ?_; clear hA; intro a hA
                 refine st_val hA rfl rfl (by decide) (rn_load tbOk hA rfl rfl rfl rfl (cell_row (hS.heapAt 0 rfl) rfl)) ?_; clear hA; intro a hA
                 refine st_run tbOk 1 hA (e' := (28, .int .i64 (IntKind.i64.wrap (1073741824 - a0))) :: _) rfl ?_; clear hA; intro a hA
                 replace hA := hA.rw 28 (v' := .int .i64 (1073741824 - a0)) rfl (wr64 (by omega) (by omega) (by omega))
                 refine st_run tbOk 3 hA (e' := (9, .bool (decide (a1 > 1073741824 - a0))) :: (30, .bool (decide (a1 > 1073741824 - a0))) :: (29, .bool (decide (a1 > 1073741824 - a0))) :: _) rfl ?_; clear hA; intro a hA
                 refine wpList_nil ?_
                 replace hA := hA.sel [0, 3, 9] (e' := [(0, .slice A l.length c), (3, .pointer (some ⟨b1, 0, none⟩)), (9, .bool (decide (a1 > 1073741824 - a0)))]) rfl
                 refine xt_norm ?_
                 by_cases hc6 : a1 > 1073741824 - a0
                 · first
                   | (exfalso; omega)
                   | (replace hA := hA.rw 9 (v' := .bool true) rfl (vb_true hc6)
                      refine cd_cond_t hA rfl ?_
                      refine wp_seq ?_
                      refine wp_region_lit ?_
                      refine st_run tbOk 3 hA (e' := (5, .iface 30 (.int .i64 13)) :: (4, .slice none 0 0) :: (31, .iface 30 (.int .i64 13)) :: _) rfl ?_; clear hA; intro a hA
                      refine wpList_nil ?_
                      replace hA := hA.sel [4, 5] (e' := [(4, .slice none 0 0), (5, .iface 30 (.int .i64 13))]) rfl
                      refine xt_norm ?_
                      refine wp_ret (xb_ret (xt_ret ?_))
                      refine ret2 (fn := Tryd.f12) hA rfl rfl rfl ?_
                      replace hS := hS.drop1
                      exact ⟨rfl, hS⟩)
                 · first
                   | (exfalso; omega)
                   | (replace hA := hA.rw 9 (v' := .bool false) rfl (vb_false hc6)
                      refine cd_cond_f hA rfl ?_
                      refine wp_seq ?_
                      exfalso; omega))))

theorem add_arg12 {w0 w : World} {F : List Chunk} (hS : St w0 w F) {v : Value} {l : List Area} (hr : RdS w0 F 5 v l.length (rows encArea l)) (x : Area) (hv : Val x) (h2 : ¬ (0 ≤ ao x ∧ 0 ≤ ag x)) :
    Ret Tryd.prog 12 #[v, .agg #[.int .i64 x.1, .int .i64 x.2.1, .int .i64 x.2.2.1, .int .i64 x.2.2.2.1, .bool x.2.2.2.2]] w (fun v w' => v = .tuple #[.slice none 0 0, .iface 30 (.int .i64 4)] ∧ St w0 w' F) := by
  obtain ⟨A, c, rfl, hmc, hcx⟩ := (hr w hS).open'
  obtain ⟨a0, a1, a2, a3, a4⟩ := x
  dsimp only [Val, ab, az, ag, ao] at hv h2
  refine enter (vs := [.slice A l.length c, .agg #[.int .i64 a0, .int .i64 a1, .int .i64 a2, .int .i64 a3, .bool a4]]) 86 Tryd.func12 rfl rfl (by simp) ?_; intro a hA
  refine wp_seq ?_
  refine wp_region_lit ?_
  refine st_box hA hS [.int .i64 a0, .int .i64 a1, .int .i64 a2, .int .i64 a3, .bool a4] rfl rfl rfl rfl rfl (by decide) ?_; clear hA hS; intro b1 w2 a hS hA
  refine st_run tbOk 2 hA (e' := (5, .nilIface) :: (4, .slice none 0 0) :: _) rfl ?_; clear hA; intro a hA
  refine wpList_nil ?_
  replace hA := hA.sel [0, 3] (e' := [(0, .slice A l.length c), (3, .pointer (some ⟨b1, 0, none⟩))]) rfl
  refine xt_norm ?_
  refine wp_seq ?_
  refine wp_block ?_
  refine wp_seq ?_
  refine wp_region_lit ?_
  refine st_run tbOk 1 hA (e' := (10, .pointer (some ⟨b1, 1, none⟩)) :: _) rfl ?_; clear hA; intro a hA
  refine st_val hA rfl rfl (by decide) (rn_load tbOk hA rfl rfl rfl rfl (cell_row (hS.heapAt 0 rfl) rfl)) ?_; clear hA; intro a hA
  refine st_run tbOk 2 hA (e' := (13, .bool (decide (a1 < 1))) :: (12, .bool (decide (a1 < 1))) :: _) rfl ?_; clear hA; intro a hA
  have hc3 : ¬ (a1 < 1) := by omega
  replace hA := hA.rw 12 (v' := .bool false) rfl (vb_false hc3)
  replace hA := hA.rw 13 (v' := .bool false) rfl (vb_false hc3)
  refine st_run tbOk 1 hA (e' := (14, .pointer (some ⟨b1, 0, none⟩)) :: _) rfl ?_; clear hA; intro a hA
  refine st_val hA rfl rfl (by decide) (rn_load tbOk hA rfl rfl rfl rfl (cell_row (hS.heapAt 0 rfl) rfl)) ?_; clear hA; intro a hA
  refine st_run tbOk 3 hA (e' := (18, .bool (decide (a0 < 0))) :: (17, .bool (decide (a0 < 0))) :: (16, .bool (decide (a0 < 0))) :: _) rfl ?_; clear hA; intro a hA
  have hc4 : ¬ (a0 < 0) := by omega
  replace hA := hA.rw 16 (v' := .bool false) rfl (vb_false hc4)
  replace hA := hA.rw 17 (v' := .bool false) rfl (vb_false hc4)
  replace hA := hA.rw 18 (v' := .bool false) rfl (vb_false hc4)
  refine st_run tbOk 1 hA (e' := (19, .pointer (some ⟨b1, 0, none⟩)) :: _) rfl ?_; clear hA; intro a hA
  refine st_val hA rfl rfl (by decide) (rn_load tbOk hA rfl rfl rfl rfl (cell_row (hS.heapAt 0 rfl) rfl)) ?_; clear hA; intro a hA
  refine st_run tbOk 3 hA (e' := (23, .bool (decide (a0 > 1073741824))) :: (22, .bool (decide (a0 > 1073741824))) :: (21, .bool (decide (a0 > 1073741824))) :: _) rfl ?_; clear hA; intro a hA
  have hc5 : ¬ (a0 > 1073741824) := by omega
  replace hA := hA.rw 21 (v' := .bool false) rfl (vb_false hc5)
  replace hA := hA.rw 22 (v' := .bool false) rfl (vb_false hc5)
  replace hA := hA.rw 23 (v' := .bool false) rfl (vb_false hc5)
  refine st_run tbOk 1 hA (e' := (24, .pointer (some ⟨b1, 1, none⟩)) :: _) rfl ?_; clear hA; intro a hA
  refine st_val hA rfl rfl (by decide) (rn_load tbOk hA rfl rfl rfl rfl (cell_row (hS.heapAt 0 rfl) rfl)) ?_; clear hA; intro a hA
  refine st_run tbOk 1 hA (e' := (26, .pointer (some ⟨b1, 0, none⟩)) :: _) rfl ?_; clear hA; intro a hA
  refine st_val hA rfl rfl (by decide) (rn_load tbOk hA rfl rfl rfl rfl (cell_row (hS.heapAt 0 rfl) rfl)) ?_; clear hA; intro a hA
  refine st_run tbOk 1 hA (e' := (28, .int .i64 (IntKind.i64.wrap (1073741824 - a0))) :: _) rfl ?_; clear hA; intro a hA
  replace hA := hA.rw 28 (v' := .int .i64 (1073741824 - a0)) rfl (wr64 (by omega) (by omega) (by omega))
  refine st_run tbOk 3 hA (e' := (9, .bool (decide (a1 > 1073741824 - a0))) :: (30, .bool (decide (a1 > 1073741824 - a0))) :: (29, .bool (decide (a1 > 1073741824 - a0))) :: _) rfl ?_; clear hA; intro a hA
  refine wpList_nil ?_
  replace hA := hA.sel [0, 3, 9] (e' := [(0, .slice A l.length c), (3, .pointer (some ⟨b1, 0, none⟩)), (9, .bool (decide (a1 > 1073741824 - a0)))]) rfl
  refine xt_norm ?_
  have hc6 : ¬ (a1 > 1073741824 - a0) := by omega
  replace hA := hA.rw 9 (v' := .bool false) rfl (vb_false hc6)
  refine cd_cond_f hA rfl ?_
  refine wp_seq ?_
  refine wp_region_lit ?_
  refine st_run tbOk 1 hA (e' := (33, .pointer (some ⟨b1, 3, none⟩)) :: _) rfl ?_; clear hA; intro a hA
  refine st_val hA rfl rfl (by decide) (rn_load tbOk hA rfl rfl rfl rfl (cell_row (hS.heapAt 0 rfl) rfl)) ?_; clear hA; intro a hA
  refine st_run tbOk 2 hA (e' := (36, .bool (decide (a3 < 0))) :: (35, .bool (decide (a3 < 0))) :: _) rfl ?_; clear hA; intro a hA
  by_cases hc7 : a3 < 0
  · first
    | (exfalso; omega)
    | (replace hA := hA.rw 35 (v' := .bool true) rfl (vb_true hc7)
       replace hA := hA.rw 36 (v' := .bool true) rfl (vb_true hc7)
       refine st_run tbOk 5 hA (e' := (32, .bool true) :: (40, .bool true) :: (39, undef) :: (38, undef) :: (37, undef) :: _) rfl ?_; clear hA; intro a hA
       refine wpList_nil ?_
       replace hA := hA.sel [0, 3, 32] (e' := [(0, .slice A l.length c), (3, .pointer (some ⟨b1, 0, none⟩)), (32, .bool true)]) rfl
       refine xt_norm ?_
       refine cd_cond_t hA rfl ?_
       refine wp_seq ?_
       refine wp_region_lit ?_
       refine st_run tbOk 3 hA (e' := (5, .iface 30 (.int .i64 4)) :: (4, .slice none 0 0) :: (41, .iface 30 (.int .i64 4)) :: _) rfl ?_; clear hA; intro a hA
       refine wpList_nil ?_
       replace hA := hA.sel [4, 5] (e' := [(4, .slice none 0 0), (5, .iface 30 (.int .i64 4))]) rfl
       refine xt_norm ?_
       refine wp_ret (xb_ret (xt_ret ?_))
       refine ret2 (fn := Tryd.f12) hA rfl rfl rfl ?_
       replace hS := hS.drop1
       exact ⟨rfl, hS⟩)
  · first
    | (exfalso; omega)
    | (replace hA := hA.rw 35 (v' := .bool false) rfl (vb_false hc7)
       replace hA := hA.rw 36 (v' := .bool false) rfl (vb_false hc7)
       refine st_run tbOk 1 hA (e' := (37, .pointer (some ⟨b1, 2, none⟩)) :: _) rfl ?_; clear hA; intro a hA
       refine st_val hA rfl rfl (by decide) (rn_load tbOk hA rfl rfl rfl rfl (cell_row (hS.heapAt 0 rfl) rfl)) ?_; clear hA; intro a hA
       refine st_run tbOk 3 hA (e' := (32, .bool (decide (a2 < 0))) :: (40, .bool (decide (a2 < 0))) :: (39, .bool (decide (a2 < 0))) :: _) rfl ?_; clear hA; intro a hA
       refine wpList_nil ?_
       replace hA := hA.sel [0, 3, 32] (e' := [(0, .slice A l.length c), (3, .pointer (some ⟨b1, 0, none⟩)), (32, .bool (decide (a2 < 0)))]) rfl
       refine xt_norm ?_
       by_cases hc8 : a2 < 0
       · first
         | (exfalso; omega)
         | (replace hA := hA.rw 32 (v' := .bool true) rfl (vb_true hc8)
            refine cd_cond_t hA rfl ?_
            refine wp_seq ?_
            refine wp_region_lit ?_
            refine st_run tbOk 3 hA (e' := (5, .iface 30 (.int .i64 4)) :: (4, .slice none 0 0) :: (41, .iface 30 (.int .i64 4)) :: _) rfl ?_; clear hA; intro a hA
            refine wpList_nil ?_
            replace hA := hA.sel [4, 5] (e' := [(4, .slice none 0 0), (5, .iface 30 (.int .i64 4))]) rfl
            refine xt_norm ?_
            refine wp_ret (xb_ret (xt_ret ?_))
            refine ret2 (fn := Tryd.f12) hA rfl rfl rfl ?_
            replace hS := hS.drop1
            exact ⟨rfl, hS⟩)
       · first
         | (exfalso; omega)
         | (replace hA := hA.rw 32 (v' := .bool false) rfl (vb_false hc8)
            refine cd_cond_f hA rfl ?_
            refine wp_skip ?_
            refine xb_norm ?_
            refine xt_norm ?_
            refine wp_seq ?_
            exfalso; omega))

theorem add_ovl12 {w0 w : World} {F : List Chunk} (hS : St w0 w F) {v : Value} {l : List Area} (hr : RdS w0 F 5 v l.length (rows encArea l)) (x : Area) (hv : Val x) (h2 : 0 ≤ ao x ∧ 0 ≤ ag x) (hs : ∀ y ∈ l, SOk y) {j : Nat} {y : Area} (hy : l[j]? = some y) (hov : Ovl x y) :
    Ret Tryd.prog 12 #[v, .agg #[.int .i64 x.1, .int .i64 x.2.1, .int .i64 x.2.2.1, .int .i64 x.2.2.2.1, .bool x.2.2.2.2]] w (fun v w' => v = .tuple #[.slice none 0 0, .iface 30 (.int .i64 14)] ∧ St w0 w' F) := by
  obtain ⟨A, c, rfl, hmc, hcx⟩ := (hr w hS).open'
  obtain ⟨a0, a1, a2, a3, a4⟩ := x
  dsimp only [Val, ab, az, ag, ao] at hv h2
  obtain ⟨y0, y1, y2, y3, y4⟩ := y
  have hjl := (List.getElem?_eq_some_iff.1 hy).1
  dsimp only [Ovl, ab, az] at hov
  refine enter (vs := [.slice A l.length c, .agg #[.int .i64 a0, .int .i64 a1, .int .i64 a2, .int .i64 a3, .bool a4]]) 86 Tryd.func12 rfl rfl (by simp) ?_; intro a hA
  refine wp_seq ?_
  refine wp_region_lit ?_
  refine st_box hA hS [.int .i64 a0, .int .i64 a1, .int .i64 a2, .int .i64 a3, .bool a4] rfl rfl rfl rfl rfl (by decide) ?_; clear hA hS; intro b1 w2 a hS hA
  refine st_run tbOk 2 hA (e' := (5, .nilIface) :: (4, .slice none 0 0) :: _) rfl ?_; clear hA; intro a hA
  refine wpList_nil ?_
  replace hA := hA.sel [0, 3] (e' := [(0, .slice A l.length c), (3, .pointer (some ⟨b1, 0, none⟩))]) rfl
  refine xt_norm ?_
  refine wp_seq ?_
  refine wp_block ?_
  refine wp_seq ?_
  refine wp_region_lit ?_
  refine st_run tbOk 1 hA (e' := (10, .pointer (some ⟨b1, 1, none⟩)) :: _) rfl ?_; clear hA; intro a hA
  refine st_val hA rfl rfl (by decide) (rn_load tbOk hA rfl rfl rfl rfl (cell_row (hS.heapAt 0 rfl) rfl)) ?_; clear hA; intro a hA
  refine st_run tbOk 2 hA (e' := (13, .bool (decide (a1 < 1))) :: (12, .bool (decide (a1 < 1))) :: _) rfl ?_; clear hA; intro a hA
  have hc3 : ¬ (a1 < 1) := by omega
  replace hA := hA.rw 12 (v' := .bool false) rfl (vb_false hc3)
  replace hA := hA.rw 13 (v' := .bool false) rfl (vb_false hc3)
  refine st_run tbOk 1 hA (e' := (14, .pointer (some ⟨b1, 0, none⟩)) :: _) rfl ?_; clear hA; intro a hA
  refine st_val hA rfl rfl (by decide) (rn_load tbOk hA rfl rfl rfl rfl (cell_row (hS.heapAt 0 rfl) rfl)) ?_; clear hA; intro a hA
  refine st_run tbOk 3 hA (e' := (18, .bool (decide (a0 < 0))) :: (17, .bool (decide (a0 < 0))) :: (16, .bool (decide (a0 < 0))) :: _) rfl ?_; clear hA; intro a hA
  have hc4 : ¬ (a0 < 0) := by omega
  replace hA := hA.rw 16 (v' := .bool false) rfl (vb_false hc4)
  replace hA := hA.rw 17 (v' := .bool false) rfl (vb_false hc4)
  replace hA := hA.rw 18 (v' := .bool false) rfl (vb_false hc4)
  refine st_run tbOk 1 hA (e' := (19, .pointer (some ⟨b1, 0, none⟩)) :: _) rfl ?_; clear hA; intro a hA
  refine st_val hA rfl rfl (by decide) (rn_load tbOk hA rfl rfl rfl rfl (cell_row (hS.heapAt 0 rfl) rfl)) ?_; clear hA; intro a hA
  refine st_run tbOk 3 hA (e' := (23, .bool (decide (a0 > 1073741824))) :: (22, .bool (decide (a0 > 1073741824))) :: (21, .bool (decide (a0 > 1073741824))) :: _) rfl ?_; clear hA; intro a hA
  have hc5 : ¬ (a0 > 1073741824) := by omega
  replace hA := hA.rw 21 (v' := .bool false) rfl (vb_false hc5)
  replace hA := hA.rw 22 (v' := .bool false) rfl (vb_false hc5)
  replace hA := hA.rw 23 (v' := .bool false) rfl (vb_false hc5)
  refine st_run tbOk 1 hA (e' := (24, .pointer (some ⟨b1, 1, none⟩)) :: _) rfl ?_; clear hA; intro a hA
  refine st_val hA rfl rfl (by decide) (rn_load tbOk hA rfl rfl rfl rfl (cell_row (hS.heapAt 0 rfl) rfl)) ?_; clear hA; intro a hA
  refine st_run tbOk 1 hA (e' := (26, .pointer (some ⟨b1, 0, none⟩)) :: _) rfl ?_; clear hA; intro a hA
  refine st_val hA rfl rfl (by decide) (rn_load tbOk hA rfl rfl rfl rfl (cell_row (hS.heapAt 0 rfl) rfl)) ?_; clear hA; intro a hA
  refine st_run tbOk 1 hA (e' := (28, .int .i64 (IntKind.i64.wrap (1073741824 - a0))) :: _) rfl ?_; clear hA; intro a hA
  replace hA := hA.rw 28 (v' := .int .i64 (1073741824 - a0)) rfl (wr64 (by omega) (by omega) (by omega))
  refine st_run tbOk 3 hA (e' := (9, .bool (decide (a1 > 1073741824 - a0))) :: (30, .bool (decide (a1 > 1073741824 - a0))) :: (29, .bool (decide (a1 > 1073741824 - a0))) :: _) rfl ?_; clear hA; intro a hA
  refine wpList_nil ?_
  replace hA := hA.sel [0, 3, 9] (e' := [(0, .slice A l.length c), (3, .pointer (some ⟨b1, 0, none⟩)), (9, .bool (decide (a1 > 1073741824 - a0)))]) rfl
  refine xt_norm ?_
  have hc6 : ¬ (a1 > 1073741824 - a0) := by omega
  replace hA := hA.rw 9 (v' := .bool false) rfl (vb_false hc6)
  refine cd_cond_f hA rfl ?_
  refine wp_seq ?_
  refine wp_region_lit ?_
  refine st_run tbOk 1 hA (e' := (33, .pointer (some ⟨b1, 3, none⟩)) :: _) rfl ?_; clear hA; intro a hA
  refine st_val hA rfl rfl (by decide) (rn_load tbOk hA rfl rfl rfl rfl (cell_row (hS.heapAt 0 rfl) rfl)) ?_; clear hA; intro a hA
  refine st_run tbOk 2 hA (e' := (36, .bool (decide (a3 < 0))) :: (35, .bool (decide (a3 < 0))) :: _) rfl ?_; clear hA; intro a hA
  have hc7 : ¬ (a3 < 0) := by omega
  replace hA := hA.rw 35 (v' := .bool false) rfl (vb_false hc7)
  replace hA := hA.rw 36 (v' := .bool false) rfl (vb_false hc7)
  refine st_run tbOk 1 hA (e' := (37, .pointer (some ⟨b1, 2, none⟩)) :: _) rfl ?_; clear hA; intro a hA
  refine st_val hA rfl rfl (by decide) (rn_load tbOk hA rfl rfl rfl rfl (cell_row (hS.heapAt 0 rfl) rfl)) ?_; clear hA; intro a hA
  refine st_run tbOk 3 hA (e' := (32, .bool (decide (a2 < 0))) :: (40, .bool (decide (a2 < 0))) :: (39, .bool (decide (a2 < 0))) :: _) rfl ?_; clear hA; intro a hA
  refine wpList_nil ?_
  replace hA := hA.sel [0, 3, 32] (e' := [(0, .slice A l.length c), (3, .pointer (some ⟨b1, 0, none⟩)), (32, .bool (decide (a2 < 0)))]) rfl
  refine xt_norm ?_
  have hc8 : ¬ (a2 < 0) := by omega
  replace hA := hA.rw 32 (v' := .bool false) rfl (vb_false hc8)
  refine cd_cond_f hA rfl ?_
  refine wp_skip ?_
  refine xb_norm ?_
  refine xt_norm ?_
  refine wp_seq ?_
  refine wp_region_lit ?_
  refine st_run tbOk 1 hA (e' := (6, .int .i64 0) :: _) rfl ?_; clear hA; intro a hA
  refine wpList_nil ?_
  replace hA := hA.sel [0, 3, 6] (e' := [(0, .slice A l.length c), (3, .pointer (some ⟨b1, 0, none⟩)), (6, .int .i64 0)]) rfl
  refine xt_norm ?_
  refine wp_seq ?_
  refine wp_seq ?_
  refine wp_region_lit ?_
  refine st_run tbOk 3 hA (e' := (44, .int .i64 0) :: (43, .int .i64 ((l.length : Nat) : Int)) :: (42, .slice A l.length c) :: _) rfl ?_; clear hA; intro a hA
  refine wpList_nil ?_
  refine xt_norm ?_
  refine wp_block ?_
  refine wp_loop_ghost (fun m a w => ∃ (k : Nat) (q : Nat), m = l.length - k ∧ Has a 86 [(0, .slice A l.length c), (3, .pointer (some ⟨b1, 0, none⟩)), (6, .int .i64 ((q : Nat) : Int)), (42, .slice A l.length c), (43, .int .i64 ((l.length : Nat) : Int)), (44, .int .i64 ((k : Nat) : Int))] ∧ St w0 w ([(b1, rowO [.int .i64 a0, .int .i64 a1, .int .i64 a2, .int .i64 a3, .bool a4] 24)] :: F) ∧ (k ≤ j)) (l.length - 0)
    ⟨0, 0, rfl, (hA.sel [0, 3, 6, 42, 43, 44] rfl), hS, Nat.zero_le _⟩ ?_
  clear hA hS; rintro m0 a w9 ⟨k, q, rfl, hA, hS, hk⟩
  refine wp_seq ?_
  refine wp_region_lit ?_
  refine st_run tbOk 1 hA (e' := (45, .bool (decide (((k : Nat) : Int) < ((l.length : Nat) : Int)))) :: _) rfl ?_; clear hA; intro a hA
  refine wpList_nil ?_
  refine xt_norm ?_
  refine wp_seq ?_
  by_cases hc10 : ((k : Nat) : Int) < ((l.length : Nat) : Int)
  · first
    | (exfalso; omega)
    | (replace hA := hA.rw 45 (v' := .bool true) rfl (vb_true hc10)
       refine cd_cond_t hA rfl ?_
       refine wp_skip ?_
       refine xt_norm ?_
       refine wp_seq ?_
       refine wp_block ?_
       refine wp_seq ?_
       refine wp_region_lit ?_
       refine st_run tbOk 1 hA (e' := (46, .int .i64 ((k : Nat) : Int)) :: _) rfl ?_; clear hA; intro a hA
       obtain ⟨b11, o12, rfl⟩ := (hr _ (hS.tail 1 rfl)).isSome (k := k) (by omega)
       refine st_val hA rfl rfl (by decide) (rn_indexAddr tbOk hA k (o12 + (k * 5)) rfl rfl rfl rfl rfl rfl (by rfl) (by omega) (by first | rfl | simp [Nat.mul_one, Nat.zero_add] | omega)) ?_; clear hA; intro a hA
       obtain ⟨x13, hx13⟩ := get_ex (l := l) (k := k) (by omega)
       obtain ⟨x13f0, x13f1, x13f2, x13f3, x13f4⟩ := x13
       have hk14 := hs _ (List.mem_of_getElem? hx13); dsimp only [SOk, ab, az, ag, ao] at hk14
       refine st_val hA rfl rfl (by decide) (rn_loadA tbOk hA ([.int .i64 x13f0, .int .i64 x13f1, .int .i64 x13f2, .int .i64 x13f3, .bool x13f4]) rfl rfl rfl rfl (by rfl) ((hr _ (hS.tail 1 rfl)).elem (k := k) encArea_ok hx13)) ?_; clear hA; intro a hA
       refine st_alloc tbOk hA hS [.int .i64 0, .int .i64 0, .int .i64 0, .int .i64 0, .bool false] rfl rfl rfl rfl rfl (by decide) ?_; clear hA hS; intro b15 w16 a hS hA
       refine st_run tbOk 1 hA (e' := (7, .int .i64 ((k : Nat) : Int)) :: _) rfl ?_; clear hA; intro a hA
       refine st_store tbOk hA hS [.int .i64 x13f0, .int .i64 x13f1, .int .i64 x13f2, .int .i64 x13f3, .bool x13f4] [.int .i64 x13f0, .int .i64 x13f1, .int .i64 x13f2, .int .i64 x13f3, .bool x13f4] rfl rfl rfl rfl rfl rfl (by simp [Value.oneCell']) (Nat.le_of_ble_eq_true rfl) rfl rfl rfl ?_; clear hS; intro w17 hS
       refine wpList_nil ?_
       replace hA := hA.sel [0, 3, 6, 7, 8, 42, 43, 44] (e' := [(0, .slice (some ⟨b11, o12, none⟩) l.length c), (3, .pointer (some ⟨b1, 0, none⟩)), (6, .int .i64 ((q : Nat) : Int)), (7, .int .i64 ((k : Nat) : Int)), (8, .pointer (some ⟨b15, 0, none⟩)), (42, .slice (some ⟨b11, o12, none⟩) l.length c), (43, .int .i64 ((l.length : Nat) : Int)), (44, .int .i64 ((k : Nat) : Int))]) rfl
       refine xt_norm ?_
       refine wp_seq ?_
       refine wp_seq ?_
       refine wp_region_lit ?_
       have hyes : k = j → x13f0 = y0 ∧ x13f1 = y1 := fun h => by subst h; rw [hx13] at hy; simp at hy; omega
       refine st_run tbOk 1 hA (e' := (49, .pointer (some ⟨b1, 0, none⟩)) :: _) rfl ?_; clear hA; intro a hA
       refine st_val hA rfl rfl (by decide) (rn_load tbOk hA rfl rfl rfl rfl (cell_row (hS.heapAt 1 rfl) rfl)) ?_; clear hA; intro a hA
       refine st_run tbOk 1 hA (e' := (51, .pointer (some ⟨b15, 0, none⟩)) :: _) rfl ?_; clear hA; intro a hA
       refine st_val hA rfl rfl (by decide) (rn_load tbOk hA rfl rfl rfl rfl (cell_row (hS.heapAt 0 rfl) rfl)) ?_; clear hA; intro a hA
       refine st_run tbOk 1 hA (e' := (53, .pointer (some ⟨b15, 1, none⟩)) :: _) rfl ?_; clear hA; intro a hA
       refine st_val hA rfl rfl (by decide) (rn_load tbOk hA rfl rfl rfl rfl (cell_row (hS.heapAt 0 rfl) rfl)) ?_; clear hA; intro a hA
       refine st_run tbOk 1 hA (e' := (55, .int .i64 (IntKind.i64.wrap (x13f0 + x13f1))) :: _) rfl ?_; clear hA; intro a hA
       replace hA := hA.rw 55 (v' := .int .i64 (x13f0 + x13f1)) rfl (wr64 (by omega) (by omega) (by omega))
       refine st_run tbOk 2 hA (e' := (57, .bool (decide (a0 < x13f0 + x13f1))) :: (56, .bool (decide (a0 < x13f0 + x13f1))) :: _) rfl ?_; clear hA; intro a hA
       by_cases hc18 : a0 < x13f0 + x13f1
       · first
         | (exfalso; omega)
         | (replace hA := hA.rw 56 (v' := .bool true) rfl (vb_true hc18)
            replace hA := hA.rw 57 (v' := .bool true) rfl (vb_true hc18)
            refine st_run tbOk 1 hA (e' := (58, .pointer (some ⟨b15, 0, none⟩)) :: _) rfl ?_; clear hA; intro a hA
            refine st_val hA rfl rfl (by decide) (rn_load tbOk hA rfl rfl rfl rfl (cell_row (hS.heapAt 0 rfl) rfl)) ?_; clear hA; intro a hA
            refine st_run tbOk 1 hA (e' := (60, .pointer (some ⟨b1, 0, none⟩)) :: _) rfl ?_; clear hA; intro a hA
            refine st_val hA rfl rfl (by decide) (rn_load tbOk hA rfl rfl rfl rfl (cell_row (hS.heapAt 1 rfl) rfl)) ?_; clear hA; intro a hA
            refine st_run tbOk 1 hA (e' := (62, .pointer (some ⟨b1, 1, none⟩)) :: _) rfl ?_; clear hA; intro a hA
            refine st_val hA rfl rfl (by decide) (rn_load tbOk hA rfl rfl rfl rfl (cell_row (hS.heapAt 1 rfl) rfl)) ?_; clear hA; intro a hA
            refine st_run tbOk 1 hA (e' := (64, .int .i64 (IntKind.i64.wrap (a0 + a1))) :: _) rfl ?_; clear hA; intro a hA
            replace hA := hA.rw 64 (v' := .int .i64 (a0 + a1)) rfl (wr64 (by omega) (by omega) (by omega))
            refine st_run tbOk 2 hA (e' := (66, .bool (decide (x13f0 < a0 + a1))) :: (65, .bool (decide (x13f0 < a0 + a1))) :: _) rfl ?_; clear hA; intro a hA
            refine wpList_nil ?_
            replace hA := hA.sel [0, 3, 6, 7, 8, 42, 43, 44, 66] (e' := [(0, .slice (some ⟨b11, o12, none⟩) l.length c), (3, .pointer (some ⟨b1, 0, none⟩)), (6, .int .i64 ((q : Nat) : Int)), (7, .int .i64 ((k : Nat) : Int)), (8, .pointer (some ⟨b15, 0, none⟩)), (42, .slice (some ⟨b11, o12, none⟩) l.length c), (43, .int .i64 ((l.length : Nat) : Int)), (44, .int .i64 ((k : Nat) : Int)), (66, .bool (decide (x13f0 < a0 + a1)))]) rfl
            refine xt_norm ?_
            by_cases hc19 : x13f0 < a0 + a1
            · first
              | (exfalso; omega)
              | (replace hA := hA.rw 66 (v' := .bool true) rfl (vb_true hc19)
                 refine cd_cond_t hA rfl ?_
                 refine wp_seq ?_
                 refine wp_region_lit ?_
                 refine st_run tbOk 3 hA (e' := (5, .iface 30 (.int .i64 14)) :: (4, .slice none 0 0) :: (67, .iface 30 (.int .i64 14)) :: _) rfl ?_; clear hA; intro a hA
                 refine wpList_nil ?_
                 replace hA := hA.sel [4, 5] (e' := [(4, .slice none 0 0), (5, .iface 30 (.int .i64 14))]) rfl
                 refine xt_norm ?_
                 refine wp_ret (xt_ret (xb_ret (xt_ret (xt_ret (xb_ret (xt_ret ?_))))))
                 refine ret2 (fn := Tryd.f12) hA rfl rfl rfl ?_
                 replace hS := hS.drop1
                 replace hS := hS.drop1
                 exact ⟨rfl, hS⟩)
            · first
              | (exfalso; omega)
              | (replace hA := hA.rw 66 (v' := .bool false) rfl (vb_false hc19)
                 refine cd_cond_f hA rfl ?_
                 refine wp_skip ?_
                 refine xt_norm ?_
                 refine wp_seq ?_
                 refine wp_region_lit ?_
                 refine st_run tbOk 1 hA (e' := (68, .pointer (some ⟨b15, 0, none⟩)) :: _) rfl ?_; clear hA; intro a hA
                 refine st_val hA rfl rfl (by decide) (rn_load tbOk hA rfl rfl rfl rfl (cell_row (hS.heapAt 0 rfl) rfl)) ?_; clear hA; intro a hA
                 refine st_run tbOk 1 hA (e' := (70, .pointer (some ⟨b1, 0, none⟩)) :: _) rfl ?_; clear hA; intro a hA
                 refine st_val hA rfl rfl (by decide) (rn_load tbOk hA rfl rfl rfl rfl (cell_row (hS.heapAt 1 rfl) rfl)) ?_; clear hA; intro a hA
                 refine st_run tbOk 1 hA (e' := (72, .bool (decide (x13f0 < a0))) :: _) rfl ?_; clear hA; intro a hA
                 refine wpList_nil ?_
                 replace hA := hA.sel [0, 3, 6, 7, 42, 43, 44, 72] (e' := [(0, .slice (some ⟨b11, o12, none⟩) l.length c), (3, .pointer (some ⟨b1, 0, none⟩)), (6, .int .i64 ((q : Nat) : Int)), (7, .int .i64 ((k : Nat) : Int)), (42, .slice (some ⟨b11, o12, none⟩) l.length c), (43, .int .i64 ((l.length : Nat) : Int)), (44, .int .i64 ((k : Nat) : Int)), (72, .bool (decide (x13f0 < a0)))]) rfl
                 refine xt_norm ?_
                 by_cases hc20 : x13f0 < a0
                 · first
                   | (exfalso; omega)
                   | (replace hA := hA.rw 72 (v' := .bool true) rfl (vb_true hc20)
                      refine cd_cond_t hA rfl ?_
                      refine wp_region_lit ?_
                      refine st_run tbOk 2 hA (e' := (74, .int .i64 (IntKind.i64.wrap (((k : Nat) : Int) + 1))) :: (73, .int .i64 ((k : Nat) : Int)) :: _) rfl ?_; clear hA; intro a hA
                      replace hA := hA.rw 74 (v' := .int .i64 ((k + 1 : Nat) : Int)) rfl (wr64 (by omega) (by omega) (by omega))
                      refine st_run tbOk 1 hA (e' := (6, .int .i64 ((k + 1 : Nat) : Int)) :: _) rfl ?_; clear hA; intro a hA
                      refine wpList_nil ?_
                      replace hA := hA.sel [0, 3, 6, 42, 43, 44] (e' := [(0, .slice (some ⟨b11, o12, none⟩) l.length c), (3, .pointer (some ⟨b1, 0, none⟩)), (6, .int .i64 ((k + 1 : Nat) : Int)), (42, .slice (some ⟨b11, o12, none⟩) l.length c), (43, .int .i64 ((l.length : Nat) : Int)), (44, .int .i64 ((k : Nat) : Int))]) rfl
                      refine xb_norm ?_
                      refine xt_norm ?_
                      refine wp_region_lit ?_
                      refine st_run tbOk 1 hA (e' := (75, .int .i64 (IntKind.i64.wrap (((k : Nat) : Int) + 1))) :: _) rfl ?_; clear hA; intro a hA
                      replace hA := hA.rw 75 (v' := .int .i64 ((k + 1 : Nat) : Int)) rfl (wr64 (by omega) (by omega) (by omega))
                      refine st_run tbOk 1 hA (e' := (44, .int .i64 ((k + 1 : Nat) : Int)) :: _) rfl ?_; clear hA; intro a hA
                      refine wpList_nil ?_
                      replace hA := hA.sel [0, 3, 6, 42, 43, 44] (e' := [(0, .slice (some ⟨b11, o12, none⟩) l.length c), (3, .pointer (some ⟨b1, 0, none⟩)), (6, .int .i64 ((k + 1 : Nat) : Int)), (42, .slice (some ⟨b11, o12, none⟩) l.length c), (43, .int .i64 ((l.length : Nat) : Int)), (44, .int .i64 ((k + 1 : Nat) : Int))]) rfl
                      replace hS := hS.drop1
                      exact lp_next _ (by omega) ⟨(k + 1), (k + 1), rfl, (hA.sel [0, 3, 6, 42, 43, 44] rfl), hS, by omega⟩)
                 · first
                   | (exfalso; omega)
                   | (replace hA := hA.rw 72 (v' := .bool false) rfl (vb_false hc20)
                      refine cd_cond_f hA rfl ?_
                      refine wp_skip ?_
                      refine xb_norm ?_
                      refine xt_norm ?_
                      refine wp_region_lit ?_
                      refine st_run tbOk 1 hA (e' := (75, .int .i64 (IntKind.i64.wrap (((k : Nat) : Int) + 1))) :: _) rfl ?_; clear hA; intro a hA
                      replace hA := hA.rw 75 (v' := .int .i64 ((k + 1 : Nat) : Int)) rfl (wr64 (by omega) (by omega) (by omega))
                      refine st_run tbOk 1 hA (e' := (44, .int .i64 ((k + 1 : Nat) : Int)) :: _) rfl ?_; clear hA; intro a hA
                      refine wpList_nil ?_
                      replace hA := hA.sel [0, 3, 6, 42, 43, 44] (e' := [(0, .slice (some ⟨b11, o12, none⟩) l.length c), (3, .pointer (some ⟨b1, 0, none⟩)), (6, .int .i64 ((q : Nat) : Int)), (42, .slice (some ⟨b11, o12, none⟩) l.length c), (43, .int .i64 ((l.length : Nat) : Int)), (44, .int .i64 ((k + 1 : Nat) : Int))]) rfl
                      replace hS := hS.drop1
                      exact lp_next _ (by omega) ⟨(k + 1), q, rfl, (hA.sel [0, 3, 6, 42, 43, 44] rfl), hS, by omega⟩)))
       · first
         | (exfalso; omega)
         | (replace hA := hA.rw 56 (v' := .bool false) rfl (vb_false hc18)
            replace hA := hA.rw 57 (v' := .bool false) rfl (vb_false hc18)
            refine st_run tbOk 9 hA (e' := (66, .bool false) :: (65, undef) :: (64, undef) :: (63, undef) :: (62, undef) :: (61, undef) :: (60, undef) :: (59, undef) :: (58, undef) :: _) rfl ?_; clear hA; intro a hA
            refine wpList_nil ?_
            replace hA := hA.sel [0, 3, 6, 7, 8, 42, 43, 44, 66] (e' := [(0, .slice (some ⟨b11, o12, none⟩) l.length c), (3, .pointer (some ⟨b1, 0, none⟩)), (6, .int .i64 ((q : Nat) : Int)), (7, .int .i64 ((k : Nat) : Int)), (8, .pointer (some ⟨b15, 0, none⟩)), (42, .slice (some ⟨b11, o12, none⟩) l.length c), (43, .int .i64 ((l.length : Nat) : Int)), (44, .int .i64 ((k : Nat) : Int)), (66, .bool false)]) rfl
            refine xt_norm ?_
            refine cd_cond_f hA rfl ?_
            refine wp_skip ?_
            refine xt_norm ?_
            refine wp_seq ?_
            refine wp_region_lit ?_
            refine st_run tbOk 1 hA (e' := (68, .pointer (some ⟨b15, 0, none⟩)) :: _) rfl ?_; clear hA; intro a hA
            refine st_val hA rfl rfl (by decide) (rn_load tbOk hA rfl rfl rfl rfl (cell_row (hS.heapAt 0 rfl) rfl)) ?_; clear hA; intro a hA
            refine st_run tbOk 1 hA (e' := (70, .pointer (some ⟨b1, 0, none⟩)) :: _) rfl ?_; clear hA; intro a hA
            refine st_val hA rfl rfl (by decide) (rn_load tbOk hA rfl rfl rfl rfl (cell_row (hS.heapAt 1 rfl) rfl)) ?_; clear hA; intro a hA
            refine st_run tbOk 1 hA (e' := (72, .bool (decide (x13f0 < a0))) :: _) rfl ?_; clear hA; intro a hA
            refine wpList_nil ?_
            replace hA := hA.sel [0, 3, 6, 7, 42, 43, 44, 72] (e' := [(0, .slice (some ⟨b11, o12, none⟩) l.length c), (3, .pointer (some ⟨b1, 0, none⟩)), (6, .int .i64 ((q : Nat) : Int)), (7, .int .i64 ((k : Nat) : Int)), (42, .slice (some ⟨b11, o12, none⟩) l.length c), (43, .int .i64 ((l.length : Nat) : Int)), (44, .int .i64 ((k : Nat) : Int)), (72, .bool (decide (x13f0 < a0)))]) rfl
            refine xt_norm ?_
            by_cases hc21 : x13f0 < a0
            · first
              | (exfalso; omega)
              | (replace hA := hA.rw 72 (v' := .bool true) rfl (vb_true hc21)
                 refine cd_cond_t hA rfl ?_
                 refine wp_region_lit ?_
                 refine st_run tbOk 2 hA (e' := (74, .int .i64 (IntKind.i64.wrap (((k : Nat) : Int) + 1))) :: (73, .int .i64 ((k : Nat) : Int)) :: _) rfl ?_; clear hA; intro a hA
                 replace hA := hA.rw 74 (v' := .int .i64 ((k + 1 : Nat) : Int)) rfl (wr64 (by omega) (by omega) (by omega))
                 refine st_run tbOk 1 hA (e' := (6, .int .i64 ((k + 1 : Nat) : Int)) :: _) rfl ?_; clear hA; intro a hA
                 refine wpList_nil ?_
                 replace hA := hA.sel [0, 3, 6, 42, 43, 44] (e' := [(0, .slice (some ⟨b11, o12, none⟩) l.length c), (3, .pointer (some ⟨b1, 0, none⟩)), (6, .int .i64 ((k + 1 : Nat) : Int)), (42, .slice (some ⟨b11, o12, none⟩) l.length c), (43, .int .i64 ((l.length : Nat) : Int)), (44, .int .i64 ((k : Nat) : Int))]) rfl
                 refine xb_norm ?_
                 refine xt_norm ?_
                 refine wp_region_lit ?_
                 refine st_run tbOk 1 hA (e' := (75, .int .i64 (IntKind.i64.wrap (((k : Nat) : Int) + 1))) :: _) rfl ?_; clear hA; intro a hA
                 replace hA := hA.rw 75 (v' := .int .i64 ((k + 1 : Nat) : Int)) rfl (wr64 (by omega) (by omega) (by omega))
                 refine st_run tbOk 1 hA (e' := (44, .int .i64 ((k + 1 : Nat) : Int)) :: _) rfl ?_; clear hA; intro a hA
                 refine wpList_nil ?_
                 replace hA := hA.sel [0, 3, 6, 42, 43, 44] (e' := [(0, .slice (some ⟨b11, o12, none⟩) l.length c), (3, .pointer (some ⟨b1, 0, none⟩)), (6, .int .i64 ((k + 1 : Nat) : Int)), (42, .slice (some ⟨b11, o12, none⟩) l.length c), (43, .int .i64 ((l.length : Nat) : Int)), (44, .int .i64 ((k + 1 : Nat) : Int))]) rfl
                 replace hS := hS.drop1
                 exact lp_next _ (by omega) ⟨(k + 1), (k + 1), rfl, (hA.sel [0, 3, 6, 42, 43, 44] rfl), hS, by omega⟩)
            · first
              | (exfalso; omega)
              | (replace hA := hA.rw 72 (v' := .bool false) rfl (vb_false hc21)
                 refine cd_cond_f hA rfl ?_
                 refine wp_skip ?_
                 refine xb_norm ?_
                 refine xt_norm ?_
                 refine wp_region_lit ?_
                 refine st_run tbOk 1 hA (e' := (75, .int .i64 (IntKind.i64.wrap (((k : Nat) : Int) + 1))) :: _) rfl ?_; clear hA; intro a hA
                 replace hA := hA.rw 75 (v' := .int .i64 ((k + 1 : Nat) : Int)) rfl (wr64 (by omega) (by omega) (by omega))
                 refine st_run tbOk 1 hA (e' := (44, .int .i64 ((k + 1 : Nat) : Int)) :: _) rfl ?_; clear hA; intro a hA
                 refine wpList_nil ?_
                 replace hA := hA.sel [0, 3, 6, 42, 43, 44] (e' := [(0, .slice (some ⟨b11, o12, none⟩) l.length c), (3, .pointer (some ⟨b1, 0, none⟩)), (6, .int .i64 ((q : Nat) : Int)), (42, .slice (some ⟨b11, o12, none⟩) l.length c), (43, .int .i64 ((l.length : Nat) : Int)), (44, .int .i64 ((k + 1 : Nat) : Int))]) rfl
                 replace hS := hS.drop1
                 exact lp_next _ (by omega) ⟨(k + 1), q, rfl, (hA.sel [0, 3, 6, 42, 43, 44] rfl), hS, by omega⟩)))
  · first
    | (exfalso; omega)
    | (replace hA := hA.rw 45 (v' := .bool false) rfl (vb_false hc10)
       refine cd_cond_f hA rfl ?_
       refine wp_exit ?_
       refine xt_exit ?_
       refine xt_exit ?_
       refine cd_exit_eq ?_
       refine xt_norm ?_
       refine wp_seq ?_
       refine wp_seq ?_
       refine wp_region_lit ?_
       refine st_run tbOk 3 hA (e' := (78, .bool (decide (((l.length : Nat) : Int) ≥ 64))) :: (77, .int .i64 ((l.length : Nat) : Int)) :: (76, .slice A l.length c) :: _) rfl ?_; clear hA; intro a hA
       refine wpList_nil ?_
       replace hA := hA.sel [0, 3, 6, 78] (e' := [(0, .slice A l.length c), (3, .pointer (some ⟨b1, 0, none⟩)), (6, .int .i64 ((q : Nat) : Int)), (78, .bool (decide (((l.length : Nat) : Int) ≥ 64)))]) rfl
       refine xt_norm ?_
       have hc22 : ¬ (((l.length : Nat) : Int) ≥ 64) := by omega
       replace hA := hA.rw 78 (v' := .bool false) rfl (vb_false hc22)
       refine cd_cond_f hA rfl ?_
       refine wp_skip ?_
       refine xt_norm ?_
       refine wp_seq ?_
       refine wp_drawN (fun w' => St w0 w' ([(b1, rowO [.int .i64 a0, .int .i64 a1, .int .i64 a2, .int .i64 a3, .bool a4] 24)] :: F)) [] [(0, true), (2, true), (3, true)] 1 (.L [(4, false), (5, false), (6, true), (7, true)]) 4 (.L [(1, false), (5, false), (6, true), (7, true)]) mixed (by kernel_rfl) (by rintro c a w ⟨_, _, h, _⟩; cases h) (by rfl) (by kernel_rfl) ?_
       replace hS := hS.drew
       refine dr_run tbOk 2 hA hS (e' := (82, .int .i64 ((q : Nat) : Int)) :: (80, .slice A l.length c) :: _) rfl ?_; clear hA; intro a hA
       refine dr_y hA rfl rfl rfl (by decide) hS (fun w' hS' => rn_loadA tbOk hA [.int .i64 a0, .int .i64 a1, .int .i64 a2, .int .i64 a3, .bool a4] rfl rfl rfl rfl rfl (cells_row (hS'.heapAt 0 rfl) rfl)) ?_; clear hA; intro a hA
       refine dr_fork ?_ ?_
       · refine dr_b (o := _) rfl ?_
         refine st_call0 hA rfl rfl rfl isfn19 rfl rfl (by decide) (clone19 hS (l := l) (fun w' h => (hr _ (h.tail 1 rfl))) (by omega)) ?_
         clear hA hS; rintro v23 w24 a ⟨C25, hO25, hS⟩ hA
         obtain ⟨A26, c27, rfl, hmc27, hxc27⟩ := hO25.open'
         refine dr_nil (.inr (hS.tail 1 rfl)) ?_
         refine dr_subL ?_
         refine dr_b (o := _) rfl ?_
         refine st_buildSlice tbOk hA hS [.int .i64 a0, .int .i64 a1, .int .i64 a2, .int .i64 a3, .bool a4] rfl rfl rfl rfl rfl (by decide) (by kernel_rfl) rfl rfl (by decide) ?_; clear hA hS; intro b28 w29 a hS hA
         refine dr_nil (.inr (hS.tail 2 rfl)) ?_
         refine dr_b (o := _) rfl ?_
         replace hS := hS.front 1 (C := C25) (L' := [(b28, rowO [.int .i64 a0, .int .i64 a1, .int .i64 a2, .int .i64 a3, .bool a4] 24)] :: [(b1, rowO [.int .i64 a0, .int .i64 a1, .int .i64 a2, .int .i64 a3, .bool a4] 24)] :: F) rfl rfl
         refine st_call0 hA rfl rfl rfl isfn18 rfl rfl (by decide) (insert18 (x := (a0, a1, a2, a3, a4)) hS hO25 i (by omega) (by omega)) ?_
         clear hA hS; rintro v30 w31 a ⟨C32, hO32, hS⟩ hA
         obtain ⟨A33, c34, rfl, hmc34, hxc34⟩ := hO32.open'
         refine dr_nil (.inr (hS.tail 1 rfl)) ?_
         refine dr_run tbOk 2 hA (hS.tail 1 rfl) (e' := (5, .nilIface) :: (4, .slice A33 ((l.take i ++ ((a0, a1, a2, a3, a4) :: l.drop i)).length) c34) :: _) rfl ?_; clear hA; intro a hA
         refine dr_end ?_
         replace hA := hA.sel [4, 5] (e' := [(4, .slice A33 ((l.take i ++ ((a0, a1, a2, a3, a4) :: l.drop i)).length) c34), (5, .nilIface)]) rfl
         refine xt_norm ?_
         refine wp_ret ?_
         refine ret2 (fn := Tryd.f12) hA rfl rfl rfl ?_
         replace hS := hS.drop1
         replace hS := hS.drop1
         exact ⟨rfl, hS⟩
       · refine dr_b (o := _) rfl ?_
         refine st_buildSlice tbOk hA hS [.int .i64 a0, .int .i64 a1, .int .i64 a2, .int .i64 a3, .bool a4] rfl rfl rfl rfl rfl (by decide) (by kernel_rfl) rfl rfl (by decide) ?_; clear hA hS; intro b35 w36 a hS hA
         refine dr_nil (.inr (hS.tail 1 rfl)) ?_
         refine dr_subL ?_
         refine dr_b (o := _) rfl ?_
         refine st_call0 hA rfl rfl rfl isfn19 rfl rfl (by decide) (clone19 hS (l := l) (fun w' h => (hr _ (h.tail 2 rfl))) (by omega)) ?_
         clear hA hS; rintro v37 w38 a ⟨C39, hO39, hS⟩ hA
         obtain ⟨A40, c41, rfl, hmc41, hxc41⟩ := hO39.open'
         refine dr_nil (.inr (hS.tail 2 rfl)) ?_
         refine dr_b (o := _) rfl ?_
         replace hS := hS.front 1 (C := [(b35, rowO [.int .i64 a0, .int .i64 a1, .int .i64 a2, .int .i64 a3, .bool a4] 24)]) (L' := C39 :: [(b1, rowO [.int .i64 a0, .int .i64 a1, .int .i64 a2, .int .i64 a3, .bool a4] 24)] :: F) rfl rfl
         replace hS := hS.front 1 (C := C39) (L' := [(b35, rowO [.int .i64 a0, .int .i64 a1, .int .i64 a2, .int .i64 a3, .bool a4] 24)] :: [(b1, rowO [.int .i64 a0, .int .i64 a1, .int .i64 a2, .int .i64 a3, .bool a4] 24)] :: F) rfl rfl
         refine st_call0 hA rfl rfl rfl isfn18 rfl rfl (by decide) (insert18 (x := (a0, a1, a2, a3, a4)) hS hO39 i (by omega) (by omega)) ?_
         clear hA hS; rintro v42 w43 a ⟨C44, hO44, hS⟩ hA
         obtain ⟨A45, c46, rfl, hmc46, hxc46⟩ := hO44.open'
         refine dr_nil (.inr (hS.tail 1 rfl)) ?_
         refine dr_run tbOk 2 hA (hS.tail 1 rfl) (e' := (5, .nilIface) :: (4, .slice A45 ((l.take i ++ ((a0, a1, a2, a3, a4) :: l.drop i)).length) c46) :: _) rfl ?_; clear hA; intro a hA
         refine dr_end ?_
         replace hA := hA.sel [4, 5] (e' := [(4, .slice A45 ((l.take i ++ ((a0, a1, a2, a3, a4) :: l.drop i)).length) c46), (5, .nilIface)]) rfl
         refine xt_norm ?_
         refine wp_ret ?_
         refine ret2 (fn := Tryd.f12) hA rfl rfl rfl ?_
         replace hS := hS.drop1
         replace hS := hS.drop1
         exact ⟨rfl, hS⟩)

theorem add_full12 {w0 w : World} {F : List Chunk} (hS : St w0 w F) {v : Value} {l : List Area} (hr : RdS w0 F 5 v l.length (rows encArea l)) (x : Area) (hv : Val x) (h2 : 0 ≤ ao x ∧ 0 ≤ ag x) (hs : ∀ y ∈ l, SOk y) (hn : ∀ y ∈ l, ¬ Ovl x y) (hl : 64 ≤ l.length) :
    Ret Tryd.prog 12 #[v, .agg #[.int .i64 x.1, .int .i64 x.2.1, .int .i64 x.2.2.1, .int .i64 x.2.2.2.1, .bool x.2.2.2.2]] w (fun v w' => v = .tuple #[.slice none 0 0, .iface 30 (.int .i64 5)] ∧ St w0 w' F) := by
  obtain ⟨A, c, rfl, hmc, hcx⟩ := (hr w hS).open'
  obtain ⟨a0, a1, a2, a3, a4⟩ := x
  dsimp only [Val, ab, az, ag, ao] at hv h2
  refine enter (vs := [.slice A l.length c, .agg #[.int .i64 a0, .int .i64 a1, .int .i64 a2, .int .i64 a3, .bool a4]]) 86 Tryd.func12 rfl rfl (by simp) ?_; intro a hA
  refine wp_seq ?_
  refine wp_region_lit ?_
  refine st_box hA hS [.int .i64 a0, .int .i64 a1, .int .i64 a2, .int .i64 a3, .bool a4] rfl rfl rfl rfl rfl (by decide) ?_; clear hA hS; intro b1 w2 a hS hA
  refine st_run tbOk 2 hA (e' := (5, .nilIface) :: (4, .slice none 0 0) :: _) rfl ?_; clear hA; intro a hA
  refine wpList_nil ?_
  replace hA := hA.sel [0, 3] (e' := [(0, .slice A l.length c), (3, .pointer (some ⟨b1, 0, none⟩))]) rfl
  refine xt_norm ?_
  refine wp_seq ?_
  refine wp_block ?_
  refine wp_seq ?_
  refine wp_region_lit ?_
  refine st_run tbOk 1 hA (e' := (10, .pointer (some ⟨b1, 1, none⟩)) :: _) rfl ?_; clear hA; intro a hA
  refine st_val hA rfl rfl (by decide) (rn_load tbOk hA rfl rfl rfl rfl (cell_row (hS.heapAt 0 rfl) rfl)) ?_; clear hA; intro a hA
  refine st_run tbOk 2 hA (e' := (13, .bool (decide (a1 < 1))) :: (12, .bool (decide (a1 < 1))) :: _) rfl ?_; clear hA; intro a hA
  have hc3 : ¬ (a1 < 1) := by omega
  replace hA := hA.rw 12 (v' := .bool false) rfl (vb_false hc3)
  replace hA := hA.rw 13 (v' := .bool false) rfl (vb_false hc3)
  refine st_run tbOk 1 hA (e' := (14, .pointer (some ⟨b1, 0, none⟩)) :: _) rfl ?_; clear hA; intro a hA
  refine st_val hA rfl rfl (by decide) (rn_load tbOk hA rfl rfl rfl rfl (cell_row (hS.heapAt 0 rfl) rfl)) ?_; clear hA; intro a hA
  refine st_run tbOk 3 hA (e' := (18, .bool (decide (a0 < 0))) :: (17, .bool (decide (a0 < 0))) :: (16, .bool (decide (a0 < 0))) :: _) rfl ?_; clear hA; intro a hA
  have hc4 : ¬ (a0 < 0) := by omega
  replace hA := hA.rw 16 (v' := .bool false) rfl (vb_false hc4)
  replace hA := hA.rw 17 (v' := .bool false) rfl (vb_false hc4)
  replace hA := hA.rw 18 (v' := .bool false) rfl (vb_false hc4)
  refine st_run tbOk 1 hA (e' := (19, .pointer (some ⟨b1, 0, none⟩)) :: _) rfl ?_; clear hA; intro a hA
  refine st_val hA rfl rfl (by decide) (rn_load tbOk hA rfl rfl rfl rfl (cell_row (hS.heapAt 0 rfl) rfl)) ?_; clear hA; intro a hA
  refine st_run tbOk 3 hA (e' := (23, .bool (decide (a0 > 1073741824))) :: (22, .bool (decide (a0 > 1073741824))) :: (21, .bool (decide (a0 > 1073741824))) :: _) rfl ?_; clear hA; intro a hA
  have hc5 : ¬ (a0 > 1073741824) := by omega
  replace hA := hA.rw 21 (v' := .bool false) rfl (vb_false hc5)
  replace hA := hA.rw 22 (v' := .bool false) rfl (vb_false hc5)
  replace hA := hA.rw 23 (v' := .bool false) rfl (vb_false hc5)
  refine st_run tbOk 1 hA (e' := (24, .pointer (some ⟨b1, 1, none⟩)) :: _) rfl ?_; clear hA; intro a hA
  refine st_val hA rfl rfl (by decide) (rn_load tbOk hA rfl rfl rfl rfl (cell_row (hS.heapAt 0 rfl) rfl)) ?_; clear hA; intro a hA
  refine st_run tbOk 1 hA (e' := (26, .pointer (some ⟨b1, 0, none⟩)) :: _) rfl ?_; clear hA; intro a hA
  refine st_val hA rfl rfl (by decide) (rn_load tbOk hA rfl rfl rfl rfl (cell_row (hS.heapAt 0 rfl) rfl)) ?_; clear hA; intro a hA
  refine st_run tbOk 1 hA (e' := (28, .int .i64 (IntKind.i64.wrap (1073741824 - a0))) :: _) rfl ?_; clear hA; intro a hA
  replace hA := hA.rw 28 (v' := .int .i64 (1073741824 - a0)) rfl (wr64 (by omega) (by omega) (by omega))
  refine st_run tbOk 3 hA (e' := (9, .bool (decide (a1 > 1073741824 - a0))) :: (30, .bool (decide (a1 > 1073741824 - a0))) :: (29, .bool (decide (a1 > 1073741824 - a0))) :: _) rfl ?_; clear hA; intro a hA
  refine wpList_nil ?_
  replace hA := hA.sel [0, 3, 9] (e' := [(0, .slice A l.length c), (3, .pointer (some ⟨b1, 0, none⟩)), (9, .bool (decide (a1 > 1073741824 - a0)))]) rfl
  refine xt_norm ?_
  have hc6 : ¬ (a1 > 1073741824 - a0) := by omega
  replace hA := hA.rw 9 (v' := .bool false) rfl (vb_false hc6)
  refine cd_cond_f hA rfl ?_
  refine wp_seq ?_
  refine wp_region_lit ?_
  refine st_run tbOk 1 hA (e' := (33, .pointer (some ⟨b1, 3, none⟩)) :: _) rfl ?_; clear hA; intro a hA
  refine st_val hA rfl rfl (by decide) (rn_load tbOk hA rfl rfl rfl rfl (cell_row (hS.heapAt 0 rfl) rfl)) ?_; clear hA; intro a hA
  refine st_run tbOk 2 hA (e' := (36, .bool (decide (a3 < 0))) :: (35, .bool (decide (a3 < 0))) :: _) rfl ?_; clear hA; intro a hA
  have hc7 : ¬ (a3 < 0) := by omega
  replace hA := hA.rw 35 (v' := .bool false) rfl (vb_false hc7)
  replace hA := hA.rw 36 (v' := .bool false) rfl (vb_false hc7)
  refine st_run tbOk 1 hA (e' := (37, .pointer (some ⟨b1, 2, none⟩)) :: _) rfl ?_; clear hA; intro a hA
  refine st_val hA rfl rfl (by decide) (rn_load tbOk hA rfl rfl rfl rfl (cell_row (hS.heapAt 0 rfl) rfl)) ?_; clear hA; intro a hA
  refine st_run tbOk 3 hA (e' := (32, .bool (decide (a2 < 0))) :: (40, .bool (decide (a2 < 0))) :: (39, .bool (decide (a2 < 0))) :: _) rfl ?_; clear hA; intro a hA
  refine wpList_nil ?_
  replace hA := hA.sel [0, 3, 32] (e' := [(0, .slice A l.length c), (3, .pointer (some ⟨b1, 0, none⟩)), (32, .bool (decide (a2 < 0)))]) rfl
  refine xt_norm ?_
  have hc8 : ¬ (a2 < 0) := by omega
  replace hA := hA.rw 32 (v' := .bool false) rfl (vb_false hc8)
  refine cd_cond_f hA rfl ?_
  refine wp_skip ?_
  refine xb_norm ?_
  refine xt_norm ?_
  refine wp_seq ?_
  refine wp_region_lit ?_
  refine st_run tbOk 1 hA (e' := (6, .int .i64 0) :: _) rfl ?_; clear hA; intro a hA
  refine wpList_nil ?_
  replace hA := hA.sel [0, 3, 6] (e' := [(0, .slice A l.length c), (3, .pointer (some ⟨b1, 0, none⟩)), (6, .int .i64 0)]) rfl
  refine xt_norm ?_
  refine wp_seq ?_
  refine wp_seq ?_
  refine wp_region_lit ?_
  refine st_run tbOk 3 hA (e' := (44, .int .i64 0) :: (43, .int .i64 ((l.length : Nat) : Int)) :: (42, .slice A l.length c) :: _) rfl ?_; clear hA; intro a hA
  refine wpList_nil ?_
  refine xt_norm ?_
  refine wp_block ?_
  refine wp_loop_ghost (fun m a w => ∃ (k : Nat) (q : Nat), m = l.length - k ∧ Has a 86 [(0, .slice A l.length c), (3, .pointer (some ⟨b1, 0, none⟩)), (6, .int .i64 ((q : Nat) : Int)), (42, .slice A l.length c), (43, .int .i64 ((l.length : Nat) : Int)), (44, .int .i64 ((k : Nat) : Int))] ∧ St w0 w ([(b1, rowO [.int .i64 a0, .int .i64 a1, .int .i64 a2, .int .i64 a3, .bool a4] 24)] :: F) ∧ (k ≤ l.length)) (l.length - 0)
    ⟨0, 0, rfl, (hA.sel [0, 3, 6, 42, 43, 44] rfl), hS, Nat.zero_le _⟩ ?_
  clear hA hS; rintro m0 a w9 ⟨k, q, rfl, hA, hS, hk⟩
  refine wp_seq ?_
  refine wp_region_lit ?_
  refine st_run tbOk 1 hA (e' := (45, .bool (decide (((k : Nat) : Int) < ((l.length : Nat) : Int)))) :: _) rfl ?_; clear hA; intro a hA
  refine wpList_nil ?_
  refine xt_norm ?_
  refine wp_seq ?_
  by_cases hc10 : ((k : Nat) : Int) < ((l.length : Nat) : Int)
  · first
    | (exfalso; omega)
    | (replace hA := hA.rw 45 (v' := .bool true) rfl (vb_true hc10)
       refine cd_cond_t hA rfl ?_
       refine wp_skip ?_
       refine xt_norm ?_
       refine wp_seq ?_
       refine wp_block ?_
       refine wp_seq ?_
       refine wp_region_lit ?_
       refine st_run tbOk 1 hA (e' := (46, .int .i64 ((k : Nat) : Int)) :: _) rfl ?_; clear hA; intro a hA
       obtain ⟨b11, o12, rfl⟩ := (hr _ (hS.tail 1 rfl)).isSome (k := k) (by omega)
       refine st_val hA rfl rfl (by decide) (rn_indexAddr tbOk hA k (o12 + (k * 5)) rfl rfl rfl rfl rfl rfl (by rfl) (by omega) (by first | rfl | simp [Nat.mul_one, Nat.zero_add] | omega)) ?_; clear hA; intro a hA
       obtain ⟨x13, hx13⟩ := get_ex (l := l) (k := k) (by omega)
       obtain ⟨x13f0, x13f1, x13f2, x13f3, x13f4⟩ := x13
       have hk14 := hs _ (List.mem_of_getElem? hx13); dsimp only [SOk, ab, az, ag, ao] at hk14
       refine st_val hA rfl rfl (by decide) (rn_loadA tbOk hA ([.int .i64 x13f0, .int .i64 x13f1, .int .i64 x13f2, .int .i64 x13f3, .bool x13f4]) rfl rfl rfl rfl (by rfl) ((hr _ (hS.tail 1 rfl)).elem (k := k) encArea_ok hx13)) ?_; clear hA; intro a hA
       refine st_alloc tbOk hA hS [.int .i64 0, .int .i64 0, .int .i64 0, .int .i64 0, .bool false] rfl rfl rfl rfl rfl (by decide) ?_; clear hA hS; intro b15 w16 a hS hA
       refine st_run tbOk 1 hA (e' := (7, .int .i64 ((k : Nat) : Int)) :: _) rfl ?_; clear hA; intro a hA
       refine st_store tbOk hA hS [.int .i64 x13f0, .int .i64 x13f1, .int .i64 x13f2, .int .i64 x13f3, .bool x13f4] [.int .i64 x13f0, .int .i64 x13f1, .int .i64 x13f2, .int .i64 x13f3, .bool x13f4] rfl rfl rfl rfl rfl rfl (by simp [Value.oneCell']) (Nat.le_of_ble_eq_true rfl) rfl rfl rfl ?_; clear hS; intro w17 hS
       refine wpList_nil ?_
       replace hA := hA.sel [0, 3, 6, 7, 8, 42, 43, 44] (e' := [(0, .slice (some ⟨b11, o12, none⟩) l.length c), (3, .pointer (some ⟨b1, 0, none⟩)), (6, .int .i64 ((q : Nat) : Int)), (7, .int .i64 ((k : Nat) : Int)), (8, .pointer (some ⟨b15, 0, none⟩)), (42, .slice (some ⟨b11, o12, none⟩) l.length c), (43, .int .i64 ((l.length : Nat) : Int)), (44, .int .i64 ((k : Nat) : Int))]) rfl
       refine xt_norm ?_
       refine wp_seq ?_
       refine wp_seq ?_
       refine wp_region_lit ?_
       have hno := hn _ (List.mem_of_getElem? hx13); dsimp only [Ovl, ab, az] at hno
       refine st_run tbOk 1 hA (e' := (49, .pointer (some ⟨b1, 0, none⟩)) :: _) rfl ?_; clear hA; intro a hA
       refine st_val hA rfl rfl (by decide) (rn_load tbOk hA rfl rfl rfl rfl (cell_row (hS.heapAt 1 rfl) rfl)) ?_; clear hA; intro a hA
       refine st_run tbOk 1 hA (e' := (51, .pointer (some ⟨b15, 0, none⟩)) :: _) rfl ?_; clear hA; intro a hA
       refine st_val hA rfl rfl (by decide) (rn_load tbOk hA rfl rfl rfl rfl (cell_row (hS.heapAt 0 rfl) rfl)) ?_; clear hA; intro a hA
       refine st_run tbOk 1 hA (e' := (53, .pointer (some ⟨b15, 1, none⟩)) :: _) rfl ?_; clear hA; intro a hA
       refine st_val hA rfl rfl (by decide) (rn_load tbOk hA rfl rfl rfl rfl (cell_row (hS.heapAt 0 rfl) rfl)) ?_; clear hA; intro a hA
       refine st_run tbOk 1 hA (e' := (55, .int .i64 (IntKind.i64.wrap (x13f0 + x13f1))) :: _) rfl ?_; clear hA; intro a hA
       replace hA := hA.rw 55 (v' := .int .i64 (x13f0 + x13f1)) rfl (wr64 (by omega) (by omega) (by omega))
       refine st_run tbOk 2 hA (e' := (57, .bool (decide (a0 < x13f0 + x13f1))) :: (56, .bool (decide (a0 < x13f0 + x13f1))) :: _) rfl ?_; clear hA; intro a hA
       by_cases hc18 : a0 < x13f0 + x13f1
       · first
         | (exfalso; omega)
         | (replace hA := hA.rw 56 (v' := .bool true) rfl (vb_true hc18)
            replace hA := hA.rw 57 (v' := .bool true) rfl (vb_true hc18)
            refine st_run tbOk 1 hA (e' := (58, .pointer (some ⟨b15, 0, none⟩)) :: _) rfl ?_; clear hA; intro a hA
            refine st_val hA rfl rfl (by decide) (rn_load tbOk hA rfl rfl rfl rfl (cell_row (hS.heapAt 0 rfl) rfl)) ?_; clear hA; intro a hA
            refine st_run tbOk 1 hA (e' := (60, .pointer (some ⟨b1, 0, none⟩)) :: _) rfl ?_; clear hA; intro a hA
            refine st_val hA rfl rfl (by decide) (rn_load tbOk hA rfl rfl rfl rfl (cell_row (hS.heapAt 1 rfl) rfl)) ?_; clear hA; intro a hA
            refine st_run tbOk 1 hA (e' := (62, .pointer (some ⟨b1, 1, none⟩)) :: _) rfl ?_; clear hA; intro a hA
            refine st_val hA rfl rfl (by decide) (rn_load tbOk hA rfl rfl rfl rfl (cell_row (hS.heapAt 1 rfl) rfl)) ?_; clear hA; intro a hA
            refine st_run tbOk 1 hA (e' := (64, .int .i64 (IntKind.i64.wrap (a0 + a1))) :: _) rfl ?_; clear hA; intro a hA
            replace hA := hA.rw 64 (v' := .int .i64 (a0 + a1)) rfl (wr64 (by omega) (by omega) (by omega))
            refine st_run tbOk 2 hA (e' := (66, .bool (decide (x13f0 < a0 + a1))) :: (65, .bool (decide (x13f0 < a0 + a1))) :: _) rfl ?_; clear hA; intro a hA
            refine wpList_nil ?_
            replace hA := hA.sel [0, 3, 6, 7, 8, 42, 43, 44, 66] (e' := [(0, .slice (some ⟨b11, o12, none⟩) l.length c), (3, .pointer (some ⟨b1, 0, none⟩)), (6, .int .i64 ((q : Nat) : Int)), (7, .int .i64 ((k : Nat) : Int)), (8, .pointer (some ⟨b15, 0, none⟩)), (42, .slice (some ⟨b11, o12, none⟩) l.length c), (43, .int .i64 ((l.length : Nat) : Int)), (44, .int .i64 ((k : Nat) : Int)), (66, .bool (decide (x13f0 < a0 + a1)))]) rfl
            refine xt_norm ?_
            by_cases hc19 : x13f0 < a0 + a1
            · first
              | (exfalso; omega)
              | (replace hA := hA.rw 66 (v' := .bool true) rfl (vb_true hc19)
                 refine cd_cond_t hA rfl ?_
                 refine wp_seq ?_
                 refine wp_region_lit ?_
                 refine st_run tbOk 3 hA (e' := (5, .iface 30 (.int .i64 14)) :: (4, .slice none 0 0) :: (67, .iface 30 (.int .i64 14)) :: _) rfl ?_; clear hA; intro a hA
                 refine wpList_nil ?_
                 replace hA := hA.sel [4, 5] (e' := [(4, .slice none 0 0), (5, .iface 30 (.int .i64 14))]) rfl
                 refine xt_norm ?_
                 refine wp_ret (xt_ret (xb_ret (xt_ret (xt_ret (xb_ret (xt_ret ?_))))))
                 refine ret2 (fn := Tryd.f12) hA rfl rfl rfl ?_
                 replace hS := hS.drop1
                 replace hS := hS.drop1
                 exact ⟨rfl, hS⟩)
            · first
              | (exfalso; omega)
              | (replace hA := hA.rw 66 (v' := .bool false) rfl (vb_false hc19)
                 refine cd_cond_f hA rfl ?_
                 refine wp_skip ?_
                 refine xt_norm ?_
                 refine wp_seq ?_
                 refine wp_region_lit ?_
                 refine st_run tbOk 1 hA (e' := (68, .pointer (some ⟨b15, 0, none⟩)) :: _) rfl ?_; clear hA; intro a hA
                 refine st_val hA rfl rfl (by decide) (rn_load tbOk hA rfl rfl rfl rfl (cell_row (hS.heapAt 0 rfl) rfl)) ?_; clear hA; intro a hA
                 refine st_run tbOk 1 hA (e' := (70, .pointer (some ⟨b1, 0, none⟩)) :: _) rfl ?_; clear hA; intro a hA
                 refine st_val hA rfl rfl (by decide) (rn_load tbOk hA rfl rfl rfl rfl (cell_row (hS.heapAt 1 rfl) rfl)) ?_; clear hA; intro a hA
                 refine st_run tbOk 1 hA (e' := (72, .bool (decide (x13f0 < a0))) :: _) rfl ?_; clear hA; intro a hA
                 refine wpList_nil ?_
                 replace hA := hA.sel [0, 3, 6, 7, 42, 43, 44, 72] (e' := [(0, .slice (some ⟨b11, o12, none⟩) l.length c), (3, .pointer (some ⟨b1, 0, none⟩)), (6, .int .i64 ((q : Nat) : Int)), (7, .int .i64 ((k : Nat) : Int)), (42, .slice (some ⟨b11, o12, none⟩) l.length c), (43, .int .i64 ((l.length : Nat) : Int)), (44, .int .i64 ((k : Nat) : Int)), (72, .bool (decide (x13f0 < a0)))]) rfl
                 refine xt_norm ?_
                 by_cases hc20 : x13f0 < a0
                 · first
                   | (exfalso; omega)
                   | (replace hA := hA.rw 72 (v' := .bool true) rfl (vb_true hc20)
                      refine cd_cond_t hA rfl ?_
                      refine wp_region_lit ?_
                      refine st_run tbOk 2 hA (e' := (74, .int .i64 (IntKind.i64.wrap (((k : Nat) : Int) + 1))) :: (73, .int .i64 ((k : Nat) : Int)) :: _) rfl ?_; clear hA; intro a hA
                      replace hA := hA.rw 74 (v' := .int .i64 ((k + 1 : Nat) : Int)) rfl (wr64 (by omega) (by omega) (by omega))
                      refine st_run tbOk 1 hA (e' := (6, .int .i64 ((k + 1 : Nat) : Int)) :: _) rfl ?_; clear hA; intro a hA
                      refine wpList_nil ?_
                      replace hA := hA.sel [0, 3, 6, 42, 43, 44] (e' := [(0, .slice (some ⟨b11, o12, none⟩) l.length c), (3, .pointer (some ⟨b1, 0, none⟩)), (6, .int .i64 ((k + 1 : Nat) : Int)), (42, .slice (some ⟨b11, o12, none⟩) l.length c), (43, .int .i64 ((l.length : Nat) : Int)), (44, .int .i64 ((k : Nat) : Int))]) rfl
                      refine xb_norm ?_
                      refine xt_norm ?_
                      refine wp_region_lit ?_
                      refine st_run tbOk 1 hA (e' := (75, .int .i64 (IntKind.i64.wrap (((k : Nat) : Int) + 1))) :: _) rfl ?_; clear hA; intro a hA
                      replace hA := hA.rw 75 (v' := .int .i64 ((k + 1 : Nat) : Int)) rfl (wr64 (by omega) (by omega) (by omega))
                      refine st_run tbOk 1 hA (e' := (44, .int .i64 ((k + 1 : Nat) : Int)) :: _) rfl ?_; clear hA; intro a hA
                      refine wpList_nil ?_
                      replace hA := hA.sel [0, 3, 6, 42, 43, 44] (e' := [(0, .slice (some ⟨b11, o12, none⟩) l.length c), (3, .pointer (some ⟨b1, 0, none⟩)), (6, .int .i64 ((k + 1 : Nat) : Int)), (42, .slice (some ⟨b11, o12, none⟩) l.length c), (43, .int .i64 ((l.length : Nat) : Int)), (44, .int .i64 ((k + 1 : Nat) : Int))]) rfl
                      replace hS := hS.drop1
                      exact lp_next _ (by omega) ⟨(k + 1), (k + 1), rfl, (hA.sel [0, 3, 6, 42, 43, 44] rfl), hS, by omega⟩)
                 · first
                   | (exfalso; omega)
                   | (replace hA := hA.rw 72 (v' := .bool false) rfl (vb_false hc20)
                      refine cd_cond_f hA rfl ?_
                      refine wp_skip ?_
                      refine xb_norm ?_
                      refine xt_norm ?_
                      refine wp_region_lit ?_
                      refine st_run tbOk 1 hA (e' := (75, .int .i64 (IntKind.i64.wrap (((k : Nat) : Int) + 1))) :: _) rfl ?_; clear hA; intro a hA
                      replace hA := hA.rw 75 (v' := .int .i64 ((k + 1 : Nat) : Int)) rfl (wr64 (by omega) (by omega) (by omega))
                      refine st_run tbOk 1 hA (e' := (44, .int .i64 ((k + 1 : Nat) : Int)) :: _) rfl ?_; clear hA; intro a hA
                      refine wpList_nil ?_
                      replace hA := hA.sel [0, 3, 6, 42, 43, 44] (e' := [(0, .slice (some ⟨b11, o12, none⟩) l.length c), (3, .pointer (some ⟨b1, 0, none⟩)), (6, .int .i64 ((q : Nat) : Int)), (42, .slice (some ⟨b11, o12, none⟩) l.length c), (43, .int .i64 ((l.length : Nat) : Int)), (44, .int .i64 ((k + 1 : Nat) : Int))]) rfl
                      replace hS := hS.drop1
                      exact lp_next _ (by omega) ⟨(k + 1), q, rfl, (hA.sel [0, 3, 6, 42, 43, 44] rfl), hS, by omega⟩)))
       · first
         | (exfalso; omega)
         | (replace hA := hA.rw 56 (v' := .bool false) rfl (vb_false hc18)
            replace hA := hA.rw 57 (v' := .bool false) rfl (vb_false hc18)
            refine st_run tbOk 9 hA (e' := (66, .bool false) :: (65, undef) :: (64, undef) :: (63, undef) :: (62, undef) :: (61, undef) :: (60, undef) :: (59, undef) :: (58, undef) :: _) rfl ?_; clear hA; intro a hA
            refine wpList_nil ?_
            replace hA := hA.sel [0, 3, 6, 7, 8, 42, 43, 44, 66] (e' := [(0, .slice (some ⟨b11, o12, none⟩) l.length c), (3, .pointer (some ⟨b1, 0, none⟩)), (6, .int .i64 ((q : Nat) : Int)), (7, .int .i64 ((k : Nat) : Int)), (8, .pointer (some ⟨b15, 0, none⟩)), (42, .slice (some ⟨b11, o12, none⟩) l.length c), (43, .int .i64 ((l.length : Nat) : Int)), (44, .int .i64 ((k : Nat) : Int)), (66, .bool false)]) rfl
            refine xt_norm ?_
            refine cd_cond_f hA rfl ?_
            refine wp_skip ?_
            refine xt_norm ?_
            refine wp_seq ?_
            refine wp_region_lit ?_
            refine st_run tbOk 1 hA (e' := (68, .pointer (some ⟨b15, 0, none⟩)) :: _) rfl ?_; clear hA; intro a hA
            refine st_val hA rfl rfl (by decide) (rn_load tbOk hA rfl rfl rfl rfl (cell_row (hS.heapAt 0 rfl) rfl)) ?_; clear hA; intro a hA
            refine st_run tbOk 1 hA (e' := (70, .pointer (some ⟨b1, 0, none⟩)) :: _) rfl ?_; clear hA; intro a hA
            refine st_val hA rfl rfl (by decide) (rn_load tbOk hA rfl rfl rfl rfl (cell_row (hS.heapAt 1 rfl) rfl)) ?_; clear hA; intro a hA
            refine st_run tbOk 1 hA (e' := (72, .bool (decide (x13f0 < a0))) :: _) rfl ?_; clear hA; intro a hA
            refine wpList_nil ?_
            replace hA := hA.sel [0, 3, 6, 7, 42, 43, 44, 72] (e' := [(0, .slice (some ⟨b11, o12, none⟩) l.length c), (3, .pointer (some ⟨b1, 0, none⟩)), (6, .int .i64 ((q : Nat) : Int)), (7, .int .i64 ((k : Nat) : Int)), (42, .slice (some ⟨b11, o12, none⟩) l.length c), (43, .int .i64 ((l.length : Nat) : Int)), (44, .int .i64 ((k : Nat) : Int)), (72, .bool (decide (x13f0 < a0)))]) rfl
            refine xt_norm ?_
            by_cases hc21 : x13f0 < a0
            · first
              | (exfalso; omega)
              | (replace hA := hA.rw 72 (v' := .bool true) rfl (vb_true hc21)
                 refine cd_cond_t hA rfl ?_
                 refine wp_region_lit ?_
                 refine st_run tbOk 2 hA (e' := (74, .int .i64 (IntKind.i64.wrap (((k : Nat) : Int) + 1))) :: (73, .int .i64 ((k : Nat) : Int)) :: _) rfl ?_; clear hA; intro a hA
                 replace hA := hA.rw 74 (v' := .int .i64 ((k + 1 : Nat) : Int)) rfl (wr64 (by omega) (by omega) (by omega))
                 refine st_run tbOk 1 hA (e' := (6, .int .i64 ((k + 1 : Nat) : Int)) :: _) rfl ?_; clear hA; intro a hA
                 refine wpList_nil ?_
                 replace hA := hA.sel [0, 3, 6, 42, 43, 44] (e' := [(0, .slice (some ⟨b11, o12, none⟩) l.length c), (3, .pointer (some ⟨b1, 0, none⟩)), (6, .int .i64 ((k + 1 : Nat) : Int)), (42, .slice (some ⟨b11, o12, none⟩) l.length c), (43, .int .i64 ((l.length : Nat) : Int)), (44, .int .i64 ((k : Nat) : Int))]) rfl
                 refine xb_norm ?_
                 refine xt_norm ?_
                 refine wp_region_lit ?_
                 refine st_run tbOk 1 hA (e' := (75, .int .i64 (IntKind.i64.wrap (((k : Nat) : Int) + 1))) :: _) rfl ?_; clear hA; intro a hA
                 replace hA := hA.rw 75 (v' := .int .i64 ((k + 1 : Nat) : Int)) rfl (wr64 (by omega) (by omega) (by omega))
                 refine st_run tbOk 1 hA (e' := (44, .int .i64 ((k + 1 : Nat) : Int)) :: _) rfl ?_; clear hA; intro a hA
                 refine wpList_nil ?_
                 replace hA := hA.sel [0, 3, 6, 42, 43, 44] (e' := [(0, .slice (some ⟨b11, o12, none⟩) l.length c), (3, .pointer (some ⟨b1, 0, none⟩)), (6, .int .i64 ((k + 1 : Nat) : Int)), (42, .slice (some ⟨b11, o12, none⟩) l.length c), (43, .int .i64 ((l.length : Nat) : Int)), (44, .int .i64 ((k + 1 : Nat) : Int))]) rfl
                 replace hS := hS.drop1
                 exact lp_next _ (by omega) ⟨(k + 1), (k + 1), rfl, (hA.sel [0, 3, 6, 42, 43, 44] rfl), hS, by omega⟩)
            · first
              | (exfalso; omega)
              | (replace hA := hA.rw 72 (v' := .bool false) rfl (vb_false hc21)
                 refine cd_cond_f hA rfl ?_
                 refine wp_skip ?_
                 refine xb_norm ?_
                 refine xt_norm ?_
                 refine wp_region_lit ?_
                 refine st_run tbOk 1 hA (e' := (75, .int .i64 (IntKind.i64.wrap (((k : Nat) : Int) + 1))) :: _) rfl ?_; clear hA; intro a hA
                 replace hA := hA.rw 75 (v' := .int .i64 ((k + 1 : Nat) : Int)) rfl (wr64 (by omega) (by omega) (by omega))
                 refine st_run tbOk 1 hA (e' := (44, .int .i64 ((k + 1 : Nat) : Int)) :: _) rfl ?_; clear hA; intro a hA
                 refine wpList_nil ?_
                 replace hA := hA.sel [0, 3, 6, 42, 43, 44] (e' := [(0, .slice (some ⟨b11, o12, none⟩) l.length c), (3, .pointer (some ⟨b1, 0, none⟩)), (6, .int .i64 ((q : Nat) : Int)), (42, .slice (some ⟨b11, o12, none⟩) l.length c), (43, .int .i64 ((l.length : Nat) : Int)), (44, .int .i64 ((k + 1 : Nat) : Int))]) rfl
                 replace hS := hS.drop1
                 exact lp_next _ (by omega) ⟨(k + 1), q, rfl, (hA.sel [0, 3, 6, 42, 43, 44] rfl), hS, by omega⟩)))
  · first
    | (exfalso; omega)
    | (replace hA := hA.rw 45 (v' := .bool false) rfl (vb_false hc10)
       refine cd_cond_f hA rfl ?_
       refine wp_exit ?_
       refine xt_exit ?_
       refine xt_exit ?_
       refine cd_exit_eq ?_
       refine xt_norm ?_
       refine wp_seq ?_
       refine wp_seq ?_
       refine wp_region_lit ?_
       refine st_run tbOk 3 hA (e' := (78, .bool (decide (((l.length : Nat) : Int) ≥ 64))) :: (77, .int .i64 ((l.length : Nat) : Int)) :: (76, .slice A l.length c) :: _) rfl ?_; clear hA; intro a hA
       refine wpList_nil ?_
       replace hA := hA.sel [0, 3, 6, 78] (e' := [(0, .slice A l.length c), (3, .pointer (some ⟨b1, 0, none⟩)), (6, .int .i64 ((q : Nat) : Int)), (78, .bool (decide (((l.length : Nat) : Int) ≥ 64)))]) rfl
       refine xt_norm ?_
       have hc22 : ((l.length : Nat) : Int) ≥ 64 := by omega
       replace hA := hA.rw 78 (v' := .bool true) rfl (vb_true hc22)
       refine cd_cond_t hA rfl ?_
       refine wp_seq ?_
       refine wp_region_lit ?_
       refine st_run tbOk 3 hA (e' := (5, .iface 30 (.int .i64 5)) :: (4, .slice none 0 0) :: (79, .iface 30 (.int .i64 5)) :: _) rfl ?_; clear hA; intro a hA
       refine wpList_nil ?_
       replace hA := hA.sel [4, 5] (e' := [(4, .slice none 0 0), (5, .iface 30 (.int .i64 5))]) rfl
       refine xt_norm ?_
       refine wp_ret (xt_ret ?_)
       refine ret2 (fn := Tryd.f12) hA rfl rfl rfl ?_
       replace hS := hS.drop1
       exact ⟨rfl, hS⟩)

theorem add_ok12 {w0 w : World} {F : List Chunk} (hS : St w0 w F) {v : Value} {l : List Area} (hr : RdS w0 F 5 v l.length (rows encArea l)) (x : Area) (hv : Val x) (h2 : 0 ≤ ao x ∧ 0 ≤ ag x) (hs : ∀ y ∈ l, SOk y) (hn : ∀ y ∈ l, ¬ Ovl x y) (hl : l.length < 64) {i : Nat} (hp : Pl l x i) :
    Ret Tryd.prog 12 #[v, .agg #[.int .i64 x.1, .int .i64 x.2.1, .int .i64 x.2.2.1, .int .i64 x.2.2.2.1, .bool x.2.2.2.2]] w (fun v w' => ∃ v1 C, Own 24 5 v1 (l.take i ++ (x :: l.drop i)).length (rows encArea (l.take i ++ (x :: l.drop i))) C ∧ v = .tuple #[v1, .nilIface] ∧ St w0 w' (C :: F)) := by
  obtain ⟨A, c, rfl, hmc, hcx⟩ := (hr w hS).open'
  obtain ⟨a0, a1, a2, a3, a4⟩ := x
  dsimp only [Val, ab, az, ag, ao] at hv h2
  have hil := hp.le
  refine enter (vs := [.slice A l.length c, .agg #[.int .i64 a0, .int .i64 a1, .int .i64 a2, .int .i64 a3, .bool a4]]) 86 Tryd.func12 rfl rfl (by simp) ?_; intro a hA
  refine wp_seq ?_
  refine wp_region_lit ?_
  refine st_box hA hS [.int .i64 a0, .int .i64 a1, .int .i64 a2, .int .i64 a3, .bool a4] rfl rfl rfl rfl rfl (by decide) ?_; clear hA hS; intro b1 w2 a hS hA
  refine st_run tbOk 2 hA (e' := (5, .nilIface) :: (4, .slice none 0 0) :: _) rfl ?_; clear hA; intro a hA
  refine wpList_nil ?_
  replace hA := hA.sel [0, 3] (e' := [(0, .slice A l.length c), (3, .pointer (some ⟨b1, 0, none⟩))]) rfl
  refine xt_norm ?_
  refine wp_seq ?_
  refine wp_block ?_
  refine wp_seq ?_
  refine wp_region_lit ?_
  refine st_run tbOk 1 hA (e' := (10, .pointer (some ⟨b1, 1, none⟩)) :: _) rfl ?_; clear hA; intro a hA
  refine st_val hA rfl rfl (by decide) (rn_load tbOk hA rfl rfl rfl rfl (cell_row (hS.heapAt 0 rfl) rfl)) ?_; clear hA; intro a hA
  refine st_run tbOk 2 hA (e' := (13, .bool (decide (a1 < 1))) :: (12, .bool (decide (a1 < 1))) :: _) rfl ?_; clear hA; intro a hA
  have hc3 : ¬ (a1 < 1) := by omega
  replace hA := hA.rw 12 (v' := .bool false) rfl (vb_false hc3)
  replace hA := hA.rw 13 (v' := .bool false) rfl (vb_false hc3)
  refine st_run tbOk 1 hA (e' := (14, .pointer (some ⟨b1, 0, none⟩)) :: _) rfl ?_; clear hA; intro a hA
  refine st_val hA rfl rfl (by decide) (rn_load tbOk hA rfl rfl rfl rfl (cell_row (hS.heapAt 0 rfl) rfl)) ?_; clear hA; intro a hA
  refine st_run tbOk 3 hA (e' := (18, .bool (decide (a0 < 0))) :: (17, .bool (decide (a0 < 0))) :: (16, .bool (decide (a0 < 0))) :: _) rfl ?_; clear hA; intro a hA
  have hc4 : ¬ (a0 < 0) := by omega
  replace hA := hA.rw 16 (v' := .bool false) rfl (vb_false hc4)
  replace hA := hA.rw 17 (v' := .bool false) rfl (vb_false hc4)
  replace hA := hA.rw 18 (v' := .bool false) rfl (vb_false hc4)
  refine st_run tbOk 1 hA (e' := (19, .pointer (some ⟨b1, 0, none⟩)) :: _) rfl ?_; clear hA; intro a hA
  refine st_val hA rfl rfl (by decide) (rn_load tbOk hA rfl rfl rfl rfl (cell_row (hS.heapAt 0 rfl) rfl)) ?_; clear hA; intro a hA
  refine st_run tbOk 3 hA (e' := (23, .bool (decide (a0 > 1073741824))) :: (22, .bool (decide (a0 > 1073741824))) :: (21, .bool (decide (a0 > 1073741824))) :: _) rfl ?_; clear hA; intro a hA
  have hc5 : ¬ (a0 > 1073741824) := by omega
  replace hA := hA.rw 21 (v' := .bool false) rfl (vb_false hc5)
  replace hA := hA.rw 22 (v' := .bool false) rfl (vb_false hc5)
  replace hA := hA.rw 23 (v' := .bool false) rfl (vb_false hc5)
  refine st_run tbOk 1 hA (e' := (24, .pointer (some ⟨b1, 1, none⟩)) :: _) rfl ?_; clear hA; intro a hA
  refine st_val hA rfl rfl (by decide) (rn_load tbOk hA rfl rfl rfl rfl (cell_row (hS.heapAt 0 rfl) rfl)) ?_; clear hA; intro a hA
  refine st_run tbOk 1 hA (e' := (26, .pointer (some ⟨b1, 0, none⟩)) :: _) rfl ?_; clear hA; intro a hA
  refine st_val hA rfl rfl (by decide) (rn_load tbOk hA rfl rfl rfl rfl (cell_row (hS.heapAt 0 rfl) rfl)) ?_; clear hA; intro a hA
  refine st_run tbOk 1 hA (e' := (28, .int .i64 (IntKind.i64.wrap (1073741824 - a0))) :: _) rfl ?_; clear hA; intro a hA
  replace hA := hA.rw 28 (v' := .int .i64 (1073741824 - a0)) rfl (wr64 (by omega) (by omega) (by omega))
  refine st_run tbOk 3 hA (e' := (9, .bool (decide (a1 > 1073741824 - a0))) :: (30, .bool (decide (a1 > 1073741824 - a0))) :: (29, .bool (decide (a1 > 1073741824 - a0))) :: _) rfl ?_; clear hA; intro a hA
  refine wpList_nil ?_
  replace hA := hA.sel [0, 3, 9] (e' := [(0, .slice A l.length c), (3, .pointer (some ⟨b1, 0, none⟩)), (9, .bool (decide (a1 > 1073741824 - a0)))]) rfl
  refine xt_norm ?_
  have hc6 : ¬ (a1 > 1073741824 - a0) := by omega
  replace hA := hA.rw 9 (v' := .bool false) rfl (vb_false hc6)
  refine cd_cond_f hA rfl ?_
  refine wp_seq ?_
  refine wp_region_lit ?_
  refine st_run tbOk 1 hA (e' := (33, .pointer (some ⟨b1, 3, none⟩)) :: _) rfl ?_; clear hA; intro a hA
  refine st_val hA rfl rfl (by decide) (rn_load tbOk hA rfl rfl rfl rfl (cell_row (hS.heapAt 0 rfl) rfl)) ?_; clear hA; intro a hA
  refine st_run tbOk 2 hA (e' := (36, .bool (decide (a3 < 0))) :: (35, .bool (decide (a3 < 0))) :: _) rfl ?_; clear hA; intro a hA
  have hc7 : ¬ (a3 < 0) := by omega
  replace hA := hA.rw 35 (v' := .bool false) rfl (vb_false hc7)
  replace hA := hA.rw 36 (v' := .bool false) rfl (vb_false hc7)
  refine st_run tbOk 1 hA (e' := (37, .pointer (some ⟨b1, 2, none⟩)) :: _) rfl ?_; clear hA; intro a hA
  refine st_val hA rfl rfl (by decide) (rn_load tbOk hA rfl rfl rfl rfl (cell_row (hS.heapAt 0 rfl) rfl)) ?_; clear hA; intro a hA
  refine st_run tbOk 3 hA (e' := (32, .bool (decide (a2 < 0))) :: (40, .bool (decide (a2 < 0))) :: (39, .bool (decide (a2 < 0))) :: _) rfl ?_; clear hA; intro a hA
  refine wpList_nil ?_
  replace hA := hA.sel [0, 3, 32] (e' := [(0, .slice A l.length c), (3, .pointer (some ⟨b1, 0, none⟩)), (32, .bool (decide (a2 < 0)))]) rfl
  refine xt_norm ?_
  have hc8 : ¬ (a2 < 0) := by omega
  replace hA := hA.rw 32 (v' := .bool false) rfl (vb_false hc8)
  refine cd_cond_f hA rfl ?_
  refine wp_skip ?_
  refine xb_norm ?_
  refine xt_norm ?_
  refine wp_seq ?_
  refine wp_region_lit ?_
  refine st_run tbOk 1 hA (e' := (6, .int .i64 0) :: _) rfl ?_; clear hA; intro a hA
  refine wpList_nil ?_
  replace hA := hA.sel [0, 3, 6] (e' := [(0, .slice A l.length c), (3, .pointer (some ⟨b1, 0, none⟩)), (6, .int .i64 0)]) rfl
  refine xt_norm ?_
  refine wp_seq ?_
  refine wp_seq ?_
  refine wp_region_lit ?_
  refine st_run tbOk 3 hA (e' := (44, .int .i64 0) :: (43, .int .i64 ((l.length : Nat) : Int)) :: (42, .slice A l.length c) :: _) rfl ?_; clear hA; intro a hA
  refine wpList_nil ?_
  refine xt_norm ?_
  refine wp_block ?_
  replace hA := hA.rw 6 (v' := .int .i64 ((min 0 i : Nat) : Int)) rfl (vint (by omega))
  refine wp_loop_ghost (fun m a w => ∃ (k : Nat), m = l.length - k ∧ Has a 86 [(0, .slice A l.length c), (3, .pointer (some ⟨b1, 0, none⟩)), (6, .int .i64 ((min k i : Nat) : Int)), (42, .slice A l.length c), (43, .int .i64 ((l.length : Nat) : Int)), (44, .int .i64 ((k : Nat) : Int))] ∧ St w0 w ([(b1, rowO [.int .i64 a0, .int .i64 a1, .int .i64 a2, .int .i64 a3, .bool a4] 24)] :: F) ∧ (k ≤ l.length)) (l.length - 0)
    ⟨0, rfl, (hA.sel [0, 3, 6, 42, 43, 44] rfl), hS, Nat.zero_le _⟩ ?_
  clear hA hS; rintro m0 a w9 ⟨k, rfl, hA, hS, hk⟩
  refine wp_seq ?_
  refine wp_region_lit ?_
  refine st_run tbOk 1 hA (e' := (45, .bool (decide (((k : Nat) : Int) < ((l.length : Nat) : Int)))) :: _) rfl ?_; clear hA; intro a hA
  refine wpList_nil ?_
  refine xt_norm ?_
  refine wp_seq ?_
  by_cases hc10 : ((k : Nat) : Int) < ((l.length : Nat) : Int)
  · first
    | (exfalso; omega)
    | (replace hA := hA.rw 45 (v' := .bool true) rfl (vb_true hc10)
       refine cd_cond_t hA rfl ?_
       refine wp_skip ?_
       refine xt_norm ?_
       refine wp_seq ?_
       refine wp_block ?_
       refine wp_seq ?_
       refine wp_region_lit ?_
       refine st_run tbOk 1 hA (e' := (46, .int .i64 ((k : Nat) : Int)) :: _) rfl ?_; clear hA; intro a hA
       obtain ⟨b11, o12, rfl⟩ := (hr _ (hS.tail 1 rfl)).isSome (k := k) (by omega)
       refine st_val hA rfl rfl (by decide) (rn_indexAddr tbOk hA k (o12 + (k * 5)) rfl rfl rfl rfl rfl rfl (by rfl) (by omega) (by first | rfl | simp [Nat.mul_one, Nat.zero_add] | omega)) ?_; clear hA; intro a hA
       obtain ⟨x13, hx13⟩ := get_ex (l := l) (k := k) (by omega)
       obtain ⟨x13f0, x13f1, x13f2, x13f3, x13f4⟩ := x13
       have hk14 := hs _ (List.mem_of_getElem? hx13); dsimp only [SOk, ab, az, ag, ao] at hk14
       refine st_val hA rfl rfl (by decide) (rn_loadA tbOk hA ([.int .i64 x13f0, .int .i64 x13f1, .int .i64 x13f2, .int .i64 x13f3, .bool x13f4]) rfl rfl rfl rfl (by rfl) ((hr _ (hS.tail 1 rfl)).elem (k := k) encArea_ok hx13)) ?_; clear hA; intro a hA
       refine st_alloc tbOk hA hS [.int .i64 0, .int .i64 0, .int .i64 0, .int .i64 0, .bool false] rfl rfl rfl rfl rfl (by decide) ?_; clear hA hS; intro b15 w16 a hS hA
       refine st_run tbOk 1 hA (e' := (7, .int .i64 ((k : Nat) : Int)) :: _) rfl ?_; clear hA; intro a hA
       refine st_store tbOk hA hS [.int .i64 x13f0, .int .i64 x13f1, .int .i64 x13f2, .int .i64 x13f3, .bool x13f4] [.int .i64 x13f0, .int .i64 x13f1, .int .i64 x13f2, .int .i64 x13f3, .bool x13f4] rfl rfl rfl rfl rfl rfl (by simp [Value.oneCell']) (Nat.le_of_ble_eq_true rfl) rfl rfl rfl ?_; clear hS; intro w17 hS
       refine wpList_nil ?_
       replace hA := hA.sel [0, 3, 6, 7, 8, 42, 43, 44] (e' := [(0, .slice (some ⟨b11, o12, none⟩) l.length c), (3, .pointer (some ⟨b1, 0, none⟩)), (6, .int .i64 ((min k i : Nat) : Int)), (7, .int .i64 ((k : Nat) : Int)), (8, .pointer (some ⟨b15, 0, none⟩)), (42, .slice (some ⟨b11, o12, none⟩) l.length c), (43, .int .i64 ((l.length : Nat) : Int)), (44, .int .i64 ((k : Nat) : Int))]) rfl
       refine xt_norm ?_
       refine wp_seq ?_
       refine wp_seq ?_
       refine wp_region_lit ?_
       have hno := hn _ (List.mem_of_getElem? hx13); dsimp only [Ovl, ab, az] at hno
       have hpb : k < i → x13f0 < a0 := fun h => hp.bf k _ h hx13
       have hpa : i ≤ k → ¬ x13f0 < a0 := fun h => hp.af k _ h hx13
       refine st_run tbOk 1 hA (e' := (49, .pointer (some ⟨b1, 0, none⟩)) :: _) rfl ?_; clear hA; intro a hA
       refine st_val hA rfl rfl (by decide) (rn_load tbOk hA rfl rfl rfl rfl (cell_row (hS.heapAt 1 rfl) rfl)) ?_; clear hA; intro a hA
       refine st_run tbOk 1 hA (e' := (51, .pointer (some ⟨b15, 0, none⟩)) :: _) rfl ?_; clear hA; intro a hA
       refine st_val hA rfl rfl (by decide) (rn_load tbOk hA rfl rfl rfl rfl (cell_row (hS.heapAt 0 rfl) rfl)) ?_; clear hA; intro a hA
       refine st_run tbOk 1 hA (e' := (53, .pointer (some ⟨b15, 1, none⟩)) :: _) rfl ?_; clear hA; intro a hA
       refine st_val hA rfl rfl (by decide) (rn_load tbOk hA rfl rfl rfl rfl (cell_row (hS.heapAt 0 rfl) rfl)) ?_; clear hA; intro a hA
       refine st_run tbOk 1 hA (e' := (55, .int .i64 (IntKind.i64.wrap (x13f0 + x13f1))) :: _) rfl ?_; clear hA; intro a hA
       replace hA := hA.rw 55 (v' := .int .i64 (x13f0 + x13f1)) rfl (wr64 (by omega) (by omega) (by omega))
       refine st_run tbOk 2 hA (e' := (57, .bool (decide (a0 < x13f0 + x13f1))) :: (56, .bool (decide (a0 < x13f0 + x13f1))) :: _) rfl ?_; clear hA; intro a hA
       by_cases hc18 : a0 < x13f0 + x13f1
       · first
         | (exfalso; omega)
         | (replace hA := hA.rw 56 (v' := .bool true) rfl (vb_true hc18)
            replace hA := hA.rw 57 (v' := .bool true) rfl (vb_true hc18)
            refine st_run tbOk 1 hA (e' := (58, .pointer (some ⟨b15, 0, none⟩)) :: _) rfl ?_; clear hA; intro a hA
            refine st_val hA rfl rfl (by decide) (rn_load tbOk hA rfl rfl rfl rfl (cell_row (hS.heapAt 0 rfl) rfl)) ?_; clear hA; intro a hA
            refine st_run tbOk 1 hA (e' := (60, .pointer (some ⟨b1, 0, none⟩)) :: _) rfl ?_; clear hA; intro a hA
            refine st_val hA rfl rfl (by decide) (rn_load tbOk hA rfl rfl rfl rfl (cell_row (hS.heapAt 1 rfl) rfl)) ?_; clear hA; intro a hA
            refine st_run tbOk 1 hA (e' := (62, .pointer (some ⟨b1, 1, none⟩)) :: _) rfl ?_; clear hA; intro a hA
            refine st_val hA rfl rfl (by decide) (rn_load tbOk hA rfl rfl rfl rfl (cell_row (hS.heapAt 1 rfl) rfl)) ?_; clear hA; intro a hA
            refine st_run tbOk 1 hA (e' := (64, .int .i64 (IntKind.i64.wrap (a0 + a1))) :: _) rfl ?_; clear hA; intro a hA
            replace hA := hA.rw 64 (v' := .int .i64 (a0 + a1)) rfl (wr64 (by omega) (by omega) (by omega))
            refine st_run tbOk 2 hA (e' := (66, .bool (decide (x13f0 < a0 + a1))) :: (65, .bool (decide (x13f0 < a0 + a1))) :: _) rfl ?_; clear hA; intro a hA
            refine wpList_nil ?_
            replace hA := hA.sel [0, 3, 6, 7, 8, 42, 43, 44, 66] (e' := [(0, .slice (some ⟨b11, o12, none⟩) l.length c), (3, .pointer (some ⟨b1, 0, none⟩)), (6, .int .i64 ((min k i : Nat) : Int)), (7, .int .i64 ((k : Nat) : Int)), (8, .pointer (some ⟨b15, 0, none⟩)), (42, .slice (some ⟨b11, o12, none⟩) l.length c), (43, .int .i64 ((l.length : Nat) : Int)), (44, .int .i64 ((k : Nat) : Int)), (66, .bool (decide (x13f0 < a0 + a1)))]) rfl
            refine xt_norm ?_
            by_cases hc19 : x13f0 < a0 + a1
            · first
              | (exfalso; omega)
              | (replace hA := hA.rw 66 (v' := .bool true) rfl (vb_true hc19)
                 refine cd_cond_t hA rfl ?_
                 refine wp_seq ?_
                 refine wp_region_lit ?_
                 refine st_run tbOk 3 hA (e' := (5, .iface 30 (.int .i64 14)) :: (4, .slice none 0 0) :: (67, .iface 30 (.int .i64 14)) :: _) rfl ?_; clear hA; intro a hA
                 refine wpList_nil ?_
                 replace hA := hA.sel [4, 5] (e' := [(4, .slice none 0 0), (5, .iface 30 (.int .i64 14))]) rfl
                 refine xt_norm ?_
                 refine wp_ret (xt_ret (xb_ret (xt_ret (xt_ret (xb_ret (xt_ret ?_))))))
                 refine ret2 (fn := Tryd.f12) hA rfl rfl rfl ?_
                 exfalso; omega)
            · first
              | (exfalso; omega)
              | (replace hA := hA.rw 66 (v' := .bool false) rfl (vb_false hc19)
                 refine cd_cond_f hA rfl ?_
                 refine wp_skip ?_
                 refine xt_norm ?_
                 refine wp_seq ?_
                 refine wp_region_lit ?_
                 refine st_run tbOk 1 hA (e' := (68, .pointer (some ⟨b15, 0, none⟩)) :: _) rfl ?_; clear hA; intro a hA
                 refine st_val hA rfl rfl (by decide) (rn_load tbOk hA rfl rfl rfl rfl (cell_row (hS.heapAt 0 rfl) rfl)) ?_; clear hA; intro a hA
                 refine st_run tbOk 1 hA (e' := (70, .pointer (some ⟨b1, 0, none⟩)) :: _) rfl ?_; clear hA; intro a hA
                 refine st_val hA rfl rfl (by decide) (rn_load tbOk hA rfl rfl rfl rfl (cell_row (hS.heapAt 1 rfl) rfl)) ?_; clear hA; intro a hA
                 refine st_run tbOk 1 hA (e' := (72, .bool (decide (x13f0 < a0))) :: _) rfl ?_; clear hA; intro a hA
                 refine wpList_nil ?_
                 replace hA := hA.sel [0, 3, 6, 7, 42, 43, 44, 72] (e' := [(0, .slice (some ⟨b11, o12, none⟩) l.length c), (3, .pointer (some ⟨b1, 0, none⟩)), (6, .int .i64 ((min k i : Nat) : Int)), (7, .int .i64 ((k : Nat) : Int)), (42, .slice (some ⟨b11, o12, none⟩) l.length c), (43, .int .i64 ((l.length : Nat) : Int)), (44, .int .i64 ((k : Nat) : Int)), (72, .bool (decide (x13f0 < a0)))]) rfl
                 refine xt_norm ?_
                 by_cases hc20 : x13f0 < a0
                 · first
                   | (exfalso; omega)
                   | (replace hA := hA.rw 72 (v' := .bool true) rfl (vb_true hc20)
                      refine cd_cond_t hA rfl ?_
                      refine wp_region_lit ?_
                      refine st_run tbOk 2 hA (e' := (74, .int .i64 (IntKind.i64.wrap (((k : Nat) : Int) + 1))) :: (73, .int .i64 ((k : Nat) : Int)) :: _) rfl ?_; clear hA; intro a hA
                      replace hA := hA.rw 74 (v' := .int .i64 ((k + 1 : Nat) : Int)) rfl (wr64 (by omega) (by omega) (by omega))
                      refine st_run tbOk 1 hA (e' := (6, .int .i64 ((k + 1 : Nat) : Int)) :: _) rfl ?_; clear hA; intro a hA
                      refine wpList_nil ?_
                      replace hA := hA.sel [0, 3, 6, 42, 43, 44] (e' := [(0, .slice (some ⟨b11, o12, none⟩) l.length c), (3, .pointer (some ⟨b1, 0, none⟩)), (6, .int .i64 ((k + 1 : Nat) : Int)), (42, .slice (some ⟨b11, o12, none⟩) l.length c), (43, .int .i64 ((l.length : Nat) : Int)), (44, .int .i64 ((k : Nat) : Int))]) rfl
                      refine xb_norm ?_
                      refine xt_norm ?_
                      refine wp_region_lit ?_
                      refine st_run tbOk 1 hA (e' := (75, .int .i64 (IntKind.i64.wrap (((k : Nat) : Int) + 1))) :: _) rfl ?_; clear hA; intro a hA
                      replace hA := hA.rw 75 (v' := .int .i64 ((k + 1 : Nat) : Int)) rfl (wr64 (by omega) (by omega) (by omega))
                      refine st_run tbOk 1 hA (e' := (44, .int .i64 ((k + 1 : Nat) : Int)) :: _) rfl ?_; clear hA; intro a hA
                      refine wpList_nil ?_
                      replace hA := hA.sel [0, 3, 6, 42, 43, 44] (e' := [(0, .slice (some ⟨b11, o12, none⟩) l.length c), (3, .pointer (some ⟨b1, 0, none⟩)), (6, .int .i64 ((k + 1 : Nat) : Int)), (42, .slice (some ⟨b11, o12, none⟩) l.length c), (43, .int .i64 ((l.length : Nat) : Int)), (44, .int .i64 ((k + 1 : Nat) : Int))]) rfl
                      replace hS := hS.drop1
                      replace hA := hA.rw 6 (v' := .int .i64 ((min (k + 1) i : Nat) : Int)) rfl (vint (by omega))
                      exact lp_next _ (by omega) ⟨(k + 1), rfl, (hA.sel [0, 3, 6, 42, 43, 44] rfl), hS, by omega⟩)
                 · first
                   | (exfalso; omega)
                   | (replace hA := hA.rw 72 (v' := .bool false) rfl (vb_false hc20)
                      refine cd_cond_f hA rfl ?_
                      refine wp_skip ?_
                      refine xb_norm ?_
                      refine xt_norm ?_
                      refine wp_region_lit ?_
                      refine st_run tbOk 1 hA (e' := (75, .int .i64 (IntKind.i64.wrap (((k : Nat) : Int) + 1))) :: _) rfl ?_; clear hA; intro a hA
                      replace hA := hA.rw 75 (v' := .int .i64 ((k + 1 : Nat) : Int)) rfl (wr64 (by omega) (by omega) (by omega))
                      refine st_run tbOk 1 hA (e' := (44, .int .i64 ((k + 1 : Nat) : Int)) :: _) rfl ?_; clear hA; intro a hA
                      refine wpList_nil ?_
                      replace hA := hA.sel [0, 3, 6, 42, 43, 44] (e' := [(0, .slice (some ⟨b11, o12, none⟩) l.length c), (3, .pointer (some ⟨b1, 0, none⟩)), (6, .int .i64 ((min k i : Nat) : Int)), (42, .slice (some ⟨b11, o12, none⟩) l.length c), (43, .int .i64 ((l.length : Nat) : Int)), (44, .int .i64 ((k + 1 : Nat) : Int))]) rfl
                      replace hS := hS.drop1
                      replace hA := hA.rw 6 (v' := .int .i64 ((min (k + 1) i : Nat) : Int)) rfl (vint (by omega))
                      exact lp_next _ (by omega) ⟨(k + 1), rfl, (hA.sel [0, 3, 6, 42, 43, 44] rfl), hS, by omega⟩)))
       · first
         | (exfalso; omega)
         | (replace hA := hA.rw 56 (v' := .bool false) rfl (vb_false hc18)
            replace hA := hA.rw 57 (v' := .bool false) rfl (vb_false hc18)
            refine st_run tbOk 9 hA (e' := (66, .bool false) :: (65, undef) :: (64, undef) :: (63, undef) :: (62, undef) :: (61, undef) :: (60, undef) :: (59, undef) :: (58, undef) :: _) rfl ?_; clear hA; intro a hA
            refine wpList_nil ?_
            replace hA := hA.sel [0, 3, 6, 7, 8, 42, 43, 44, 66] (e' := [(0, .slice (some ⟨b11, o12, none⟩) l.length c), (3, .pointer (some ⟨b1, 0, none⟩)), (6, .int .i64 ((min k i : Nat) : Int)), (7, .int .i64 ((k : Nat) : Int)), (8, .pointer (some ⟨b15, 0, none⟩)), (42, .slice (some ⟨b11, o12, none⟩) l.length c), (43, .int .i64 ((l.length : Nat) : Int)), (44, .int .i64 ((k : Nat) : Int)), (66, .bool false)]) rfl
            refine xt_norm ?_
            refine cd_cond_f hA rfl ?_
            refine wp_skip ?_
            refine xt_norm ?_
            refine wp_seq ?_
            refine wp_region_lit ?_
            refine st_run tbOk 1 hA (e' := (68, .pointer (some ⟨b15, 0, none⟩)) :: _) rfl ?_; clear hA; intro a hA
            refine st_val hA rfl rfl (by decide) (rn_load tbOk hA rfl rfl rfl rfl (cell_row (hS.heapAt 0 rfl) rfl)) ?_; clear hA; intro a hA
            refine st_run tbOk 1 hA (e' := (70, .pointer (some ⟨b1, 0, none⟩)) :: _) rfl ?_; clear hA; intro a hA
            refine st_val hA rfl rfl (by decide) (rn_load tbOk hA rfl rfl rfl rfl (cell_row (hS.heapAt 1 rfl) rfl)) ?_; clear hA; intro a hA
            refine st_run tbOk 1 hA (e' := (72, .bool (decide (x13f0 < a0))) :: _) rfl ?_; clear hA; intro a hA
            refine wpList_nil ?_
            replace hA := hA.sel [0, 3, 6, 7, 42, 43, 44, 72] (e' := [(0, .slice (some ⟨b11, o12, none⟩) l.length c), (3, .pointer (some ⟨b1, 0, none⟩)), (6, .int .i64 ((min k i : Nat) : Int)), (7, .int .i64 ((k : Nat) : Int)), (42, .slice (some ⟨b11, o12, none⟩) l.length c), (43, .int .i64 ((l.length : Nat) : Int)), (44, .int .i64 ((k : Nat) : Int)), (72, .bool (decide (x13f0 < a0)))]) rfl
            refine xt_norm ?_
            by_cases hc21 : x13f0 < a0
            · first
              | (exfalso; omega)
              | (replace hA := hA.rw 72 (v' := .bool true) rfl (vb_true hc21)
                 refine cd_cond_t hA rfl ?_
                 refine wp_region_lit ?_
                 refine st_run tbOk 2 hA (e' := (74, .int .i64 (IntKind.i64.wrap (((k : Nat) : Int) + 1))) :: (73, .int .i64 ((k : Nat) : Int)) :: _) rfl ?_; clear hA; intro a hA
                 replace hA := hA.rw 74 (v' := .int .i64 ((k + 1 : Nat) : Int)) rfl (wr64 (by omega) (by omega) (by omega))
                 refine st_run tbOk 1 hA (e' := (6, .int .i64 ((k + 1 : Nat) : Int)) :: _) rfl ?_; clear hA; intro a hA
                 refine wpList_nil ?_
                 replace hA := hA.sel [0, 3, 6, 42, 43, 44] (e' := [(0, .slice (some ⟨b11, o12, none⟩) l.length c), (3, .pointer (some ⟨b1, 0, none⟩)), (6, .int .i64 ((k + 1 : Nat) : Int)), (42, .slice (some ⟨b11, o12, none⟩) l.length c), (43, .int .i64 ((l.length : Nat) : Int)), (44, .int .i64 ((k : Nat) : Int))]) rfl
                 refine xb_norm ?_
                 refine xt_norm ?_
                 refine wp_region_lit ?_
                 refine st_run tbOk 1 hA (e' := (75, .int .i64 (IntKind.i64.wrap (((k : Nat) : Int) + 1))) :: _) rfl ?_; clear hA; intro a hA
                 replace hA := hA.rw 75 (v' := .int .i64 ((k + 1 : Nat) : Int)) rfl (wr64 (by omega) (by omega) (by omega))
                 refine st_run tbOk 1 hA (e' := (44, .int .i64 ((k + 1 : Nat) : Int)) :: _) rfl ?_; clear hA; intro a hA
                 refine wpList_nil ?_
                 replace hA := hA.sel [0, 3, 6, 42, 43, 44] (e' := [(0, .slice (some ⟨b11, o12, none⟩) l.length c), (3, .pointer (some ⟨b1, 0, none⟩)), (6, .int .i64 ((k + 1 : Nat) : Int)), (42, .slice (some ⟨b11, o12, none⟩) l.length c), (43, .int .i64 ((l.length : Nat) : Int)), (44, .int .i64 ((k + 1 : Nat) : Int))]) rfl
                 replace hS := hS.drop1
                 replace hA := hA.rw 6 (v' := .int .i64 ((min (k + 1) i : Nat) : Int)) rfl (vint (by omega))
                 exact lp_next _ (by omega) ⟨(k + 1), rfl, (hA.sel [0, 3, 6, 42, 43, 44] rfl), hS, by omega⟩)
            · first
              | (exfalso; omega)
              | (replace hA := hA.rw 72 (v' := .bool false) rfl (vb_false hc21)
                 refine cd_cond_f hA rfl ?_
                 refine wp_skip ?_
                 refine xb_norm ?_
                 refine xt_norm ?_
                 refine wp_region_lit ?_
                 refine st_run tbOk 1 hA (e' := (75, .int .i64 (IntKind.i64.wrap (((k : Nat) : Int) + 1))) :: _) rfl ?_; clear hA; intro a hA
                 replace hA := hA.rw 75 (v' := .int .i64 ((k + 1 : Nat) : Int)) rfl (wr64 (by omega) (by omega) (by omega))
                 refine st_run tbOk 1 hA (e' := (44, .int .i64 ((k + 1 : Nat) : Int)) :: _) rfl ?_; clear hA; intro a hA
                 refine wpList_nil ?_
                 replace hA := hA.sel [0, 3, 6, 42, 43, 44] (e' := [(0, .slice (some ⟨b11, o12, none⟩) l.length c), (3, .pointer (some ⟨b1, 0, none⟩)), (6, .int .i64 ((min k i : Nat) : Int)), (42, .slice (some ⟨b11, o12, none⟩) l.length c), (43, .int .i64 ((l.length : Nat) : Int)), (44, .int .i64 ((k + 1 : Nat) : Int))]) rfl
                 replace hS := hS.drop1
                 replace hA := hA.rw 6 (v' := .int .i64 ((min (k + 1) i : Nat) : Int)) rfl (vint (by omega))
                 exact lp_next _ (by omega) ⟨(k + 1), rfl, (hA.sel [0, 3, 6, 42, 43, 44] rfl), hS, by omega⟩)))
  · first
    | (exfalso; omega)
    | (replace hA := hA.rw 45 (v' := .bool false) rfl (vb_false hc10)
       refine cd_cond_f hA rfl ?_
       refine wp_exit ?_
       refine xt_exit ?_
       refine xt_exit ?_
       refine cd_exit_eq ?_
       refine xt_norm ?_
       refine wp_seq ?_
       refine wp_seq ?_
       refine wp_region_lit ?_
       replace hA := hA.rw 6 (v' := .int .i64 ((i : Nat) : Int)) rfl (vint (by omega))
       refine st_run tbOk 3 hA (e' := (78, .bool (decide (((l.length : Nat) : Int) ≥ 64))) :: (77, .int .i64 ((l.length : Nat) : Int)) :: (76, .slice A l.length c) :: _) rfl ?_; clear hA; intro a hA
       refine wpList_nil ?_
       replace hA := hA.sel [0, 3, 6, 78] (e' := [(0, .slice A l.length c), (3, .pointer (some ⟨b1, 0, none⟩)), (6, .int .i64 ((i : Nat) : Int)), (78, .bool (decide (((l.length : Nat) : Int) ≥ 64)))]) rfl
       refine xt_norm ?_
       have hc22 : ¬ (((l.length : Nat) : Int) ≥ 64) := by omega
       replace hA := hA.rw 78 (v' := .bool false) rfl (vb_false hc22)
       refine cd_cond_f hA rfl ?_
       refine wp_skip ?_
       refine xt_norm ?_
       refine wp_seq ?_
       refine wp_drawN (fun w' => St w0 w' ([(b1, rowO [.int .i64 a0, .int .i64 a1, .int .i64 a2, .int .i64 a3, .bool a4] 24)] :: F)) [] [(0, true), (2, true), (3, true)] 1 (.L [(4, false), (5, false), (6, true), (7, true)]) 4 (.L [(1, false), (5, false), (6, true), (7, true)]) mixed (by kernel_rfl) (by rintro c a w ⟨_, _, h, _⟩; cases h) (by rfl) (by kernel_rfl) ?_
       replace hS := hS.drew
       refine dr_run tbOk 2 hA hS (e' := (82, .int .i64 ((i : Nat) : Int)) :: (80, .slice A l.length c) :: _) rfl ?_; clear hA; intro a hA
       refine dr_y hA rfl rfl rfl (by decide) hS (fun w' hS' => rn_loadA tbOk hA [.int .i64 a0, .int .i64 a1, .int .i64 a2, .int .i64 a3, .bool a4] rfl rfl rfl rfl rfl (cells_row (hS'.heapAt 0 rfl) rfl)) ?_; clear hA; intro a hA
       refine dr_fork ?_ ?_
       · refine dr_b (o := _) rfl ?_
         refine st_call0 hA rfl rfl rfl isfn19 rfl rfl (by decide) (clone19 hS (l := l) (fun w' h => (hr _ (h.tail 1 rfl))) (by omega)) ?_
         clear hA hS; rintro v23 w24 a ⟨C25, hO25, hS⟩ hA
         obtain ⟨A26, c27, rfl, hmc27, hxc27⟩ := hO25.open'
         refine dr_nil (.inr (hS.tail 1 rfl)) ?_
         refine dr_subL ?_
         refine dr_b (o := _) rfl ?_
         refine st_buildSlice tbOk hA hS [.int .i64 a0, .int .i64 a1, .int .i64 a2, .int .i64 a3, .bool a4] rfl rfl rfl rfl rfl (by decide) (by kernel_rfl) rfl rfl (by decide) ?_; clear hA hS; intro b28 w29 a hS hA
         refine dr_nil (.inr (hS.tail 2 rfl)) ?_
         refine dr_b (o := _) rfl ?_
         replace hS := hS.front 1 (C := C25) (L' := [(b28, rowO [.int .i64 a0, .int .i64 a1, .int .i64 a2, .int .i64 a3, .bool a4] 24)] :: [(b1, rowO [.int .i64 a0, .int .i64 a1, .int .i64 a2, .int .i64 a3, .bool a4] 24)] :: F) rfl rfl
         refine st_call0 hA rfl rfl rfl isfn18 rfl rfl (by decide) (insert18 (x := (a0, a1, a2, a3, a4)) hS hO25 i (by omega) (by omega)) ?_
         clear hA hS; rintro v30 w31 a ⟨C32, hO32, hS⟩ hA
         obtain ⟨A33, c34, rfl, hmc34, hxc34⟩ := hO32.open'
         refine dr_nil (.inr (hS.tail 1 rfl)) ?_
         refine dr_run tbOk 2 hA (hS.tail 1 rfl) (e' := (5, .nilIface) :: (4, .slice A33 ((l.take i ++ ((a0, a1, a2, a3, a4) :: l.drop i)).length) c34) :: _) rfl ?_; clear hA; intro a hA
         refine dr_end ?_
         replace hA := hA.sel [4, 5] (e' := [(4, .slice A33 ((l.take i ++ ((a0, a1, a2, a3, a4) :: l.drop i)).length) c34), (5, .nilIface)]) rfl
         refine xt_norm ?_
         refine wp_ret ?_
         refine ret2 (fn := Tryd.f12) hA rfl rfl rfl ?_
         replace hS := hS.drop2
         exact ⟨_, C32, hO32, rfl, hS⟩
       · refine dr_b (o := _) rfl ?_
         refine st_buildSlice tbOk hA hS [.int .i64 a0, .int .i64 a1, .int .i64 a2, .int .i64 a3, .bool a4] rfl rfl rfl rfl rfl (by decide) (by kernel_rfl) rfl rfl (by decide) ?_; clear hA hS; intro b35 w36 a hS hA
         refine dr_nil (.inr (hS.tail 1 rfl)) ?_
         refine dr_subL ?_
         refine dr_b (o := _) rfl ?_
         refine st_call0 hA rfl rfl rfl isfn19 rfl rfl (by decide) (clone19 hS (l := l) (fun w' h => (hr _ (h.tail 2 rfl))) (by omega)) ?_
         clear hA hS; rintro v37 w38 a ⟨C39, hO39, hS⟩ hA
         obtain ⟨A40, c41, rfl, hmc41, hxc41⟩ := hO39.open'
         refine dr_nil (.inr (hS.tail 2 rfl)) ?_
         refine dr_b (o := _) rfl ?_
         replace hS := hS.front 1 (C := [(b35, rowO [.int .i64 a0, .int .i64 a1, .int .i64 a2, .int .i64 a3, .bool a4] 24)]) (L' := C39 :: [(b1, rowO [.int .i64 a0, .int .i64 a1, .int .i64 a2, .int .i64 a3, .bool a4] 24)] :: F) rfl rfl
         replace hS := hS.front 1 (C := C39) (L' := [(b35, rowO [.int .i64 a0, .int .i64 a1, .int .i64 a2, .int .i64 a3, .bool a4] 24)] :: [(b1, rowO [.int .i64 a0, .int .i64 a1, .int .i64 a2, .int .i64 a3, .bool a4] 24)] :: F) rfl rfl
         refine st_call0 hA rfl rfl rfl isfn18 rfl rfl (by decide) (insert18 (x := (a0, a1, a2, a3, a4)) hS hO39 i (by omega) (by omega)) ?_
         clear hA hS; rintro v42 w43 a ⟨C44, hO44, hS⟩ hA
         obtain ⟨A45, c46, rfl, hmc46, hxc46⟩ := hO44.open'
         refine dr_nil (.inr (hS.tail 1 rfl)) ?_
         refine dr_run tbOk 2 hA (hS.tail 1 rfl) (e' := (5, .nilIface) :: (4, .slice A45 ((l.take i ++ ((a0, a1, a2, a3, a4) :: l.drop i)).length) c46) :: _) rfl ?_; clear hA; intro a hA
         refine dr_end ?_
         replace hA := hA.sel [4, 5] (e' := [(4, .slice A45 ((l.take i ++ ((a0, a1, a2, a3, a4) :: l.drop i)).length) c46), (5, .nilIface)]) rfl
         refine xt_norm ?_
         refine wp_ret ?_
         refine ret2 (fn := Tryd.f12) hA rfl rfl rfl ?_
         replace hS := hS.drop2
         exact ⟨_, C44, hO44, rfl, hS⟩)

theorem pieces_bad14 {w0 w : World} {F : List Chunk} (hS : St w0 w F) {v : Value} {l : List Area} (hr : RdS w0 F 5 v l.length (rows encArea l)) (t n : Int) (wr : Bool) (h : n < 0 ∨ t < 0 ∨ 1073741824 < t ∨ 1073741824 - t < n) :
    Ret Tryd.prog 14 #[v, .int .i64 t, .int .i64 n, .bool wr] w (fun v w' => v = .tuple #[.slice none 0 0, .iface 30 (.int .i64 13)] ∧ St w0 w' F) := by
  obtain ⟨A, c, rfl, hmc, hcx⟩ := (hr w hS).open'
  refine enter (vs := [.slice A l.length c, .int .i64 t, .int .i64 n, .bool wr]) 83 Tryd.func14 rfl rfl (by simp) ?_; intro a hA
  refine wp_seq ?_
  refine wp_region_lit ?_
  refine st_run tbOk 2 hA (e' := (9, .nilIface) :: (8, .slice none 0 0) :: _) rfl ?_; clear hA; intro a hA
  refine wpList_nil ?_
  replace hA := hA.sel [0, 1, 2, 3] (e' := [(0, .slice A l.length c), (1, .int .i64 t), (2, .int .i64 n), (3, .bool wr)]) rfl
  refine xt_norm ?_
  refine wp_seq ?_
  refine wp_seq ?_
  refine wp_region_lit ?_
  refine st_run tbOk 3 hA (e' := (17, .bool (decide (n < 0))) :: (16, .bool (decide (n < 0))) :: (15, .int .i64 n) :: _) rfl ?_; clear hA; intro a hA
  by_cases hc1 : n < 0
  · first
    | (exfalso; omega)
    | (replace hA := hA.rw 16 (v' := .bool true) rfl (vb_true hc1)
       replace hA := hA.rw 17 (v' := .bool true) rfl (vb_true hc1)
       refine st_run tbOk 13 hA (e' := (30, .bool true) :: (29, undef) :: (28, undef) :: (27, undef) :: (26, undef) :: (25, .bool true) :: (24, .bool true) :: (23, undef) :: (22, undef) :: (21, .bool true) :: (20, .bool true) :: (19, undef) :: (18, undef) :: _) rfl ?_; clear hA; intro a hA
       refine wpList_nil ?_
       replace hA := hA.sel [0, 1, 2, 3, 30] (e' := [(0, .slice A l.length c), (1, .int .i64 t), (2, .int .i64 n), (3, .bool wr), (30, .bool true)]) rfl
       refine xt_norm ?_
       refine cd_cond_t hA rfl ?_
       refine wp_seq ?_
       refine wp_region_lit ?_
       refine st_run tbOk 3 hA (e' := (9, .iface 30 (.int .i64 13)) :: (8, .slice none 0 0) :: (31, .iface 30 (.int .i64 13)) :: _) rfl ?_; clear hA; intro a hA
       refine wpList_nil ?_
       replace hA := hA.sel [8, 9] (e' := [(8, .slice none 0 0), (9, .iface 30 (.int .i64 13))]) rfl
       refine xt_norm ?_
       refine wp_ret (xt_ret ?_)
       refine ret2 (fn := Tryd.f14) hA rfl rfl rfl ?_
       exact ⟨rfl, hS⟩)
  · first
    | (exfalso; omega)
    | (replace hA := hA.rw 16 (v' := .bool false) rfl (vb_false hc1)
       replace hA := hA.rw 17 (v' := .bool false) rfl (vb_false hc1)
       refine st_run tbOk 4 hA (e' := (21, .bool (decide (t < 0))) :: (20, .bool (decide (t < 0))) :: (19, .bool (decide (t < 0))) :: (18, .int .i64 t) :: _) rfl ?_; clear hA; intro a hA
       by_cases hc2 : t < 0
       · first
         | (exfalso; omega)
         | (replace hA := hA.rw 19 (v' := .bool true) rfl (vb_true hc2)
            replace hA := hA.rw 20 (v' := .bool true) rfl (vb_true hc2)
            replace hA := hA.rw 21 (v' := .bool true) rfl (vb_true hc2)
            refine st_run tbOk 9 hA (e' := (30, .bool true) :: (29, undef) :: (28, undef) :: (27, undef) :: (26, undef) :: (25, .bool true) :: (24, .bool true) :: (23, undef) :: (22, undef) :: _) rfl ?_; clear hA; intro a hA
            refine wpList_nil ?_
            replace hA := hA.sel [0, 1, 2, 3, 30] (e' := [(0, .slice A l.length c), (1, .int .i64 t), (2, .int .i64 n), (3, .bool wr), (30, .bool true)]) rfl
            refine xt_norm ?_
            refine cd_cond_t hA rfl ?_
            refine wp_seq ?_
            refine wp_region_lit ?_
            refine st_run tbOk 3 hA (e' := (9, .iface 30 (.int .i64 13)) :: (8, .slice none 0 0) :: (31, .iface 30 (.int .i64 13)) :: _) rfl ?_; clear hA; intro a hA
            refine wpList_nil ?_
            replace hA := hA.sel [8, 9] (e' := [(8, .slice none 0 0), (9, .iface 30 (.int .i64 13))]) rfl
            refine xt_norm ?_
            refine wp_ret (xt_ret ?_)
            refine ret2 (fn := Tryd.f14) hA rfl rfl rfl ?_
            exact ⟨rfl, hS⟩)
       · first
         | (exfalso; omega)
         | (replace hA := hA.rw 19 (v' := .bool false) rfl (vb_false hc2)
            replace hA := hA.rw 20 (v' := .bool false) rfl (vb_false hc2)
            replace hA := hA.rw 21 (v' := .bool false) rfl (vb_false hc2)
            refine st_run tbOk 4 hA (e' := (25, .bool (decide (t > 1073741824))) :: (24, .bool (decide (t > 1073741824))) :: (23, .bool (decide (t > 1073741824))) :: (22, .int .i64 t) :: _) rfl ?_; clear hA; intro a hA
            by_cases hc3 : t > 1073741824
            · first
              | (exfalso; omega)
              | (replace hA := hA.rw 23 (v' := .bool true) rfl (vb_true hc3)
                 replace hA := hA.rw 24 (v' := .bool true) rfl (vb_true hc3)
                 replace hA := hA.rw 25 (v' := .bool true) rfl (vb_true hc3)
                 refine st_run tbOk 5 hA (e' := (30, .bool true) :: (29, undef) :: (28, undef) :: (27, undef) :: (26, undef) :: _) rfl ?_; clear hA; intro a hA
                 refine wpList_nil ?_
                 replace hA := hA.sel [0, 1, 2, 3, 30] (e' := [(0, .slice A l.length c), (1, .int .i64 t), (2, .int .i64 n), (3, .bool wr), (30, .bool true)]) rfl
                 refine xt_norm ?_
                 refine cd_cond_t hA rfl ?_
                 refine wp_seq ?_
                 refine wp_region_lit ?_
                 refine st_run tbOk 3 hA (e' := (9, .iface 30 (.int .i64 13)) :: (8, .slice none 0 0) :: (31, .iface 30 (.int .i64 13)) :: _) rfl ?_; clear hA; intro a hA
                 refine wpList_nil ?_
                 replace hA := hA.sel [8, 9] (e' := [(8, .slice none 0 0), (9, .iface 30 (.int .i64 13))]) rfl
                 refine xt_norm ?_
                 refine wp_ret (xt_ret ?_)
                 refine ret2 (fn := Tryd.f14) hA rfl rfl rfl ?_
                 exact ⟨rfl, hS⟩)
            · first
              | (exfalso; omega)
              | (replace hA := hA.rw 23 (v' := .bool false) rfl (vb_false hc3)
                 replace hA := hA.rw 24 (v' := .bool false) rfl (vb_false hc3)
                 replace hA := hA.rw 25 (v' := .bool false) rfl (vb_false hc3)
                 refine st_run tbOk 3 hA (e' := (28, .int .i64 (IntKind.i64.wrap (1073741824 - t))) :: (27, .int .i64 t) :: (26, .int .i64 n) :: _) rfl ?_; clear hA; intro a hA
                 replace hA := hA.rw 28 (v' := .int .i64 (1073741824 - t)) rfl (wr64 (by omega) (by omega) (by omega))
                 refine st_run tbOk 2 hA (e' := (30, .bool (decide (n > 1073741824 - t))) :: (29, .bool (decide (n > 1073741824 - t))) :: _) rfl ?_; clear hA; intro a hA
                 refine wpList_nil ?_
                 replace hA := hA.sel [0, 1, 2, 3, 30] (e' := [(0, .slice A l.length c), (1, .int .i64 t), (2, .int .i64 n), (3, .bool wr), (30, .bool (decide (n > 1073741824 - t)))]) rfl
                 refine xt_norm ?_
                 by_cases hc4 : n > 1073741824 - t
                 · first
                   | (exfalso; omega)
                   | (replace hA := hA.rw 30 (v' := .bool true) rfl (vb_true hc4)
                      refine cd_cond_t hA rfl ?_
                      refine wp_seq ?_
                      refine wp_region_lit ?_
                      refine st_run tbOk 3 hA (e' := (9, .iface 30 (.int .i64 13)) :: (8, .slice none 0 0) :: (31, .iface 30 (.int .i64 13)) :: _) rfl ?_; clear hA; intro a hA
                      refine wpList_nil ?_
                      replace hA := hA.sel [8, 9] (e' := [(8, .slice none 0 0), (9, .iface 30 (.int .i64 13))]) rfl
                      refine xt_norm ?_
                      refine wp_ret (xt_ret ?_)
                      refine ret2 (fn := Tryd.f14) hA rfl rfl rfl ?_
                      exact ⟨rfl, hS⟩)
                 · first
                   | (exfalso; omega)
                   | (replace hA := hA.rw 30 (v' := .bool false) rfl (vb_false hc4)
                      refine cd_cond_f hA rfl ?_
                      refine wp_skip ?_
                      refine xt_norm ?_
                      refine wp_seq ?_
                      exfalso; omega))))

theorem pieces_ok14 {w0 w : World} {F : List Chunk} (hS : St w0 w F) {v : Value} {l : List Area} (hr : RdS w0 F 5 v l.length (rows encArea l)) (t n : Nat) (wr : Bool) (hM : MOk l) (ht : t ≤ 1073741824) (hn : n ≤ 1073741824 - t) (hf : ∀ k, k < n → Fine l wr t k) :
    Ret Tryd.prog 14 #[v, .int .i64 ((t : Nat) : Int), .int .i64 ((n : Nat) : Int), .bool wr] w (fun v w' => ∃ v1 C, Own 44 3 v1 (pa l t n).length (rows encPiece (pa l t n)) C ∧ v = .tuple #[v1, .nilIface] ∧ St w0 w' (C :: F)) := by
  obtain ⟨A, c, rfl, hmc, hcx⟩ := (hr w hS).open'
  have hs := hM.s
  refine enter (vs := [.slice A l.length c, .int .i64 ((t : Nat) : Int), .int .i64 ((n : Nat) : Int), .bool wr]) 83 Tryd.func14 rfl rfl (by simp) ?_; intro a hA
  refine wp_seq ?_
  refine wp_region_lit ?_
  refine st_run tbOk 2 hA (e' := (9, .nilIface) :: (8, .slice none 0 0) :: _) rfl ?_; clear hA; intro a hA
  refine wpList_nil ?_
  replace hA := hA.sel [0, 1, 2, 3] (e' := [(0, .slice A l.length c), (1, .int .i64 ((t : Nat) : Int)), (2, .int .i64 ((n : Nat) : Int)), (3, .bool wr)]) rfl
  refine xt_norm ?_
  refine wp_seq ?_
  refine wp_seq ?_
  refine wp_region_lit ?_
  refine st_run tbOk 3 hA (e' := (17, .bool (decide (((n : Nat) : Int) < 0))) :: (16, .bool (decide (((n : Nat) : Int) < 0))) :: (15, .int .i64 ((n : Nat) : Int)) :: _) rfl ?_; clear hA; intro a hA
  have hc1 : ¬ (((n : Nat) : Int) < 0) := by omega
  replace hA := hA.rw 16 (v' := .bool false) rfl (vb_false hc1)
  replace hA := hA.rw 17 (v' := .bool false) rfl (vb_false hc1)
  refine st_run tbOk 4 hA (e' := (21, .bool (decide (((t : Nat) : Int) < 0))) :: (20, .bool (decide (((t : Nat) : Int) < 0))) :: (19, .bool (decide (((t : Nat) : Int) < 0))) :: (18, .int .i64 ((t : Nat) : Int)) :: _) rfl ?_; clear hA; intro a hA
  have hc2 : ¬ (((t : Nat) : Int) < 0) := by omega
  replace hA := hA.rw 19 (v' := .bool false) rfl (vb_false hc2)
  replace hA := hA.rw 20 (v' := .bool false) rfl (vb_false hc2)
  replace hA := hA.rw 21 (v' := .bool false) rfl (vb_false hc2)
  refine st_run tbOk 4 hA (e' := (25, .bool (decide (((t : Nat) : Int) > 1073741824))) :: (24, .bool (decide (((t : Nat) : Int) > 1073741824))) :: (23, .bool (decide (((t : Nat) : Int) > 1073741824))) :: (22, .int .i64 ((t : Nat) : Int)) :: _) rfl ?_; clear hA; intro a hA
  have hc3 : ¬ (((t : Nat) : Int) > 1073741824) := by omega
  replace hA := hA.rw 23 (v' := .bool false) rfl (vb_false hc3)
  replace hA := hA.rw 24 (v' := .bool false) rfl (vb_false hc3)
  replace hA := hA.rw 25 (v' := .bool false) rfl (vb_false hc3)
  refine st_run tbOk 3 hA (e' := (28, .int .i64 (IntKind.i64.wrap (1073741824 - ((t : Nat) : Int)))) :: (27, .int .i64 ((t : Nat) : Int)) :: (26, .int .i64 ((n : Nat) : Int)) :: _) rfl ?_; clear hA; intro a hA
  replace hA := hA.rw 28 (v' := .int .i64 (1073741824 - ((t : Nat) : Int))) rfl (wr64 (by omega) (by omega) (by omega))
  refine st_run tbOk 2 hA (e' := (30, .bool (decide (((n : Nat) : Int) > 1073741824 - ((t : Nat) : Int)))) :: (29, .bool (decide (((n : Nat) : Int) > 1073741824 - ((t : Nat) : Int)))) :: _) rfl ?_; clear hA; intro a hA
  refine wpList_nil ?_
  replace hA := hA.sel [0, 1, 2, 3, 30] (e' := [(0, .slice A l.length c), (1, .int .i64 ((t : Nat) : Int)), (2, .int .i64 ((n : Nat) : Int)), (3, .bool wr), (30, .bool (decide (((n : Nat) : Int) > 1073741824 - ((t : Nat) : Int))))]) rfl
  refine xt_norm ?_
  have hc4 : ¬ (((n : Nat) : Int) > 1073741824 - ((t : Nat) : Int)) := by omega
  replace hA := hA.rw 30 (v' := .bool false) rfl (vb_false hc4)
  refine cd_cond_f hA rfl ?_
  refine wp_skip ?_
  refine xt_norm ?_
  refine wp_seq ?_
  refine wp_region_lit ?_
  refine st_run tbOk 1 hA (e' := (10, .slice none 0 0) :: _) rfl ?_; clear hA; intro a hA
  refine wpList_nil ?_
  replace hA := hA.sel [0, 1, 2, 3, 10] (e' := [(0, .slice A l.length c), (1, .int .i64 ((t : Nat) : Int)), (2, .int .i64 ((n : Nat) : Int)), (3, .bool wr), (10, .slice none 0 0)]) rfl
  refine xt_norm ?_
  refine wp_seq ?_
  refine wp_seq ?_
  refine wp_region_lit ?_
  refine st_run tbOk 3 hA (e' := (34, .int .i64 (IntKind.i64.wrap (((t : Nat) : Int) + ((n : Nat) : Int)))) :: (33, .int .i64 ((n : Nat) : Int)) :: (32, .int .i64 ((t : Nat) : Int)) :: _) rfl ?_; clear hA; intro a hA
  replace hA := hA.rw 34 (v' := .int .i64 ((t + n : Nat) : Int)) rfl (wr64 (by omega) (by omega) (by omega))
  refine st_run tbOk 1 hA (e' := (11, .int .i64 ((t + n : Nat) : Int)) :: _) rfl ?_; clear hA; intro a hA
  refine wpList_nil ?_
  replace hA := hA.sel [0, 1, 3, 10, 11] (e' := [(0, .slice A l.length c), (1, .int .i64 ((t : Nat) : Int)), (3, .bool wr), (10, .slice none 0 0), (11, .int .i64 ((t + n : Nat) : Int))]) rfl
  refine xt_norm ?_
  refine wp_block ?_
  replace hS := hS.nil
  replace hA := hA.rw 1 (v' := .int .i64 ((t + 0 : Nat) : Int)) rfl (vint (by omega))
  refine wp_loop_ghost (fun m a w => ∃ (j : Nat) (Au : Option Addr) (cu : Nat) (U : Chunk), m = n - j ∧ Has a 83 [(0, .slice A l.length c), (1, .int .i64 ((t + j : Nat) : Int)), (3, .bool wr), (10, .slice Au ((pa l t j).length) cu), (11, .int .i64 ((t + n : Nat) : Int))] ∧ St w0 w (U :: F) ∧ (j ≤ n) ∧ (j = 0 ∨ j = n ∨ ∀ y ∈ l, InA y ((t + j : Nat) : Int) → ab y = ((t + j : Nat) : Int)) ∧ (Own 44 3 (.slice Au (pa l t j).length cu) (pa l t j).length (rows encPiece (pa l t j)) U)) (n - 0)
    ⟨0, none, 0, ([]), rfl, (hA.sel [0, 1, 3, 10, 11] rfl), hS, Nat.zero_le _, .inl rfl, (Own.nil 44 3)⟩ ?_
  clear hA hS; rintro m0 a w5 ⟨j, Au, cu, U, rfl, hA, hS, hj, hst, hU⟩
  refine wp_seq ?_
  refine wp_seq ?_
  refine wp_region_lit ?_
  refine st_run tbOk 3 hA (e' := (37, .bool (decide (((t + j : Nat) : Int) < ((t + n : Nat) : Int)))) :: (36, .int .i64 ((t + n : Nat) : Int)) :: (35, .int .i64 ((t + j : Nat) : Int)) :: _) rfl ?_; clear hA; intro a hA
  refine wpList_nil ?_
  replace hA := hA.sel [0, 1, 3, 10, 11, 37] (e' := [(0, .slice A l.length c), (1, .int .i64 ((t + j : Nat) : Int)), (3, .bool wr), (10, .slice Au ((pa l t j).length) cu), (11, .int .i64 ((t + n : Nat) : Int)), (37, .bool (decide (((t + j : Nat) : Int) < ((t + n : Nat) : Int))))]) rfl
  refine xt_norm ?_
  by_cases hc6 : ((t + j : Nat) : Int) < ((t + n : Nat) : Int)
  · first
    | (exfalso; omega)
    | (replace hA := hA.rw 37 (v' := .bool true) rfl (vb_true hc6)
       refine cd_cond_t hA rfl ?_
       refine wp_skip ?_
       refine xt_norm ?_
       refine wp_block ?_
       refine wp_seq ?_
       refine wp_region_lit ?_
       obtain ⟨a, hfa, haw⟩ := hf j (by omega)
       obtain ⟨a0, a1, a2, a3, a4⟩ := a
       obtain ⟨i, hi, hin, hfirst⟩ := fnd_ix hfa
       have hks := hs _ (List.mem_of_getElem? hi); dsimp only [SOk, ab, az, ag, ao] at hks
       have hin2 := hin; dsimp only [InA, ab, az] at hin2
       refine st_run tbOk 2 hA (e' := (40, .int .i64 ((t + j : Nat) : Int)) :: (39, .slice A l.length c) :: _) rfl ?_; clear hA; intro a hA
       refine st_call0 hA rfl rfl rfl isfn15 rfl rfl (by decide) (find_hit15 hS (l := l) (fun w' h => (hr _ (h.tail 1 rfl))) hM.s ((t + j : Nat) : Int) (y := (a0, a1, a2, a3, a4)) hi hin hfirst) ?_
       clear hA hS; rintro v w7 a ⟨rfl, hS⟩ hA
       refine st_run tbOk 3 hA (e' := (43, .bool true) :: (42, .agg #[.int .i64 a0, .int .i64 a1, .int .i64 a2, .int .i64 a3, .bool a4]) :: (38, .tuple #[.agg #[.int .i64 a0, .int .i64 a1, .int .i64 a2, .int .i64 a3, .bool a4], .bool true]) :: _) rfl ?_; clear hA; intro a hA
       refine st_alloc tbOk hA hS [.int .i64 0, .int .i64 0, .int .i64 0, .int .i64 0, .bool false] rfl rfl rfl rfl rfl (by decide) ?_; clear hA hS; intro b8 w9 a hS hA
       refine st_store tbOk hA hS [.int .i64 a0, .int .i64 a1, .int .i64 a2, .int .i64 a3, .bool a4] [.int .i64 a0, .int .i64 a1, .int .i64 a2, .int .i64 a3, .bool a4] rfl rfl rfl rfl rfl rfl (by simp [Value.oneCell']) (Nat.le_of_ble_eq_true rfl) rfl rfl rfl ?_; clear hS; intro w10 hS
       refine st_run tbOk 1 hA (e' := (13, .bool true) :: _) rfl ?_; clear hA; intro a hA
       refine wpList_nil ?_
       replace hA := hA.sel [0, 1, 3, 10, 11, 12, 13] (e' := [(0, .slice A l.length c), (1, .int .i64 ((t + j : Nat) : Int)), (3, .bool wr), (10, .slice Au ((pa l t j).length) cu), (11, .int .i64 ((t + n : Nat) : Int)), (12, .pointer (some ⟨b8, 0, none⟩)), (13, .bool true)]) rfl
       refine xt_norm ?_
       refine wp_seq ?_
       refine wp_block ?_
       refine wp_seq ?_
       refine wp_region_lit ?_
       refine st_run tbOk 3 hA (e' := (44, .bool false) :: (46, .bool false) :: (45, .bool true) :: _) rfl ?_; clear hA; intro a hA
       refine wpList_nil ?_
       replace hA := hA.sel [0, 1, 3, 10, 11, 12, 44] (e' := [(0, .slice A l.length c), (1, .int .i64 ((t + j : Nat) : Int)), (3, .bool wr), (10, .slice Au ((pa l t j).length) cu), (11, .int .i64 ((t + n : Nat) : Int)), (12, .pointer (some ⟨b8, 0, none⟩)), (44, .bool false)]) rfl
       refine xt_norm ?_
       refine cd_cond_f hA rfl ?_
       refine wp_seq ?_
       refine wp_region_lit ?_
       refine st_run tbOk 2 hA (e' := (50, .bool wr) :: (49, .bool wr) :: _) rfl ?_; clear hA; intro a hA
       by_cases hc11 : wr = true
       · first
         | (exfalso; omega)
         | (replace hA := hA.rw 3 (v' := .bool true) rfl (vb_t hc11)
            replace hA := hA.rw 49 (v' := .bool true) rfl (vb_t hc11)
            replace hA := hA.rw 50 (v' := .bool true) rfl (vb_t hc11)
            refine st_run tbOk 1 hA (e' := (51, .pointer (some ⟨b8, 4, none⟩)) :: _) rfl ?_; clear hA; intro a hA
            refine st_val hA rfl rfl (by decide) (rn_load tbOk hA rfl rfl rfl rfl (cell_row (hS.heapAt 0 rfl) rfl)) ?_; clear hA; intro a hA
            have hc12 : a4 = true := haw (by first | rfl | assumption)
            replace hA := hA.rw 52 (v' := .bool true) rfl (vb_t hc12)
            refine st_run tbOk 3 hA (e' := (48, .bool false) :: (54, .bool false) :: (53, .bool false) :: _) rfl ?_; clear hA; intro a hA
            refine wpList_nil ?_
            replace hA := hA.sel [0, 1, 3, 10, 11, 12, 48] (e' := [(0, .slice A l.length c), (1, .int .i64 ((t + j : Nat) : Int)), (3, .bool true), (10, .slice Au ((pa l t j).length) cu), (11, .int .i64 ((t + n : Nat) : Int)), (12, .pointer (some ⟨b8, 0, none⟩)), (48, .bool false)]) rfl
            refine xt_norm ?_
            refine cd_cond_f hA rfl ?_
            refine wp_skip ?_
            refine xb_norm ?_
            refine xt_norm ?_
            refine wp_seq ?_
            refine wp_region_lit ?_
            refine st_run tbOk 2 hA (e' := (57, .pointer (some ⟨b8, 0, none⟩)) :: (56, .int .i64 ((t + n : Nat) : Int)) :: _) rfl ?_; clear hA; intro a hA
            refine st_val hA rfl rfl (by decide) (rn_load tbOk hA rfl rfl rfl rfl (cell_row (hS.heapAt 0 rfl) rfl)) ?_; clear hA; intro a hA
            refine st_run tbOk 1 hA (e' := (59, .pointer (some ⟨b8, 1, none⟩)) :: _) rfl ?_; clear hA; intro a hA
            refine st_val hA rfl rfl (by decide) (rn_load tbOk hA rfl rfl rfl rfl (cell_row (hS.heapAt 0 rfl) rfl)) ?_; clear hA; intro a hA
            refine st_run tbOk 1 hA (e' := (61, .int .i64 (IntKind.i64.wrap (a0 + a1))) :: _) rfl ?_; clear hA; intro a hA
            replace hA := hA.rw 61 (v' := .int .i64 (a0 + a1)) rfl (wr64 (by omega) (by omega) (by omega))
            refine st_run tbOk 1 hA (e' := (62, .int .i64 (if a0 + a1 < ((t + n : Nat) : Int) then a0 + a1 else ((t + n : Nat) : Int))) :: _) rfl ?_; clear hA; intro a hA
            obtain ⟨m, hm⟩ : ∃ m : Int, m = (if a0 + a1 < ((t + n : Nat) : Int) then a0 + a1 else ((t + n : Nat) : Int)) := ⟨_, rfl⟩
            have hm2 : (m = ((t + n : Nat) : Int) ∨ m = a0 + a1) ∧ m ≤ ((t + n : Nat) : Int) ∧ m ≤ a0 + a1 := by rw [hm]; split <;> omega
            replace hA := hA.rw 62 (v' := .int .i64 m) rfl (by rw [hm])
            refine st_run tbOk 2 hA (e' := (64, .int .i64 (IntKind.i64.wrap (m - ((t + j : Nat) : Int)))) :: (63, .int .i64 ((t + j : Nat) : Int)) :: _) rfl ?_; clear hA; intro a hA
            replace hA := hA.rw 64 (v' := .int .i64 (m - ((t + j : Nat) : Int))) rfl (wr64 (by omega) (by omega) (by omega))
            refine st_run tbOk 1 hA (e' := (14, .int .i64 (m - ((t + j : Nat) : Int))) :: _) rfl ?_; clear hA; intro a hA
            refine wpList_nil ?_
            replace hA := hA.sel [0, 1, 3, 10, 11, 12, 14] (e' := [(0, .slice A l.length c), (1, .int .i64 ((t + j : Nat) : Int)), (3, .bool true), (10, .slice Au ((pa l t j).length) cu), (11, .int .i64 ((t + n : Nat) : Int)), (12, .pointer (some ⟨b8, 0, none⟩)), (14, .int .i64 (m - ((t + j : Nat) : Int)))]) rfl
            refine xt_norm ?_
            refine wp_seq ?_
            refine wp_region_lit ?_
            obtain ⟨q, hq⟩ : ∃ q : Nat, m - ((t + j : Nat) : Int) = ((q + 1 : Nat) : Int) := ⟨(m - ((t + j : Nat) : Int) - 1).toNat, by omega⟩
            replace hA := hA.rw 14 (v' := .int .i64 ((q + 1 : Nat) : Int)) rfl (by rw [hq])
            refine st_run tbOk 2 hA (e' := (66, .pointer (some ⟨b8, 2, none⟩)) :: (65, .slice Au ((pa l t j).length) cu) :: _) rfl ?_; clear hA; intro a hA
            refine st_val hA rfl rfl (by decide) (rn_load tbOk hA rfl rfl rfl rfl (cell_row (hS.heapAt 0 rfl) rfl)) ?_; clear hA; intro a hA
            refine st_run tbOk 1 hA (e' := (68, .pointer (some ⟨b8, 3, none⟩)) :: _) rfl ?_; clear hA; intro a hA
            refine st_val hA rfl rfl (by decide) (rn_load tbOk hA rfl rfl rfl rfl (cell_row (hS.heapAt 0 rfl) rfl)) ?_; clear hA; intro a hA
            refine st_run tbOk 2 hA (e' := (71, .int .i64 (IntKind.i64.wrap (a3 + ((t + j : Nat) : Int)))) :: (70, .int .i64 ((t + j : Nat) : Int)) :: _) rfl ?_; clear hA; intro a hA
            replace hA := hA.rw 71 (v' := .int .i64 (a3 + ((t + j : Nat) : Int))) rfl (wr64 (by omega) (by omega) (by omega))
            refine st_run tbOk 1 hA (e' := (72, .pointer (some ⟨b8, 0, none⟩)) :: _) rfl ?_; clear hA; intro a hA
            refine st_val hA rfl rfl (by decide) (rn_load tbOk hA rfl rfl rfl rfl (cell_row (hS.heapAt 0 rfl) rfl)) ?_; clear hA; intro a hA
            refine st_run tbOk 1 hA (e' := (74, .int .i64 (IntKind.i64.wrap ((a3 + ((t + j : Nat) : Int)) - a0))) :: _) rfl ?_; clear hA; intro a hA
            replace hA := hA.rw 74 (v' := .int .i64 ((a3 + ((t + j : Nat) : Int)) - a0)) rfl (wr64 (by omega) (by omega) (by omega))
            refine st_run tbOk 2 hA (e' := (76, .agg #[.int .i64 a2, .int .i64 ((a3 + ((t + j : Nat) : Int)) - a0), .int .i64 ((q + 1 : Nat) : Int)]) :: (75, .int .i64 ((q + 1 : Nat) : Int)) :: _) rfl ?_; clear hA; intro a hA
            refine st_buildSlice tbOk hA hS [.int .i64 a2, .int .i64 ((a3 + ((t + j : Nat) : Int)) - a0), .int .i64 ((q + 1 : Nat) : Int)] rfl rfl rfl rfl rfl (by decide) (by kernel_rfl) rfl rfl (by decide) ?_; clear hA hS; intro b13 w14 a hS hA
            replace hS := hS.front 2 (C := U) (L' := [(b13, rowO [.int .i64 a2, .int .i64 ((a3 + ((t + j : Nat) : Int)) - a0), .int .i64 ((q + 1 : Nat) : Int)] 44)] :: [(b8, rowO [.int .i64 a0, .int .i64 a1, .int .i64 a2, .int .i64 a3, .bool a4] 24)] :: F) rfl rfl
            refine st_append tbOk hA (m := (pa l t j).length) (q := 1) (xs := rows encPiece (pa l t j)) (news := rows encPiece ([(a2, (a3 + ((t + j : Nat) : Int)) - a0, ((q + 1 : Nat) : Int))] : List (Int × Int × Int))) rfl rfl rfl rfl rfl rfl rfl rfl (by decide) hU hS (((Own.full (T := 44) (size := 3) (g := b13) (m := 1) rfl (by decide)).rd (hS.own_ 1 rfl)).x) (rows_one encPiece_ok _) (maxLen_le (by first | omega | (have h9 := pa_le l t j; omega))) (by show ((pa l t j).length + 1) * 24 ≤ 140737488355328; first | omega | (have h9 := pa_le l t j; omega)) rfl rfl (by decide) ?_
            clear hA hS; intro v15 w16 C17 a hO17 hS hA
            replace hO17 := Own.app (l := pa l t j) (l2 := ([(a2, (a3 + ((t + j : Nat) : Int)) - a0, ((q + 1 : Nat) : Int))] : List (Int × Int × Int))) hO17
            obtain ⟨A18, c19, rfl, hmc19, hxc19⟩ := hO17.open'
            refine st_run tbOk 1 hA (e' := (10, .slice A18 (((pa l t j) ++ ([(a2, (a3 + ((t + j : Nat) : Int)) - a0, ((q + 1 : Nat) : Int))] : List (Int × Int × Int))).length) c19) :: _) rfl ?_; clear hA; intro a hA
            refine wpList_nil ?_
            replace hA := hA.sel [0, 1, 3, 10, 11, 14] (e' := [(0, .slice A l.length c), (1, .int .i64 ((t + j : Nat) : Int)), (3, .bool true), (10, .slice A18 (((pa l t j) ++ ([(a2, (a3 + ((t + j : Nat) : Int)) - a0, ((q + 1 : Nat) : Int))] : List (Int × Int × Int))).length) c19), (11, .int .i64 ((t + n : Nat) : Int)), (14, .int .i64 ((q + 1 : Nat) : Int))]) rfl
            refine xt_norm ?_
            refine wp_region_lit ?_
            refine st_run tbOk 3 hA (e' := (81, .int .i64 (IntKind.i64.wrap (((t + j : Nat) : Int) + ((q + 1 : Nat) : Int)))) :: (80, .int .i64 ((q + 1 : Nat) : Int)) :: (79, .int .i64 ((t + j : Nat) : Int)) :: _) rfl ?_; clear hA; intro a hA
            replace hA := hA.rw 81 (v' := .int .i64 (((t + j) + (q + 1) : Nat) : Int)) rfl (wr64 (by omega) (by omega) (by omega))
            refine st_run tbOk 1 hA (e' := (1, .int .i64 (((t + j) + (q + 1) : Nat) : Int)) :: _) rfl ?_; clear hA; intro a hA
            refine wpList_nil ?_
            replace hA := hA.sel [0, 1, 3, 10, 11] (e' := [(0, .slice A l.length c), (1, .int .i64 (((t + j) + (q + 1) : Nat) : Int)), (3, .bool true), (10, .slice A18 (((pa l t j) ++ ([(a2, (a3 + ((t + j : Nat) : Int)) - a0, ((q + 1 : Nat) : Int))] : List (Int × Int × Int))).length) c19), (11, .int .i64 ((t + n : Nat) : Int))]) rfl
            refine xb_norm ?_
            replace hA := hA.rw 1 (v' := .int .i64 ((t + (j + (q + 1)) : Nat) : Int)) rfl (vint (by omega))
            replace hA := hA.rw 3 (v' := .bool wr) rfl (congrArg Value.bool (by first | exact Eq.symm (by assumption) | exact (Bool.eq_false_iff.2 (by assumption)).symm))
            have hst2 : j = 0 ∨ ab (a0, a1, a2, a3, a4) = ((t + j : Nat) : Int) := hst.elim .inl (fun h => h.elim (fun h => absurd h (by omega)) (fun h => .inr (h _ (List.mem_of_getElem? hi) hin)))
            have hl : (pa l t j) ++ ([(a2, (a3 + ((t + j : Nat) : Int)) - a0, ((q + 1 : Nat) : Int))] : List (Int × Int × Int)) = pa l t (j + (q + 1)) := (pa_step (k := j) (a := (a0, a1, a2, a3, a4)) hst2 (by dsimp only [ab]; omega) q (fun i2 hi2 => hM.fnd hi (by dsimp only [InA, ab, az]; omega))).symm
            rw [hl] at hO17; rw [hl] at hA
            have hst3 : j + (q + 1) = 0 ∨ j + (q + 1) = n ∨ ∀ y ∈ l, InA y ((t + (j + (q + 1)) : Nat) : Int) → ab y = ((t + (j + (q + 1)) : Nat) : Int) := by
                rcases hm2.1 with h9 | h9
                · exact .inr (.inl (by omega))
                · exact .inr (.inr (hM.next hi (by dsimp only [ab, az]; omega)))
            replace hS := hS.front 1 (C := [(b13, rowO [.int .i64 a2, .int .i64 ((a3 + ((t + j : Nat) : Int)) - a0), .int .i64 ((q + 1 : Nat) : Int)] 44)]) (L' := C17 :: [(b8, rowO [.int .i64 a0, .int .i64 a1, .int .i64 a2, .int .i64 a3, .bool a4] 24)] :: F) rfl rfl
            replace hS := hS.drop1
            replace hS := hS.front 1 (C := [(b8, rowO [.int .i64 a0, .int .i64 a1, .int .i64 a2, .int .i64 a3, .bool a4] 24)]) (L' := C17 :: F) rfl rfl
            replace hS := hS.drop1
            exact lp_next _ (by omega) ⟨(j + (q + 1)), A18, c19, C17, rfl, (hA.sel [0, 1, 3, 10, 11] rfl), hS, by omega, hst3, hO17⟩)
       · first
         | (exfalso; omega)
         | (replace hA := hA.rw 3 (v' := .bool false) rfl (vb_f hc11)
            replace hA := hA.rw 49 (v' := .bool false) rfl (vb_f hc11)
            replace hA := hA.rw 50 (v' := .bool false) rfl (vb_f hc11)
            refine st_run tbOk 5 hA (e' := (48, .bool false) :: (54, .bool false) :: (53, undef) :: (52, undef) :: (51, undef) :: _) rfl ?_; clear hA; intro a hA
            refine wpList_nil ?_
            replace hA := hA.sel [0, 1, 3, 10, 11, 12, 48] (e' := [(0, .slice A l.length c), (1, .int .i64 ((t + j : Nat) : Int)), (3, .bool false), (10, .slice Au ((pa l t j).length) cu), (11, .int .i64 ((t + n : Nat) : Int)), (12, .pointer (some ⟨b8, 0, none⟩)), (48, .bool false)]) rfl
            refine xt_norm ?_
            refine cd_cond_f hA rfl ?_
            refine wp_skip ?_
            refine xb_norm ?_
            refine xt_norm ?_
            refine wp_seq ?_
            refine wp_region_lit ?_
            refine st_run tbOk 2 hA (e' := (57, .pointer (some ⟨b8, 0, none⟩)) :: (56, .int .i64 ((t + n : Nat) : Int)) :: _) rfl ?_; clear hA; intro a hA
            refine st_val hA rfl rfl (by decide) (rn_load tbOk hA rfl rfl rfl rfl (cell_row (hS.heapAt 0 rfl) rfl)) ?_; clear hA; intro a hA
            refine st_run tbOk 1 hA (e' := (59, .pointer (some ⟨b8, 1, none⟩)) :: _) rfl ?_; clear hA; intro a hA
            refine st_val hA rfl rfl (by decide) (rn_load tbOk hA rfl rfl rfl rfl (cell_row (hS.heapAt 0 rfl) rfl)) ?_; clear hA; intro a hA
            refine st_run tbOk 1 hA (e' := (61, .int .i64 (IntKind.i64.wrap (a0 + a1))) :: _) rfl ?_; clear hA; intro a hA
            replace hA := hA.rw 61 (v' := .int .i64 (a0 + a1)) rfl (wr64 (by omega) (by omega) (by omega))
            refine st_run tbOk 1 hA (e' := (62, .int .i64 (if a0 + a1 < ((t + n : Nat) : Int) then a0 + a1 else ((t + n : Nat) : Int))) :: _) rfl ?_; clear hA; intro a hA
            obtain ⟨m, hm⟩ : ∃ m : Int, m = (if a0 + a1 < ((t + n : Nat) : Int) then a0 + a1 else ((t + n : Nat) : Int)) := ⟨_, rfl⟩
            have hm2 : (m = ((t + n : Nat) : Int) ∨ m = a0 + a1) ∧ m ≤ ((t + n : Nat) : Int) ∧ m ≤ a0 + a1 := by rw [hm]; split <;> omega
            replace hA := hA.rw 62 (v' := .int .i64 m) rfl (by rw [hm])
            refine st_run tbOk 2 hA (e' := (64, .int .i64 (IntKind.i64.wrap (m - ((t + j : Nat) : Int)))) :: (63, .int .i64 ((t + j : Nat) : Int)) :: _) rfl ?_; clear hA; intro a hA
            replace hA := hA.rw 64 (v' := .int .i64 (m - ((t + j : Nat) : Int))) rfl (wr64 (by omega) (by omega) (by omega))
            refine st_run tbOk 1 hA (e' := (14, .int .i64 (m - ((t + j : Nat) : Int))) :: _) rfl ?_; clear hA; intro a hA
            refine wpList_nil ?_
            replace hA := hA.sel [0, 1, 3, 10, 11, 12, 14] (e' := [(0, .slice A l.length c), (1, .int .i64 ((t + j : Nat) : Int)), (3, .bool false), (10, .slice Au ((pa l t j).length) cu), (11, .int .i64 ((t + n : Nat) : Int)), (12, .pointer (some ⟨b8, 0, none⟩)), (14, .int .i64 (m - ((t + j : Nat) : Int)))]) rfl
            refine xt_norm ?_
            refine wp_seq ?_
            refine wp_region_lit ?_
            obtain ⟨q, hq⟩ : ∃ q : Nat, m - ((t + j : Nat) : Int) = ((q + 1 : Nat) : Int) := ⟨(m - ((t + j : Nat) : Int) - 1).toNat, by omega⟩
            replace hA := hA.rw 14 (v' := .int .i64 ((q + 1 : Nat) : Int)) rfl (by rw [hq])
            refine st_run tbOk 2 hA (e' := (66, .pointer (some ⟨b8, 2, none⟩)) :: (65, .slice Au ((pa l t j).length) cu) :: _) rfl ?_; clear hA; intro a hA
            refine st_val hA rfl rfl (by decide) (rn_load tbOk hA rfl rfl rfl rfl (cell_row (hS.heapAt 0 rfl) rfl)) ?_; clear hA; intro a hA
            refine st_run tbOk 1 hA (e' := (68, .pointer (some ⟨b8, 3, none⟩)) :: _) rfl ?_; clear hA; intro a hA
            refine st_val hA rfl rfl (by decide) (rn_load tbOk hA rfl rfl rfl rfl (cell_row (hS.heapAt 0 rfl) rfl)) ?_; clear hA; intro a hA
            refine st_run tbOk 2 hA (e' := (71, .int .i64 (IntKind.i64.wrap (a3 + ((t + j : Nat) : Int)))) :: (70, .int .i64 ((t + j : Nat) : Int)) :: _) rfl ?_; clear hA; intro a hA
            replace hA := hA.rw 71 (v' := .int .i64 (a3 + ((t + j : Nat) : Int))) rfl (wr64 (by omega) (by omega) (by omega))
            refine st_run tbOk 1 hA (e' := (72, .pointer (some ⟨b8, 0, none⟩)) :: _) rfl ?_; clear hA; intro a hA
            refine st_val hA rfl rfl (by decide) (rn_load tbOk hA rfl rfl rfl rfl (cell_row (hS.heapAt 0 rfl) rfl)) ?_; clear hA; intro a hA
            refine st_run tbOk 1 hA (e' := (74, .int .i64 (IntKind.i64.wrap ((a3 + ((t + j : Nat) : Int)) - a0))) :: _) rfl ?_; clear hA; intro a hA
            replace hA := hA.rw 74 (v' := .int .i64 ((a3 + ((t + j : Nat) : Int)) - a0)) rfl (wr64 (by omega) (by omega) (by omega))
            refine st_run tbOk 2 hA (e' := (76, .agg #[.int .i64 a2, .int .i64 ((a3 + ((t + j : Nat) : Int)) - a0), .int .i64 ((q + 1 : Nat) : Int)]) :: (75, .int .i64 ((q + 1 : Nat) : Int)) :: _) rfl ?_; clear hA; intro a hA
            refine st_buildSlice tbOk hA hS [.int .i64 a2, .int .i64 ((a3 + ((t + j : Nat) : Int)) - a0), .int .i64 ((q + 1 : Nat) : Int)] rfl rfl rfl rfl rfl (by decide) (by kernel_rfl) rfl rfl (by decide) ?_; clear hA hS; intro b20 w21 a hS hA
            replace hS := hS.front 2 (C := U) (L' := [(b20, rowO [.int .i64 a2, .int .i64 ((a3 + ((t + j : Nat) : Int)) - a0), .int .i64 ((q + 1 : Nat) : Int)] 44)] :: [(b8, rowO [.int .i64 a0, .int .i64 a1, .int .i64 a2, .int .i64 a3, .bool a4] 24)] :: F) rfl rfl
            refine st_append tbOk hA (m := (pa l t j).length) (q := 1) (xs := rows encPiece (pa l t j)) (news := rows encPiece ([(a2, (a3 + ((t + j : Nat) : Int)) - a0, ((q + 1 : Nat) : Int))] : List (Int × Int × Int))) rfl rfl rfl rfl rfl rfl rfl rfl (by decide) hU hS (((Own.full (T := 44) (size := 3) (g := b20) (m := 1) rfl (by decide)).rd (hS.own_ 1 rfl)).x) (rows_one encPiece_ok _) (maxLen_le (by first | omega | (have h9 := pa_le l t j; omega))) (by show ((pa l t j).length + 1) * 24 ≤ 140737488355328; first | omega | (have h9 := pa_le l t j; omega)) rfl rfl (by decide) ?_
            clear hA hS; intro v22 w23 C24 a hO24 hS hA
            replace hO24 := Own.app (l := pa l t j) (l2 := ([(a2, (a3 + ((t + j : Nat) : Int)) - a0, ((q + 1 : Nat) : Int))] : List (Int × Int × Int))) hO24
            obtain ⟨A25, c26, rfl, hmc26, hxc26⟩ := hO24.open'
            refine st_run tbOk 1 hA (e' := (10, .slice A25 (((pa l t j) ++ ([(a2, (a3 + ((t + j : Nat) : Int)) - a0, ((q + 1 : Nat) : Int))] : List (Int × Int × Int))).length) c26) :: _) rfl ?_; clear hA; intro a hA
            refine wpList_nil ?_
            replace hA := hA.sel [0, 1, 3, 10, 11, 14] (e' := [(0, .slice A l.length c), (1, .int .i64 ((t + j : Nat) : Int)), (3, .bool false), (10, .slice A25 (((pa l t j) ++ ([(a2, (a3 + ((t + j : Nat) : Int)) - a0, ((q + 1 : Nat) : Int))] : List (Int × Int × Int))).length) c26), (11, .int .i64 ((t + n : Nat) : Int)), (14, .int .i64 ((q + 1 : Nat) : Int))]) rfl
            refine xt_norm ?_
            refine wp_region_lit ?_
            refine st_run tbOk 3 hA (e' := (81, .int .i64 (IntKind.i64.wrap (((t + j : Nat) : Int) + ((q + 1 : Nat) : Int)))) :: (80, .int .i64 ((q + 1 : Nat) : Int)) :: (79, .int .i64 ((t + j : Nat) : Int)) :: _) rfl ?_; clear hA; intro a hA
            replace hA := hA.rw 81 (v' := .int .i64 (((t + j) + (q + 1) : Nat) : Int)) rfl (wr64 (by omega) (by omega) (by omega))
            refine st_run tbOk 1 hA (e' := (1, .int .i64 (((t + j) + (q + 1) : Nat) : Int)) :: _) rfl ?_; clear hA; intro a hA
            refine wpList_nil ?_
            replace hA := hA.sel [0, 1, 3, 10, 11] (e' := [(0, .slice A l.length c), (1, .int .i64 (((t + j) + (q + 1) : Nat) : Int)), (3, .bool false), (10, .slice A25 (((pa l t j) ++ ([(a2, (a3 + ((t + j : Nat) : Int)) - a0, ((q + 1 : Nat) : Int))] : List (Int × Int × Int))).length) c26), (11, .int .i64 ((t + n : Nat) : Int))]) rfl
            refine xb_norm ?_
            replace hA := hA.rw 1 (v' := .int .i64 ((t + (j + (q + 1)) : Nat) : Int)) rfl (vint (by omega))
            replace hA := hA.rw 3 (v' := .bool wr) rfl (congrArg Value.bool (by first | exact Eq.symm (by assumption) | exact (Bool.eq_false_iff.2 (by assumption)).symm))
            have hst2 : j = 0 ∨ ab (a0, a1, a2, a3, a4) = ((t + j : Nat) : Int) := hst.elim .inl (fun h => h.elim (fun h => absurd h (by omega)) (fun h => .inr (h _ (List.mem_of_getElem? hi) hin)))
            have hl : (pa l t j) ++ ([(a2, (a3 + ((t + j : Nat) : Int)) - a0, ((q + 1 : Nat) : Int))] : List (Int × Int × Int)) = pa l t (j + (q + 1)) := (pa_step (k := j) (a := (a0, a1, a2, a3, a4)) hst2 (by dsimp only [ab]; omega) q (fun i2 hi2 => hM.fnd hi (by dsimp only [InA, ab, az]; omega))).symm
            rw [hl] at hO24; rw [hl] at hA
            have hst3 : j + (q + 1) = 0 ∨ j + (q + 1) = n ∨ ∀ y ∈ l, InA y ((t + (j + (q + 1)) : Nat) : Int) → ab y = ((t + (j + (q + 1)) : Nat) : Int) := by
                rcases hm2.1 with h9 | h9
                · exact .inr (.inl (by omega))
                · exact .inr (.inr (hM.next hi (by dsimp only [ab, az]; omega)))
            replace hS := hS.front 1 (C := [(b20, rowO [.int .i64 a2, .int .i64 ((a3 + ((t + j : Nat) : Int)) - a0), .int .i64 ((q + 1 : Nat) : Int)] 44)]) (L' := C24 :: [(b8, rowO [.int .i64 a0, .int .i64 a1, .int .i64 a2, .int .i64 a3, .bool a4] 24)] :: F) rfl rfl
            replace hS := hS.drop1
            replace hS := hS.front 1 (C := [(b8, rowO [.int .i64 a0, .int .i64 a1, .int .i64 a2, .int .i64 a3, .bool a4] 24)]) (L' := C24 :: F) rfl rfl
            replace hS := hS.drop1
            exact lp_next _ (by omega) ⟨(j + (q + 1)), A25, c26, C24, rfl, (hA.sel [0, 1, 3, 10, 11] rfl), hS, by omega, hst3, hO24⟩))
  · first
    | (exfalso; omega)
    | (replace hA := hA.rw 37 (v' := .bool false) rfl (vb_false hc6)
       refine cd_cond_f hA rfl ?_
       refine wp_exit ?_
       refine xt_exit ?_
       refine xt_exit ?_
       refine cd_exit_eq ?_
       refine xt_norm ?_
       refine wp_seq ?_
       refine wp_region_lit ?_
       refine st_run tbOk 3 hA (e' := (9, .nilIface) :: (8, .slice Au ((pa l t j).length) cu) :: (82, .slice Au ((pa l t j).length) cu) :: _) rfl ?_; clear hA; intro a hA
       refine wpList_nil ?_
       replace hA := hA.sel [8, 9] (e' := [(8, .slice Au ((pa l t j).length) cu), (9, .nilIface)]) rfl
       refine xt_norm ?_
       refine wp_ret ?_
       refine ret2 (fn := Tryd.f14) hA rfl rfl rfl ?_
       have hjn : j = n := by omega
       subst hjn
       exact ⟨_, _, hU, rfl, hS⟩)

end Go.Proofs.YtplhgbfibiinaaaDoor
