import Derived.Test.YtbfdppfddlilgaaJ
set_option linter.unusedVariables false
set_option linter.unusedSimpArgs false
set_option maxRecDepth 4000
namespace Go.Proofs.Ytbfdppfddlilgaa
open Go Go.SK
theorem nP_many {l : List UInt8} {s : Nat} (hs : 1 ≤ s) (h : 256 < nP l s) : 256 * s < l.length := by
  have h1 : 257 ≤ (l.length + s - 1) / s := by unfold nP at h; omega
  have h2 := Nat.div_add_mod (l.length + s - 1) s
  have h4 : 257 * s ≤ (l.length + s - 1) / s * s := Nat.mul_le_mul_right s h1
  rw [Nat.mul_comm] at h2
  omega
theorem piece_pos {l : List UInt8} {s i : Nat} (hs : 1 ≤ s) (hn : 1 < nP l s) (hi : i < nP l s) : 0 < (piece l s i).length := by
  have h5 : (i + 1) * s = i * s + s := Nat.succ_mul i s
  rw [piece_len]
  cases i with
  | zero => have := nP_low (i := 0) hs (by omega); rw [Nat.zero_mul] at *; omega
  | succ j => have := nP_low (i := j) hs hi; omega

def hv (n : Nat) (f : Nat → Bool) : List Bool := (List.range n).map f
def dv (n : Nat) (f : Nat → Bool) (pc : Nat → List UInt8) : List (List UInt8) := (List.range n).map (fun i => if f i = true then pc i else [])
def up (f : Nat → Bool) (k : Nat) : Nat → Bool := fun i => i == k || f i
theorem up_at (f : Nat → Bool) (k : Nat) : up f k k = true := by simp [up]
theorem up_ne {f : Nat → Bool} {k i : Nat} (h : ¬ i = k) : up f k i = f i := by simp [up, h]
theorem hv_len (n : Nat) (f : Nat → Bool) : (hv n f).length = n := by simp [hv]
theorem dv_len (n : Nat) (f : Nat → Bool) (pc : Nat → List UInt8) : (dv n f pc).length = n := by simp [dv]
theorem map_range_get {α : Type} (n : Nat) (g : Nat → α) (i : Nat) : ((List.range n).map g)[i]? = if i < n then some (g i) else none := by
  rw [List.getElem?_map]
  by_cases h : i < n
  · rw [List.getElem?_range h, if_pos h]; rfl
  · rw [List.getElem?_eq_none (by simpa using h), if_neg h]; rfl
theorem hv_get {n : Nat} {f : Nat → Bool} {i : Nat} (h : i < n) : (hv n f)[i]? = some (f i) := by rw [hv, map_range_get, if_pos h]
theorem hv_set {n : Nat} {f : Nat → Bool} {k : Nat} (h : k < n) : (hv n f).set k true = hv n (up f k) := by
  apply List.ext_getElem?
  intro i
  by_cases e : k = i
  · subst e
    rw [List.getElem?_set_self (by rw [hv_len]; exact h), hv_get h, up_at]
  · rw [List.getElem?_set_ne e, hv, hv, map_range_get, map_range_get, up_ne (fun h => e h.symm)]
theorem dv_set {n : Nat} {f : Nat → Bool} {pc : Nat → List UInt8} {k : Nat} (h : k < n) : (dv n f pc).set k (pc k) = dv n (up f k) pc := by
  apply List.ext_getElem?
  intro i
  by_cases e : k = i
  · subst e
    rw [List.getElem?_set_self (by rw [dv_len]; exact h), dv, map_range_get, if_pos h, up_at]; rfl
  · rw [List.getElem?_set_ne e, dv, dv, map_range_get, map_range_get, up_ne (fun h => e h.symm)]
theorem hv_none {n : Nat} {f : Nat → Bool} (h : ∀ i, f i = false) : hv n f = List.replicate n false := by
  apply List.ext_getElem?
  intro i
  rw [hv, map_range_get, List.getElem?_replicate, h]
theorem dv_none {n : Nat} {f : Nat → Bool} {pc : Nat → List UInt8} (h : ∀ i, f i = false) : dv n f pc = List.replicate n [] := by
  apply List.ext_getElem?
  intro i
  rw [dv, map_range_get, List.getElem?_replicate, h]; rfl
theorem hv_any {n : Nat} {f : Nat → Bool} {i : Nat} (hi : i < n) (h : f i = false) : (hv n f).any (fun y => y == false) = true := by
  rw [List.any_eq_true]
  exact ⟨false, List.mem_map.2 ⟨i, List.mem_range.2 hi, h⟩, rfl⟩
theorem hv_all {n : Nat} {f : Nat → Bool} (h : ∀ i, i < n → f i = true) : (hv n f).any (fun y => y == false) = false := by
  rw [List.any_eq_false]
  intro y hy
  obtain ⟨i, hi, rfl⟩ := List.mem_map.1 hy
  rw [h i (List.mem_range.1 hi)]; decide
theorem dv_all {n : Nat} {f : Nat → Bool} {pc : Nat → List UInt8} (h : ∀ i, i < n → f i = true) : dv n f pc = (List.range n).map pc := by
  apply List.ext_getElem?
  intro i
  rw [dv, map_range_get, map_range_get]
  by_cases hi : i < n
  · rw [if_pos hi, if_pos hi, h i hi]; rfl
  · rw [if_neg hi, if_neg hi]
theorem flat_pieces (l : List UInt8) (s : Nat) : ∀ k, ((List.range k).map (piece l s)).flatten = l.take (k * s)
  | 0 => by simp
  | k + 1 => by rw [List.range_succ, List.map_append, List.flatten_append, flat_pieces l s k, ← take_piece]; simp
theorem flat_all {l : List UInt8} {s : Nat} (hs : 1 ≤ s) {f : Nat → Bool} (h : ∀ i, i < nP l s → f i = true) : (dv (nP l s) f (piece l s)).flatten = l := by
  rw [dv_all h, flat_pieces, List.take_of_length_le (nP_up hs)]
def cnt : Nat → (Nat → Bool) → Nat
  | 0, _ => 0
  | n + 1, f => cnt n f + (if f n = true then 0 else 1)
theorem cnt_le (f : Nat → Bool) : ∀ n, cnt n f ≤ n
  | 0 => Nat.le_refl _
  | n + 1 => by have := cnt_le f n; rw [cnt]; split <;> omega
theorem cnt_same {f : Nat → Bool} {k : Nat} : ∀ n, n ≤ k → cnt n (up f k) = cnt n f
  | 0, _ => rfl
  | n + 1, h => by rw [cnt, cnt, cnt_same n (by omega), up_ne (by omega)]
theorem cnt_up {f : Nat → Bool} {k : Nat} (hf : f k = false) : ∀ n, k < n → cnt n (up f k) + 1 = cnt n f
  | 0, h => by omega
  | n + 1, h => by
    rw [cnt, cnt]
    rcases Nat.lt_succ_iff_lt_or_eq.1 h with h | rfl
    · have := cnt_up hf n h
      rw [up_ne (by omega)]; omega
    · rw [cnt_same k (Nat.le_refl _), up_at, hf]; simp
theorem cnt_ex {f : Nat → Bool} : ∀ n, 1 ≤ cnt n f → ∃ i, i < n ∧ f i = false
  | 0, h => by simp [cnt] at h
  | n + 1, h => by
    cases hf : f n with
    | false => exact ⟨n, by omega, hf⟩
    | true =>
      rw [cnt, hf] at h
      obtain ⟨i, hi, h2⟩ := cnt_ex n (by simpa using h)
      exact ⟨i, by omega, h2⟩
theorem cnt_zero {f : Nat → Bool} : ∀ n, cnt n f = 0 → ∀ i, i < n → f i = true
  | 0, _, i, hi => by omega
  | n + 1, h, i, hi => by
    rw [cnt] at h
    have hfn : f n = true := by
      cases hf : f n with
      | true => rfl
      | false => rw [hf] at h; simp at h
    rcases Nat.lt_succ_iff_lt_or_eq.1 hi with hi | rfl
    · exact cnt_zero n (by omega) i hi
    · exact hfn
theorem cnt_full {f : Nat → Bool} (h : ∀ i, f i = false) : ∀ n, cnt n f = n
  | 0 => rfl
  | n + 1 => by rw [cnt, cnt_full h n, h]; simp
/-- What a gather holds of one message, of which the numbers in f have come. -/
def GV1 (fr to id : Int) (n : Nat) (f : Nat → Bool) (pc : Nat → List UInt8) : GV := (fr, to, id, hv n f, dv n f pc)
def One (vs : List GV) (fr to id : Int) (n : Nat) (f : Nat → Bool) (pc : Nat → List UInt8) : Prop := (vs = [] ∧ ∀ i, f i = false) ∨ vs = [GV1 fr to id n f pc]
theorem One.new {fr to id : Int} {n k : Nat} {f : Nat → Bool} {pc : Nat → List UInt8} (h : ∀ i, f i = false) (hk : k < n) : ([] : List GV) ++ [(fr, to, id, (List.replicate n false).set k true, (List.replicate n []).set k (pc k))] = [GV1 fr to id n (up f k) pc] := by
  rw [← hv_none (n := n) h, ← dv_none (n := n) (pc := pc) h, hv_set hk, dv_set hk]; rfl
theorem One.put {fr to id : Int} {n k : Nat} {f : Nat → Bool} {pc : Nat → List UInt8} (hk : k < n) : [GV1 fr to id n f pc].set 0 (fr, to, id, (hv n f).set k true, (dv n f pc).set k (pc k)) = [GV1 fr to id n (up f k) pc] := by
  rw [hv_set hk, dv_set hk]; rfl
theorem one_key {fr to id : Int} {vs : List GV} : ∀ (i : Nat) (z : GV), i < 0 → vs[i]? = some z → ¬ vkey fr to id z := fun i z h => absurd h (by omega)
theorem nil_key {fr to id : Int} : ∀ (i : Nat) (z : GV), ([] : List GV)[i]? = some z → ¬ vkey fr to id z := fun i z h => by simp at h
theorem up_more {f : Nat → Bool} {n k : Nat} (hf : f k = false) (hk : k < n) (h : 2 ≤ cnt n f) : ∃ i, i < n ∧ up f k i = false := cnt_ex n (by have := cnt_up hf n hk; omega)
theorem up_last {f : Nat → Bool} {n k : Nat} (hf : f k = false) (hk : k < n) (h : cnt n f = 1) : ∀ i, i < n → up f k i = true := cnt_zero n (by have := cnt_up hf n hk; omega)
theorem any_new {n k : Nat} {f : Nat → Bool} (h : ∀ i, f i = false) (hk : k < n) (he : ∃ i, i < n ∧ up f k i = false) : ((List.replicate n false).set k true).any (fun y => y == false) = true := by
  obtain ⟨i, h1, h2⟩ := he
  rw [← hv_none (n := n) h, hv_set hk]; exact hv_any h1 h2
theorem any_put {n k : Nat} {f : Nat → Bool} (hk : k < n) (he : ∃ i, i < n ∧ up f k i = false) : ((hv n f).set k true).any (fun y => y == false) = true := by
  obtain ⟨i, h1, h2⟩ := he
  rw [hv_set hk]; exact hv_any h1 h2
theorem all_new {n k : Nat} {f : Nat → Bool} (h : ∀ i, f i = false) (hk : k < n) (he : ∀ i, i < n → up f k i = true) : ((List.replicate n false).set k true).any (fun y => y == false) = false := by
  rw [← hv_none (n := n) h, hv_set hk]; exact hv_all he
theorem all_put {n k : Nat} {f : Nat → Bool} (hk : k < n) (he : ∀ i, i < n → up f k i = true) : ((hv n f).set k true).any (fun y => y == false) = false := by
  rw [hv_set hk]; exact hv_all he
theorem out_new {l : List UInt8} {s k : Nat} {f : Nat → Bool} (hs : 1 ≤ s) (h : ∀ i, f i = false) (hk : k < nP l s) (he : ∀ i, i < nP l s → up f k i = true) : ((List.replicate (nP l s) []).set k (piece l s k)).flatten = l := by
  rw [← dv_none (n := nP l s) (pc := piece l s) h, dv_set hk]; exact flat_all hs he
theorem out_put {l : List UInt8} {s k : Nat} {f : Nat → Bool} (hs : 1 ≤ s) (hk : k < nP l s) (he : ∀ i, i < nP l s → up f k i = true) : ((dv (nP l s) f (piece l s)).set k (piece l s k)).flatten = l := by
  rw [dv_set hk]; exact flat_all hs he
def upto (f : Nat → Bool) (j : Nat) : Nat → Bool := fun i => f i || decide (i < j)
theorem upto_zero (f : Nat → Bool) : upto f 0 = f := by funext i; simp [upto]
theorem upto_up {f : Nat → Bool} {j : Nat} : up (upto f j) j = upto f (j + 1) := by
  funext i; simp only [up, upto]
  by_cases h : i = j
  · subst h; simp
  · rw [show (i == j) = false by simpa using h, Bool.false_or, show decide (i < j + 1) = decide (i < j) by rw [decide_eq_decide]; omega]
theorem upto_skip {f : Nat → Bool} {j : Nat} (h : f j = true) : upto f (j + 1) = upto f j := by
  funext i; simp only [upto]
  by_cases h2 : i = j
  · subst h2; simp [h]
  · rw [show decide (i < j + 1) = decide (i < j) by rw [decide_eq_decide]; omega]
theorem upto_at {f : Nat → Bool} {j : Nat} (h : f j = false) : upto f j j = false := by simp [upto, h]
theorem upto_all (f : Nat → Bool) (n : Nat) : ∀ i, i < n → upto f n i = true := fun i h => by simp [upto, h]
theorem ord4 {vs : List GV} {fr to id : Int} {n : Nat} {f : Nat → Bool} {pc : Nat → List UInt8} (h : One vs fr to id n f pc) (lf k : Nat) : (f k = true ∧ vs = [GV1 fr to id n f pc]) ∨ (f k = false ∧ lf = 1) ∨ (f k = false ∧ ¬ lf = 1 ∧ vs = [] ∧ ∀ i, f i = false) ∨ (f k = false ∧ ¬ lf = 1 ∧ vs = [GV1 fr to id n f pc]) := by
  cases hf : f k with
  | true => rcases h with ⟨_, h⟩ | h
            · rw [h k] at hf; cases hf
            · exact .inl ⟨rfl, h⟩
  | false =>
    by_cases h1 : lf = 1
    · exact .inr (.inl ⟨rfl, h1⟩)
    · rcases h with ⟨h2, h3⟩ | h2
      · exact .inr (.inr (.inl ⟨rfl, h1, h2, h3⟩))
      · exact .inr (.inr (.inr ⟨rfl, h1, h2⟩))
def Two (vs : List GV) (fr to id : Int) (n : Nat) (f : Nat → Bool) (pc : Nat → List UInt8) : Prop := (vs = [] ∧ ∀ i, f i = false) ∨ (vs = [GV1 fr to id n f pc] ∧ ∃ i, i < n ∧ f i = false) ∨ (vs = [] ∧ ∀ i, i < n → f i = true)
theorem ord5 {vs : List GV} {fr to id : Int} {n : Nat} {f : Nat → Bool} {pc : Nat → List UInt8} (h : Two vs fr to id n f pc) {k : Nat} (hk : k < n) (hf : f k = false) : (vs = [] ∧ (∀ i, f i = false) ∧ 2 ≤ cnt n f) ∨ (vs = [] ∧ (∀ i, f i = false) ∧ cnt n f = 1) ∨ (vs = [GV1 fr to id n f pc] ∧ 2 ≤ cnt n f) ∨ (vs = [GV1 fr to id n f pc] ∧ cnt n f = 1) := by
  have hc := cnt_up hf n hk
  rcases h with ⟨h1, h2⟩ | ⟨h1, _⟩ | ⟨_, h2⟩
  · rcases Nat.lt_or_ge 1 (cnt n f) with h3 | h3
    · exact .inl ⟨h1, h2, h3⟩
    · exact .inr (.inl ⟨h1, h2, by omega⟩)
  · rcases Nat.lt_or_ge 1 (cnt n f) with h3 | h3
    · exact .inr (.inr (.inl ⟨h1, h3⟩))
    · exact .inr (.inr (.inr ⟨h1, by omega⟩))
  · rw [h2 k hk] at hf; cases hf

def f00 : Nat → Bool := fun _ => false
def PV (fr to id : Int) (l : List UInt8) (s i : Nat) : GV := GV1 fr to id (nP l s) (upto f00 i) (piece l s)
def mid (n i : Nat) : Prop := 0 < i ∧ i < n
def outm (n i : Nat) : Prop := i = 0 ∨ i = n
def ST (p q : Nat → GV) (n m i j : Nat) (vs : List GV) : Prop := (vs = [] ∧ outm n i ∧ outm m j) ∨ (vs = [p i] ∧ mid n i ∧ outm m j) ∨ (vs = [q j] ∧ outm n i ∧ mid m j) ∨ (vs = [p i, q j] ∧ mid n i ∧ mid m j) ∨ (vs = [q j, p i] ∧ mid n i ∧ mid m j)
theorem ST.swap {p q : Nat → GV} {n m i j : Nat} {vs : List GV} (h : ST p q n m i j vs) : ST q p m n j i vs := by
  rcases h with ⟨h1, h2, h3⟩ | ⟨h1, h2, h3⟩ | ⟨h1, h2, h3⟩ | ⟨h1, h2, h3⟩ | ⟨h1, h2, h3⟩
  · exact .inl ⟨h1, h3, h2⟩
  · exact .inr (.inr (.inl ⟨h1, h3, h2⟩))
  · exact .inr (.inl ⟨h1, h3, h2⟩)
  · exact .inr (.inr (.inr (.inr ⟨h1, h3, h2⟩)))
  · exact .inr (.inr (.inr (.inl ⟨h1, h3, h2⟩)))
theorem ST.done {p q : Nat → GV} {n m : Nat} {vs : List GV} (h : ST p q n m n m vs) : vs = [] := by
  rcases h with ⟨h1, h2, h3⟩ | ⟨h1, h2, h3⟩ | ⟨h1, h2, h3⟩ | ⟨h1, h2, h3⟩ | ⟨h1, h2, h3⟩
  · exact h1
  all_goals unfold mid at *; omega
theorem key1 {fr to id : Int} {x y : GV} (h : ¬ vkey fr to id x) : ∀ (i : Nat) (z : GV), i < 1 → [x, y][i]? = some z → ¬ vkey fr to id z := fun i z hi h9 => by
  obtain rfl : i = 0 := by omega
  have h8 : z = x := (Option.some.inj h9).symm
  rw [h8]; exact h
def AP (w0 : World) (F : List Chunk) (b : Nat) (D : Chunk) (l : List UInt8) (p q : Nat → GV) (n m i j : Nat) (v : Value) (w' : World) : Prop := ∃ vs' L' E, ST p q n m (i + 1) j vs' ∧ GS w0 b vs' L' (E ++ D) ∧ ((i + 1 < n ∧ v = .tuple #[.slice none 0 0, .bool false] ∧ St w0 w' (L' :: (E ++ D) :: F)) ∨ (i + 1 = n ∧ ∃ C v1, Own 5 1 v1 l.length (rows encB l) C ∧ v = .tuple #[v1, .bool true] ∧ St w0 w' (L' :: (E ++ D) :: C :: F)))
theorem addST {w0 w : World} {F : List Chunk} {L D : Chunk} {b : Nat} {vs : List GV} {l l2 : List UInt8} {s i j m : Nat} {id id2 : Int} (hS : St w0 w (L :: D :: F)) (hM : GS w0 b vs L D) (hid : ¬ id = id2) (hst : ST (PV 0 1 id l s) (PV 0 1 id2 l2 s) (nP l s) m i j vs) {d : Value} (hd : RdSX w0 (D :: F) 1 d (piece l s i).length (rows encB (piece l s i))) (h1 : i < nP l s) (h2 : nP l s ≤ 256) (hs : 1 ≤ s) (hs2 : s ≤ 32768) :
    Ret Try.prog 9 #[.pointer (some ⟨b, 0, none⟩), .agg #[.int .i64 0, .int .i64 1, .int .u64 id, .int .i64 ((i : Nat) : Int), .int .i64 ((nP l s : Nat) : Int), d]] w (AP w0 F b D l (PV 0 1 id l s) (PV 0 1 id2 l2 s) (nP l s) m i j) := by
  have h3 : (piece l s i).length ≤ 32768 := Nat.le_trans (piece_le l s i) hs2
  have hff : upto f00 i i = false := upto_at rfl
  have e1 : up (upto f00 i) i = upto f00 (i + 1) := upto_up
  have hlen : (hv (nP l s) (upto f00 i)).length = nP l s := hv_len _ _
  have hF : (hv (nP l s) (upto f00 i))[i]? = some false := by rw [hv_get h1, hff]
  have hV : ((0, 1, id, (hv (nP l s) (upto f00 i)).set i true, (dv (nP l s) (upto f00 i) (piece l s)).set i (piece l s i)) : GV) = PV 0 1 id l s (i + 1) := by
    rw [hv_set h1, dv_set h1, e1]; rfl
  have hmore : i + 1 < nP l s → ((hv (nP l s) (upto f00 i)).set i true).any (fun y => y == false) = true := fun h => by
    rw [hv_set h1, e1]; exact hv_any h (by simp [upto, f00])
  have hlast : i + 1 = nP l s → ((hv (nP l s) (upto f00 i)).set i true).any (fun y => y == false) = false := fun h => by
    rw [hv_set h1, e1, h]; exact hv_all (upto_all _ _)
  have hout : i + 1 = nP l s → ((dv (nP l s) (upto f00 i) (piece l s)).set i (piece l s i)).flatten = l := fun h => by
    rw [dv_set h1, e1, h]; exact flat_all hs (upto_all _ _)
  have hz : i = 0 → hv (nP l s) (upto f00 i) = List.replicate (nP l s) false ∧ dv (nP l s) (upto f00 i) (piece l s) = List.replicate (nP l s) [] := fun h => by
    subst h; rw [upto_zero]; exact ⟨hv_none (fun _ => rfl), dv_none (fun _ => rfl)⟩
  have kq : ¬ vkey 0 1 id (PV 0 1 id2 l2 s j) := fun h => hid h.2.2.symm
  rcases hst with ⟨rfl, g1, g2⟩ | ⟨rfl, g1, g2⟩ | ⟨rfl, g1, g2⟩ | ⟨rfl, g1, g2⟩ | ⟨rfl, g1, g2⟩
  · have h0 : i = 0 := by unfold outm at g1; omega
    rcases Nat.lt_or_ge (i + 1) (nP l s) with hn | hn
    · exact Calls.mono (add_new_put9 hS hM 0 1 id i (nP l s) hd h1 h2 h3 nil_key (Nat.le_of_ble_eq_true rfl) (by have h9 := hmore hn; rw [(hz h0).1] at h9; exact h9)) fun e w' ⟨v, hev, L', E, hM', hv', hS'⟩ => ⟨v, hev, _, L', E, .inr (.inl ⟨rfl, ⟨by omega, by omega⟩, g2⟩), (by rw [← (hz h0).1, ← (hz h0).2, hV] at hM'; exact hM'), .inl ⟨hn, hv', hS'⟩⟩
    · have hn : i + 1 = nP l s := by omega
      exact Calls.mono (add_new_full9 hS hM 0 1 id i (nP l s) hd h1 h2 h3 nil_key (Nat.le_of_ble_eq_true rfl) (by have h9 := hlast hn; rw [(hz h0).1] at h9; exact h9)) fun e w' ⟨v, hev, L', E, C, v1, hM', hO', hv', hS'⟩ => ⟨v, hev, _, L', E, .inl ⟨rfl, .inr hn, g2⟩, hM', .inr ⟨hn, C, v1, (by rw [← (hz h0).2, hout hn] at hO'; exact hO'), hv', hS'⟩⟩
  · unfold mid at g1
    rcases Nat.lt_or_ge (i + 1) (nP l s) with hn | hn
    · exact Calls.mono (add_hit_put9 hS hM 0 1 id i (nP l s) hd h1 h2 h3 (k := 0) (has := hv (nP l s) (upto f00 i)) (dat := dv (nP l s) (upto f00 i) (piece l s)) rfl (fun i z h => absurd h (by omega)) hlen hF (hmore hn)) fun e w' ⟨v, hev, L', E, hM', hv', hS'⟩ => ⟨v, hev, _, L', E, .inr (.inl ⟨rfl, ⟨by omega, by omega⟩, g2⟩), (by rw [hV] at hM'; exact hM'), .inl ⟨hn, hv', hS'⟩⟩
    · have hn : i + 1 = nP l s := by omega
      exact Calls.mono (add_hit_full9 hS hM 0 1 id i (nP l s) hd h1 h2 h3 (k := 0) (has := hv (nP l s) (upto f00 i)) (dat := dv (nP l s) (upto f00 i) (piece l s)) rfl (fun i z h => absurd h (by omega)) hlen hF (hlast hn)) fun e w' ⟨v, hev, L', E, C, v1, hM', hO', hv', hS'⟩ => ⟨v, hev, _, L', E, .inl ⟨rfl, .inr hn, g2⟩, hM', .inr ⟨hn, C, v1, (by rw [hout hn] at hO'; exact hO'), hv', hS'⟩⟩
  · have h0 : i = 0 := by unfold outm at g1; omega
    rcases Nat.lt_or_ge (i + 1) (nP l s) with hn | hn
    · exact Calls.mono (add_new_put9 hS hM 0 1 id i (nP l s) hd h1 h2 h3 (fun i z h => by have h9 := List.mem_of_getElem? h; rw [List.mem_singleton.1 h9]; exact kq) (Nat.le_of_ble_eq_true rfl) (by have h9 := hmore hn; rw [(hz h0).1] at h9; exact h9)) fun e w' ⟨v, hev, L', E, hM', hv', hS'⟩ => ⟨v, hev, _, L', E, .inr (.inr (.inr (.inr ⟨rfl, ⟨by omega, by omega⟩, g2⟩))), (by rw [← (hz h0).1, ← (hz h0).2, hV] at hM'; exact hM'), .inl ⟨hn, hv', hS'⟩⟩
    · have hn : i + 1 = nP l s := by omega
      exact Calls.mono (add_new_full9 hS hM 0 1 id i (nP l s) hd h1 h2 h3 (fun i z h => by have h9 := List.mem_of_getElem? h; rw [List.mem_singleton.1 h9]; exact kq) (Nat.le_of_ble_eq_true rfl) (by have h9 := hlast hn; rw [(hz h0).1] at h9; exact h9)) fun e w' ⟨v, hev, L', E, C, v1, hM', hO', hv', hS'⟩ => ⟨v, hev, _, L', E, .inr (.inr (.inl ⟨rfl, .inr hn, g2⟩)), hM', .inr ⟨hn, C, v1, (by rw [← (hz h0).2, hout hn] at hO'; exact hO'), hv', hS'⟩⟩
  · unfold mid at g1
    rcases Nat.lt_or_ge (i + 1) (nP l s) with hn | hn
    · exact Calls.mono (add_hit_put9 hS hM 0 1 id i (nP l s) hd h1 h2 h3 (k := 0) (has := hv (nP l s) (upto f00 i)) (dat := dv (nP l s) (upto f00 i) (piece l s)) rfl (fun i z h => absurd h (by omega)) hlen hF (hmore hn)) fun e w' ⟨v, hev, L', E, hM', hv', hS'⟩ => ⟨v, hev, _, L', E, .inr (.inr (.inr (.inl ⟨rfl, ⟨by omega, by omega⟩, g2⟩))), (by rw [hV] at hM'; exact hM'), .inl ⟨hn, hv', hS'⟩⟩
    · have hn : i + 1 = nP l s := by omega
      exact Calls.mono (add_hit_full9 hS hM 0 1 id i (nP l s) hd h1 h2 h3 (k := 0) (has := hv (nP l s) (upto f00 i)) (dat := dv (nP l s) (upto f00 i) (piece l s)) rfl (fun i z h => absurd h (by omega)) hlen hF (hlast hn)) fun e w' ⟨v, hev, L', E, C, v1, hM', hO', hv', hS'⟩ => ⟨v, hev, _, L', E, .inr (.inr (.inl ⟨rfl, .inr hn, g2⟩)), hM', .inr ⟨hn, C, v1, (by rw [hout hn] at hO'; exact hO'), hv', hS'⟩⟩
  · unfold mid at g1
    rcases Nat.lt_or_ge (i + 1) (nP l s) with hn | hn
    · exact Calls.mono (add_hit_put9 hS hM 0 1 id i (nP l s) hd h1 h2 h3 (k := 1) (has := hv (nP l s) (upto f00 i)) (dat := dv (nP l s) (upto f00 i) (piece l s)) rfl (key1 kq) hlen hF (hmore hn)) fun e w' ⟨v, hev, L', E, hM', hv', hS'⟩ => ⟨v, hev, _, L', E, .inr (.inr (.inr (.inr ⟨rfl, ⟨by omega, by omega⟩, g2⟩))), (by rw [hV] at hM'; exact hM'), .inl ⟨hn, hv', hS'⟩⟩
    · have hn : i + 1 = nP l s := by omega
      exact Calls.mono (add_hit_full9 hS hM 0 1 id i (nP l s) hd h1 h2 h3 (k := 1) (has := hv (nP l s) (upto f00 i)) (dat := dv (nP l s) (upto f00 i) (piece l s)) rfl (key1 kq) hlen hF (hlast hn)) fun e w' ⟨v, hev, L', E, C, v1, hM', hO', hv', hS'⟩ => ⟨v, hev, _, L', E, .inr (.inr (.inl ⟨rfl, .inr hn, g2⟩)), hM', .inr ⟨hn, C, v1, (by rw [hout hn] at hO'; exact hO'), hv', hS'⟩⟩

theorem awake7 {w0 w : World} {F : List Chunk} (hS : St w0 w F) :
    Ret Try.prog 7 #[] w (fun v w' => v = .bool true ∧ St w0 w' F) := by
  refine enter (vs := []) 68 Try.func7 rfl rfl (by simp) ?_; intro a hA
  refine wp_seq ?_
  refine wp_region_lit ?_
  refine st_run tbOk 1 hA (e' := (0, .bool false) :: _) rfl ?_; clear hA; intro a hA
  refine wpList_nil ?_
  replace hA := hA.sel [] (e' := []) rfl
  refine xt_norm ?_
  refine wp_seq ?_
  refine wp_region_lit ?_
  refine st_buildSlice tbOk hA hS [.int .u8 97, .int .u8 98, .int .u8 99] rfl rfl rfl rfl rfl (by decide) (by kernel_rfl) rfl rfl (by decide) ?_; clear hA hS; intro b1 w2 a hS hA
  refine st_mark tbOk hA ([97, 98, 99] : List UInt8) hS rfl rfl rfl rfl rfl rfl rfl rfl (by decide) (by decide) (by decide) ?_; clear hA hS; intro C3 w4 a hDC3 hS hA
  refine st_call0 hA rfl rfl rfl isfn8 rfl rfl (by decide) (split_ok8 hS (l := ([97, 98, 99] : List UInt8)) (fun w' h => (hDC3 _ (h.only 0 rfl))) 0 1 7 2 (by decide) (by decide) (by decide) (by decide)) ?_
  clear hA hS; rintro _ w5 a ⟨v6, ps, C7, D8, hOC7, hpl, hpk, hdd, rfl, hS⟩ hA
  obtain ⟨A9, c10, rfl, hmc10, hxc10⟩ := hOC7.open'
  refine st_run tbOk 5 hA (e' := (2, .nilIface) :: (1, .slice A9 ps.length c10) :: (15, .nilIface) :: (14, .slice A9 ps.length c10) :: (10, .tuple #[.slice A9 ps.length c10, .nilIface]) :: _) rfl ?_; clear hA; intro a hA
  refine wpList_nil ?_
  replace hA := hA.sel [1, 2] (e' := [(1, .slice A9 ps.length c10), (2, .nilIface)]) rfl
  refine xt_norm ?_
  refine wp_seq ?_
  refine wp_seq ?_
  refine wp_region_lit ?_
  refine st_run tbOk 5 hA (e' := (20, .int .i64 ((ps.length : Nat) : Int)) :: (19, .slice A9 ps.length c10) :: (18, .bool false) :: (17, .bool false) :: (16, .nilIface) :: _) rfl ?_; clear hA; intro a hA
  have hp2 : ps.length = 2 := hpl
  obtain ⟨y11, hy11⟩ := get_ex (l := ps) (k := 1) (by omega)
  obtain ⟨B12, d13, rfl⟩ := hpk 1 y11 hy11
  have hdy11 := hdd _ (List.mem_of_getElem? hy11)
  have hpcy11 := piece_le ([97, 98, 99] : List UInt8) 2 1
  obtain ⟨y14, hy14⟩ := get_ex (l := ps) (k := 0) (by omega)
  obtain ⟨B15, d16, rfl⟩ := hpk 0 y14 hy14
  have hdy14 := hdd _ (List.mem_of_getElem? hy14)
  have hpcy14 := piece_le ([97, 98, 99] : List UInt8) 2 0
  replace hA := hA.rw 20 (v' := .int .i64 2) rfl (vint (by omega))
  refine st_run tbOk 2 hA (e' := (22, .bool false) :: (21, .bool false) :: _) rfl ?_; clear hA; intro a hA
  refine wpList_nil ?_
  replace hA := hA.sel [1, 22] (e' := [(1, .slice A9 ps.length c10), (22, .bool false)]) rfl
  refine xt_norm ?_
  refine cd_cond_f hA rfl ?_
  refine wp_skip ?_
  refine xt_norm ?_
  refine wp_seq ?_
  refine wp_region_lit ?_
  refine st_run tbOk 1 hA (e' := (23, .agg #[.slice none 0 0]) :: _) rfl ?_; clear hA; intro a hA
  refine st_box hA hS [.slice none 0 0] rfl rfl rfl rfl rfl (by decide) ?_; clear hA hS; intro b17 w18 a hS hA
  obtain ⟨L19, hM20, hS⟩ : ∃ Z, GS w0 b17 [] Z [] ∧ St w0 w18 (Z :: C7 :: D8 :: C3 :: F) := ⟨_, GS.new _ _, hS⟩
  replace hS := hS.nil
  refine st_run tbOk 1 hA (e' := (3, .pointer (some ⟨b17, 0, none⟩)) :: _) rfl ?_; clear hA; intro a hA
  refine wpList_nil ?_
  replace hA := hA.sel [1, 3] (e' := [(1, .slice A9 ps.length c10), (3, .pointer (some ⟨b17, 0, none⟩))]) rfl
  refine xt_norm ?_
  refine wp_seq ?_
  refine wp_region_lit ?_
  refine st_run tbOk 2 hA (e' := (27, .slice A9 ps.length c10) :: (26, .pointer (some ⟨b17, 0, none⟩)) :: _) rfl ?_; clear hA; intro a hA
  obtain ⟨b21, o22, rfl⟩ := hOC7.isSome (k := 1) (by omega)
  refine st_val hA rfl rfl (by decide) (rn_indexAddr tbOk hA 1 (o22 + 6) rfl rfl rfl rfl rfl rfl (by rfl) (by omega) (by first | rfl | simp [Nat.mul_one, Nat.zero_add] | omega)) ?_; clear hA; intro a hA
  refine st_val hA rfl rfl (by decide) (rn_loadA tbOk hA ([.int .i64 0, .int .i64 1, .int .u64 7, .int .i64 ((1 : Nat) : Int), .int .i64 ((nP ([97, 98, 99] : List UInt8) 2 : Nat) : Int), .slice B12 ((piece ([97, 98, 99] : List UInt8) 2 1).length) d13]) rfl rfl rfl rfl (by rfl) ((hOC7.rd (hS.own_ 2 rfl)).elem (k := 1) encPacket_ok hy11)) ?_; clear hA; intro a hA
  replace hS := hS.front 1 (C := L19) (L' := [] :: C7 :: D8 :: C3 :: F) rfl rfl
  refine st_call0 hA rfl rfl rfl isfn9 rfl rfl (by decide) (add_new_put9 hS hM20 0 1 7 1 (nP ([97, 98, 99] : List UInt8) 2) (bs := (piece ([97, 98, 99] : List UInt8) 2 1)) (fun w' h => (hdy11 _ (h.only 2 rfl))) (by omega) (by omega) (by exact Nat.le_of_ble_eq_true rfl) nil_key (by decide) (by decide)) ?_
  clear hA hS; rintro _ w23 a ⟨L24, E26, hM25, rfl, hS⟩ hA
  have hM27 : GS w0 b17 ([GV1 0 1 7 (nP ([97, 98, 99] : List UInt8) 2) (up (fun _ => false) 1) (piece ([97, 98, 99] : List UInt8) 2)]) L24 (E26 ++ []) := by have h9 := hM25; rw [One.new (n := nP ([97, 98, 99] : List UInt8) 2) (k := 1) (f := (fun _ => false)) (pc := piece ([97, 98, 99] : List UInt8) 2) (fun _ => rfl) (by decide)] at h9; exact h9
  refine st_run tbOk 5 hA (e' := (5, .bool false) :: (4, .slice none 0 0) :: (32, .bool false) :: (31, .slice none 0 0) :: (25, .tuple #[.slice none 0 0, .bool false]) :: _) rfl ?_; clear hA; intro a hA
  refine wpList_nil ?_
  replace hA := hA.sel [1, 3, 5] (e' := [(1, .slice (some ⟨b21, o22, none⟩) ps.length c10), (3, .pointer (some ⟨b17, 0, none⟩)), (5, .bool false)]) rfl
  refine xt_norm ?_
  refine wp_seq ?_
  refine wp_region_lit ?_
  refine st_run tbOk 2 hA (e' := (35, .slice (some ⟨b21, o22, none⟩) ps.length c10) :: (34, .pointer (some ⟨b17, 0, none⟩)) :: _) rfl ?_; clear hA; intro a hA
  refine st_val hA rfl rfl (by decide) (rn_indexAddr tbOk hA 0 o22 rfl rfl rfl rfl rfl rfl (by rfl) (by omega) (by first | rfl | simp [Nat.mul_one, Nat.zero_add] | omega)) ?_; clear hA; intro a hA
  refine st_val hA rfl rfl (by decide) (rn_loadA tbOk hA ([.int .i64 0, .int .i64 1, .int .u64 7, .int .i64 ((0 : Nat) : Int), .int .i64 ((nP ([97, 98, 99] : List UInt8) 2 : Nat) : Int), .slice B15 ((piece ([97, 98, 99] : List UInt8) 2 0).length) d16]) rfl rfl rfl rfl (by rfl) ((hOC7.rd (hS.own_ 2 rfl)).elem (k := 0) encPacket_ok hy14)) ?_; clear hA; intro a hA
  replace hS := hS.front 1 (C := (E26 ++ [])) (L' := L24 :: C7 :: D8 :: C3 :: F) rfl rfl
  replace hS := hS.front 1 (C := L24) (L' := (E26 ++ []) :: C7 :: D8 :: C3 :: F) rfl rfl
  refine st_call0 hA rfl rfl rfl isfn9 rfl rfl (by decide) (add_hit_full9 hS hM27 0 1 7 0 (nP ([97, 98, 99] : List UInt8) 2) (bs := (piece ([97, 98, 99] : List UInt8) 2 0)) (fun w' h => (hdy14 _ (h.only 2 rfl))) (by omega) (by omega) (by exact Nat.le_of_ble_eq_true rfl) (k := 0) (has := hv (nP ([97, 98, 99] : List UInt8) 2) (up (fun _ => false) 1)) (dat := dv (nP ([97, 98, 99] : List UInt8) 2) (up (fun _ => false) 1) (piece ([97, 98, 99] : List UInt8) 2)) rfl one_key (hv_len _ _) rfl (by decide)) ?_
  clear hA hS; rintro _ w28 a ⟨L29, E31, C32, v33, hM30, hO32, rfl, hS⟩ hA
  rw [show ((dv (nP ([97, 98, 99] : List UInt8) 2) (up (fun _ => false) 1) (piece ([97, 98, 99] : List UInt8) 2)).set 0 (piece ([97, 98, 99] : List UInt8) 2 0)).flatten = ([97, 98, 99] : List UInt8) from (by decide)] at hO32
  obtain ⟨A34, c35, rfl, hmc35, hxc35⟩ := hO32.open'
  have hM36 : GS w0 b17 (([] : List GV)) L29 (E31 ++ (E26 ++ [])) := hM30
  refine st_run tbOk 5 hA (e' := (7, .bool true) :: (6, .slice A34 (([97, 98, 99] : List UInt8).length) c35) :: (40, .bool true) :: (39, .slice A34 (([97, 98, 99] : List UInt8).length) c35) :: (33, .tuple #[.slice A34 (([97, 98, 99] : List UInt8).length) c35, .bool true]) :: _) rfl ?_; clear hA; intro a hA
  refine wpList_nil ?_
  replace hA := hA.sel [1, 3, 5, 6, 7] (e' := [(1, .slice (some ⟨b21, o22, none⟩) ps.length c10), (3, .pointer (some ⟨b17, 0, none⟩)), (5, .bool false), (6, .slice A34 (([97, 98, 99] : List UInt8).length) c35), (7, .bool true)]) rfl
  refine xt_norm ?_
  refine wp_seq ?_
  refine wp_region_lit ?_
  refine st_run tbOk 2 hA (e' := (43, .slice (some ⟨b21, o22, none⟩) ps.length c10) :: (42, .pointer (some ⟨b17, 0, none⟩)) :: _) rfl ?_; clear hA; intro a hA
  refine st_val hA rfl rfl (by decide) (rn_indexAddr tbOk hA 0 o22 rfl rfl rfl rfl rfl rfl (by rfl) (by omega) (by first | rfl | simp [Nat.mul_one, Nat.zero_add] | omega)) ?_; clear hA; intro a hA
  refine st_val hA rfl rfl (by decide) (rn_loadA tbOk hA ([.int .i64 0, .int .i64 1, .int .u64 7, .int .i64 ((0 : Nat) : Int), .int .i64 ((nP ([97, 98, 99] : List UInt8) 2 : Nat) : Int), .slice B15 ((piece ([97, 98, 99] : List UInt8) 2 0).length) d16]) rfl rfl rfl rfl (by rfl) ((hOC7.rd (hS.own_ 3 rfl)).elem (k := 0) encPacket_ok hy14)) ?_; clear hA; intro a hA
  replace hS := hS.front 1 (C := (E31 ++ (E26 ++ []))) (L' := L29 :: C32 :: C7 :: D8 :: C3 :: F) rfl rfl
  replace hS := hS.front 1 (C := L29) (L' := (E31 ++ (E26 ++ [])) :: C32 :: C7 :: D8 :: C3 :: F) rfl rfl
  refine st_call0 hA rfl rfl rfl isfn9 rfl rfl (by decide) (add_new_put9 hS hM36 0 1 7 0 (nP ([97, 98, 99] : List UInt8) 2) (bs := (piece ([97, 98, 99] : List UInt8) 2 0)) (fun w' h => (hdy14 _ (h.only 3 rfl))) (by omega) (by omega) (by exact Nat.le_of_ble_eq_true rfl) nil_key (by decide) (by decide)) ?_
  clear hA hS; rintro _ w37 a ⟨L38, E40, hM39, rfl, hS⟩ hA
  have hM41 : GS w0 b17 ([GV1 0 1 7 (nP ([97, 98, 99] : List UInt8) 2) (up (fun _ => false) 0) (piece ([97, 98, 99] : List UInt8) 2)]) L38 (E40 ++ (E31 ++ (E26 ++ []))) := by have h9 := hM39; rw [One.new (n := nP ([97, 98, 99] : List UInt8) 2) (k := 0) (f := (fun _ => false)) (pc := piece ([97, 98, 99] : List UInt8) 2) (fun _ => rfl) (by decide)] at h9; exact h9
  refine st_run tbOk 5 hA (e' := (9, .bool false) :: (8, .slice none 0 0) :: (48, .bool false) :: (47, .slice none 0 0) :: (41, .tuple #[.slice none 0 0, .bool false]) :: _) rfl ?_; clear hA; intro a hA
  refine wpList_nil ?_
  replace hA := hA.sel [3, 5, 6, 7, 9] (e' := [(3, .pointer (some ⟨b17, 0, none⟩)), (5, .bool false), (6, .slice A34 (([97, 98, 99] : List UInt8).length) c35), (7, .bool true), (9, .bool false)]) rfl
  refine xt_norm ?_
  refine wp_seq ?_
  refine wp_region_lit ?_
  refine st_run tbOk 7 hA (e' := (55, .slice A34 (([97, 98, 99] : List UInt8).length) c35) :: (54, .bool true) :: (53, .bool true) :: (52, .bool true) :: (51, .bool true) :: (50, .bool true) :: (49, .bool false) :: _) rfl ?_; clear hA; intro a hA
  refine st_val hA rfl rfl (by decide) (rn_bstr tbOk hA (bs := ([97, 98, 99] : List UInt8)) rfl rfl rfl rfl rfl rfl rfl rfl (hO32.rd (hS.own_ 2 rfl)).x) ?_; clear hA; intro a hA
  refine st_run tbOk 1 hA (e' := (57, .bool ((bsv ([97, 98, 99] : List UInt8)).toList == (⟨#[97, 98, 99]⟩ : ByteArray).toList)) :: _) rfl ?_; clear hA; intro a hA
  replace hA := hA.rw 57 (v' := .bool true) rfl (congrArg Value.bool (by rw [show (⟨#[97, 98, 99]⟩ : ByteArray) = bsv [97, 98, 99] from rfl, bsv_eq]; decide))
  refine st_run tbOk 7 hA (e' := (64, .pointer (some ⟨b17, 0, none⟩)) :: (63, .bool true) :: (62, .bool true) :: (61, .bool true) :: (60, .bool false) :: (59, .bool true) :: (58, .bool true) :: _) rfl ?_; clear hA; intro a hA
  replace hS := hS.front 1 (C := (E40 ++ (E31 ++ (E26 ++ [])))) (L' := L38 :: C32 :: C7 :: D8 :: C3 :: F) rfl rfl
  replace hS := hS.front 1 (C := L38) (L' := (E40 ++ (E31 ++ (E26 ++ []))) :: C32 :: C7 :: D8 :: C3 :: F) rfl rfl
  refine st_call0 hA rfl rfl rfl isfn10 rfl rfl (by decide) (waiting10 hS hM41) ?_
  clear hA hS; rintro _ w42 a ⟨L43, hM44, rfl, hS⟩ hA
  replace hA := hA.rw 65 (v' := .int .i64 1) rfl (by rfl)
  refine st_run tbOk 3 hA (e' := (0, .bool true) :: (67, .bool true) :: (66, .bool true) :: _) rfl ?_; clear hA; intro a hA
  refine wpList_nil ?_
  replace hA := hA.sel [0] (e' := [(0, .bool true)]) rfl
  refine xt_norm ?_
  refine wp_ret ?_
  refine ret1 (fn := Try.f7) hA rfl rfl ?_
  replace hS := hS.drop1
  replace hS := hS.drop1
  replace hS := hS.drop1
  replace hS := hS.drop1
  replace hS := hS.drop1
  replace hS := hS.drop1
  exact ⟨rfl, hS⟩
end Go.Proofs.Ytbfdppfddlilgaa
