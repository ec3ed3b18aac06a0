import Derived.Test.YtjdkcdeldmjdmaaDoorH
set_option linter.unusedVariables false
set_option linter.unusedSimpArgs false
set_option maxRecDepth 4000
namespace Go.Proofs.YtjdkcdeldmjdmaaDoor
open Go Go.SK
def encLCall (x : Int × Int × Int × Int × Int × Int × Int × Int × Int × Int × Option Addr × Nat × List UInt8 × Int × Int × Int × Int × Int × Int × Int × Int × Int × Int × Option Addr × Nat × List UInt8 × Int × Int × Int) : List Value := [.int .u64 x.1, .int .u64 x.2.1, .int .u32 x.2.2.1, .int .u16 x.2.2.2.1, .int .u16 x.2.2.2.2.1, .int .u64 x.2.2.2.2.2.1, .int .u32 x.2.2.2.2.2.2.1, .int .u8 x.2.2.2.2.2.2.2.1, .int .u64 x.2.2.2.2.2.2.2.2.1, .int .u64 x.2.2.2.2.2.2.2.2.2.1, .slice x.2.2.2.2.2.2.2.2.2.2.1 x.2.2.2.2.2.2.2.2.2.2.2.2.1.length x.2.2.2.2.2.2.2.2.2.2.2.1, .int .u64 x.2.2.2.2.2.2.2.2.2.2.2.2.2.1, .int .u64 x.2.2.2.2.2.2.2.2.2.2.2.2.2.2.1, .int .u32 x.2.2.2.2.2.2.2.2.2.2.2.2.2.2.2.1, .int .u16 x.2.2.2.2.2.2.2.2.2.2.2.2.2.2.2.2.1, .int .u16 x.2.2.2.2.2.2.2.2.2.2.2.2.2.2.2.2.2.1, .int .u64 x.2.2.2.2.2.2.2.2.2.2.2.2.2.2.2.2.2.2.1, .int .u32 x.2.2.2.2.2.2.2.2.2.2.2.2.2.2.2.2.2.2.2.1, .int .u8 x.2.2.2.2.2.2.2.2.2.2.2.2.2.2.2.2.2.2.2.2.1, .int .u64 x.2.2.2.2.2.2.2.2.2.2.2.2.2.2.2.2.2.2.2.2.2.1, .int .u64 x.2.2.2.2.2.2.2.2.2.2.2.2.2.2.2.2.2.2.2.2.2.2.1, .slice x.2.2.2.2.2.2.2.2.2.2.2.2.2.2.2.2.2.2.2.2.2.2.2.1 x.2.2.2.2.2.2.2.2.2.2.2.2.2.2.2.2.2.2.2.2.2.2.2.2.2.1.length x.2.2.2.2.2.2.2.2.2.2.2.2.2.2.2.2.2.2.2.2.2.2.2.2.1, .int .i64 x.2.2.2.2.2.2.2.2.2.2.2.2.2.2.2.2.2.2.2.2.2.2.2.2.2.2.1, .int .i64 x.2.2.2.2.2.2.2.2.2.2.2.2.2.2.2.2.2.2.2.2.2.2.2.2.2.2.2.1, .int .i64 x.2.2.2.2.2.2.2.2.2.2.2.2.2.2.2.2.2.2.2.2.2.2.2.2.2.2.2.2]
theorem encLCall_ok : Enc encLCall 25 := ⟨fun _ => rfl, fun x u hu => by simp only [encLCall, List.mem_cons, List.not_mem_nil, or_false] at hu; rcases hu with rfl | rfl | rfl | rfl | rfl | rfl | rfl | rfl | rfl | rfl | rfl | rfl | rfl | rfl | rfl | rfl | rfl | rfl | rfl | rfl | rfl | rfl | rfl | rfl | rfl <;> rfl⟩
def encLCall_dd (w0 : World) (D : Chunk) (x : Int × Int × Int × Int × Int × Int × Int × Int × Int × Int × Option Addr × Nat × List UInt8 × Int × Int × Int × Int × Int × Int × Int × Int × Int × Int × Option Addr × Nat × List UInt8 × Int × Int × Int) : Prop := DD w0 D x.2.2.2.2.2.2.2.2.2.2.1 x.2.2.2.2.2.2.2.2.2.2.2.1 x.2.2.2.2.2.2.2.2.2.2.2.2.1 ∧ DD w0 D x.2.2.2.2.2.2.2.2.2.2.2.2.2.2.2.2.2.2.2.2.2.2.2.1 x.2.2.2.2.2.2.2.2.2.2.2.2.2.2.2.2.2.2.2.2.2.2.2.2.1 x.2.2.2.2.2.2.2.2.2.2.2.2.2.2.2.2.2.2.2.2.2.2.2.2.2.1
theorem encLCall_left {w0 : World} {D E : Chunk} {x : Int × Int × Int × Int × Int × Int × Int × Int × Int × Int × Option Addr × Nat × List UInt8 × Int × Int × Int × Int × Int × Int × Int × Int × Int × Int × Option Addr × Nat × List UInt8 × Int × Int × Int} (h : encLCall_dd w0 D x) : encLCall_dd w0 (E ++ D) x := ⟨h.1.left, h.2.left⟩
theorem encLCall_lefts {w0 : World} {D E : Chunk} {l : List (Int × Int × Int × Int × Int × Int × Int × Int × Int × Int × Option Addr × Nat × List UInt8 × Int × Int × Int × Int × Int × Int × Int × Int × Int × Int × Option Addr × Nat × List UInt8 × Int × Int × Int)} (h : ∀ x ∈ l, encLCall_dd w0 D x) : ∀ x ∈ l, encLCall_dd w0 (E ++ D) x := fun x hx => encLCall_left (h x hx)

abbrev LCall := Int × Int × Int × Int × Int × Int × Int × Int × Int × Int × Option Addr × Nat × List UInt8 × Int × Int × Int × Int × Int × Int × Int × Int × Int × Int × Option Addr × Nat × List UInt8 × Int × Int × Int
def lrq (x : LCall) : Msg := (x.1, x.2.1, x.2.2.1, x.2.2.2.1, x.2.2.2.2.1, x.2.2.2.2.2.1, x.2.2.2.2.2.2.1, x.2.2.2.2.2.2.2.1, x.2.2.2.2.2.2.2.2.1, x.2.2.2.2.2.2.2.2.2.1, x.2.2.2.2.2.2.2.2.2.2.1, x.2.2.2.2.2.2.2.2.2.2.2.1, x.2.2.2.2.2.2.2.2.2.2.2.2.1)
def lrp (x : LCall) : Msg := (x.2.2.2.2.2.2.2.2.2.2.2.2.2.1, x.2.2.2.2.2.2.2.2.2.2.2.2.2.2.1, x.2.2.2.2.2.2.2.2.2.2.2.2.2.2.2.1, x.2.2.2.2.2.2.2.2.2.2.2.2.2.2.2.2.1, x.2.2.2.2.2.2.2.2.2.2.2.2.2.2.2.2.2.1, x.2.2.2.2.2.2.2.2.2.2.2.2.2.2.2.2.2.2.1, x.2.2.2.2.2.2.2.2.2.2.2.2.2.2.2.2.2.2.2.1, x.2.2.2.2.2.2.2.2.2.2.2.2.2.2.2.2.2.2.2.2.1, x.2.2.2.2.2.2.2.2.2.2.2.2.2.2.2.2.2.2.2.2.2.1, x.2.2.2.2.2.2.2.2.2.2.2.2.2.2.2.2.2.2.2.2.2.2.1, x.2.2.2.2.2.2.2.2.2.2.2.2.2.2.2.2.2.2.2.2.2.2.2.1, x.2.2.2.2.2.2.2.2.2.2.2.2.2.2.2.2.2.2.2.2.2.2.2.2.1, x.2.2.2.2.2.2.2.2.2.2.2.2.2.2.2.2.2.2.2.2.2.2.2.2.2.1)
def lst (x : LCall) : Int := x.2.2.2.2.2.2.2.2.2.2.2.2.2.2.2.2.2.2.2.2.2.2.2.2.2.2.1
def lage (x : LCall) : Int := x.2.2.2.2.2.2.2.2.2.2.2.2.2.2.2.2.2.2.2.2.2.2.2.2.2.2.2.1
def lsent (x : LCall) : Int := x.2.2.2.2.2.2.2.2.2.2.2.2.2.2.2.2.2.2.2.2.2.2.2.2.2.2.2.2
def mkl (q r : Msg) (s a n : Int) : LCall := (q.1, q.2.1, q.2.2.1, q.2.2.2.1, q.2.2.2.2.1, q.2.2.2.2.2.1, q.2.2.2.2.2.2.1, q.2.2.2.2.2.2.2.1, q.2.2.2.2.2.2.2.2.1, q.2.2.2.2.2.2.2.2.2.1, q.2.2.2.2.2.2.2.2.2.2.1, q.2.2.2.2.2.2.2.2.2.2.2.1, q.2.2.2.2.2.2.2.2.2.2.2.2, r.1, r.2.1, r.2.2.1, r.2.2.2.1, r.2.2.2.2.1, r.2.2.2.2.2.1, r.2.2.2.2.2.2.1, r.2.2.2.2.2.2.2.1, r.2.2.2.2.2.2.2.2.1, r.2.2.2.2.2.2.2.2.2.1, r.2.2.2.2.2.2.2.2.2.2.1, r.2.2.2.2.2.2.2.2.2.2.2.1, r.2.2.2.2.2.2.2.2.2.2.2.2, s, a, n)
def zmsg : Msg := (0, 0, 0, 0, 0, 0, 0, 0, 0, 0, none, 0, [])
def ltick (w n : Int) (y : LCall) : LCall := if lst y = 1 then (if lage y + 1 = w then (if lsent y = n then mkl (lrq y) (lrp y) 3 (lage y + 1) (lsent y) else mkl (lrq y) (lrp y) (lst y) 0 (lsent y + 1)) else mkl (lrq y) (lrp y) (lst y) (lage y + 1) (lsent y)) else y
def lagain (w n : Int) (y : LCall) : Bool := decide (lst y = 1 ∧ lage y + 1 = w ∧ ¬ lsent y = n)
theorem lt_n {w n : Int} {y : LCall} (h : ¬ lst y = 1) : ltick w n y = y := by rw [ltick, if_neg h]
theorem lt_a {w n : Int} {y : LCall} (h : lst y = 1) (h2 : ¬ lage y + 1 = w) : ltick w n y = mkl (lrq y) (lrp y) (lst y) (lage y + 1) (lsent y) := by rw [ltick, if_pos h, if_neg h2]
theorem lt_b {w n : Int} {y : LCall} (h : lst y = 1) (h2 : lage y + 1 = w) (h3 : lsent y = n) : ltick w n y = mkl (lrq y) (lrp y) 3 (lage y + 1) (lsent y) := by rw [ltick, if_pos h, if_pos h2, if_pos h3]
theorem lt_c {w n : Int} {y : LCall} (h : lst y = 1) (h2 : lage y + 1 = w) (h3 : ¬ lsent y = n) : ltick w n y = mkl (lrq y) (lrp y) (lst y) 0 (lsent y + 1) := by rw [ltick, if_pos h, if_pos h2, if_neg h3]
theorem la_n {w n : Int} {y : LCall} (h : ¬ (lst y = 1 ∧ lage y + 1 = w ∧ ¬ lsent y = n)) : lagain w n y = false := decide_eq_false h
theorem la_y {w n : Int} {y : LCall} (h : lst y = 1) (h2 : lage y + 1 = w) (h3 : ¬ lsent y = n) : lagain w n y = true := decide_eq_true ⟨h, h2, h3⟩
structure CV (wt tr : Int) (k : Nat) (x : Call) (y : LCall) : Prop where
  q : mst (rq x) = mst (lrq y)
  r : mst (rp x) = mst (lrp y)
  s : cst x = lst y
  g : cst x = 1 → 1 ≤ clf x ∧ clf x ≤ wt ∧ lage y = wt - clf x ∧ 1 ≤ ctr x ∧ ctr x ≤ tr ∧ lsent y = ctr x
  i : (lrq y).2.2.1 = (k : Int) + 1
  n : ¬ cst x = 2 → mst (lrp y) = mst zmsg
structure CI (wt tr : Int) (cs : List Call) (ls : List LCall) : Prop where
  len : cs.length = ls.length
  at_ : ∀ (k : Nat) (x : Call) (y : LCall), cs[k]? = some x → ls[k]? = some y → CV wt tr k x y
  ln : ls.length ≤ 64
theorem CI.nil {wt tr : Int} : CI wt tr [] [] := ⟨rfl, fun k x y h => by simp at h, by simp⟩
theorem CI.add {wt tr : Int} {cs : List Call} {ls : List LCall} (h : CI wt tr cs ls) {x : Call} {y : LCall} (hv : CV wt tr ls.length x y) (hl : ls.length < 64) : CI wt tr (cs ++ [x]) (ls ++ [y]) := by
  have hlen := h.len
  refine ⟨by simp [hlen], fun k u v hu hv2 => ?_, by simp; omega⟩
  have hk : k < (cs ++ [x]).length := (List.getElem?_eq_some_iff.1 hu).1
  rw [List.length_append] at hk
  by_cases hc : k < cs.length
  · rw [List.getElem?_append_left hc] at hu; rw [List.getElem?_append_left (by omega)] at hv2
    exact h.at_ k u v hu hv2
  · have hke : k = ls.length := by simp at hk; omega
    subst hke
    rw [List.getElem?_append_right (by omega), show ls.length - cs.length = 0 by omega] at hu; rw [List.getElem?_append_right (Nat.le_refl _), Nat.sub_self] at hv2
    simp only [List.getElem?_cons_zero, Option.some.injEq] at hu hv2
    subst hu; subst hv2; exact hv
theorem CI.set {wt tr : Int} {cs : List Call} {ls : List LCall} (h : CI wt tr cs ls) {k : Nat} {x : Call} {y : LCall} (hv : CV wt tr k x y) : CI wt tr (cs.set k x) (ls.set k y) := by
  refine ⟨by simp [h.len], fun j u v hu hv2 => ?_, by rw [List.length_set]; exact h.ln⟩
  by_cases e : k = j
  · subst e
    have h1 := (List.getElem?_eq_some_iff.1 hu).1
    have h2 := (List.getElem?_eq_some_iff.1 hv2).1
    rw [List.length_set] at h1 h2
    rw [List.getElem?_set_self h1] at hu; rw [List.getElem?_set_self h2] at hv2
    injection hu with hu; injection hv2 with hv2; subst hu; subst hv2; exact hv
  · rw [List.getElem?_set_ne e] at hu; rw [List.getElem?_set_ne e] at hv2
    exact h.at_ j u v hu hv2
theorem CI.gd {wt tr : Int} {cs : List Call} {ls : List LCall} (h : CI wt tr cs ls) (hw : wt ≤ 1000) (ht : tr ≤ 1000) : ∀ x ∈ cs, cgd x := fun x hx => by
  obtain ⟨k, hk⟩ := List.mem_iff_getElem?.1 hx
  have hkl := (List.getElem?_eq_some_iff.1 hk).1
  have hl := h.len
  obtain ⟨y, hy⟩ := get_ex (l := ls) (k := k) (by omega)
  intro hs
  obtain ⟨a, b, c, d, e, f⟩ := (h.at_ k x y hk hy).g hs
  exact ⟨⟨a, by omega⟩, d, by omega⟩
theorem rq_mk (q r : Msg) (s t l : Int) : rq (mkc q s t l r) = q := rfl
theorem rp_mk (q r : Msg) (s t l : Int) : rp (mkc q s t l r) = r := rfl
theorem cst_mk (q r : Msg) (s t l : Int) : cst (mkc q s t l r) = s := rfl
theorem ctr_mk (q r : Msg) (s t l : Int) : ctr (mkc q s t l r) = t := rfl
theorem clf_mk (q r : Msg) (s t l : Int) : clf (mkc q s t l r) = l := rfl
theorem lrq_mk (q r : Msg) (s t l : Int) : lrq (mkl q r s t l) = q := rfl
theorem lrp_mk (q r : Msg) (s t l : Int) : lrp (mkl q r s t l) = r := rfl
theorem lst_mk (q r : Msg) (s t l : Int) : lst (mkl q r s t l) = s := rfl
theorem lage_mk (q r : Msg) (s t l : Int) : lage (mkl q r s t l) = t := rfl
theorem lsent_mk (q r : Msg) (s t l : Int) : lsent (mkl q r s t l) = l := rfl
theorem CV.mk' {wt tr : Int} {k : Nat} {q r q2 r2 : Msg} {s t l s2 a n : Int} (h1 : mst q = mst q2) (h2 : mst r = mst r2) (h3 : s = s2) (h4 : s = 1 → 1 ≤ l ∧ l ≤ wt ∧ a = wt - l ∧ 1 ≤ t ∧ t ≤ tr ∧ n = t) (h5 : q2.2.2.1 = (k : Int) + 1) (h6 : ¬ s = 2 → mst r2 = mst zmsg) : CV wt tr k (mkc q s t l r) (mkl q2 r2 s2 a n) :=
  ⟨by rw [rq_mk, lrq_mk]; exact h1, by rw [rp_mk, lrp_mk]; exact h2, by rw [cst_mk, lst_mk]; exact h3, by rw [cst_mk, clf_mk, ctr_mk, lage_mk, lsent_mk]; exact h4, by rw [lrq_mk]; exact h5, by rw [cst_mk, lrp_mk]; exact h6⟩
theorem CV.tick {wt tr : Int} {k : Nat} {x : Call} {y : LCall} (h : CV wt tr k x y) : CV wt tr k (tick1 wt tr x) (ltick wt tr y) ∧ again1 tr x = lagain wt tr y := by
  by_cases hs : cst x = 1
  · obtain ⟨a, b, c, d, e, f⟩ := h.g hs
    have hs2 : lst y = 1 := h.s ▸ hs
    have hz := h.n (by omega)
    by_cases h2 : clf x - 1 > 0
    · rw [tick_a hs h2, lt_a hs2 (by omega), ag_n (by omega), la_n (by omega)]
      exact ⟨CV.mk' h.q h.r h.s (fun _ => ⟨by omega, by omega, by omega, d, e, f⟩) h.i h.n, rfl⟩
    · by_cases h3 : ctr x = tr
      · rw [tick_b hs h2 h3, lt_b hs2 (by omega) (by omega), ag_n (by omega), la_n (by omega)]
        exact ⟨CV.mk' h.q h.r rfl (fun h9 => by omega) h.i (fun _ => hz), rfl⟩
      · rw [tick_c hs h2 h3, lt_c hs2 (by omega) (by omega), ag_y hs h2 h3, la_y hs2 (by omega) (by omega)]
        exact ⟨CV.mk' h.q h.r h.s (fun _ => ⟨by omega, by omega, by omega, by omega, by omega, by omega⟩) h.i h.n, rfl⟩
  · have hs2 : ¬ lst y = 1 := h.s ▸ hs
    rw [tick_n hs, lt_n hs2, ag_n (fun h9 => hs h9.1), la_n (fun h9 => hs2 h9.1)]
    exact ⟨h, rfl⟩
theorem CI.tick {wt tr : Int} {cs : List Call} {ls : List LCall} (h : CI wt tr cs ls) : CI wt tr (cs.map (tick1 wt tr)) (ls.map (ltick wt tr)) := by
  refine ⟨by simp [h.len], fun k u v hu hv => ?_, by rw [List.length_map]; exact h.ln⟩
  rw [List.getElem?_map] at hu hv
  cases hx : cs[k]? with
  | none => rw [hx] at hu; cases hu
  | some x =>
    cases hy : ls[k]? with
    | none => rw [hy] at hv; cases hv
    | some y =>
      rw [hx] at hu; rw [hy] at hv
      simp only [Option.map_some, Option.some.injEq] at hu hv
      subst hu; subst hv; exact (h.at_ k x y hx hy).tick.1
theorem filt_eq {α β γ : Type} {P : α → Bool} {Q : β → Bool} {f : α → γ} {g : β → γ} : ∀ (cs : List α) (ls : List β), cs.length = ls.length → (∀ (k : Nat) (x : α) (y : β), cs[k]? = some x → ls[k]? = some y → P x = Q y ∧ f x = g y) → (cs.filter P).map f = (ls.filter Q).map g
  | [], [], _, _ => rfl
  | [], y :: ls, h, _ => by simp at h
  | x :: cs, [], h, _ => by simp at h
  | x :: cs, y :: ls, h, hh => by
    obtain ⟨h1, h2⟩ := hh 0 x y rfl rfl
    have ih := filt_eq (P := P) (Q := Q) (f := f) (g := g) cs ls (by simpa using h) (fun k u v hu hv => hh (k + 1) u v hu hv)
    rw [List.filter_cons, List.filter_cons, h1]
    cases Q y with
    | true => simp [ih, h2]
    | false => simpa using ih
theorem CI.again {wt tr : Int} {cs : List Call} {ls : List LCall} (h : CI wt tr cs ls) : (cs.filter (again1 tr)).map (fun x => mst (rq x)) = (ls.filter (lagain wt tr)).map (fun y => mst (lrq y)) :=
  filt_eq cs ls h.len (fun k x y hx hy => ⟨(h.at_ k x y hx hy).tick.2, (h.at_ k x y hx hy).q⟩)
theorem map_at {out o2 : List Msg} (h : out.map mst = o2.map mst) {k : Nat} {x y : Msg} (hx : out[k]? = some x) (hy : o2[k]? = some y) : mst x = mst y := by
  have h1 : (out.map mst)[k]? = some (mst x) := by rw [List.getElem?_map, hx]; rfl
  have h2 : (o2.map mst)[k]? = some (mst y) := by rw [List.getElem?_map, hy]; rfl
  rw [h, h2] at h1
  exact (Option.some.inj h1).symm
def mpl {α : Type} (f : α → α) (l : List α) (j : Nat) : List α := (l.take j).map f ++ l.drop j
theorem mpl_zero {α : Type} (f : α → α) (l : List α) : mpl f l 0 = l := by simp [mpl]
theorem mpl_all {α : Type} (f : α → α) (l : List α) : mpl f l l.length = l.map f := by simp [mpl]
theorem mpl_len {α : Type} (f : α → α) (l : List α) (j : Nat) : (mpl f l j).length = l.length := by
  simp only [mpl, List.length_append, List.length_map, List.length_take, List.length_drop]; omega
theorem mpl_at {α : Type} {f : α → α} {l : List α} {j : Nat} {x : α} (h : l[j]? = some x) : (mpl f l j)[j]? = some x := by
  have hj := (List.getElem?_eq_some_iff.1 h).1
  rw [mpl, List.getElem?_append_right (by rw [List.length_map, List.length_take]; omega), List.length_map, List.length_take, List.getElem?_drop, show j + (j - min j l.length) = j by omega]
  exact h
theorem mpl_step {α : Type} {f : α → α} {l : List α} {j : Nat} {x y : α} (h : l[j]? = some x) (hy : f x = y) : (mpl f l j).set j y = mpl f l (j + 1) := by
  have hj := (List.getElem?_eq_some_iff.1 h).1
  subst hy
  apply List.ext_getElem?
  intro i
  rw [List.getElem?_set]
  split
  · rename_i e; subst e
    rw [if_pos (by rw [mpl_len]; omega), mpl, List.getElem?_append_left (by rw [List.length_map, List.length_take]; omega), List.getElem?_map, List.getElem?_take_of_lt (by omega), h]; rfl
  · rename_i e
    by_cases hi : i < j
    · rw [mpl, mpl, List.getElem?_append_left (by rw [List.length_map, List.length_take]; omega), List.getElem?_append_left (by rw [List.length_map, List.length_take]; omega), List.getElem?_map, List.getElem?_map, List.getElem?_take_of_lt (by omega), List.getElem?_take_of_lt (by omega)]
    · rw [mpl, mpl, List.getElem?_append_right (by rw [List.length_map, List.length_take]; omega), List.getElem?_append_right (by rw [List.length_map, List.length_take]; omega), List.length_map, List.length_map, List.length_take, List.length_take, List.getElem?_drop, List.getElem?_drop]
      congr 1; omega
theorem mpl_same {α : Type} {f : α → α} {l : List α} {j : Nat} {x : α} (h : l[j]? = some x) (hy : f x = x) : mpl f l j = mpl f l (j + 1) := by
  rw [← mpl_step h hy]
  have hj := (List.getElem?_eq_some_iff.1 (mpl_at (f := f) h)).1
  apply List.ext_getElem?
  intro i
  rw [List.getElem?_set]
  split
  · rename_i e; subst e; first | exact mpl_at h | (rw [if_pos hj]; exact mpl_at h)
  · rfl
def fml {α γ : Type} (P : α → Bool) (f : α → γ) (l : List α) (j : Nat) : List γ := ((l.take j).filter P).map f
theorem fml_n {α γ : Type} {P : α → Bool} {f : α → γ} {l : List α} {j : Nat} {x : α} (h : l[j]? = some x) (hx : P x = false) : fml P f l (j + 1) = fml P f l j := by
  rw [fml, fml, List.take_add_one, h, List.filter_append]; simp [hx]
theorem fml_y {α γ : Type} {P : α → Bool} {f : α → γ} {l : List α} {j : Nat} {x : α} (h : l[j]? = some x) (hx : P x = true) : fml P f l (j + 1) = fml P f l j ++ [f x] := by
  rw [fml, fml, List.take_add_one, h, List.filter_append]; simp [hx]
theorem fml_le {α γ : Type} (P : α → Bool) (f : α → γ) (l : List α) (j : Nat) : (fml P f l j).length ≤ j := by
  rw [fml, List.length_map]; exact Nat.le_trans (List.length_filter_le _ _) (by rw [List.length_take]; omega)
theorem fml_all {α γ : Type} (P : α → Bool) (f : α → γ) (l : List α) : fml P f l l.length = (l.filter P).map f := by rw [fml, List.take_length]
theorem ladd_dd {w0 : World} {rs : List LCall} {x : LCall} (h : ∀ x ∈ rs, ∀ D, encLCall_dd w0 D x) (hx : ∀ D, encLCall_dd w0 D x) : ∀ y ∈ rs ++ [x], ∀ D, encLCall_dd w0 D y := fun y hy D => (List.mem_append.1 hy).elim (fun h2 => h y h2 D) (fun h2 => by rw [List.mem_singleton.1 h2]; exact hx D)
theorem lset_dd {w0 : World} {rs : List LCall} {k : Nat} {x : LCall} (h : ∀ x ∈ rs, ∀ D, encLCall_dd w0 D x) (hx : ∀ D, encLCall_dd w0 D x) : ∀ y ∈ rs.set k x, ∀ D, encLCall_dd w0 D y := fun y hy D => by
  rcases List.mem_or_eq_of_mem_set hy with hy | rfl
  · exact h y hy D
  · exact hx D
theorem lmap_dd {w0 : World} {w n : Int} {rs : List LCall} (h : ∀ x ∈ rs, ∀ D, encLCall_dd w0 D x) : ∀ y ∈ rs.map (ltick w n), ∀ D, encLCall_dd w0 D y := fun y hy D => by
  obtain ⟨x, hx, rfl⟩ := List.mem_map.1 hy
  have := h x hx D
  unfold ltick
  split
  · split
    · split <;> exact this
    · exact this
  · exact this
theorem madd_dd {w0 : World} {rs : List Msg} {x : Msg} (h : ∀ x ∈ rs, ∀ D, encMessage_dd w0 D x) (hx : ∀ D, encMessage_dd w0 D x) : ∀ y ∈ rs ++ [x], ∀ D, encMessage_dd w0 D y := fun y hy D => (List.mem_append.1 hy).elim (fun h2 => h y h2 D) (fun h2 => by rw [List.mem_singleton.1 h2]; exact hx D)
theorem u8_nat (x : Int) : ∃ z : Nat, IntKind.u8.wrap x = (z : Int) ∧ z < 256 := by
  have : IntKind.u8.wrap x = x % 256 := by unfold IntKind.wrap; simp [IntKind.min, IntKind.max, IntKind.bits, IntKind.signed]
  exact ⟨(x % 256).toNat, by omega, by omega⟩
theorem u64_rng (x : Int) : 0 ≤ IntKind.u64.wrap x := by
  have : IntKind.u64.wrap x = x % 18446744073709551616 := by unfold IntKind.wrap; simp [IntKind.min, IntKind.max, IntKind.bits, IntKind.signed]
  omega

section
open Go.ChangeShapes Go.WideShapes Go.RowKit
def encCap (x : Int × Int × Int × Int) : List Value := [.int .u64 x.1, .int .u32 x.2.1, .int .u8 x.2.2.1, .int .u64 x.2.2.2]
theorem encCap_ok : Enc encCap 4 := ⟨fun _ => rfl, fun x u hu => by simp only [encCap, List.mem_cons, List.not_mem_nil, or_false] at hu; rcases hu with rfl | rfl | rfl | rfl <;> rfl⟩
def encCap_dd (w0 : World) (D : Chunk) (x : Int × Int × Int × Int) : Prop := True
theorem encCap_left {w0 : World} {D E : Chunk} {x : Int × Int × Int × Int} (h : encCap_dd w0 D x) : encCap_dd w0 (E ++ D) x := trivial
theorem encCap_lefts {w0 : World} {D E : Chunk} {l : List (Int × Int × Int × Int)} (h : ∀ x ∈ l, encCap_dd w0 D x) : ∀ x ∈ l, encCap_dd w0 (E ++ D) x := fun x hx => encCap_left (h x hx)
def encCap_good (w : World) (x : (Int × Int × Int × Int)) : Prop := (0 ≤ x.1 ∧ x.1 < 18446744073709551616) ∧ (0 ≤ x.2.1 ∧ x.2.1 < 4294967296) ∧ (0 ≤ x.2.2.1 ∧ x.2.2.1 < 256) ∧ (0 ≤ x.2.2.2 ∧ x.2.2.2 < 18446744073709551616)
theorem dec_encCap {H : Type} {enc : TypeId × Value → H} {w : World} {spare : Nat → Bool} {held : Bool} : ∀ n cs x, DataW.trod enc Tryd.prog w 0 spare held n 29 cs = some x → WOk Tryd.prog 29 x.1 → ∃ a, cs = encCap a ∧ encCap_good w a := fun n cs x h hw => by
  obtain ⟨xs, m, _, hx, hl, hxl, hf⟩ := DataW.trod_struct Tryd.underlying29 h
  subst hx
  have hc : Tryd.prog.cellsOf 29 = 4 := by kernel_rfl
  rw [hc] at hl
  obtain ⟨c0, c1, c2, c3, rfl⟩ : ∃ c0 c1 c2 c3, cs = [c0, c1, c2, c3] := by
    match cs, hl with
    | [c0, c1, c2, c3], _ => exact ⟨_, _, _, _, rfl⟩
  obtain ⟨y0, hy0⟩ : ∃ y, xs[0]? = some y := ⟨_, List.getElem?_eq_getElem (by rw [hxl]; decide)⟩
  have h0 : DataW.trod enc Tryd.prog w 0 spare held m 25 (([c0, c1, c2, c3].drop 0).take (Tryd.prog.cellsOf 25)) = xs[0]? := hf 0 _ rfl
  have k0 : Tryd.prog.cellsOf 25 = 1 := by kernel_rfl
  have w0 : WOk Tryd.prog 25 y0.1 := hw.part Tryd.underlying29 (i := 0) rfl (by rw [List.getElem?_map, hy0]; rfl)
  rw [k0, hy0] at h0
  obtain ⟨n0, e0, _, g0⟩ := DataW.trod_int Tryd.underlying25 h0
  simp only [List.drop_succ_cons, List.drop_zero, List.take_succ_cons, List.take_zero] at e0
  injection e0 with e0 _
  obtain ⟨y1, hy1⟩ : ∃ y, xs[1]? = some y := ⟨_, List.getElem?_eq_getElem (by rw [hxl]; decide)⟩
  have h1 : DataW.trod enc Tryd.prog w 0 spare held m 26 (([c0, c1, c2, c3].drop 1).take (Tryd.prog.cellsOf 26)) = xs[1]? := hf 1 _ rfl
  have k1 : Tryd.prog.cellsOf 26 = 1 := by kernel_rfl
  have w1 : WOk Tryd.prog 26 y1.1 := hw.part Tryd.underlying29 (i := 1) rfl (by rw [List.getElem?_map, hy1]; rfl)
  rw [k1, hy1] at h1
  obtain ⟨n1, e1, _, g1⟩ := DataW.trod_int Tryd.underlying26 h1
  simp only [List.drop_succ_cons, List.drop_zero, List.take_succ_cons, List.take_zero] at e1
  injection e1 with e1 _
  obtain ⟨y2, hy2⟩ : ∃ y, xs[2]? = some y := ⟨_, List.getElem?_eq_getElem (by rw [hxl]; decide)⟩
  have h2 : DataW.trod enc Tryd.prog w 0 spare held m 5 (([c0, c1, c2, c3].drop 2).take (Tryd.prog.cellsOf 5)) = xs[2]? := hf 2 _ rfl
  have k2 : Tryd.prog.cellsOf 5 = 1 := by kernel_rfl
  have w2 : WOk Tryd.prog 5 y2.1 := hw.part Tryd.underlying29 (i := 2) rfl (by rw [List.getElem?_map, hy2]; rfl)
  rw [k2, hy2] at h2
  obtain ⟨n2, e2, _, g2⟩ := DataW.trod_int Tryd.underlying5 h2
  simp only [List.drop_succ_cons, List.drop_zero, List.take_succ_cons, List.take_zero] at e2
  injection e2 with e2 _
  obtain ⟨y3, hy3⟩ : ∃ y, xs[3]? = some y := ⟨_, List.getElem?_eq_getElem (by rw [hxl]; decide)⟩
  have h3 : DataW.trod enc Tryd.prog w 0 spare held m 25 (([c0, c1, c2, c3].drop 3).take (Tryd.prog.cellsOf 25)) = xs[3]? := hf 3 _ rfl
  have k3 : Tryd.prog.cellsOf 25 = 1 := by kernel_rfl
  have w3 : WOk Tryd.prog 25 y3.1 := hw.part Tryd.underlying29 (i := 3) rfl (by rw [List.getElem?_map, hy3]; rfl)
  rw [k3, hy3] at h3
  obtain ⟨n3, e3, _, g3⟩ := DataW.trod_int Tryd.underlying25 h3
  simp only [List.drop_succ_cons, List.drop_zero, List.take_succ_cons, List.take_zero] at e3
  injection e3 with e3 _
  subst e0
  subst e1
  subst e2
  subst e3
  exact ⟨(n0, n1, n2, n3), rfl, ⟨wf_u64 g0, wf_u32 g1, wf_u8 g2, wf_u64 g3⟩⟩
def encMessage_good (w : World) (x : (Int × Int × Int × Int × Int × Int × Int × Int × Int × Int × Option Addr × Nat × List UInt8)) : Prop := (0 ≤ x.1 ∧ x.1 < 18446744073709551616) ∧ (0 ≤ x.2.1 ∧ x.2.1 < 18446744073709551616) ∧ (0 ≤ x.2.2.1 ∧ x.2.2.1 < 4294967296) ∧ (0 ≤ x.2.2.2.1 ∧ x.2.2.2.1 < 65536) ∧ (0 ≤ x.2.2.2.2.1 ∧ x.2.2.2.2.1 < 65536) ∧ (0 ≤ x.2.2.2.2.2.1 ∧ x.2.2.2.2.2.1 < 18446744073709551616) ∧ (0 ≤ x.2.2.2.2.2.2.1 ∧ x.2.2.2.2.2.2.1 < 4294967296) ∧ (0 ≤ x.2.2.2.2.2.2.2.1 ∧ x.2.2.2.2.2.2.2.1 < 256) ∧ (0 ≤ x.2.2.2.2.2.2.2.2.1 ∧ x.2.2.2.2.2.2.2.2.1 < 18446744073709551616) ∧ (0 ≤ x.2.2.2.2.2.2.2.2.2.1 ∧ x.2.2.2.2.2.2.2.2.2.1 < 18446744073709551616) ∧ (RdX w 1 (.slice x.2.2.2.2.2.2.2.2.2.2.1 x.2.2.2.2.2.2.2.2.2.2.2.2.length x.2.2.2.2.2.2.2.2.2.2.2.1) x.2.2.2.2.2.2.2.2.2.2.2.2.length (rows encB x.2.2.2.2.2.2.2.2.2.2.2.2) ∧ x.2.2.2.2.2.2.2.2.2.2.2.2.length ≤ 140737488351232)
theorem dec_encMessage {H : Type} {enc : TypeId × Value → H} {w : World} {spare : Nat → Bool} {held : Bool} : ∀ n cs x, DataW.trod enc Tryd.prog w 0 spare held n 32 cs = some x → WOk Tryd.prog 32 x.1 → ∃ a, cs = encMessage a ∧ encMessage_good w a := fun n cs x h hw => by
  obtain ⟨xs, m, _, hx, hl, hxl, hf⟩ := DataW.trod_struct Tryd.underlying32 h
  subst hx
  have hc : Tryd.prog.cellsOf 32 = 11 := by kernel_rfl
  rw [hc] at hl
  obtain ⟨c0, c1, c2, c3, c4, c5, c6, c7, c8, c9, c10, rfl⟩ : ∃ c0 c1 c2 c3 c4 c5 c6 c7 c8 c9 c10, cs = [c0, c1, c2, c3, c4, c5, c6, c7, c8, c9, c10] := by
    match cs, hl with
    | [c0, c1, c2, c3, c4, c5, c6, c7, c8, c9, c10], _ => exact ⟨_, _, _, _, _, _, _, _, _, _, _, rfl⟩
  obtain ⟨y0, hy0⟩ : ∃ y, xs[0]? = some y := ⟨_, List.getElem?_eq_getElem (by rw [hxl]; decide)⟩
  have h0 : DataW.trod enc Tryd.prog w 0 spare held m 25 (([c0, c1, c2, c3, c4, c5, c6, c7, c8, c9, c10].drop 0).take (Tryd.prog.cellsOf 25)) = xs[0]? := hf 0 _ rfl
  have k0 : Tryd.prog.cellsOf 25 = 1 := by kernel_rfl
  have w0 : WOk Tryd.prog 25 y0.1 := hw.part Tryd.underlying32 (i := 0) rfl (by rw [List.getElem?_map, hy0]; rfl)
  rw [k0, hy0] at h0
  obtain ⟨n0, e0, _, g0⟩ := DataW.trod_int Tryd.underlying25 h0
  simp only [List.drop_succ_cons, List.drop_zero, List.take_succ_cons, List.take_zero] at e0
  injection e0 with e0 _
  obtain ⟨y1, hy1⟩ : ∃ y, xs[1]? = some y := ⟨_, List.getElem?_eq_getElem (by rw [hxl]; decide)⟩
  have h1 : DataW.trod enc Tryd.prog w 0 spare held m 25 (([c0, c1, c2, c3, c4, c5, c6, c7, c8, c9, c10].drop 1).take (Tryd.prog.cellsOf 25)) = xs[1]? := hf 1 _ rfl
  have k1 : Tryd.prog.cellsOf 25 = 1 := by kernel_rfl
  have w1 : WOk Tryd.prog 25 y1.1 := hw.part Tryd.underlying32 (i := 1) rfl (by rw [List.getElem?_map, hy1]; rfl)
  rw [k1, hy1] at h1
  obtain ⟨n1, e1, _, g1⟩ := DataW.trod_int Tryd.underlying25 h1
  simp only [List.drop_succ_cons, List.drop_zero, List.take_succ_cons, List.take_zero] at e1
  injection e1 with e1 _
  obtain ⟨y2, hy2⟩ : ∃ y, xs[2]? = some y := ⟨_, List.getElem?_eq_getElem (by rw [hxl]; decide)⟩
  have h2 : DataW.trod enc Tryd.prog w 0 spare held m 26 (([c0, c1, c2, c3, c4, c5, c6, c7, c8, c9, c10].drop 2).take (Tryd.prog.cellsOf 26)) = xs[2]? := hf 2 _ rfl
  have k2 : Tryd.prog.cellsOf 26 = 1 := by kernel_rfl
  have w2 : WOk Tryd.prog 26 y2.1 := hw.part Tryd.underlying32 (i := 2) rfl (by rw [List.getElem?_map, hy2]; rfl)
  rw [k2, hy2] at h2
  obtain ⟨n2, e2, _, g2⟩ := DataW.trod_int Tryd.underlying26 h2
  simp only [List.drop_succ_cons, List.drop_zero, List.take_succ_cons, List.take_zero] at e2
  injection e2 with e2 _
  obtain ⟨y3, hy3⟩ : ∃ y, xs[3]? = some y := ⟨_, List.getElem?_eq_getElem (by rw [hxl]; decide)⟩
  have h3 : DataW.trod enc Tryd.prog w 0 spare held m 27 (([c0, c1, c2, c3, c4, c5, c6, c7, c8, c9, c10].drop 3).take (Tryd.prog.cellsOf 27)) = xs[3]? := hf 3 _ rfl
  have k3 : Tryd.prog.cellsOf 27 = 1 := by kernel_rfl
  have w3 : WOk Tryd.prog 27 y3.1 := hw.part Tryd.underlying32 (i := 3) rfl (by rw [List.getElem?_map, hy3]; rfl)
  rw [k3, hy3] at h3
  obtain ⟨n3, e3, _, g3⟩ := DataW.trod_int Tryd.underlying27 h3
  simp only [List.drop_succ_cons, List.drop_zero, List.take_succ_cons, List.take_zero] at e3
  injection e3 with e3 _
  obtain ⟨y4, hy4⟩ : ∃ y, xs[4]? = some y := ⟨_, List.getElem?_eq_getElem (by rw [hxl]; decide)⟩
  have h4 : DataW.trod enc Tryd.prog w 0 spare held m 27 (([c0, c1, c2, c3, c4, c5, c6, c7, c8, c9, c10].drop 4).take (Tryd.prog.cellsOf 27)) = xs[4]? := hf 4 _ rfl
  have k4 : Tryd.prog.cellsOf 27 = 1 := by kernel_rfl
  have w4 : WOk Tryd.prog 27 y4.1 := hw.part Tryd.underlying32 (i := 4) rfl (by rw [List.getElem?_map, hy4]; rfl)
  rw [k4, hy4] at h4
  obtain ⟨n4, e4, _, g4⟩ := DataW.trod_int Tryd.underlying27 h4
  simp only [List.drop_succ_cons, List.drop_zero, List.take_succ_cons, List.take_zero] at e4
  injection e4 with e4 _
  obtain ⟨y5, hy5⟩ : ∃ y, xs[5]? = some y := ⟨_, List.getElem?_eq_getElem (by rw [hxl]; decide)⟩
  have h5 : DataW.trod enc Tryd.prog w 0 spare held m 29 (([c0, c1, c2, c3, c4, c5, c6, c7, c8, c9, c10].drop 5).take (Tryd.prog.cellsOf 29)) = xs[5]? := hf 5 _ rfl
  have k5 : Tryd.prog.cellsOf 29 = 4 := by kernel_rfl
  have w5 : WOk Tryd.prog 29 y5.1 := hw.part Tryd.underlying32 (i := 5) rfl (by rw [List.getElem?_map, hy5]; rfl)
  rw [k5, hy5] at h5
  obtain ⟨⟨m5_0, m5_1, m5_2, m5_3⟩, e5, g5⟩ := dec_encCap _ _ _ h5 w5
  obtain ⟨g5_0, g5_1, g5_2, g5_3⟩ := g5
  simp only [List.drop_succ_cons, List.drop_zero, List.take_succ_cons, List.take_zero, encCap, List.cons.injEq, and_true] at e5
  obtain ⟨e5_0, e5_1, e5_2, e5_3⟩ := e5
  obtain ⟨y6, hy6⟩ : ∃ y, xs[6]? = some y := ⟨_, List.getElem?_eq_getElem (by rw [hxl]; decide)⟩
  have h6 : DataW.trod enc Tryd.prog w 0 spare held m 25 (([c0, c1, c2, c3, c4, c5, c6, c7, c8, c9, c10].drop 9).take (Tryd.prog.cellsOf 25)) = xs[6]? := hf 6 _ rfl
  have k6 : Tryd.prog.cellsOf 25 = 1 := by kernel_rfl
  have w6 : WOk Tryd.prog 25 y6.1 := hw.part Tryd.underlying32 (i := 6) rfl (by rw [List.getElem?_map, hy6]; rfl)
  rw [k6, hy6] at h6
  obtain ⟨n6, e6, _, g6⟩ := DataW.trod_int Tryd.underlying25 h6
  simp only [List.drop_succ_cons, List.drop_zero, List.take_succ_cons, List.take_zero] at e6
  injection e6 with e6 _
  obtain ⟨y7, hy7⟩ : ∃ y, xs[7]? = some y := ⟨_, List.getElem?_eq_getElem (by rw [hxl]; decide)⟩
  have h7 : DataW.trod enc Tryd.prog w 0 spare held m 30 (([c0, c1, c2, c3, c4, c5, c6, c7, c8, c9, c10].drop 10).take (Tryd.prog.cellsOf 30)) = xs[7]? := hf 7 _ rfl
  have k7 : Tryd.prog.cellsOf 30 = 1 := by kernel_rfl
  have w7 : WOk Tryd.prog 30 y7.1 := hw.part Tryd.underlying32 (i := 7) rfl (by rw [List.getElem?_map, hy7]; rfl)
  rw [k7, hy7] at h7
  obtain ⟨A7, d7, b7, e7, g7⟩ := dec_bytes Tryd.underlying30 Tryd.underlying5 (by kernel_rfl) (by kernel_rfl) _ _ _ h7 w7
  simp only [List.drop_succ_cons, List.drop_zero, List.take_succ_cons, List.take_zero] at e7
  injection e7 with e7 _
  subst e0
  subst e1
  subst e2
  subst e3
  subst e4
  subst e5_0
  subst e5_1
  subst e5_2
  subst e5_3
  subst e6
  subst e7
  exact ⟨(n0, n1, n2, n3, n4, m5_0, m5_1, m5_2, m5_3, n6, A7, d7, b7), rfl, ⟨wf_u64 g0, wf_u64 g1, wf_u32 g2, wf_u16 g3, wf_u16 g4, g5_0, g5_1, g5_2, g5_3, wf_u64 g6, g7⟩⟩
theorem encMessage_gdd {w : World} {D : Chunk} {x : (Int × Int × Int × Int × Int × Int × Int × Int × Int × Int × Option Addr × Nat × List UInt8)} (h : encMessage_good w x) : encMessage_dd w D x := DD.of (h.2.2.2.2.2.2.2.2.2.2).1
def encAct (x : Int × Int × Int × Int × Int × Int × Int × Int × Int × Int × Int × Option Addr × Nat × List UInt8 × Int) : List Value := [.int .u8 x.1, .int .u64 x.2.1, .int .u64 x.2.2.1, .int .u32 x.2.2.2.1, .int .u16 x.2.2.2.2.1, .int .u16 x.2.2.2.2.2.1, .int .u64 x.2.2.2.2.2.2.1, .int .u32 x.2.2.2.2.2.2.2.1, .int .u8 x.2.2.2.2.2.2.2.2.1, .int .u64 x.2.2.2.2.2.2.2.2.2.1, .int .u64 x.2.2.2.2.2.2.2.2.2.2.1, .slice x.2.2.2.2.2.2.2.2.2.2.2.1 x.2.2.2.2.2.2.2.2.2.2.2.2.2.1.length x.2.2.2.2.2.2.2.2.2.2.2.2.1, .int .u8 x.2.2.2.2.2.2.2.2.2.2.2.2.2.2]
theorem encAct_ok : Enc encAct 13 := ⟨fun _ => rfl, fun x u hu => by simp only [encAct, List.mem_cons, List.not_mem_nil, or_false] at hu; rcases hu with rfl | rfl | rfl | rfl | rfl | rfl | rfl | rfl | rfl | rfl | rfl | rfl | rfl <;> rfl⟩
def encAct_dd (w0 : World) (D : Chunk) (x : Int × Int × Int × Int × Int × Int × Int × Int × Int × Int × Int × Option Addr × Nat × List UInt8 × Int) : Prop := DD w0 D x.2.2.2.2.2.2.2.2.2.2.2.1 x.2.2.2.2.2.2.2.2.2.2.2.2.1 x.2.2.2.2.2.2.2.2.2.2.2.2.2.1
theorem encAct_left {w0 : World} {D E : Chunk} {x : Int × Int × Int × Int × Int × Int × Int × Int × Int × Int × Int × Option Addr × Nat × List UInt8 × Int} (h : encAct_dd w0 D x) : encAct_dd w0 (E ++ D) x := DD.left h
theorem encAct_lefts {w0 : World} {D E : Chunk} {l : List (Int × Int × Int × Int × Int × Int × Int × Int × Int × Int × Int × Option Addr × Nat × List UInt8 × Int)} (h : ∀ x ∈ l, encAct_dd w0 D x) : ∀ x ∈ l, encAct_dd w0 (E ++ D) x := fun x hx => encAct_left (h x hx)
def encAct_good (w : World) (x : (Int × Int × Int × Int × Int × Int × Int × Int × Int × Int × Int × Option Addr × Nat × List UInt8 × Int)) : Prop := (0 ≤ x.1 ∧ x.1 < 256) ∧ (0 ≤ x.2.1 ∧ x.2.1 < 18446744073709551616) ∧ (0 ≤ x.2.2.1 ∧ x.2.2.1 < 18446744073709551616) ∧ (0 ≤ x.2.2.2.1 ∧ x.2.2.2.1 < 4294967296) ∧ (0 ≤ x.2.2.2.2.1 ∧ x.2.2.2.2.1 < 65536) ∧ (0 ≤ x.2.2.2.2.2.1 ∧ x.2.2.2.2.2.1 < 65536) ∧ (0 ≤ x.2.2.2.2.2.2.1 ∧ x.2.2.2.2.2.2.1 < 18446744073709551616) ∧ (0 ≤ x.2.2.2.2.2.2.2.1 ∧ x.2.2.2.2.2.2.2.1 < 4294967296) ∧ (0 ≤ x.2.2.2.2.2.2.2.2.1 ∧ x.2.2.2.2.2.2.2.2.1 < 256) ∧ (0 ≤ x.2.2.2.2.2.2.2.2.2.1 ∧ x.2.2.2.2.2.2.2.2.2.1 < 18446744073709551616) ∧ (0 ≤ x.2.2.2.2.2.2.2.2.2.2.1 ∧ x.2.2.2.2.2.2.2.2.2.2.1 < 18446744073709551616) ∧ (RdX w 1 (.slice x.2.2.2.2.2.2.2.2.2.2.2.1 x.2.2.2.2.2.2.2.2.2.2.2.2.2.1.length x.2.2.2.2.2.2.2.2.2.2.2.2.1) x.2.2.2.2.2.2.2.2.2.2.2.2.2.1.length (rows encB x.2.2.2.2.2.2.2.2.2.2.2.2.2.1) ∧ x.2.2.2.2.2.2.2.2.2.2.2.2.2.1.length ≤ 140737488351232) ∧ (0 ≤ x.2.2.2.2.2.2.2.2.2.2.2.2.2.2 ∧ x.2.2.2.2.2.2.2.2.2.2.2.2.2.2 < 256)
theorem dec_encAct {H : Type} {enc : TypeId × Value → H} {w : World} {spare : Nat → Bool} {held : Bool} : ∀ n cs x, DataW.trod enc Tryd.prog w 0 spare held n 51 cs = some x → WOk Tryd.prog 51 x.1 → ∃ a, cs = encAct a ∧ encAct_good w a := fun n cs x h hw => by
  obtain ⟨xs, m, _, hx, hl, hxl, hf⟩ := DataW.trod_struct Tryd.underlying51 h
  subst hx
  have hc : Tryd.prog.cellsOf 51 = 13 := by kernel_rfl
  rw [hc] at hl
  obtain ⟨c0, c1, c2, c3, c4, c5, c6, c7, c8, c9, c10, c11, c12, rfl⟩ : ∃ c0 c1 c2 c3 c4 c5 c6 c7 c8 c9 c10 c11 c12, cs = [c0, c1, c2, c3, c4, c5, c6, c7, c8, c9, c10, c11, c12] := by
    match cs, hl with
    | [c0, c1, c2, c3, c4, c5, c6, c7, c8, c9, c10, c11, c12], _ => exact ⟨_, _, _, _, _, _, _, _, _, _, _, _, _, rfl⟩
  obtain ⟨y0, hy0⟩ : ∃ y, xs[0]? = some y := ⟨_, List.getElem?_eq_getElem (by rw [hxl]; decide)⟩
  have h0 : DataW.trod enc Tryd.prog w 0 spare held m 5 (([c0, c1, c2, c3, c4, c5, c6, c7, c8, c9, c10, c11, c12].drop 0).take (Tryd.prog.cellsOf 5)) = xs[0]? := hf 0 _ rfl
  have k0 : Tryd.prog.cellsOf 5 = 1 := by kernel_rfl
  have w0 : WOk Tryd.prog 5 y0.1 := hw.part Tryd.underlying51 (i := 0) rfl (by rw [List.getElem?_map, hy0]; rfl)
  rw [k0, hy0] at h0
  obtain ⟨n0, e0, _, g0⟩ := DataW.trod_int Tryd.underlying5 h0
  simp only [List.drop_succ_cons, List.drop_zero, List.take_succ_cons, List.take_zero] at e0
  injection e0 with e0 _
  obtain ⟨y1, hy1⟩ : ∃ y, xs[1]? = some y := ⟨_, List.getElem?_eq_getElem (by rw [hxl]; decide)⟩
  have h1 : DataW.trod enc Tryd.prog w 0 spare held m 32 (([c0, c1, c2, c3, c4, c5, c6, c7, c8, c9, c10, c11, c12].drop 1).take (Tryd.prog.cellsOf 32)) = xs[1]? := hf 1 _ rfl
  have k1 : Tryd.prog.cellsOf 32 = 11 := by kernel_rfl
  have w1 : WOk Tryd.prog 32 y1.1 := hw.part Tryd.underlying51 (i := 1) rfl (by rw [List.getElem?_map, hy1]; rfl)
  rw [k1, hy1] at h1
  obtain ⟨⟨m1_0, m1_1, m1_2, m1_3, m1_4, m1_5, m1_6, m1_7, m1_8, m1_9, m1_10, m1_11, m1_12⟩, e1, g1⟩ := dec_encMessage _ _ _ h1 w1
  obtain ⟨g1_0, g1_1, g1_2, g1_3, g1_4, g1_5, g1_6, g1_7, g1_8, g1_9, g1_10⟩ := g1
  simp only [List.drop_succ_cons, List.drop_zero, List.take_succ_cons, List.take_zero, encMessage, List.cons.injEq, and_true] at e1
  obtain ⟨e1_0, e1_1, e1_2, e1_3, e1_4, e1_5, e1_6, e1_7, e1_8, e1_9, e1_10⟩ := e1
  obtain ⟨y2, hy2⟩ : ∃ y, xs[2]? = some y := ⟨_, List.getElem?_eq_getElem (by rw [hxl]; decide)⟩
  have h2 : DataW.trod enc Tryd.prog w 0 spare held m 5 (([c0, c1, c2, c3, c4, c5, c6, c7, c8, c9, c10, c11, c12].drop 12).take (Tryd.prog.cellsOf 5)) = xs[2]? := hf 2 _ rfl
  have k2 : Tryd.prog.cellsOf 5 = 1 := by kernel_rfl
  have w2 : WOk Tryd.prog 5 y2.1 := hw.part Tryd.underlying51 (i := 2) rfl (by rw [List.getElem?_map, hy2]; rfl)
  rw [k2, hy2] at h2
  obtain ⟨n2, e2, _, g2⟩ := DataW.trod_int Tryd.underlying5 h2
  simp only [List.drop_succ_cons, List.drop_zero, List.take_succ_cons, List.take_zero] at e2
  injection e2 with e2 _
  subst e0
  subst e1_0
  subst e1_1
  subst e1_2
  subst e1_3
  subst e1_4
  subst e1_5
  subst e1_6
  subst e1_7
  subst e1_8
  subst e1_9
  subst e1_10
  subst e2
  exact ⟨(n0, m1_0, m1_1, m1_2, m1_3, m1_4, m1_5, m1_6, m1_7, m1_8, m1_9, m1_10, m1_11, m1_12, n2), rfl, ⟨wf_u8 g0, g1_0, g1_1, g1_2, g1_3, g1_4, g1_5, g1_6, g1_7, g1_8, g1_9, g1_10, wf_u8 g2⟩⟩
theorem encAct_gdd {w : World} {D : Chunk} {x : (Int × Int × Int × Int × Int × Int × Int × Int × Int × Int × Int × Option Addr × Nat × List UInt8 × Int)} (h : encAct_good w x) : encAct_dd w D x := DD.of (h.2.2.2.2.2.2.2.2.2.2.2.1).1
end
end Go.Proofs.YtjdkcdeldmjdmaaDoor
