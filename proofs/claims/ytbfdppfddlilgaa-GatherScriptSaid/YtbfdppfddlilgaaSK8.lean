import Derived.Test.YtbfdppfddlilgaaSK7
set_option linter.unusedVariables false
set_option linter.unusedSimpArgs false
namespace Go.SK
open Go

/-! ### 13. Parts of rows -/
section
variable {w0 w w' : World} {L F : List Chunk} {T E size m c : Nat} {A : Option Addr} {xs : List Value} {C : Chunk} {v : Value}

theorem Rd.slv (h : Rd w size (.slice A m c) m xs) (l hh cc : Nat) (hlh : l ≤ hh) (hm : hh ≤ m) (hc : hh ≤ cc) (hcc : cc ≤ c) : Rd w size (slv A l hh cc size) (hh - l) ((xs.take (hh * size)).drop (l * size)) := by
  obtain ⟨hl, ⟨hv, h0⟩ | ⟨b, off, c', hv, hmc, hmx, hx⟩⟩ := h
  · injection hv with h1 h2 h3
    subst h1; subst h2; subst h3
    have : hh = 0 := by omega
    subst this
    have : l = 0 := by omega
    subst this
    have : cc = 0 := by omega
    subst this
    have hxs : xs = [] := List.eq_nil_of_length_eq_zero (by simpa using hl)
    subst hxs
    exact ⟨by simp, .inl ⟨by simp [SK.slv], by omega⟩⟩
  · injection hv with h1 h2 h3
    subst h1; subst h3
    have hll : l * size ≤ hh * size := Nat.mul_le_mul_right _ hlh
    have hlm : hh * size ≤ m * size := Nat.mul_le_mul_right _ hm
    refine ⟨by simp [hl, Nat.sub_mul, Nat.min_eq_left hlm], .inr ?_⟩
    by_cases hcl : cc = l
    · have : hh = l := by omega
      subst this
      refine ⟨b, off, cc - hh, by simp [SK.slv, hcl], by omega, by omega, fun j u hu => ?_⟩
      have : ((xs.take (hh * size)).drop (hh * size)) = [] := List.drop_eq_nil_of_le (by simp; omega)
      rw [this] at hu
      cases hu
    · refine ⟨b, off + l * size, cc - l, by simp [SK.slv, hcl, Addr.add_lit], by omega, by omega, fun j u hu => ?_⟩
      rw [List.getElem?_drop] at hu
      have hlt : l * size + j < hh * size := by
        have := (List.getElem?_eq_some_iff.1 hu).1
        simp at this
        omega
      rw [List.getElem?_take, if_pos hlt] at hu
      rw [Nat.add_assoc]
      exact hx _ u hu

theorem Rd.head (h : Rd w size (.slice A m c) m xs) (hh : Nat) (hm : hh ≤ m) : Rd w size (.slice A hh c) hh (xs.take (hh * size)) := by
  have := h.slv 0 hh c (Nat.zero_le _) hm (by have := h.open; obtain ⟨_, _, h1, h2, _⟩ := this; injection h1 with _ _ h3; omega) (Nat.le_refl _)
  have e : SK.slv A 0 hh c size = .slice A hh c := by
    unfold SK.slv
    cases A with
    | none => simp
    | some p => simp [Addr.add]
  rw [e] at this
  simpa using this

theorem Own.slv (h : Own T size (.slice A m c) m xs C) (l hh cc : Nat) (hlh : l ≤ hh) (hm : hh ≤ m) (hc : hh ≤ cc) (hcc : cc ≤ c) : Own T size (slv A l hh cc size) (hh - l) ((xs.take (hh * size)).drop (l * size)) C := by
  obtain ⟨hl, ⟨hv, h0, hC⟩ | ⟨g, pre, sp, post, c', hv, hmc, hmx, hsp, rfl⟩⟩ := h
  · injection hv with h1 h2 h3
    subst h1; subst h2; subst h3
    have : hh = 0 := by omega
    subst this
    have : l = 0 := by omega
    subst this
    have : cc = 0 := by omega
    subst this
    have hxs : xs = [] := List.eq_nil_of_length_eq_zero (by simpa using hl)
    subst hxs
    exact ⟨by simp, .inl ⟨by simp [SK.slv], by omega, hC⟩⟩
  · injection hv with h1 h2 h3
    subst h1; subst h3
    have hll : l * size ≤ hh * size := Nat.mul_le_mul_right _ hlh
    have hlm : hh * size ≤ m * size := Nat.mul_le_mul_right _ hm
    have hcc2 : (cc - hh) * size ≤ (m - hh) * size + sp.length := by rw [hsp, ← Nat.add_mul]; exact Nat.mul_le_mul_right _ (by omega)
    refine ⟨by simp [hl, Nat.sub_mul, Nat.min_eq_left hlm], .inr ?_⟩
    -- the row parted at l and at hh
    have hx : xs = xs.take (l * size) ++ ((xs.take (hh * size)).drop (l * size) ++ xs.drop (hh * size)) := by
      rw [← List.append_assoc]
      have e1 : xs.take (l * size) ++ (xs.take (hh * size)).drop (l * size) = xs.take (hh * size) := by
        have := List.take_append_drop (l * size) (xs.take (hh * size))
        rwa [List.take_take, Nat.min_eq_left hll] at this
      rw [e1, List.take_append_drop]
    by_cases hcl : cc = l
    · have : hh = l := by omega
      subst this
      refine ⟨g, pre, [], xs ++ (sp ++ post), cc - hh, by simp [SK.slv, hcl], by omega, by omega, by simp [hcl], ?_⟩
      have : ((xs.take (hh * size)).drop (hh * size)) = [] := List.drop_eq_nil_of_le (by simp; omega)
      rw [this]
      simp
    · refine ⟨g, pre ++ xs.take (l * size), (xs.drop (hh * size) ++ sp).take ((cc - hh) * size), (xs.drop (hh * size) ++ sp).drop ((cc - hh) * size) ++ post, cc - l, ?_, by omega, by omega, ?_, ?_⟩
      · simp [SK.slv, hcl, Addr.add_lit, hl, Nat.min_eq_left (show l * size ≤ m * size by omega), Nat.min_eq_left (show l ≤ m by omega)]
      · rw [List.length_take, List.length_append, List.length_drop, hl, ← Nat.sub_mul]
        rw [show cc - l - (hh - l) = cc - hh by omega]
        omega
      · congr 3
        have e2 : (xs.drop (hh * size) ++ sp).take ((cc - hh) * size) ++ ((xs.drop (hh * size) ++ sp).drop ((cc - hh) * size) ++ post) = xs.drop (hh * size) ++ (sp ++ post) := by
          rw [← List.append_assoc, List.take_append_drop, List.append_assoc]
        rw [e2, List.append_assoc]
        conv => lhs; rw [hx]
        simp only [List.append_assoc]

theorem slv_head (A : Option Addr) (h c s : Nat) : slv A 0 h c s = .slice A h c := by
  unfold slv
  cases A with
  | none => simp
  | some p => simp [Addr.add]

theorem Own.head (h : Own T size (.slice A m c) m xs C) (hh : Nat) (hm : hh ≤ m) : Own T size (.slice A hh c) hh (xs.take (hh * size)) C := by
  obtain ⟨_, _, h1, h2, _⟩ := h.open
  injection h1 with _ _ h3
  have := h.slv 0 hh c (Nat.zero_le _) hm (by omega) (Nat.le_refl _)
  rw [slv_head] at this
  simpa using this

theorem Own.isSome (h : Own T size (.slice A m c) m xs C) {k : Nat} (hk : k < m) : ∃ b off, A = some ⟨b, off, none⟩ := by
  obtain ⟨hl, ⟨hv, hm, _⟩ | ⟨g, pre, sp, post, c', hv, hc, hmx, hsp, _⟩⟩ := h
  · omega
  · injection hv with h1 h2 h3
    exact ⟨g, pre.length, h1⟩

theorem Own.cap (h : Own T size (.slice A m c) m xs C) : m ≤ c ∧ c ≤ 9223372036854775807 := by
  obtain ⟨_, _, h1, h2, h3⟩ := h.open
  injection h1 with _ _ h4
  subst h4
  exact ⟨h2, h3⟩
theorem Rd.cap (h : Rd w size (.slice A m c) m xs) : m ≤ c ∧ c ≤ 9223372036854775807 := by
  obtain ⟨_, _, h1, h2, h3⟩ := h.open
  injection h1 with _ _ h4
  subst h4
  exact ⟨h2, h3⟩
end

section
variable {P : Program} {tb : List TI} {ops : Array Oper} {Q : Exit → Act → World → Prop} {a : Act} {w0 w : World} {n : Nat} {e : Env} {L : List Chunk} {o : Oper} {rest : List Oper} {d : Nat}

/-- s[i] = v, s.f[i].g = v: a store of cells into a row of the call's own, the front chunk. -/
theorem st_store_own (hT : TabOk P tb) (hA : Has a n e) {E size m c b off : Nat} {xs : List Value} {C : Chunk} (hO : Own E size (.slice (some ⟨b, off, none⟩) m c) m xs C) (hS : St w0 w (C :: L))
    {T : Nat} {i : TI} {x y : Operand} {v : Value} (p off' : Nat) (cs xs' : List Value)
    (ho : o.op = .store T x y) (hx : ev e x = some (.pointer (some ⟨b, off', none⟩))) (hy : ev e y = some v) (hi : lkT tb T = some i)
    (hoff : off' = off + p) (hcs : v.cells = cs.toArray) (hl : cs.length = i.size) (h1 : ∀ u ∈ cs, u.oneCell' = true) (hfit : p + cs.length ≤ xs.length) (hxs : xs.take p ++ (cs ++ xs.drop (p + cs.length)) = xs')
    (hw : wantE ops e o.guard = some true) (hd : o.dst = none)
    (k : ∀ w' C', Own E size (.slice (some ⟨b, off, none⟩) m c) m xs' C' → St w0 w' (C' :: L) → wpList P ops Q rest a w') : wpList P ops Q (o :: rest) a w := by
  subst hoff
  subst hxs
  obtain ⟨hol, ⟨hv, _⟩ | ⟨g, pre, sp, post, c', hv, hc, hmx, hsp, rfl⟩⟩ := hO
  · injection hv with hv; cases hv
  · injection hv with h1' h2' h3'
    injection h1' with h1'
    injection h1' with h4 h5
    subst h4; subst h5; subst h3'
    have e1 : (pre ++ (xs ++ (sp ++ post))).take (pre.length + p) ++ cs ++ (pre ++ (xs ++ (sp ++ post))).drop (pre.length + p + cs.length) = pre ++ ((xs.take p ++ (cs ++ xs.drop (p + cs.length))) ++ (sp ++ post)) := by
      rw [List.take_append, List.take_of_length_le (by omega), Nat.add_sub_cancel_left, List.take_append_of_le_length (by omega)]
      rw [show pre.length + p + cs.length = pre.length + (p + cs.length) by omega, List.drop_append, List.drop_eq_nil_of_le (by omega), Nat.add_sub_cancel_left, List.drop_append_of_le_length (by omega)]
      simp
    refine st_store hT hA hS cs _ ho hx hy hi hcs hl h1 (by simp; omega) e1 hw hd ?_
    intro w' hS'
    refine k w' _ ⟨?_, .inr ⟨b, pre, sp, post, c, rfl, hc, hmx, hsp, rfl⟩⟩ hS'
    rw [← hol]
    simp only [List.length_append, List.length_take, List.length_drop]
    omega

/-- append(s, x...) where there is room. -/
theorem run_append_rm (hT : TabOk P tb) {T E size m q c : Nat} {i j : TI} {A : Option Addr} {x : Value} {xs news : List Value} {C : Chunk} (hi : lkT tb T = some i) (hE : i.desc = .slice E) (hj : lkT tb E = some j)
    (hsize : j.size = size) (hO : Own E size (.slice A m c) m xs C) (hS : St w0 w (C :: L)) (hx : Rd w size x q news) (h1 : ∀ u ∈ news, u.oneCell' = true) (hroom : m + q ≤ c) (ty : TypeId) :
    ∃ w' C', (Builtin.append_ #[T, T] ty #[.slice A m c, x]).run P w = .ok (.slice A (m + q) c) w' ∧ Own E size (.slice A (m + q) c) (m + q) (xs ++ news) C' ∧ St w0 w' (C' :: L) := by
  obtain ⟨ht, hok⟩ := hT.at_ hi
  obtain ⟨htj, hokj⟩ := hT.at_ hj
  have hu : P.underlying T = some (.slice E) := by have := hok.1; rwa [ht, hE] at this
  obtain ⟨_, inf, hinf, hs1, hb1, hz1⟩ := hokj
  rw [htj] at hinf
  have hlen : (xs ++ news).length = (m + q) * size := by rw [List.length_append, hO.1, hx.1, Nat.add_mul]
  have hcapO := hO.cap
  obtain ⟨hxl, hxx⟩ := hx
  obtain ⟨hol, hoo⟩ := hO
  have hss : inf.size = size := hs1.trans hsize
  by_cases hq : q = 0
  · subst hq
    have hnews : news = [] := List.eq_nil_of_length_eq_zero (by simpa using hxl)
    subst hnews
    refine ⟨w, C, ?_, ⟨by simpa using hol, by simpa using hoo⟩, hS⟩
    have hxv : ∃ A c, x = .slice A 0 c := by
      rcases hxx with ⟨hv, _⟩ | ⟨b, off, c, hv, _⟩ <;> exact ⟨_, _, hv⟩
    obtain ⟨A', c', rfl⟩ := hxv
    have hfc : (Builtin.firstCells inf.size 0 (.slice A' 0 c')).run P w = .ok #[] w := by
      cases A' <;> simp [Builtin.firstCells, loadCells, loadCellsFrom]
    cases A <;> simp [Builtin.append_, run_underlying hu, sizeOf, typeInfo, hinf, Builtin.lenOf, hfc, hcapO.1, storeCells]
  · obtain ⟨b, off, c2, rfl, hqc, hcm, hxr⟩ : ∃ b off c, x = .slice (some ⟨b, off, none⟩) q c ∧ q ≤ c ∧ c ≤ maxLen ∧ ∀ j u, news[j]? = some u → w.cell? ⟨b, off + j, none⟩ = some u := by
      rcases hxx with ⟨_, h⟩ | h
      · exact absurd h hq
      · exact h
    have hnews : ∀ j u, news[j]? = some u → w.cell? ((⟨b, off, none⟩ : Addr).add j) = some u := fun j u hu => by rw [Addr.add_lit]; exact hxr j u hu
    have hl' : news.length = q * inf.size := by rw [hss]; exact hxl
    rcases hoo with ⟨hv, _, _⟩ | ⟨g, pre, sp, post, c', hv, hmc, hcm', hsp, rfl⟩
    · injection hv with h1 h2 h3
      omega
    · injection hv with hv1 hv2 hv3
      subst hv1; subst hv3
      have hg := hS.heapAt 0 rfl
      have hfc := run_firstCells_some (P := P) w inf.size q ⟨b, off, none⟩ q c2 news hl' hnews
      have hcm2 : c * size = m * size + (c - m) * size := by rw [← Nat.add_mul]; congr 1; omega
      have hqs : q * size ≤ (c - m) * size := Nat.mul_le_mul_right _ (by omega)
      have hst := run_storeCells_at P g (pre.length + m * size) E news 0 (pre ++ (xs ++ (sp ++ post))).toArray w hg (by simp; omega) h1
      simp only [Nat.add_zero] at hst
      refine ⟨_, [(g, rowO (pre ++ ((xs ++ news) ++ (sp.drop (q * size) ++ post))) E)], ?_, ⟨hlen, .inr ⟨g, pre, sp.drop (q * size), post, c, rfl, hroom, hcm', ?_, rfl⟩⟩, hS.upd (upd_setRow hg)⟩
      · rw [hss] at hfc
        have e1 : (pre ++ (xs ++ (sp ++ post))).take (pre.length + m * size) = pre ++ xs := by
          rw [← List.append_assoc, ← hol, ← List.length_append]; exact List.take_left
        have e2 : (pre ++ (xs ++ (sp ++ post))).drop (pre.length + m * size + news.length) = sp.drop (q * size) ++ post := by
          rw [← List.append_assoc, ← hol, ← List.length_append, List.drop_append, hxl, List.drop_eq_nil_of_le (by omega), List.nil_append, Nat.add_sub_cancel_left, List.drop_append, Nat.sub_eq_zero_of_le (by omega), List.drop_zero]
        simp only [List.append_assoc, e1, e2] at hst
        simp [Builtin.append_, run_underlying hu, sizeOf, typeInfo, hinf, Builtin.lenOf, hroom, hss, hfc, Addr.add_lit, hst]
      · rw [List.length_drop, hsp, ← Nat.sub_mul]; congr 1; omega

theorem st_append_rm (hT : TabOk P tb) (hA : Has a n e) {T E size m q c : Nat} {i j : TI} {s y : Operand} {A : Option Addr} {x : Value} {xs news : List Value} {C : Chunk}
    (ho : o.op = .call { callee := .builtin .append, args := #[s, y], argTypes := #[T, T] }) (hs : ev e s = some (.slice A m c)) (hy : ev e y = some x)
    (hi : lkT tb T = some i) (hE : i.desc = .slice E) (hj : lkT tb E = some j) (hsize : j.size = size)
    (hO : Own E size (.slice A m c) m xs C) (hS : St w0 w (C :: L)) (hx : Rd w size x q news) (h1 : ∀ u ∈ news, u.oneCell' = true) (hroom : m + q ≤ c)
    (hw : wantE ops e o.guard = some true) (hd : o.dst = some d) (hdn : d < n)
    (k : ∀ w' C' a', Own E size (.slice A (m + q) c) (m + q) (xs ++ news) C' → St w0 w' (C' :: L) → Has a' n ((d, .slice A (m + q) c) :: e) → wpList P ops Q rest a' w') : wpList P ops Q (o :: rest) a w := by
  obtain ⟨w', C', hr, h2, h3⟩ := run_append_rm hT hi hE hj hsize hO hS hx h1 hroom o.type
  refine st_val hA hw hd hdn (v := .slice A (m + q) c) (w' := w') ?_ (fun a' h => k w' C' a' h2 h3 h)
  unfold execOp
  rw [ho]
  simp [resolve, invoke, builtin, hA.ev hs, hA.ev hy, hr]

theorem size_zeroCells' (z : Array Value) (n : Nat) : (Builtin.zeroCells z n).toList.length = n * z.size := by simp [Builtin.zeroCells]

/-- clear(s[h:old]): the places behind the first h elements. -/
theorem st_clear (hT : TabOk P tb) (hA : Has a n e) {T E size h old c : Nat} {i j : TI} {s : Operand} {A : Option Addr} {xs : List Value} {C : Chunk}
    (ho : o.op = .call { callee := .builtin .clear, args := #[s], argTypes := #[T] }) (hs : ev e s = some (slv A h old c size))
    (hi : lkT tb T = some i) (hE : i.desc = .slice E) (hj : lkT tb E = some j) (hzs : j.zero.cells.size = size) (hz1 : ∀ u ∈ j.zero.cells.toList, u.oneCell' = true)
    (hO : Own E size (.slice A h c) h xs C) (hS : St w0 w (C :: L)) (hho : h ≤ old) (hoc : old ≤ c)
    (hw : wantE ops e o.guard = some true) (hd : o.dst = none)
    (k : ∀ w' C', Own E size (.slice A h c) h xs C' → St w0 w' (C' :: L) → wpList P ops Q rest a w') : wpList P ops Q (o :: rest) a w := by
  obtain ⟨ht, hok⟩ := hT.at_ hi
  obtain ⟨htj, hokj⟩ := hT.at_ hj
  have hu := hok.und w
  rw [ht, hE] at hu
  have hz := hokj.zeroValue w
  rw [htj] at hz
  have key : ∃ w' C', (Builtin.clear_ #[T] o.type #[slv A h old c size]).run P w = .ok (.tuple #[]) w' ∧ Own E size (.slice A h c) h xs C' ∧ St w0 w' (C' :: L) := by
    by_cases h0 : old = h
    · subst h0
      refine ⟨w, C, ?_, hO, hS⟩
      unfold slv
      cases (if c = old then A else A.map (·.add (old * size))) <;> simp [Builtin.clear_, hu]
    · obtain ⟨hol, ⟨hv, hh0, _⟩ | ⟨g, pre, sp, post, c', hv, hmc, hcm', hsp, rfl⟩⟩ := hO
      · injection hv with h1 h2 h3
        omega
      · injection hv with hv1 hv2 hv3
        subst hv1; subst hv3
        have hg := hS.heapAt 0 rfl
        have hoh : (old - h) * size ≤ (c - h) * size := Nat.mul_le_mul_right _ (by omega)
        have hlz : (Builtin.zeroCells j.zero.cells (old - h)).toList.length = (old - h) * size := by rw [size_zeroCells', hzs]
        have h1 : ∀ u ∈ (Builtin.zeroCells j.zero.cells (old - h)).toList, u.oneCell' = true := by
          intro u hu
          simp only [Builtin.zeroCells, Array.toList_map, Array.toList_range, List.mem_map, List.mem_range] at hu
          obtain ⟨q, hq, rfl⟩ := hu
          have hpos : 0 < j.zero.cells.size := by
            rcases Nat.eq_zero_or_pos j.zero.cells.size with h | h
            · rw [h] at hq; simp at hq
            · exact h
          have hlt : q % j.zero.cells.size < j.zero.cells.size := Nat.mod_lt _ hpos
          refine hz1 _ ?_
          rw [getElem!_pos j.zero.cells _ hlt]
          simp
        have hst := run_storeCells_at P g (pre.length + h * size) E (Builtin.zeroCells j.zero.cells (old - h)).toList 0 (pre ++ (xs ++ (sp ++ post))).toArray w hg (by simp only [List.size_toArray, List.length_append]; omega) h1
        simp only [Nat.add_zero] at hst
        refine ⟨_, [(g, rowO (pre ++ (xs ++ (((Builtin.zeroCells j.zero.cells (old - h)).toList ++ sp.drop ((old - h) * size)) ++ post))) E)], ?_, ⟨hol, .inr ⟨g, pre, _, post, c, rfl, hmc, hcm', ?_, rfl⟩⟩, hS.upd (upd_setRow hg)⟩
        · have e1 : (pre ++ (xs ++ (sp ++ post))).take (pre.length + h * size) = pre ++ xs := by
            rw [← List.append_assoc, ← hol, ← List.length_append]; exact List.take_left
          have e2 : (pre ++ (xs ++ (sp ++ post))).drop (pre.length + h * size + (Builtin.zeroCells j.zero.cells (old - h)).toList.length) = sp.drop ((old - h) * size) ++ post := by
            have hz0 : (old - h) * size - sp.length = 0 := by omega
            rw [← List.append_assoc, ← hol, ← List.length_append, List.drop_append, hlz, List.drop_eq_nil_of_le (by omega), List.nil_append, Nat.add_sub_cancel_left, List.drop_append, hz0, List.drop_zero]
          simp only [List.append_assoc, e1, e2] at hst
          have hne : ¬ c = h := by omega
          obtain ⟨q, hq⟩ : ∃ q, old - h = q + 1 := ⟨old - h - 1, by omega⟩
          have hsl : slv (some ⟨g, pre.length, none⟩) h old c size = .slice (some ⟨g, pre.length + h * size, none⟩) (q + 1) (c - h) := by
            simp [slv, hne, Addr.add_lit, hq]
          rw [hsl]
          rw [hq] at hst
          simp [Builtin.clear_, hu, hz, hst, hq]
        · rw [List.length_append, hlz, List.length_drop, hsp]
          omega
  obtain ⟨w', C', hr, h2, h3⟩ := key
  refine st_val0 hA hw hd (v := .tuple #[]) (w' := w') ?_ (k w' C' h2 h3)
  unfold execOp
  rw [ho]
  simp [resolve, invoke, builtin, hA.ev hs, hr]
end
end Go.SK
namespace Go.SK
open Go
section
variable {P : Program} {tb : List TI} {ops : Array Oper} {Q : Exit → Act → World → Prop} {a : Act} {w0 w : World} {n : Nat} {e : Env} {L : List Chunk} {o : Oper} {rest : List Oper} {d : Nat}
theorem append_ty (hT : TabOk P tb) {T T2 : Nat} {i i2 : TI} (hi : lkT tb T = some i) (hi2 : lkT tb T2 = some i2) (h1 : isSliceD i.desc = true) (h2 : isSliceD i2.desc = true) (ty : TypeId) (s x : Value) :
    (Builtin.append_ #[T, T2] ty #[s, x]).run P w = (Builtin.append_ #[T, T] ty #[s, x]).run P w := by
  obtain ⟨ht, hok⟩ := hT.at_ hi
  obtain ⟨ht2, hok2⟩ := hT.at_ hi2
  have hu := hok.1; rw [ht] at hu
  have hu2 := hok2.1; rw [ht2] at hu2
  cases hd : i.desc <;> rw [hd] at h1 hu <;> first | (cases h1; done) | skip
  cases hd2 : i2.desc <;> rw [hd2] at h2 hu2 <;> first | (cases h2; done) | skip
  cases s <;> simp [Builtin.append_, run_underlying hu, run_underlying hu2]
/-- append(s, x...), the two types unlike. -/
theorem st_append2 (hT : TabOk P tb) (hA : Has a n e) {T T2 E size m q : Nat} {i i2 j : TI} {s y : Operand} {v x : Value} {xs news : List Value} {C : Chunk}
    (ho : o.op = .call { callee := .builtin .append, args := #[s, y], argTypes := #[T, T2] }) (hs : ev e s = some v) (hy : ev e y = some x)
    (hi : lkT tb T = some i) (hi2 : lkT tb T2 = some i2) (hd2 : isSliceD i2.desc = true) (hE : i.desc = .slice E) (hj : lkT tb E = some j) (hsize : j.size = size) (hzs : j.zero.cells.size = size) (hsz : 0 < size)
    (hO : Own E size v m xs C) (hS : St w0 w (C :: L)) (hx : RdX w size x q news) (h1 : ∀ u ∈ news, u.oneCell' = true) (h63 : m + q ≤ maxLen) (hb : (m + q) * j.bytes ≤ 140737488355328)
    (hw : wantE ops e o.guard = some true) (hd : o.dst = some d) (hdn : d < n)
    (k : ∀ v' w' C' a', Own E size v' (m + q) (xs ++ news) C' → St w0 w' (C' :: L) → Has a' n ((d, v') :: e) → wpList P ops Q rest a' w') : wpList P ops Q (o :: rest) a w := by
  obtain ⟨v', w', C', hr, h2, h3⟩ := run_append hT hi hE hj hsize hzs hsz hO hS hx h1 h63 hb o.type
  refine st_val hA hw hd hdn (v := v') (w' := w') ?_ (fun a' h => k v' w' C' a' h2 h3 h)
  unfold execOp
  rw [ho]
  simp [resolve, invoke, builtin, hA.ev hs, hA.ev hy, append_ty hT hi hi2 (by rw [hE]; rfl) hd2, hr]
theorem maxLen_le {k : Nat} (h : k ≤ 9223372036854775807) : k ≤ maxLen := h
end
end Go.SK
