import Derived.Test.YtplhgbfibiinaaaDoorH
set_option linter.unusedVariables false
set_option linter.unusedSimpArgs false
set_option maxRecDepth 4000
namespace Go.Proofs.YtplhgbfibiinaaaDoor
open Go Go.SK
theorem upd_setCell {w : World} {b : Nat} {x v : Value} {T : TypeId} (hb : w.heap[b]? = some (rowO [x] T)) : Upd w (w.setCell ⟨b, 0, none⟩ v) b (rowO [v] T) := by
  refine ⟨rfl, rfl, rfl, by simp [World.setCell], ?_, fun k _ hk => RowKit.Below.heap_setCell w _ _ k hk⟩
  simp only [World.setCell, Array.getElem?_modify, if_true, hb]
  rfl
/-- What the listed variable holds, in the world that the law begins in. -/
def HG (w : World) : Prop := w.cell? ⟨0, 0, none⟩ = some (.iface 71 (.agg #[.pointer (some ⟨1, 32, none⟩)]))
theorem asHit {w0 w : World} {F : List Chunk} {b : Nat} {x : Value} (hS : St w0 w ([(b, rowO [x] 30)] :: F)) (hg : HG w0) (n : Int) :
    Ret Tryd.prog 20 #[.iface 30 (.int .i64 n), .iface 54 (.pointer (some ⟨b, 0, none⟩))] w (fun v w' => v = .bool true ∧ St w0 w' ([(b, rowO [.int .i64 n] 30)] :: F)) := by
  have hb := hS.heapAt 0 rfl
  refine Calls.mono (as_hit n ⟨b, 0, none⟩ x w (hS.old hg) (cell_row hb rfl) (by simp [World.frozen?, hb, rowO])) fun e w' ⟨he, hw⟩ => ⟨_, he, rfl, ?_⟩
  subst hw
  have h4 := (((hS.alloc (.cells #[.pointer (some ⟨b, 0, none⟩)] 54)).alloc (.cells #[.pointer (some ⟨1, 54, none⟩), .pointer (some ⟨w.heap.size, 0, none⟩), .int .u64 150] 61)).alloc (.cells #[.pointer (some ⟨1, 54, none⟩), .pointer (some ⟨w.heap.size, 0, none⟩), .int .u64 150] 61)).alloc (.cells #[.int .i64 n] 30)
  have h5 := h4.drop1.drop1.drop1.drop1
  exact h5.upd (upd_setCell (h5.heapAt 0 rfl))
theorem asNil {w0 w : World} {F : List Chunk} (hS : St w0 w F) (t : Value) :
    Ret Tryd.prog 20 #[.nilIface, t] w (fun v w' => v = .bool false ∧ St w0 w' F) :=
  Calls.mono (as_nil t w) fun e w' ⟨he, hw⟩ => ⟨_, he, rfl, hw ▸ hS⟩

theorem number_hit13 {w0 w : World} {F : List Chunk} (hS : St w0 w F) (hg : HG w0) (n : Int) :
    Ret Tryd.prog 13 #[.iface 30 (.int .i64 n)] w (fun v w' => v = .int .i64 n ∧ St w0 w' F) := by
  refine enter (vs := [.iface 30 (.int .i64 n)]) 8 Tryd.func13 rfl rfl (by simp) ?_; intro a hA
  refine wp_seq ?_
  refine wp_region_lit ?_
  refine st_run tbOk 1 hA (e' := (2, .int .i64 0) :: _) rfl ?_; clear hA; intro a hA
  refine wpList_nil ?_
  replace hA := hA.sel [0] (e' := [(0, .iface 30 (.int .i64 n))]) rfl
  refine xt_norm ?_
  refine wp_seq ?_
  refine wp_region_lit ?_
  refine st_alloc tbOk hA hS [.int .i64 0] rfl rfl rfl rfl rfl (by decide) ?_; clear hA hS; intro b1 w2 a hS hA
  refine wpList_nil ?_
  refine xt_norm ?_
  refine wp_seq ?_
  refine wp_seq ?_
  refine wp_region_lit ?_
  refine st_run tbOk 2 hA (e' := (5, .iface 54 (.pointer (some ⟨b1, 0, none⟩))) :: (4, .iface 30 (.int .i64 n)) :: _) rfl ?_; clear hA; intro a hA
  refine st_call0 hA rfl rfl rfl isfn20 rfl rfl (by decide) (asHit hS hg n) ?_
  clear hA hS; rintro v w3 a ⟨rfl, hS⟩ hA
  refine wpList_nil ?_
  replace hA := hA.sel [3, 6] (e' := [(3, .pointer (some ⟨b1, 0, none⟩)), (6, .bool true)]) rfl
  refine xt_norm ?_
  refine cd_cond_t hA rfl ?_
  refine wp_seq ?_
  refine wp_region_lit ?_
  refine st_val hA rfl rfl (by decide) (rn_load tbOk hA rfl rfl rfl rfl (cell_row (hS.heapAt 0 rfl) rfl)) ?_; clear hA; intro a hA
  refine st_run tbOk 1 hA (e' := (2, .int .i64 n) :: _) rfl ?_; clear hA; intro a hA
  refine wpList_nil ?_
  replace hA := hA.sel [2] (e' := [(2, .int .i64 n)]) rfl
  refine xt_norm ?_
  refine wp_ret (xt_ret ?_)
  refine ret1 (fn := Tryd.f13) hA rfl rfl ?_
  replace hS := hS.drop1
  exact ⟨rfl, hS⟩

theorem number_nil13 {w0 w : World} {F : List Chunk} (hS : St w0 w F) (hg : HG w0) :
    Ret Tryd.prog 13 #[.nilIface] w (fun v w' => v = .int .i64 0 ∧ St w0 w' F) := by
  refine enter (vs := [.nilIface]) 8 Tryd.func13 rfl rfl (by simp) ?_; intro a hA
  refine wp_seq ?_
  refine wp_region_lit ?_
  refine st_run tbOk 1 hA (e' := (2, .int .i64 0) :: _) rfl ?_; clear hA; intro a hA
  refine wpList_nil ?_
  replace hA := hA.sel [0] (e' := [(0, .nilIface)]) rfl
  refine xt_norm ?_
  refine wp_seq ?_
  refine wp_region_lit ?_
  refine st_alloc tbOk hA hS [.int .i64 0] rfl rfl rfl rfl rfl (by decide) ?_; clear hA hS; intro b1 w2 a hS hA
  refine wpList_nil ?_
  refine xt_norm ?_
  refine wp_seq ?_
  refine wp_seq ?_
  refine wp_region_lit ?_
  refine st_run tbOk 2 hA (e' := (5, .iface 54 (.pointer (some ⟨b1, 0, none⟩))) :: (4, .nilIface) :: _) rfl ?_; clear hA; intro a hA
  refine st_call0 hA rfl rfl rfl isfn20 rfl rfl (by decide) (asNil hS _) ?_
  clear hA hS; rintro v w3 a ⟨rfl, hS⟩ hA
  refine wpList_nil ?_
  replace hA := hA.sel [3, 6] (e' := [(3, .pointer (some ⟨b1, 0, none⟩)), (6, .bool false)]) rfl
  refine xt_norm ?_
  refine cd_cond_f hA rfl ?_
  refine wp_skip ?_
  refine xt_norm ?_
  refine wp_seq ?_
  refine wp_region_lit ?_
  refine st_run tbOk 1 hA (e' := (2, .int .i64 0) :: _) rfl ?_; clear hA; intro a hA
  refine wpList_nil ?_
  replace hA := hA.sel [2] (e' := [(2, .int .i64 0)]) rfl
  refine xt_norm ?_
  refine wp_ret ?_
  refine ret1 (fn := Tryd.f13) hA rfl rfl ?_
  replace hS := hS.drop1
  exact ⟨rfl, hS⟩

theorem last_at1 {α : Type} (l : List α) (x : α) : (l ++ [x])[(l ++ [x]).length - 1]? = some x := by simp
theorem MOk.based {l : List Area} (h : MOk l) {k : Nat} {z : Area} {t : Int} (hz : l[k]? = some z) (hb : ab z = t) : InA z t := by
  have := h.s z (List.mem_of_getElem? hz); unfold SOk at this; unfold InA; omega
theorem ovl_inA {a x : Area} {q : Nat} (ha : 1 ≤ az a) (hx : 1 ≤ az x) (hq : (q : Int) = az x) : (∃ d : Nat, d < q ∧ InA a (ab x + (d : Int))) ↔ Ovl a x := by
  unfold InA Ovl
  constructor
  · rintro ⟨d, h1, h2, h3⟩; omega
  · rintro ⟨h1, h2⟩
    by_cases h : ab a ≤ ab x
    · exact ⟨0, by omega, by omega, by omega⟩
    · exact ⟨(ab a - ab x).toNat, by omega, by omega, by omega⟩
theorem ov_step {ms : List Area} {a x : Area} {k q : Nat} {o o2 : Bool} (hx : ms[k]? = some x) (ho : o = true ↔ ∃ (i : Nat) (y : Area), i < k ∧ ms[i]? = some y ∧ Ovl a y) (h2 : o2 = true ↔ (o = true ∨ ∃ d : Nat, d < q ∧ InA a (ab x + (d : Int)))) (ha : 1 ≤ az a) (hxs : 1 ≤ az x) (hq : (q : Int) = az x) : o2 = true ↔ ∃ (i : Nat) (y : Area), i < k + 1 ∧ ms[i]? = some y ∧ Ovl a y := by
  rw [h2, ovl_inA ha hxs hq, ho]
  constructor
  · rintro (⟨i, y, h1, h3, h4⟩ | h)
    · exact ⟨i, y, by omega, h3, h4⟩
    · exact ⟨k, x, by omega, hx, h⟩
  · rintro ⟨i, y, h1, h3, h4⟩
    rcases Nat.lt_succ_iff_lt_or_eq.1 h1 with h1 | rfl
    · exact .inl ⟨i, y, h1, h3, h4⟩
    · rw [hx] at h3; injection h3 with h3; subst h3; exact .inr h4
theorem four (ms : List Area) (wr : Bool) (a n : Int) : (n < 0 ∨ a < 0 ∨ 1073741824 < a ∨ 1073741824 - a < n) ∨ ∃ t m : Nat, a = (t : Int) ∧ n = (m : Int) ∧ t ≤ 1073741824 ∧ m ≤ 1073741824 - t ∧ ((∀ k, k < m → Fine ms wr t k) ∨ ∃ j, j < m ∧ (∀ k, k < j → Fine ms wr t k) ∧ (fnd ms ((t + j : Nat) : Int) = none ∨ ∃ b, fnd ms ((t + j : Nat) : Int) = some b ∧ wr = true ∧ aw b = false)) := by
  by_cases h : n < 0 ∨ a < 0 ∨ 1073741824 < a ∨ 1073741824 - a < n
  · exact .inl h
  · obtain ⟨t, rfl⟩ := Int.eq_ofNat_of_zero_le (show 0 ≤ a by omega)
    obtain ⟨m, rfl⟩ := Int.eq_ofNat_of_zero_le (show 0 ≤ n by omega)
    exact .inr ⟨t, m, rfl, rfl, by omega, by omega, bad_ex ms wr t m⟩

theorem awake8 {w0 w : World} {F : List Chunk} (hS : St w0 w F) (hg : HG w0) :
    Ret Tryd.prog 8 #[] w (fun v w' => v = .bool true ∧ St w0 w' F) := by
  have hX : SOk (10, 10, 2, 0, false) := by dsimp only [SOk, ab, az, ag, ao]; decide
  have hY : SOk (0, 10, 1, 5, false) := by dsimp only [SOk, ab, az, ag, ao]; decide
  have hp1 : Pl [] (10, 10, 2, 0, false) 0 := ⟨Nat.le_refl _, fun k x h => absurd h (by omega), fun k x _ h => by simp at h⟩
  have hM1 : MOk [((10, 10, 2, 0, false) : Area)] := MOk.nil.ins hX (fun y hy => by cases hy) hp1 (by decide)
  have hn2 : ∀ y ∈ [((10, 10, 2, 0, false) : Area)], ¬ Ovl (0, 10, 1, 5, false) y := fun y hy => by rw [List.mem_singleton.1 hy]; dsimp only [Ovl, ab, az]; omega
  have hp2 : Pl [((10, 10, 2, 0, false) : Area)] (0, 10, 1, 5, false) 0 := ⟨Nat.zero_le _, fun k x h => absurd h (by omega), fun k x _ h => by rw [List.mem_singleton.1 (List.mem_of_getElem? h)]; dsimp only [ab]; omega⟩
  have hM2 : MOk [((0, 10, 1, 5, false) : Area), (10, 10, 2, 0, false)] := hM1.ins hY hn2 hp2 (by decide)
  have hf8 : ∀ k, k < 4 → Fine [((0, 10, 1, 5, false) : Area), (10, 10, 2, 0, false)] false 8 k := by
      intro k hk
      rcases (show k = 0 ∨ k = 1 ∨ k = 2 ∨ k = 3 by omega) with rfl | rfl | rfl | rfl <;> exact ⟨_, rfl, fun h => by cases h⟩
  have hf18 : ∀ k, k < 2 → Fine [((0, 10, 1, 5, false) : Area), (10, 10, 2, 0, false)] false 18 k := by
      intro k hk
      rcases (show k = 0 ∨ k = 1 by omega) with rfl | rfl <;> exact ⟨_, rfl, fun h => by cases h⟩
  refine enter (vs := []) 63 Tryd.func8 rfl rfl (by simp) ?_; intro a hA
  refine wp_seq ?_
  refine wp_region_lit ?_
  refine st_run tbOk 1 hA (e' := (0, .bool false) :: _) rfl ?_; clear hA; intro a hA
  refine wpList_nil ?_
  replace hA := hA.sel [] (e' := []) rfl
  refine xt_norm ?_
  refine wp_seq ?_
  refine wp_region_lit ?_
  refine st_run tbOk 1 hA (e' := (9, .agg #[.int .i64 10, .int .i64 10, .int .i64 2, .int .i64 0, .bool false]) :: _) rfl ?_; clear hA; intro a hA
  refine st_call0 hA rfl rfl rfl isfn12 rfl rfl (by decide) (add_ok12 hS (l := ([] : List Area)) RdS.nil (10, 10, 2, 0, false) hX.val hX.v2 (fun y hy => by cases hy) (fun y hy => by cases hy) (by decide) hp1) ?_
  clear hA hS; rintro _ w1 a ⟨v2, C3, hO3, rfl, hS⟩ hA
  obtain ⟨A4, c5, rfl, hmc5, hxc5⟩ := hO3.open'
  refine st_run tbOk 3 hA (e' := (12, .nilIface) :: (11, .slice A4 ((([] : List Area).take 0 ++ ((10, 10, 2, 0, false) :: ([] : List Area).drop 0)).length) c5) :: (8, .tuple #[.slice A4 ((([] : List Area).take 0 ++ ((10, 10, 2, 0, false) :: ([] : List Area).drop 0)).length) c5, .nilIface]) :: _) rfl ?_; clear hA; intro a hA
  have hl : ([] : List Area).take 0 ++ ((10, 10, 2, 0, false) :: ([] : List Area).drop 0) = [((10, 10, 2, 0, false) : Area)] := by rfl
  rw [hl] at hO3; rw [hl] at hA
  refine st_run tbOk 2 hA (e' := (2, .nilIface) :: (1, .slice A4 (([((10, 10, 2, 0, false) : Area)]).length) c5) :: _) rfl ?_; clear hA; intro a hA
  refine wpList_nil ?_
  replace hA := hA.sel [1, 2] (e' := [(1, .slice A4 (([((10, 10, 2, 0, false) : Area)]).length) c5), (2, .nilIface)]) rfl
  refine xt_norm ?_
  refine wp_seq ?_
  refine wp_region_lit ?_
  refine st_run tbOk 1 hA (e' := (14, .slice A4 (([((10, 10, 2, 0, false) : Area)]).length) c5) :: _) rfl ?_; clear hA; intro a hA
  refine st_val hA rfl rfl (by decide) (rn_build tbOk hA rfl rfl rfl rfl rfl rfl rfl) ?_; clear hA; intro a hA
  refine st_call0 hA rfl rfl rfl isfn12 rfl rfl (by decide) (add_ok12 hS (l := [((10, 10, 2, 0, false) : Area)]) (RdS.own hO3 0 rfl) (0, 10, 1, 5, false) hY.val hY.v2 hM1.s hn2 (by decide) hp2) ?_
  clear hA hS; rintro _ w6 a ⟨v7, C8, hO8, rfl, hS⟩ hA
  obtain ⟨A9, c10, rfl, hmc10, hxc10⟩ := hO8.open'
  refine st_run tbOk 3 hA (e' := (18, .nilIface) :: (17, .slice A9 ((([((10, 10, 2, 0, false) : Area)]).take 0 ++ ((0, 10, 1, 5, false) :: ([((10, 10, 2, 0, false) : Area)]).drop 0)).length) c10) :: (13, .tuple #[.slice A9 ((([((10, 10, 2, 0, false) : Area)]).take 0 ++ ((0, 10, 1, 5, false) :: ([((10, 10, 2, 0, false) : Area)]).drop 0)).length) c10, .nilIface]) :: _) rfl ?_; clear hA; intro a hA
  have hl : ([((10, 10, 2, 0, false) : Area)]).take 0 ++ ((0, 10, 1, 5, false) :: ([((10, 10, 2, 0, false) : Area)]).drop 0) = [((0, 10, 1, 5, false) : Area), (10, 10, 2, 0, false)] := by rfl
  rw [hl] at hO8; rw [hl] at hA
  refine st_run tbOk 2 hA (e' := (3, .nilIface) :: (1, .slice A9 (([((0, 10, 1, 5, false) : Area), (10, 10, 2, 0, false)]).length) c10) :: _) rfl ?_; clear hA; intro a hA
  refine wpList_nil ?_
  replace hA := hA.sel [1, 2, 3] (e' := [(1, .slice A9 (([((0, 10, 1, 5, false) : Area), (10, 10, 2, 0, false)]).length) c10), (2, .nilIface), (3, .nilIface)]) rfl
  refine xt_norm ?_
  refine wp_seq ?_
  refine wp_region_lit ?_
  refine st_run tbOk 1 hA (e' := (20, .slice A9 (([((0, 10, 1, 5, false) : Area), (10, 10, 2, 0, false)]).length) c10) :: _) rfl ?_; clear hA; intro a hA
  refine st_call0 hA rfl rfl rfl isfn14 rfl rfl (by decide) (pieces_ok14 hS (l := [((0, 10, 1, 5, false) : Area), (10, 10, 2, 0, false)]) (RdS.own hO8 0 rfl) 8 4 false hM2 (by decide) (by decide) hf8) ?_
  clear hA hS; rintro _ w11 a ⟨v12, C13, hO13, rfl, hS⟩ hA
  obtain ⟨A14, c15, rfl, hmc15, hxc15⟩ := hO13.open'
  refine st_run tbOk 3 hA (e' := (23, .nilIface) :: (22, .slice A14 ((pa ([((0, 10, 1, 5, false) : Area), (10, 10, 2, 0, false)]) 8 4).length) c15) :: (19, .tuple #[.slice A14 ((pa ([((0, 10, 1, 5, false) : Area), (10, 10, 2, 0, false)]) 8 4).length) c15, .nilIface]) :: _) rfl ?_; clear hA; intro a hA
  have hl : pa ([((0, 10, 1, 5, false) : Area), (10, 10, 2, 0, false)]) 8 4 = ([(1, 13, 2), (2, 0, 2)] : List Piece) := by rfl
  rw [hl] at hO13; rw [hl] at hA
  refine st_run tbOk 2 hA (e' := (5, .nilIface) :: (4, .slice A14 (([(1, 13, 2), (2, 0, 2)] : List Piece).length) c15) :: _) rfl ?_; clear hA; intro a hA
  refine wpList_nil ?_
  replace hA := hA.sel [1, 2, 3, 4, 5] (e' := [(1, .slice A9 (([((0, 10, 1, 5, false) : Area), (10, 10, 2, 0, false)]).length) c10), (2, .nilIface), (3, .nilIface), (4, .slice A14 (([(1, 13, 2), (2, 0, 2)] : List Piece).length) c15), (5, .nilIface)]) rfl
  refine xt_norm ?_
  refine wp_seq ?_
  refine wp_region_lit ?_
  refine st_run tbOk 1 hA (e' := (25, .slice A9 (([((0, 10, 1, 5, false) : Area), (10, 10, 2, 0, false)]).length) c10) :: _) rfl ?_; clear hA; intro a hA
  refine st_call0 hA rfl rfl rfl isfn14 rfl rfl (by decide) (pieces_none14 hS (l := [((0, 10, 1, 5, false) : Area), (10, 10, 2, 0, false)]) (RdS.own hO8 1 rfl) 18 4 false hM2 (by decide) (by decide) (j0 := 2) (by decide) hf18 rfl) ?_
  clear hA hS; rintro v w16 a ⟨rfl, hS⟩ hA
  refine st_run tbOk 5 hA (e' := (7, .iface 30 (.int .i64 13)) :: (6, .slice none 0 0) :: (28, .iface 30 (.int .i64 13)) :: (27, .slice none 0 0) :: (24, .tuple #[.slice none 0 0, .iface 30 (.int .i64 13)]) :: _) rfl ?_; clear hA; intro a hA
  refine wpList_nil ?_
  replace hA := hA.sel [2, 3, 4, 5, 7] (e' := [(2, .nilIface), (3, .nilIface), (4, .slice A14 (([(1, 13, 2), (2, 0, 2)] : List Piece).length) c15), (5, .nilIface), (7, .iface 30 (.int .i64 13))]) rfl
  refine xt_norm ?_
  refine wp_seq ?_
  refine wp_region_lit ?_
  refine st_run tbOk 13 hA (e' := (41, .int .i64 ((([(1, 13, 2), (2, 0, 2)] : List Piece).length : Nat) : Int)) :: (40, .slice A14 (([(1, 13, 2), (2, 0, 2)] : List Piece).length) c15) :: (39, .bool true) :: (38, .bool true) :: (37, .bool true) :: (36, .nilIface) :: (35, .bool true) :: (34, .bool true) :: (33, .bool true) :: (32, .nilIface) :: (31, .bool true) :: (30, .bool true) :: (29, .nilIface) :: _) rfl ?_; clear hA; intro a hA
  replace hA := hA.rw 41 (v' := .int .i64 2) rfl (by rfl)
  refine st_run tbOk 4 hA (e' := (45, .slice A14 (([(1, 13, 2), (2, 0, 2)] : List Piece).length) c15) :: (44, .bool true) :: (43, .bool true) :: (42, .bool true) :: _) rfl ?_; clear hA; intro a hA
  obtain ⟨b17, o18, rfl⟩ := hO13.isSome (k := 0) (by first | omega | decide)
  refine st_val hA rfl rfl (by decide) (rn_indexAddr tbOk hA 0 o18 rfl rfl rfl rfl rfl rfl (by rfl) (by first | omega | decide) (by first | rfl | simp [Nat.mul_one, Nat.zero_add] | omega)) ?_; clear hA; intro a hA
  refine st_val hA rfl rfl (by decide) (rn_loadA tbOk hA ([.int .i64 1, .int .i64 13, .int .i64 2]) rfl rfl rfl rfl (by rfl) ((hO13.rd (hS.own_ 0 rfl)).elem (k := 0) encPiece_ok rfl)) ?_; clear hA; intro a hA
  refine st_run tbOk 1 hA (e' := (48, .agg #[.int .i64 1, .int .i64 13, .int .i64 2]) :: _) rfl ?_; clear hA; intro a hA
  refine st_val hA rfl rfl (by decide) (rn_eqA tbOk hA rfl rfl rfl rfl rfl (by kernel_rfl) (by kernel_rfl) rfl) ?_; clear hA; intro a hA
  replace hA := hA.rw 49 (v' := .bool true) rfl (by simp)
  refine st_run tbOk 3 hA (e' := (52, .slice (some ⟨b17, o18, none⟩) (([(1, 13, 2), (2, 0, 2)] : List Piece).length) c15) :: (51, .bool true) :: (50, .bool true) :: _) rfl ?_; clear hA; intro a hA
  refine st_val hA rfl rfl (by decide) (rn_indexAddr tbOk hA 1 (o18 + 3) rfl rfl rfl rfl rfl rfl (by rfl) (by first | omega | decide) (by first | rfl | simp [Nat.mul_one, Nat.zero_add] | omega)) ?_; clear hA; intro a hA
  refine st_val hA rfl rfl (by decide) (rn_loadA tbOk hA ([.int .i64 2, .int .i64 0, .int .i64 2]) rfl rfl rfl rfl (by rfl) ((hO13.rd (hS.own_ 0 rfl)).elem (k := 1) encPiece_ok rfl)) ?_; clear hA; intro a hA
  refine st_run tbOk 1 hA (e' := (55, .agg #[.int .i64 2, .int .i64 0, .int .i64 2]) :: _) rfl ?_; clear hA; intro a hA
  refine st_val hA rfl rfl (by decide) (rn_eqA tbOk hA rfl rfl rfl rfl rfl (by kernel_rfl) (by kernel_rfl) rfl) ?_; clear hA; intro a hA
  replace hA := hA.rw 56 (v' := .bool true) rfl (by simp)
  refine st_run tbOk 3 hA (e' := (59, .iface 30 (.int .i64 13)) :: (58, .bool true) :: (57, .bool true) :: _) rfl ?_; clear hA; intro a hA
  refine st_call0 hA rfl rfl rfl isfn13 rfl rfl (by decide) (number_hit13 hS hg 13) ?_
  clear hA hS; rintro v w19 a ⟨rfl, hS⟩ hA
  refine st_run tbOk 3 hA (e' := (0, .bool true) :: (62, .bool true) :: (61, .bool true) :: _) rfl ?_; clear hA; intro a hA
  refine wpList_nil ?_
  replace hA := hA.sel [0] (e' := [(0, .bool true)]) rfl
  refine xt_norm ?_
  refine wp_ret ?_
  refine ret1 (fn := Tryd.f8) hA rfl rfl ?_
  replace hS := hS.drop1
  replace hS := hS.drop1
  replace hS := hS.drop1
  exact ⟨rfl, hS⟩

theorem order6 {w0 w : World} {F : List Chunk} (hS : St w0 w F) (hg : HG w0) (x y : Area) :
    Ret Tryd.prog 6 #[.agg #[.int .i64 x.1, .int .i64 x.2.1, .int .i64 x.2.2.1, .int .i64 x.2.2.2.1, .bool x.2.2.2.2], .agg #[.int .i64 y.1, .int .i64 y.2.1, .int .i64 y.2.2.1, .int .i64 y.2.2.2.1, .bool y.2.2.2.2]] w (fun v w' => v = .bool true ∧ St w0 w' F) := by
  obtain ⟨a0, a1, a2, a3, a4⟩ := x
  obtain ⟨c0, c1, c2, c3, c4⟩ := y
  refine enter (vs := [.agg #[.int .i64 a0, .int .i64 a1, .int .i64 a2, .int .i64 a3, .bool a4], .agg #[.int .i64 c0, .int .i64 c1, .int .i64 c2, .int .i64 c3, .bool c4]]) 98 Tryd.func6 rfl rfl (by simp) ?_; intro a hA
  refine wp_seq ?_
  refine wp_region_lit ?_
  refine st_box hA hS [.int .i64 a0, .int .i64 a1, .int .i64 a2, .int .i64 a3, .bool a4] rfl rfl rfl rfl rfl (by decide) ?_; clear hA hS; intro b1 w2 a hS hA
  refine st_box hA hS [.int .i64 c0, .int .i64 c1, .int .i64 c2, .int .i64 c3, .bool c4] rfl rfl rfl rfl rfl (by decide) ?_; clear hA hS; intro b3 w4 a hS hA
  refine st_run tbOk 1 hA (e' := (4, .bool false) :: _) rfl ?_; clear hA; intro a hA
  refine wpList_nil ?_
  replace hA := hA.sel [2, 3] (e' := [(2, .pointer (some ⟨b1, 0, none⟩)), (3, .pointer (some ⟨b3, 0, none⟩))]) rfl
  refine xt_norm ?_
  refine wp_seq ?_
  refine wp_seq ?_
  refine wp_region_lit ?_
  refine st_call0 hA rfl rfl rfl isfn8 rfl rfl (by decide) (awake8 hS hg) ?_
  clear hA hS; rintro v w5 a ⟨rfl, hS⟩ hA
  refine st_run tbOk 1 hA (e' := (15, .bool false) :: _) rfl ?_; clear hA; intro a hA
  refine wpList_nil ?_
  replace hA := hA.sel [2, 3, 15] (e' := [(2, .pointer (some ⟨b1, 0, none⟩)), (3, .pointer (some ⟨b3, 0, none⟩)), (15, .bool false)]) rfl
  refine xt_norm ?_
  refine cd_cond_f hA rfl ?_
  refine wp_skip ?_
  refine xt_norm ?_
  refine wp_seq_join (fun a w => ∃ (x0 : Int) (x1 : Int) (x2 : Int) (x3 : Int) (x4 : Bool) (y0 : Int) (y1 : Int) (y2 : Int) (y3 : Int) (y4 : Bool) (b5 : Nat) (b6 : Nat), Has a 98 [(5, .pointer (some ⟨b5, 0, none⟩)), (6, .pointer (some ⟨b6, 0, none⟩))] ∧ St w0 w ([(b5, rowO [.int .i64 x0, .int .i64 x1, .int .i64 x2, .int .i64 x3, .bool x4] 24)] :: [(b6, rowO [.int .i64 y0, .int .i64 y1, .int .i64 y2, .int .i64 y3, .bool y4] 24)] :: F) ∧ (SOk (x0, x1, x2, x3, x4)) ∧ (SOk (y0, y1, y2, y3, y4))) ?_ ?_
  · refine wp_drawM (fun w' => St w0 w' ([(b3, rowO [.int .i64 c0, .int .i64 c1, .int .i64 c2, .int .i64 c3, .bool c4] 24)] :: [(b1, rowO [.int .i64 a0, .int .i64 a1, .int .i64 a2, .int .i64 a3, .bool a4] 24)] :: F)) [] [(0, true), (2, true)] 1 (.M [] 3 (.N [] 4 (.L [(5, false), (6, false), (7, false)]) 5 (.L [(4, false), (6, false), (7, false)])) 4 (.N [] 3 (.L [(5, false), (6, false), (7, false)]) 5 (.L [(3, false), (6, false), (7, false)])) 5 (.N [] 3 (.L [(4, false), (6, false), (7, false)]) 4 (.L [(3, false), (6, false), (7, false)]))) 4 (.N [] 1 (.N [] 3 (.L [(5, false), (6, false), (7, false)]) 5 (.L [(3, false), (6, false), (7, false)])) 5 (.L [(1, false), (3, false), (6, false), (7, false)])) 5 (.N [] 1 (.N [] 3 (.L [(4, false), (6, false), (7, false)]) 4 (.L [(3, false), (6, false), (7, false)])) 4 (.L [(1, false), (3, false), (6, false), (7, false)])) mixed (by kernel_rfl) (by rintro c a w ⟨_, _, h, _⟩; cases h) (by rfl) (by kernel_rfl) ?_
    replace hS := hS.drew
    refine dr_y hA rfl rfl rfl (by decide) hS (fun w' hS' => rn_loadA tbOk hA [.int .i64 a0, .int .i64 a1, .int .i64 a2, .int .i64 a3, .bool a4] rfl rfl rfl rfl rfl (cells_row (hS'.heapAt 1 rfl) rfl)) ?_; clear hA; intro a hA
    refine dr_y hA rfl rfl rfl (by decide) hS (fun w' hS' => rn_loadA tbOk hA [.int .i64 c0, .int .i64 c1, .int .i64 c2, .int .i64 c3, .bool c4] rfl rfl rfl rfl rfl (cells_row (hS'.heapAt 0 rfl) rfl)) ?_; clear hA; intro a hA
    refine dr_fork3 ?_ ?_ ?_
    · refine dr_b (o := _) rfl ?_
      refine st_call0 hA rfl rfl rfl isfn10 rfl rfl (by decide) (small10 hS (a0, a1, a2, a3, a4)) ?_
      clear hA hS; rintro _ w7 a ⟨⟨y6n0, y6n1, y6n2, y6n3, y6n4⟩, hy6, rfl, hS⟩ hA
      have h2y6 := hy6; dsimp only [SOk, ab, az, ag, ao] at h2y6
      refine dr_nil (.inr hS) ?_
      refine dr_subM ?_
      refine dr_fork3 ?_ ?_ ?_
      · refine dr_b (o := _) rfl ?_
        refine st_call0 hA rfl rfl rfl isfn10 rfl rfl (by decide) (small10 hS (c0, c1, c2, c3, c4)) ?_
        clear hA hS; rintro _ w9 a ⟨⟨y8n0, y8n1, y8n2, y8n3, y8n4⟩, hy8, rfl, hS⟩ hA
        have h2y8 := hy8; dsimp only [SOk, ab, az, ag, ao] at h2y8
        refine dr_nil (.inr hS) ?_
        refine dr_subN ?_
        refine dr_fork ?_ ?_
        · refine dr_b (o := _) rfl ?_
          refine st_alloc tbOk hA hS [.int .i64 0, .int .i64 0, .int .i64 0, .int .i64 0, .bool false] rfl rfl rfl rfl rfl (by decide) ?_; clear hA hS; intro b10 w11 a hS hA
          refine dr_nil (.inr (hS.tail 1 rfl)) ?_
          refine dr_subL ?_
          refine dr_b (o := _) rfl ?_
          refine st_alloc tbOk hA hS [.int .i64 0, .int .i64 0, .int .i64 0, .int .i64 0, .bool false] rfl rfl rfl rfl rfl (by decide) ?_; clear hA hS; intro b12 w13 a hS hA
          refine dr_nil (.inr (hS.tail 2 rfl)) ?_
          refine dr_b (o := _) rfl ?_
          replace hS := hS.front 1 (C := [(b10, rowO [.int .i64 0, .int .i64 0, .int .i64 0, .int .i64 0, .bool false] 24)]) (L' := [(b12, rowO [.int .i64 0, .int .i64 0, .int .i64 0, .int .i64 0, .bool false] 24)] :: [(b3, rowO [.int .i64 c0, .int .i64 c1, .int .i64 c2, .int .i64 c3, .bool c4] 24)] :: [(b1, rowO [.int .i64 a0, .int .i64 a1, .int .i64 a2, .int .i64 a3, .bool a4] 24)] :: F) rfl rfl
          refine st_store tbOk hA hS [.int .i64 y6n0, .int .i64 y6n1, .int .i64 y6n2, .int .i64 y6n3, .bool y6n4] [.int .i64 y6n0, .int .i64 y6n1, .int .i64 y6n2, .int .i64 y6n3, .bool y6n4] rfl rfl rfl rfl rfl rfl (by simp [Value.oneCell']) (Nat.le_of_ble_eq_true rfl) rfl rfl rfl ?_; clear hS; intro w14 hS
          refine dr_nil (.inr (hS.tail 2 rfl)) ?_
          refine dr_b (o := _) rfl ?_
          replace hS := hS.front 1 (C := [(b12, rowO [.int .i64 0, .int .i64 0, .int .i64 0, .int .i64 0, .bool false] 24)]) (L' := [(b10, rowO [.int .i64 y6n0, .int .i64 y6n1, .int .i64 y6n2, .int .i64 y6n3, .bool y6n4] 24)] :: [(b3, rowO [.int .i64 c0, .int .i64 c1, .int .i64 c2, .int .i64 c3, .bool c4] 24)] :: [(b1, rowO [.int .i64 a0, .int .i64 a1, .int .i64 a2, .int .i64 a3, .bool a4] 24)] :: F) rfl rfl
          refine st_store tbOk hA hS [.int .i64 y8n0, .int .i64 y8n1, .int .i64 y8n2, .int .i64 y8n3, .bool y8n4] [.int .i64 y8n0, .int .i64 y8n1, .int .i64 y8n2, .int .i64 y8n3, .bool y8n4] rfl rfl rfl rfl rfl rfl (by simp [Value.oneCell']) (Nat.le_of_ble_eq_true rfl) rfl rfl rfl ?_; clear hS; intro w15 hS
          refine dr_nil (.inr (hS.tail 2 rfl)) ?_
          refine dr_end ?_
          replace hA := hA.sel [5, 6] (e' := [(5, .pointer (some ⟨b10, 0, none⟩)), (6, .pointer (some ⟨b12, 0, none⟩))]) rfl
          refine xt_norm ?_
          replace hS := hS.front 2 (C := [(b3, rowO [.int .i64 c0, .int .i64 c1, .int .i64 c2, .int .i64 c3, .bool c4] 24)]) (L' := [(b12, rowO [.int .i64 y8n0, .int .i64 y8n1, .int .i64 y8n2, .int .i64 y8n3, .bool y8n4] 24)] :: [(b10, rowO [.int .i64 y6n0, .int .i64 y6n1, .int .i64 y6n2, .int .i64 y6n3, .bool y6n4] 24)] :: [(b1, rowO [.int .i64 a0, .int .i64 a1, .int .i64 a2, .int .i64 a3, .bool a4] 24)] :: F) rfl rfl
          replace hS := hS.drop1
          replace hS := hS.front 2 (C := [(b1, rowO [.int .i64 a0, .int .i64 a1, .int .i64 a2, .int .i64 a3, .bool a4] 24)]) (L' := [(b12, rowO [.int .i64 y8n0, .int .i64 y8n1, .int .i64 y8n2, .int .i64 y8n3, .bool y8n4] 24)] :: [(b10, rowO [.int .i64 y6n0, .int .i64 y6n1, .int .i64 y6n2, .int .i64 y6n3, .bool y6n4] 24)] :: F) rfl rfl
          replace hS := hS.drop1
          replace hS := hS.front 1 (C := [(b10, rowO [.int .i64 y6n0, .int .i64 y6n1, .int .i64 y6n2, .int .i64 y6n3, .bool y6n4] 24)]) (L' := [(b12, rowO [.int .i64 y8n0, .int .i64 y8n1, .int .i64 y8n2, .int .i64 y8n3, .bool y8n4] 24)] :: F) rfl rfl
          exact ⟨y6n0, y6n1, y6n2, y6n3, y6n4, y8n0, y8n1, y8n2, y8n3, y8n4, b10, b12, (hA.sel [5, 6] rfl), hS, hy6, hy8⟩
        · refine dr_b (o := _) rfl ?_
          refine st_alloc tbOk hA hS [.int .i64 0, .int .i64 0, .int .i64 0, .int .i64 0, .bool false] rfl rfl rfl rfl rfl (by decide) ?_; clear hA hS; intro b16 w17 a hS hA
          refine dr_nil (.inr (hS.tail 1 rfl)) ?_
          refine dr_subL ?_
          refine dr_b (o := _) rfl ?_
          refine st_alloc tbOk hA hS [.int .i64 0, .int .i64 0, .int .i64 0, .int .i64 0, .bool false] rfl rfl rfl rfl rfl (by decide) ?_; clear hA hS; intro b18 w19 a hS hA
          refine dr_nil (.inr (hS.tail 2 rfl)) ?_
          refine dr_b (o := _) rfl ?_
          refine st_store tbOk hA hS [.int .i64 y6n0, .int .i64 y6n1, .int .i64 y6n2, .int .i64 y6n3, .bool y6n4] [.int .i64 y6n0, .int .i64 y6n1, .int .i64 y6n2, .int .i64 y6n3, .bool y6n4] rfl rfl rfl rfl rfl rfl (by simp [Value.oneCell']) (Nat.le_of_ble_eq_true rfl) rfl rfl rfl ?_; clear hS; intro w20 hS
          refine dr_nil (.inr (hS.tail 2 rfl)) ?_
          refine dr_b (o := _) rfl ?_
          replace hS := hS.front 1 (C := [(b16, rowO [.int .i64 0, .int .i64 0, .int .i64 0, .int .i64 0, .bool false] 24)]) (L' := [(b18, rowO [.int .i64 y6n0, .int .i64 y6n1, .int .i64 y6n2, .int .i64 y6n3, .bool y6n4] 24)] :: [(b3, rowO [.int .i64 c0, .int .i64 c1, .int .i64 c2, .int .i64 c3, .bool c4] 24)] :: [(b1, rowO [.int .i64 a0, .int .i64 a1, .int .i64 a2, .int .i64 a3, .bool a4] 24)] :: F) rfl rfl
          refine st_store tbOk hA hS [.int .i64 y8n0, .int .i64 y8n1, .int .i64 y8n2, .int .i64 y8n3, .bool y8n4] [.int .i64 y8n0, .int .i64 y8n1, .int .i64 y8n2, .int .i64 y8n3, .bool y8n4] rfl rfl rfl rfl rfl rfl (by simp [Value.oneCell']) (Nat.le_of_ble_eq_true rfl) rfl rfl rfl ?_; clear hS; intro w21 hS
          refine dr_nil (.inr (hS.tail 2 rfl)) ?_
          refine dr_end ?_
          replace hA := hA.sel [5, 6] (e' := [(5, .pointer (some ⟨b18, 0, none⟩)), (6, .pointer (some ⟨b16, 0, none⟩))]) rfl
          refine xt_norm ?_
          replace hS := hS.front 2 (C := [(b3, rowO [.int .i64 c0, .int .i64 c1, .int .i64 c2, .int .i64 c3, .bool c4] 24)]) (L' := [(b16, rowO [.int .i64 y8n0, .int .i64 y8n1, .int .i64 y8n2, .int .i64 y8n3, .bool y8n4] 24)] :: [(b18, rowO [.int .i64 y6n0, .int .i64 y6n1, .int .i64 y6n2, .int .i64 y6n3, .bool y6n4] 24)] :: [(b1, rowO [.int .i64 a0, .int .i64 a1, .int .i64 a2, .int .i64 a3, .bool a4] 24)] :: F) rfl rfl
          replace hS := hS.drop1
          replace hS := hS.front 2 (C := [(b1, rowO [.int .i64 a0, .int .i64 a1, .int .i64 a2, .int .i64 a3, .bool a4] 24)]) (L' := [(b16, rowO [.int .i64 y8n0, .int .i64 y8n1, .int .i64 y8n2, .int .i64 y8n3, .bool y8n4] 24)] :: [(b18, rowO [.int .i64 y6n0, .int .i64 y6n1, .int .i64 y6n2, .int .i64 y6n3, .bool y6n4] 24)] :: F) rfl rfl
          replace hS := hS.drop1
          replace hS := hS.front 1 (C := [(b18, rowO [.int .i64 y6n0, .int .i64 y6n1, .int .i64 y6n2, .int .i64 y6n3, .bool y6n4] 24)]) (L' := [(b16, rowO [.int .i64 y8n0, .int .i64 y8n1, .int .i64 y8n2, .int .i64 y8n3, .bool y8n4] 24)] :: F) rfl rfl
          exact ⟨y6n0, y6n1, y6n2, y6n3, y6n4, y8n0, y8n1, y8n2, y8n3, y8n4, b18, b16, (hA.sel [5, 6] rfl), hS, hy6, hy8⟩
      · refine dr_b (o := _) rfl ?_
        refine st_alloc tbOk hA hS [.int .i64 0, .int .i64 0, .int .i64 0, .int .i64 0, .bool false] rfl rfl rfl rfl rfl (by decide) ?_; clear hA hS; intro b22 w23 a hS hA
        refine dr_nil (.inr (hS.tail 1 rfl)) ?_
        refine dr_subN ?_
        refine dr_fork ?_ ?_
        · refine dr_b (o := _) rfl ?_
          refine st_call0 hA rfl rfl rfl isfn10 rfl rfl (by decide) (small10 hS (c0, c1, c2, c3, c4)) ?_
          clear hA hS; rintro _ w25 a ⟨⟨y24n0, y24n1, y24n2, y24n3, y24n4⟩, hy24, rfl, hS⟩ hA
          have h2y24 := hy24; dsimp only [SOk, ab, az, ag, ao] at h2y24
          refine dr_nil (.inr (hS.tail 1 rfl)) ?_
          refine dr_subL ?_
          refine dr_b (o := _) rfl ?_
          refine st_alloc tbOk hA hS [.int .i64 0, .int .i64 0, .int .i64 0, .int .i64 0, .bool false] rfl rfl rfl rfl rfl (by decide) ?_; clear hA hS; intro b26 w27 a hS hA
          refine dr_nil (.inr (hS.tail 2 rfl)) ?_
          refine dr_b (o := _) rfl ?_
          replace hS := hS.front 1 (C := [(b22, rowO [.int .i64 0, .int .i64 0, .int .i64 0, .int .i64 0, .bool false] 24)]) (L' := [(b26, rowO [.int .i64 0, .int .i64 0, .int .i64 0, .int .i64 0, .bool false] 24)] :: [(b3, rowO [.int .i64 c0, .int .i64 c1, .int .i64 c2, .int .i64 c3, .bool c4] 24)] :: [(b1, rowO [.int .i64 a0, .int .i64 a1, .int .i64 a2, .int .i64 a3, .bool a4] 24)] :: F) rfl rfl
          refine st_store tbOk hA hS [.int .i64 y6n0, .int .i64 y6n1, .int .i64 y6n2, .int .i64 y6n3, .bool y6n4] [.int .i64 y6n0, .int .i64 y6n1, .int .i64 y6n2, .int .i64 y6n3, .bool y6n4] rfl rfl rfl rfl rfl rfl (by simp [Value.oneCell']) (Nat.le_of_ble_eq_true rfl) rfl rfl rfl ?_; clear hS; intro w28 hS
          refine dr_nil (.inr (hS.tail 2 rfl)) ?_
          refine dr_b (o := _) rfl ?_
          replace hS := hS.front 1 (C := [(b26, rowO [.int .i64 0, .int .i64 0, .int .i64 0, .int .i64 0, .bool false] 24)]) (L' := [(b22, rowO [.int .i64 y6n0, .int .i64 y6n1, .int .i64 y6n2, .int .i64 y6n3, .bool y6n4] 24)] :: [(b3, rowO [.int .i64 c0, .int .i64 c1, .int .i64 c2, .int .i64 c3, .bool c4] 24)] :: [(b1, rowO [.int .i64 a0, .int .i64 a1, .int .i64 a2, .int .i64 a3, .bool a4] 24)] :: F) rfl rfl
          refine st_store tbOk hA hS [.int .i64 y24n0, .int .i64 y24n1, .int .i64 y24n2, .int .i64 y24n3, .bool y24n4] [.int .i64 y24n0, .int .i64 y24n1, .int .i64 y24n2, .int .i64 y24n3, .bool y24n4] rfl rfl rfl rfl rfl rfl (by simp [Value.oneCell']) (Nat.le_of_ble_eq_true rfl) rfl rfl rfl ?_; clear hS; intro w29 hS
          refine dr_nil (.inr (hS.tail 2 rfl)) ?_
          refine dr_end ?_
          replace hA := hA.sel [5, 6] (e' := [(5, .pointer (some ⟨b22, 0, none⟩)), (6, .pointer (some ⟨b26, 0, none⟩))]) rfl
          refine xt_norm ?_
          replace hS := hS.front 2 (C := [(b3, rowO [.int .i64 c0, .int .i64 c1, .int .i64 c2, .int .i64 c3, .bool c4] 24)]) (L' := [(b26, rowO [.int .i64 y24n0, .int .i64 y24n1, .int .i64 y24n2, .int .i64 y24n3, .bool y24n4] 24)] :: [(b22, rowO [.int .i64 y6n0, .int .i64 y6n1, .int .i64 y6n2, .int .i64 y6n3, .bool y6n4] 24)] :: [(b1, rowO [.int .i64 a0, .int .i64 a1, .int .i64 a2, .int .i64 a3, .bool a4] 24)] :: F) rfl rfl
          replace hS := hS.drop1
          replace hS := hS.front 2 (C := [(b1, rowO [.int .i64 a0, .int .i64 a1, .int .i64 a2, .int .i64 a3, .bool a4] 24)]) (L' := [(b26, rowO [.int .i64 y24n0, .int .i64 y24n1, .int .i64 y24n2, .int .i64 y24n3, .bool y24n4] 24)] :: [(b22, rowO [.int .i64 y6n0, .int .i64 y6n1, .int .i64 y6n2, .int .i64 y6n3, .bool y6n4] 24)] :: F) rfl rfl
          replace hS := hS.drop1
          replace hS := hS.front 1 (C := [(b22, rowO [.int .i64 y6n0, .int .i64 y6n1, .int .i64 y6n2, .int .i64 y6n3, .bool y6n4] 24)]) (L' := [(b26, rowO [.int .i64 y24n0, .int .i64 y24n1, .int .i64 y24n2, .int .i64 y24n3, .bool y24n4] 24)] :: F) rfl rfl
          exact ⟨y6n0, y6n1, y6n2, y6n3, y6n4, y24n0, y24n1, y24n2, y24n3, y24n4, b22, b26, (hA.sel [5, 6] rfl), hS, hy6, hy24⟩
        · refine dr_b (o := _) rfl ?_
          refine st_alloc tbOk hA hS [.int .i64 0, .int .i64 0, .int .i64 0, .int .i64 0, .bool false] rfl rfl rfl rfl rfl (by decide) ?_; clear hA hS; intro b30 w31 a hS hA
          refine dr_nil (.inr (hS.tail 2 rfl)) ?_
          refine dr_subL ?_
          refine dr_b (o := _) rfl ?_
          refine st_call0 hA rfl rfl rfl isfn10 rfl rfl (by decide) (small10 hS (c0, c1, c2, c3, c4)) ?_
          clear hA hS; rintro _ w33 a ⟨⟨y32n0, y32n1, y32n2, y32n3, y32n4⟩, hy32, rfl, hS⟩ hA
          have h2y32 := hy32; dsimp only [SOk, ab, az, ag, ao] at h2y32
          refine dr_nil (.inr (hS.tail 2 rfl)) ?_
          refine dr_b (o := _) rfl ?_
          replace hS := hS.front 1 (C := [(b22, rowO [.int .i64 0, .int .i64 0, .int .i64 0, .int .i64 0, .bool false] 24)]) (L' := [(b30, rowO [.int .i64 0, .int .i64 0, .int .i64 0, .int .i64 0, .bool false] 24)] :: [(b3, rowO [.int .i64 c0, .int .i64 c1, .int .i64 c2, .int .i64 c3, .bool c4] 24)] :: [(b1, rowO [.int .i64 a0, .int .i64 a1, .int .i64 a2, .int .i64 a3, .bool a4] 24)] :: F) rfl rfl
          refine st_store tbOk hA hS [.int .i64 y6n0, .int .i64 y6n1, .int .i64 y6n2, .int .i64 y6n3, .bool y6n4] [.int .i64 y6n0, .int .i64 y6n1, .int .i64 y6n2, .int .i64 y6n3, .bool y6n4] rfl rfl rfl rfl rfl rfl (by simp [Value.oneCell']) (Nat.le_of_ble_eq_true rfl) rfl rfl rfl ?_; clear hS; intro w34 hS
          refine dr_nil (.inr (hS.tail 2 rfl)) ?_
          refine dr_b (o := _) rfl ?_
          replace hS := hS.front 1 (C := [(b30, rowO [.int .i64 0, .int .i64 0, .int .i64 0, .int .i64 0, .bool false] 24)]) (L' := [(b22, rowO [.int .i64 y6n0, .int .i64 y6n1, .int .i64 y6n2, .int .i64 y6n3, .bool y6n4] 24)] :: [(b3, rowO [.int .i64 c0, .int .i64 c1, .int .i64 c2, .int .i64 c3, .bool c4] 24)] :: [(b1, rowO [.int .i64 a0, .int .i64 a1, .int .i64 a2, .int .i64 a3, .bool a4] 24)] :: F) rfl rfl
          refine st_store tbOk hA hS [.int .i64 y32n0, .int .i64 y32n1, .int .i64 y32n2, .int .i64 y32n3, .bool y32n4] [.int .i64 y32n0, .int .i64 y32n1, .int .i64 y32n2, .int .i64 y32n3, .bool y32n4] rfl rfl rfl rfl rfl rfl (by simp [Value.oneCell']) (Nat.le_of_ble_eq_true rfl) rfl rfl rfl ?_; clear hS; intro w35 hS
          refine dr_nil (.inr (hS.tail 2 rfl)) ?_
          refine dr_end ?_
          replace hA := hA.sel [5, 6] (e' := [(5, .pointer (some ⟨b22, 0, none⟩)), (6, .pointer (some ⟨b30, 0, none⟩))]) rfl
          refine xt_norm ?_
          replace hS := hS.front 2 (C := [(b3, rowO [.int .i64 c0, .int .i64 c1, .int .i64 c2, .int .i64 c3, .bool c4] 24)]) (L' := [(b30, rowO [.int .i64 y32n0, .int .i64 y32n1, .int .i64 y32n2, .int .i64 y32n3, .bool y32n4] 24)] :: [(b22, rowO [.int .i64 y6n0, .int .i64 y6n1, .int .i64 y6n2, .int .i64 y6n3, .bool y6n4] 24)] :: [(b1, rowO [.int .i64 a0, .int .i64 a1, .int .i64 a2, .int .i64 a3, .bool a4] 24)] :: F) rfl rfl
          replace hS := hS.drop1
          replace hS := hS.front 2 (C := [(b1, rowO [.int .i64 a0, .int .i64 a1, .int .i64 a2, .int .i64 a3, .bool a4] 24)]) (L' := [(b30, rowO [.int .i64 y32n0, .int .i64 y32n1, .int .i64 y32n2, .int .i64 y32n3, .bool y32n4] 24)] :: [(b22, rowO [.int .i64 y6n0, .int .i64 y6n1, .int .i64 y6n2, .int .i64 y6n3, .bool y6n4] 24)] :: F) rfl rfl
          replace hS := hS.drop1
          replace hS := hS.front 1 (C := [(b22, rowO [.int .i64 y6n0, .int .i64 y6n1, .int .i64 y6n2, .int .i64 y6n3, .bool y6n4] 24)]) (L' := [(b30, rowO [.int .i64 y32n0, .int .i64 y32n1, .int .i64 y32n2, .int .i64 y32n3, .bool y32n4] 24)] :: F) rfl rfl
          exact ⟨y6n0, y6n1, y6n2, y6n3, y6n4, y32n0, y32n1, y32n2, y32n3, y32n4, b22, b30, (hA.sel [5, 6] rfl), hS, hy6, hy32⟩
      · refine dr_b (o := _) rfl ?_
        refine st_alloc tbOk hA hS [.int .i64 0, .int .i64 0, .int .i64 0, .int .i64 0, .bool false] rfl rfl rfl rfl rfl (by decide) ?_; clear hA hS; intro b36 w37 a hS hA
        refine dr_nil (.inr (hS.tail 1 rfl)) ?_
        refine dr_subN ?_
        refine dr_fork ?_ ?_
        · refine dr_b (o := _) rfl ?_
          refine st_call0 hA rfl rfl rfl isfn10 rfl rfl (by decide) (small10 hS (c0, c1, c2, c3, c4)) ?_
          clear hA hS; rintro _ w39 a ⟨⟨y38n0, y38n1, y38n2, y38n3, y38n4⟩, hy38, rfl, hS⟩ hA
          have h2y38 := hy38; dsimp only [SOk, ab, az, ag, ao] at h2y38
          refine dr_nil (.inr (hS.tail 1 rfl)) ?_
          refine dr_subL ?_
          refine dr_b (o := _) rfl ?_
          refine st_alloc tbOk hA hS [.int .i64 0, .int .i64 0, .int .i64 0, .int .i64 0, .bool false] rfl rfl rfl rfl rfl (by decide) ?_; clear hA hS; intro b40 w41 a hS hA
          refine dr_nil (.inr (hS.tail 2 rfl)) ?_
          refine dr_b (o := _) rfl ?_
          refine st_store tbOk hA hS [.int .i64 y6n0, .int .i64 y6n1, .int .i64 y6n2, .int .i64 y6n3, .bool y6n4] [.int .i64 y6n0, .int .i64 y6n1, .int .i64 y6n2, .int .i64 y6n3, .bool y6n4] rfl rfl rfl rfl rfl rfl (by simp [Value.oneCell']) (Nat.le_of_ble_eq_true rfl) rfl rfl rfl ?_; clear hS; intro w42 hS
          refine dr_nil (.inr (hS.tail 2 rfl)) ?_
          refine dr_b (o := _) rfl ?_
          replace hS := hS.front 1 (C := [(b36, rowO [.int .i64 0, .int .i64 0, .int .i64 0, .int .i64 0, .bool false] 24)]) (L' := [(b40, rowO [.int .i64 y6n0, .int .i64 y6n1, .int .i64 y6n2, .int .i64 y6n3, .bool y6n4] 24)] :: [(b3, rowO [.int .i64 c0, .int .i64 c1, .int .i64 c2, .int .i64 c3, .bool c4] 24)] :: [(b1, rowO [.int .i64 a0, .int .i64 a1, .int .i64 a2, .int .i64 a3, .bool a4] 24)] :: F) rfl rfl
          refine st_store tbOk hA hS [.int .i64 y38n0, .int .i64 y38n1, .int .i64 y38n2, .int .i64 y38n3, .bool y38n4] [.int .i64 y38n0, .int .i64 y38n1, .int .i64 y38n2, .int .i64 y38n3, .bool y38n4] rfl rfl rfl rfl rfl rfl (by simp [Value.oneCell']) (Nat.le_of_ble_eq_true rfl) rfl rfl rfl ?_; clear hS; intro w43 hS
          refine dr_nil (.inr (hS.tail 2 rfl)) ?_
          refine dr_end ?_
          replace hA := hA.sel [5, 6] (e' := [(5, .pointer (some ⟨b40, 0, none⟩)), (6, .pointer (some ⟨b36, 0, none⟩))]) rfl
          refine xt_norm ?_
          replace hS := hS.front 2 (C := [(b3, rowO [.int .i64 c0, .int .i64 c1, .int .i64 c2, .int .i64 c3, .bool c4] 24)]) (L' := [(b36, rowO [.int .i64 y38n0, .int .i64 y38n1, .int .i64 y38n2, .int .i64 y38n3, .bool y38n4] 24)] :: [(b40, rowO [.int .i64 y6n0, .int .i64 y6n1, .int .i64 y6n2, .int .i64 y6n3, .bool y6n4] 24)] :: [(b1, rowO [.int .i64 a0, .int .i64 a1, .int .i64 a2, .int .i64 a3, .bool a4] 24)] :: F) rfl rfl
          replace hS := hS.drop1
          replace hS := hS.front 2 (C := [(b1, rowO [.int .i64 a0, .int .i64 a1, .int .i64 a2, .int .i64 a3, .bool a4] 24)]) (L' := [(b36, rowO [.int .i64 y38n0, .int .i64 y38n1, .int .i64 y38n2, .int .i64 y38n3, .bool y38n4] 24)] :: [(b40, rowO [.int .i64 y6n0, .int .i64 y6n1, .int .i64 y6n2, .int .i64 y6n3, .bool y6n4] 24)] :: F) rfl rfl
          replace hS := hS.drop1
          replace hS := hS.front 1 (C := [(b40, rowO [.int .i64 y6n0, .int .i64 y6n1, .int .i64 y6n2, .int .i64 y6n3, .bool y6n4] 24)]) (L' := [(b36, rowO [.int .i64 y38n0, .int .i64 y38n1, .int .i64 y38n2, .int .i64 y38n3, .bool y38n4] 24)] :: F) rfl rfl
          exact ⟨y6n0, y6n1, y6n2, y6n3, y6n4, y38n0, y38n1, y38n2, y38n3, y38n4, b40, b36, (hA.sel [5, 6] rfl), hS, hy6, hy38⟩
        · refine dr_b (o := _) rfl ?_
          refine st_alloc tbOk hA hS [.int .i64 0, .int .i64 0, .int .i64 0, .int .i64 0, .bool false] rfl rfl rfl rfl rfl (by decide) ?_; clear hA hS; intro b44 w45 a hS hA
          refine dr_nil (.inr (hS.tail 2 rfl)) ?_
          refine dr_subL ?_
          refine dr_b (o := _) rfl ?_
          refine st_call0 hA rfl rfl rfl isfn10 rfl rfl (by decide) (small10 hS (c0, c1, c2, c3, c4)) ?_
          clear hA hS; rintro _ w47 a ⟨⟨y46n0, y46n1, y46n2, y46n3, y46n4⟩, hy46, rfl, hS⟩ hA
          have h2y46 := hy46; dsimp only [SOk, ab, az, ag, ao] at h2y46
          refine dr_nil (.inr (hS.tail 2 rfl)) ?_
          refine dr_b (o := _) rfl ?_
          refine st_store tbOk hA hS [.int .i64 y6n0, .int .i64 y6n1, .int .i64 y6n2, .int .i64 y6n3, .bool y6n4] [.int .i64 y6n0, .int .i64 y6n1, .int .i64 y6n2, .int .i64 y6n3, .bool y6n4] rfl rfl rfl rfl rfl rfl (by simp [Value.oneCell']) (Nat.le_of_ble_eq_true rfl) rfl rfl rfl ?_; clear hS; intro w48 hS
          refine dr_nil (.inr (hS.tail 2 rfl)) ?_
          refine dr_b (o := _) rfl ?_
          replace hS := hS.front 1 (C := [(b36, rowO [.int .i64 0, .int .i64 0, .int .i64 0, .int .i64 0, .bool false] 24)]) (L' := [(b44, rowO [.int .i64 y6n0, .int .i64 y6n1, .int .i64 y6n2, .int .i64 y6n3, .bool y6n4] 24)] :: [(b3, rowO [.int .i64 c0, .int .i64 c1, .int .i64 c2, .int .i64 c3, .bool c4] 24)] :: [(b1, rowO [.int .i64 a0, .int .i64 a1, .int .i64 a2, .int .i64 a3, .bool a4] 24)] :: F) rfl rfl
          refine st_store tbOk hA hS [.int .i64 y46n0, .int .i64 y46n1, .int .i64 y46n2, .int .i64 y46n3, .bool y46n4] [.int .i64 y46n0, .int .i64 y46n1, .int .i64 y46n2, .int .i64 y46n3, .bool y46n4] rfl rfl rfl rfl rfl rfl (by simp [Value.oneCell']) (Nat.le_of_ble_eq_true rfl) rfl rfl rfl ?_; clear hS; intro w49 hS
          refine dr_nil (.inr (hS.tail 2 rfl)) ?_
          refine dr_end ?_
          replace hA := hA.sel [5, 6] (e' := [(5, .pointer (some ⟨b44, 0, none⟩)), (6, .pointer (some ⟨b36, 0, none⟩))]) rfl
          refine xt_norm ?_
          replace hS := hS.front 2 (C := [(b3, rowO [.int .i64 c0, .int .i64 c1, .int .i64 c2, .int .i64 c3, .bool c4] 24)]) (L' := [(b36, rowO [.int .i64 y46n0, .int .i64 y46n1, .int .i64 y46n2, .int .i64 y46n3, .bool y46n4] 24)] :: [(b44, rowO [.int .i64 y6n0, .int .i64 y6n1, .int .i64 y6n2, .int .i64 y6n3, .bool y6n4] 24)] :: [(b1, rowO [.int .i64 a0, .int .i64 a1, .int .i64 a2, .int .i64 a3, .bool a4] 24)] :: F) rfl rfl
          replace hS := hS.drop1
          replace hS := hS.front 2 (C := [(b1, rowO [.int .i64 a0, .int .i64 a1, .int .i64 a2, .int .i64 a3, .bool a4] 24)]) (L' := [(b36, rowO [.int .i64 y46n0, .int .i64 y46n1, .int .i64 y46n2, .int .i64 y46n3, .bool y46n4] 24)] :: [(b44, rowO [.int .i64 y6n0, .int .i64 y6n1, .int .i64 y6n2, .int .i64 y6n3, .bool y6n4] 24)] :: F) rfl rfl
          replace hS := hS.drop1
          replace hS := hS.front 1 (C := [(b44, rowO [.int .i64 y6n0, .int .i64 y6n1, .int .i64 y6n2, .int .i64 y6n3, .bool y6n4] 24)]) (L' := [(b36, rowO [.int .i64 y46n0, .int .i64 y46n1, .int .i64 y46n2, .int .i64 y46n3, .bool y46n4] 24)] :: F) rfl rfl
          exact ⟨y6n0, y6n1, y6n2, y6n3, y6n4, y46n0, y46n1, y46n2, y46n3, y46n4, b44, b36, (hA.sel [5, 6] rfl), hS, hy6, hy46⟩
    · refine dr_b (o := _) rfl ?_
      refine st_alloc tbOk hA hS [.int .i64 0, .int .i64 0, .int .i64 0, .int .i64 0, .bool false] rfl rfl rfl rfl rfl (by decide) ?_; clear hA hS; intro b50 w51 a hS hA
      refine dr_nil (.inr (hS.tail 1 rfl)) ?_
      refine dr_subN ?_
      refine dr_fork ?_ ?_
      · refine dr_b (o := _) rfl ?_
        refine st_call0 hA rfl rfl rfl isfn10 rfl rfl (by decide) (small10 hS (a0, a1, a2, a3, a4)) ?_
        clear hA hS; rintro _ w53 a ⟨⟨y52n0, y52n1, y52n2, y52n3, y52n4⟩, hy52, rfl, hS⟩ hA
        have h2y52 := hy52; dsimp only [SOk, ab, az, ag, ao] at h2y52
        refine dr_nil (.inr (hS.tail 1 rfl)) ?_
        refine dr_subN ?_
        refine dr_fork ?_ ?_
        · refine dr_b (o := _) rfl ?_
          refine st_call0 hA rfl rfl rfl isfn10 rfl rfl (by decide) (small10 hS (c0, c1, c2, c3, c4)) ?_
          clear hA hS; rintro _ w55 a ⟨⟨y54n0, y54n1, y54n2, y54n3, y54n4⟩, hy54, rfl, hS⟩ hA
          have h2y54 := hy54; dsimp only [SOk, ab, az, ag, ao] at h2y54
          refine dr_nil (.inr (hS.tail 1 rfl)) ?_
          refine dr_subL ?_
          refine dr_b (o := _) rfl ?_
          refine st_alloc tbOk hA hS [.int .i64 0, .int .i64 0, .int .i64 0, .int .i64 0, .bool false] rfl rfl rfl rfl rfl (by decide) ?_; clear hA hS; intro b56 w57 a hS hA
          refine dr_nil (.inr (hS.tail 2 rfl)) ?_
          refine dr_b (o := _) rfl ?_
          replace hS := hS.front 1 (C := [(b50, rowO [.int .i64 0, .int .i64 0, .int .i64 0, .int .i64 0, .bool false] 24)]) (L' := [(b56, rowO [.int .i64 0, .int .i64 0, .int .i64 0, .int .i64 0, .bool false] 24)] :: [(b3, rowO [.int .i64 c0, .int .i64 c1, .int .i64 c2, .int .i64 c3, .bool c4] 24)] :: [(b1, rowO [.int .i64 a0, .int .i64 a1, .int .i64 a2, .int .i64 a3, .bool a4] 24)] :: F) rfl rfl
          refine st_store tbOk hA hS [.int .i64 y52n0, .int .i64 y52n1, .int .i64 y52n2, .int .i64 y52n3, .bool y52n4] [.int .i64 y52n0, .int .i64 y52n1, .int .i64 y52n2, .int .i64 y52n3, .bool y52n4] rfl rfl rfl rfl rfl rfl (by simp [Value.oneCell']) (Nat.le_of_ble_eq_true rfl) rfl rfl rfl ?_; clear hS; intro w58 hS
          refine dr_nil (.inr (hS.tail 2 rfl)) ?_
          refine dr_b (o := _) rfl ?_
          replace hS := hS.front 1 (C := [(b56, rowO [.int .i64 0, .int .i64 0, .int .i64 0, .int .i64 0, .bool false] 24)]) (L' := [(b50, rowO [.int .i64 y52n0, .int .i64 y52n1, .int .i64 y52n2, .int .i64 y52n3, .bool y52n4] 24)] :: [(b3, rowO [.int .i64 c0, .int .i64 c1, .int .i64 c2, .int .i64 c3, .bool c4] 24)] :: [(b1, rowO [.int .i64 a0, .int .i64 a1, .int .i64 a2, .int .i64 a3, .bool a4] 24)] :: F) rfl rfl
          refine st_store tbOk hA hS [.int .i64 y54n0, .int .i64 y54n1, .int .i64 y54n2, .int .i64 y54n3, .bool y54n4] [.int .i64 y54n0, .int .i64 y54n1, .int .i64 y54n2, .int .i64 y54n3, .bool y54n4] rfl rfl rfl rfl rfl rfl (by simp [Value.oneCell']) (Nat.le_of_ble_eq_true rfl) rfl rfl rfl ?_; clear hS; intro w59 hS
          refine dr_nil (.inr (hS.tail 2 rfl)) ?_
          refine dr_end ?_
          replace hA := hA.sel [5, 6] (e' := [(5, .pointer (some ⟨b50, 0, none⟩)), (6, .pointer (some ⟨b56, 0, none⟩))]) rfl
          refine xt_norm ?_
          replace hS := hS.front 2 (C := [(b3, rowO [.int .i64 c0, .int .i64 c1, .int .i64 c2, .int .i64 c3, .bool c4] 24)]) (L' := [(b56, rowO [.int .i64 y54n0, .int .i64 y54n1, .int .i64 y54n2, .int .i64 y54n3, .bool y54n4] 24)] :: [(b50, rowO [.int .i64 y52n0, .int .i64 y52n1, .int .i64 y52n2, .int .i64 y52n3, .bool y52n4] 24)] :: [(b1, rowO [.int .i64 a0, .int .i64 a1, .int .i64 a2, .int .i64 a3, .bool a4] 24)] :: F) rfl rfl
          replace hS := hS.drop1
          replace hS := hS.front 2 (C := [(b1, rowO [.int .i64 a0, .int .i64 a1, .int .i64 a2, .int .i64 a3, .bool a4] 24)]) (L' := [(b56, rowO [.int .i64 y54n0, .int .i64 y54n1, .int .i64 y54n2, .int .i64 y54n3, .bool y54n4] 24)] :: [(b50, rowO [.int .i64 y52n0, .int .i64 y52n1, .int .i64 y52n2, .int .i64 y52n3, .bool y52n4] 24)] :: F) rfl rfl
          replace hS := hS.drop1
          replace hS := hS.front 1 (C := [(b50, rowO [.int .i64 y52n0, .int .i64 y52n1, .int .i64 y52n2, .int .i64 y52n3, .bool y52n4] 24)]) (L' := [(b56, rowO [.int .i64 y54n0, .int .i64 y54n1, .int .i64 y54n2, .int .i64 y54n3, .bool y54n4] 24)] :: F) rfl rfl
          exact ⟨y52n0, y52n1, y52n2, y52n3, y52n4, y54n0, y54n1, y54n2, y54n3, y54n4, b50, b56, (hA.sel [5, 6] rfl), hS, hy52, hy54⟩
        · refine dr_b (o := _) rfl ?_
          refine st_alloc tbOk hA hS [.int .i64 0, .int .i64 0, .int .i64 0, .int .i64 0, .bool false] rfl rfl rfl rfl rfl (by decide) ?_; clear hA hS; intro b60 w61 a hS hA
          refine dr_nil (.inr (hS.tail 2 rfl)) ?_
          refine dr_subL ?_
          refine dr_b (o := _) rfl ?_
          refine st_call0 hA rfl rfl rfl isfn10 rfl rfl (by decide) (small10 hS (c0, c1, c2, c3, c4)) ?_
          clear hA hS; rintro _ w63 a ⟨⟨y62n0, y62n1, y62n2, y62n3, y62n4⟩, hy62, rfl, hS⟩ hA
          have h2y62 := hy62; dsimp only [SOk, ab, az, ag, ao] at h2y62
          refine dr_nil (.inr (hS.tail 2 rfl)) ?_
          refine dr_b (o := _) rfl ?_
          replace hS := hS.front 1 (C := [(b50, rowO [.int .i64 0, .int .i64 0, .int .i64 0, .int .i64 0, .bool false] 24)]) (L' := [(b60, rowO [.int .i64 0, .int .i64 0, .int .i64 0, .int .i64 0, .bool false] 24)] :: [(b3, rowO [.int .i64 c0, .int .i64 c1, .int .i64 c2, .int .i64 c3, .bool c4] 24)] :: [(b1, rowO [.int .i64 a0, .int .i64 a1, .int .i64 a2, .int .i64 a3, .bool a4] 24)] :: F) rfl rfl
          refine st_store tbOk hA hS [.int .i64 y52n0, .int .i64 y52n1, .int .i64 y52n2, .int .i64 y52n3, .bool y52n4] [.int .i64 y52n0, .int .i64 y52n1, .int .i64 y52n2, .int .i64 y52n3, .bool y52n4] rfl rfl rfl rfl rfl rfl (by simp [Value.oneCell']) (Nat.le_of_ble_eq_true rfl) rfl rfl rfl ?_; clear hS; intro w64 hS
          refine dr_nil (.inr (hS.tail 2 rfl)) ?_
          refine dr_b (o := _) rfl ?_
          replace hS := hS.front 1 (C := [(b60, rowO [.int .i64 0, .int .i64 0, .int .i64 0, .int .i64 0, .bool false] 24)]) (L' := [(b50, rowO [.int .i64 y52n0, .int .i64 y52n1, .int .i64 y52n2, .int .i64 y52n3, .bool y52n4] 24)] :: [(b3, rowO [.int .i64 c0, .int .i64 c1, .int .i64 c2, .int .i64 c3, .bool c4] 24)] :: [(b1, rowO [.int .i64 a0, .int .i64 a1, .int .i64 a2, .int .i64 a3, .bool a4] 24)] :: F) rfl rfl
          refine st_store tbOk hA hS [.int .i64 y62n0, .int .i64 y62n1, .int .i64 y62n2, .int .i64 y62n3, .bool y62n4] [.int .i64 y62n0, .int .i64 y62n1, .int .i64 y62n2, .int .i64 y62n3, .bool y62n4] rfl rfl rfl rfl rfl rfl (by simp [Value.oneCell']) (Nat.le_of_ble_eq_true rfl) rfl rfl rfl ?_; clear hS; intro w65 hS
          refine dr_nil (.inr (hS.tail 2 rfl)) ?_
          refine dr_end ?_
          replace hA := hA.sel [5, 6] (e' := [(5, .pointer (some ⟨b50, 0, none⟩)), (6, .pointer (some ⟨b60, 0, none⟩))]) rfl
          refine xt_norm ?_
          replace hS := hS.front 2 (C := [(b3, rowO [.int .i64 c0, .int .i64 c1, .int .i64 c2, .int .i64 c3, .bool c4] 24)]) (L' := [(b60, rowO [.int .i64 y62n0, .int .i64 y62n1, .int .i64 y62n2, .int .i64 y62n3, .bool y62n4] 24)] :: [(b50, rowO [.int .i64 y52n0, .int .i64 y52n1, .int .i64 y52n2, .int .i64 y52n3, .bool y52n4] 24)] :: [(b1, rowO [.int .i64 a0, .int .i64 a1, .int .i64 a2, .int .i64 a3, .bool a4] 24)] :: F) rfl rfl
          replace hS := hS.drop1
          replace hS := hS.front 2 (C := [(b1, rowO [.int .i64 a0, .int .i64 a1, .int .i64 a2, .int .i64 a3, .bool a4] 24)]) (L' := [(b60, rowO [.int .i64 y62n0, .int .i64 y62n1, .int .i64 y62n2, .int .i64 y62n3, .bool y62n4] 24)] :: [(b50, rowO [.int .i64 y52n0, .int .i64 y52n1, .int .i64 y52n2, .int .i64 y52n3, .bool y52n4] 24)] :: F) rfl rfl
          replace hS := hS.drop1
          replace hS := hS.front 1 (C := [(b50, rowO [.int .i64 y52n0, .int .i64 y52n1, .int .i64 y52n2, .int .i64 y52n3, .bool y52n4] 24)]) (L' := [(b60, rowO [.int .i64 y62n0, .int .i64 y62n1, .int .i64 y62n2, .int .i64 y62n3, .bool y62n4] 24)] :: F) rfl rfl
          exact ⟨y52n0, y52n1, y52n2, y52n3, y52n4, y62n0, y62n1, y62n2, y62n3, y62n4, b50, b60, (hA.sel [5, 6] rfl), hS, hy52, hy62⟩
      · refine dr_b (o := _) rfl ?_
        refine st_alloc tbOk hA hS [.int .i64 0, .int .i64 0, .int .i64 0, .int .i64 0, .bool false] rfl rfl rfl rfl rfl (by decide) ?_; clear hA hS; intro b66 w67 a hS hA
        refine dr_nil (.inr (hS.tail 2 rfl)) ?_
        refine dr_subL ?_
        refine dr_b (o := _) rfl ?_
        refine st_call0 hA rfl rfl rfl isfn10 rfl rfl (by decide) (small10 hS (a0, a1, a2, a3, a4)) ?_
        clear hA hS; rintro _ w69 a ⟨⟨y68n0, y68n1, y68n2, y68n3, y68n4⟩, hy68, rfl, hS⟩ hA
        have h2y68 := hy68; dsimp only [SOk, ab, az, ag, ao] at h2y68
        refine dr_nil (.inr (hS.tail 2 rfl)) ?_
        refine dr_b (o := _) rfl ?_
        refine st_call0 hA rfl rfl rfl isfn10 rfl rfl (by decide) (small10 hS (c0, c1, c2, c3, c4)) ?_
        clear hA hS; rintro _ w71 a ⟨⟨y70n0, y70n1, y70n2, y70n3, y70n4⟩, hy70, rfl, hS⟩ hA
        have h2y70 := hy70; dsimp only [SOk, ab, az, ag, ao] at h2y70
        refine dr_nil (.inr (hS.tail 2 rfl)) ?_
        refine dr_b (o := _) rfl ?_
        replace hS := hS.front 1 (C := [(b50, rowO [.int .i64 0, .int .i64 0, .int .i64 0, .int .i64 0, .bool false] 24)]) (L' := [(b66, rowO [.int .i64 0, .int .i64 0, .int .i64 0, .int .i64 0, .bool false] 24)] :: [(b3, rowO [.int .i64 c0, .int .i64 c1, .int .i64 c2, .int .i64 c3, .bool c4] 24)] :: [(b1, rowO [.int .i64 a0, .int .i64 a1, .int .i64 a2, .int .i64 a3, .bool a4] 24)] :: F) rfl rfl
        refine st_store tbOk hA hS [.int .i64 y68n0, .int .i64 y68n1, .int .i64 y68n2, .int .i64 y68n3, .bool y68n4] [.int .i64 y68n0, .int .i64 y68n1, .int .i64 y68n2, .int .i64 y68n3, .bool y68n4] rfl rfl rfl rfl rfl rfl (by simp [Value.oneCell']) (Nat.le_of_ble_eq_true rfl) rfl rfl rfl ?_; clear hS; intro w72 hS
        refine dr_nil (.inr (hS.tail 2 rfl)) ?_
        refine dr_b (o := _) rfl ?_
        replace hS := hS.front 1 (C := [(b66, rowO [.int .i64 0, .int .i64 0, .int .i64 0, .int .i64 0, .bool false] 24)]) (L' := [(b50, rowO [.int .i64 y68n0, .int .i64 y68n1, .int .i64 y68n2, .int .i64 y68n3, .bool y68n4] 24)] :: [(b3, rowO [.int .i64 c0, .int .i64 c1, .int .i64 c2, .int .i64 c3, .bool c4] 24)] :: [(b1, rowO [.int .i64 a0, .int .i64 a1, .int .i64 a2, .int .i64 a3, .bool a4] 24)] :: F) rfl rfl
        refine st_store tbOk hA hS [.int .i64 y70n0, .int .i64 y70n1, .int .i64 y70n2, .int .i64 y70n3, .bool y70n4] [.int .i64 y70n0, .int .i64 y70n1, .int .i64 y70n2, .int .i64 y70n3, .bool y70n4] rfl rfl rfl rfl rfl rfl (by simp [Value.oneCell']) (Nat.le_of_ble_eq_true rfl) rfl rfl rfl ?_; clear hS; intro w73 hS
        refine dr_nil (.inr (hS.tail 2 rfl)) ?_
        refine dr_end ?_
        replace hA := hA.sel [5, 6] (e' := [(5, .pointer (some ⟨b50, 0, none⟩)), (6, .pointer (some ⟨b66, 0, none⟩))]) rfl
        refine xt_norm ?_
        replace hS := hS.front 2 (C := [(b3, rowO [.int .i64 c0, .int .i64 c1, .int .i64 c2, .int .i64 c3, .bool c4] 24)]) (L' := [(b66, rowO [.int .i64 y70n0, .int .i64 y70n1, .int .i64 y70n2, .int .i64 y70n3, .bool y70n4] 24)] :: [(b50, rowO [.int .i64 y68n0, .int .i64 y68n1, .int .i64 y68n2, .int .i64 y68n3, .bool y68n4] 24)] :: [(b1, rowO [.int .i64 a0, .int .i64 a1, .int .i64 a2, .int .i64 a3, .bool a4] 24)] :: F) rfl rfl
        replace hS := hS.drop1
        replace hS := hS.front 2 (C := [(b1, rowO [.int .i64 a0, .int .i64 a1, .int .i64 a2, .int .i64 a3, .bool a4] 24)]) (L' := [(b66, rowO [.int .i64 y70n0, .int .i64 y70n1, .int .i64 y70n2, .int .i64 y70n3, .bool y70n4] 24)] :: [(b50, rowO [.int .i64 y68n0, .int .i64 y68n1, .int .i64 y68n2, .int .i64 y68n3, .bool y68n4] 24)] :: F) rfl rfl
        replace hS := hS.drop1
        replace hS := hS.front 1 (C := [(b50, rowO [.int .i64 y68n0, .int .i64 y68n1, .int .i64 y68n2, .int .i64 y68n3, .bool y68n4] 24)]) (L' := [(b66, rowO [.int .i64 y70n0, .int .i64 y70n1, .int .i64 y70n2, .int .i64 y70n3, .bool y70n4] 24)] :: F) rfl rfl
        exact ⟨y68n0, y68n1, y68n2, y68n3, y68n4, y70n0, y70n1, y70n2, y70n3, y70n4, b50, b66, (hA.sel [5, 6] rfl), hS, hy68, hy70⟩
    · refine dr_b (o := _) rfl ?_
      refine st_alloc tbOk hA hS [.int .i64 0, .int .i64 0, .int .i64 0, .int .i64 0, .bool false] rfl rfl rfl rfl rfl (by decide) ?_; clear hA hS; intro b74 w75 a hS hA
      refine dr_nil (.inr (hS.tail 1 rfl)) ?_
      refine dr_subN ?_
      refine dr_fork ?_ ?_
      · refine dr_b (o := _) rfl ?_
        refine st_call0 hA rfl rfl rfl isfn10 rfl rfl (by decide) (small10 hS (a0, a1, a2, a3, a4)) ?_
        clear hA hS; rintro _ w77 a ⟨⟨y76n0, y76n1, y76n2, y76n3, y76n4⟩, hy76, rfl, hS⟩ hA
        have h2y76 := hy76; dsimp only [SOk, ab, az, ag, ao] at h2y76
        refine dr_nil (.inr (hS.tail 1 rfl)) ?_
        refine dr_subN ?_
        refine dr_fork ?_ ?_
        · refine dr_b (o := _) rfl ?_
          refine st_call0 hA rfl rfl rfl isfn10 rfl rfl (by decide) (small10 hS (c0, c1, c2, c3, c4)) ?_
          clear hA hS; rintro _ w79 a ⟨⟨y78n0, y78n1, y78n2, y78n3, y78n4⟩, hy78, rfl, hS⟩ hA
          have h2y78 := hy78; dsimp only [SOk, ab, az, ag, ao] at h2y78
          refine dr_nil (.inr (hS.tail 1 rfl)) ?_
          refine dr_subL ?_
          refine dr_b (o := _) rfl ?_
          refine st_alloc tbOk hA hS [.int .i64 0, .int .i64 0, .int .i64 0, .int .i64 0, .bool false] rfl rfl rfl rfl rfl (by decide) ?_; clear hA hS; intro b80 w81 a hS hA
          refine dr_nil (.inr (hS.tail 2 rfl)) ?_
          refine dr_b (o := _) rfl ?_
          refine st_store tbOk hA hS [.int .i64 y76n0, .int .i64 y76n1, .int .i64 y76n2, .int .i64 y76n3, .bool y76n4] [.int .i64 y76n0, .int .i64 y76n1, .int .i64 y76n2, .int .i64 y76n3, .bool y76n4] rfl rfl rfl rfl rfl rfl (by simp [Value.oneCell']) (Nat.le_of_ble_eq_true rfl) rfl rfl rfl ?_; clear hS; intro w82 hS
          refine dr_nil (.inr (hS.tail 2 rfl)) ?_
          refine dr_b (o := _) rfl ?_
          replace hS := hS.front 1 (C := [(b74, rowO [.int .i64 0, .int .i64 0, .int .i64 0, .int .i64 0, .bool false] 24)]) (L' := [(b80, rowO [.int .i64 y76n0, .int .i64 y76n1, .int .i64 y76n2, .int .i64 y76n3, .bool y76n4] 24)] :: [(b3, rowO [.int .i64 c0, .int .i64 c1, .int .i64 c2, .int .i64 c3, .bool c4] 24)] :: [(b1, rowO [.int .i64 a0, .int .i64 a1, .int .i64 a2, .int .i64 a3, .bool a4] 24)] :: F) rfl rfl
          refine st_store tbOk hA hS [.int .i64 y78n0, .int .i64 y78n1, .int .i64 y78n2, .int .i64 y78n3, .bool y78n4] [.int .i64 y78n0, .int .i64 y78n1, .int .i64 y78n2, .int .i64 y78n3, .bool y78n4] rfl rfl rfl rfl rfl rfl (by simp [Value.oneCell']) (Nat.le_of_ble_eq_true rfl) rfl rfl rfl ?_; clear hS; intro w83 hS
          refine dr_nil (.inr (hS.tail 2 rfl)) ?_
          refine dr_end ?_
          replace hA := hA.sel [5, 6] (e' := [(5, .pointer (some ⟨b80, 0, none⟩)), (6, .pointer (some ⟨b74, 0, none⟩))]) rfl
          refine xt_norm ?_
          replace hS := hS.front 2 (C := [(b3, rowO [.int .i64 c0, .int .i64 c1, .int .i64 c2, .int .i64 c3, .bool c4] 24)]) (L' := [(b74, rowO [.int .i64 y78n0, .int .i64 y78n1, .int .i64 y78n2, .int .i64 y78n3, .bool y78n4] 24)] :: [(b80, rowO [.int .i64 y76n0, .int .i64 y76n1, .int .i64 y76n2, .int .i64 y76n3, .bool y76n4] 24)] :: [(b1, rowO [.int .i64 a0, .int .i64 a1, .int .i64 a2, .int .i64 a3, .bool a4] 24)] :: F) rfl rfl
          replace hS := hS.drop1
          replace hS := hS.front 2 (C := [(b1, rowO [.int .i64 a0, .int .i64 a1, .int .i64 a2, .int .i64 a3, .bool a4] 24)]) (L' := [(b74, rowO [.int .i64 y78n0, .int .i64 y78n1, .int .i64 y78n2, .int .i64 y78n3, .bool y78n4] 24)] :: [(b80, rowO [.int .i64 y76n0, .int .i64 y76n1, .int .i64 y76n2, .int .i64 y76n3, .bool y76n4] 24)] :: F) rfl rfl
          replace hS := hS.drop1
          replace hS := hS.front 1 (C := [(b80, rowO [.int .i64 y76n0, .int .i64 y76n1, .int .i64 y76n2, .int .i64 y76n3, .bool y76n4] 24)]) (L' := [(b74, rowO [.int .i64 y78n0, .int .i64 y78n1, .int .i64 y78n2, .int .i64 y78n3, .bool y78n4] 24)] :: F) rfl rfl
          exact ⟨y76n0, y76n1, y76n2, y76n3, y76n4, y78n0, y78n1, y78n2, y78n3, y78n4, b80, b74, (hA.sel [5, 6] rfl), hS, hy76, hy78⟩
        · refine dr_b (o := _) rfl ?_
          refine st_alloc tbOk hA hS [.int .i64 0, .int .i64 0, .int .i64 0, .int .i64 0, .bool false] rfl rfl rfl rfl rfl (by decide) ?_; clear hA hS; intro b84 w85 a hS hA
          refine dr_nil (.inr (hS.tail 2 rfl)) ?_
          refine dr_subL ?_
          refine dr_b (o := _) rfl ?_
          refine st_call0 hA rfl rfl rfl isfn10 rfl rfl (by decide) (small10 hS (c0, c1, c2, c3, c4)) ?_
          clear hA hS; rintro _ w87 a ⟨⟨y86n0, y86n1, y86n2, y86n3, y86n4⟩, hy86, rfl, hS⟩ hA
          have h2y86 := hy86; dsimp only [SOk, ab, az, ag, ao] at h2y86
          refine dr_nil (.inr (hS.tail 2 rfl)) ?_
          refine dr_b (o := _) rfl ?_
          refine st_store tbOk hA hS [.int .i64 y76n0, .int .i64 y76n1, .int .i64 y76n2, .int .i64 y76n3, .bool y76n4] [.int .i64 y76n0, .int .i64 y76n1, .int .i64 y76n2, .int .i64 y76n3, .bool y76n4] rfl rfl rfl rfl rfl rfl (by simp [Value.oneCell']) (Nat.le_of_ble_eq_true rfl) rfl rfl rfl ?_; clear hS; intro w88 hS
          refine dr_nil (.inr (hS.tail 2 rfl)) ?_
          refine dr_b (o := _) rfl ?_
          replace hS := hS.front 1 (C := [(b74, rowO [.int .i64 0, .int .i64 0, .int .i64 0, .int .i64 0, .bool false] 24)]) (L' := [(b84, rowO [.int .i64 y76n0, .int .i64 y76n1, .int .i64 y76n2, .int .i64 y76n3, .bool y76n4] 24)] :: [(b3, rowO [.int .i64 c0, .int .i64 c1, .int .i64 c2, .int .i64 c3, .bool c4] 24)] :: [(b1, rowO [.int .i64 a0, .int .i64 a1, .int .i64 a2, .int .i64 a3, .bool a4] 24)] :: F) rfl rfl
          refine st_store tbOk hA hS [.int .i64 y86n0, .int .i64 y86n1, .int .i64 y86n2, .int .i64 y86n3, .bool y86n4] [.int .i64 y86n0, .int .i64 y86n1, .int .i64 y86n2, .int .i64 y86n3, .bool y86n4] rfl rfl rfl rfl rfl rfl (by simp [Value.oneCell']) (Nat.le_of_ble_eq_true rfl) rfl rfl rfl ?_; clear hS; intro w89 hS
          refine dr_nil (.inr (hS.tail 2 rfl)) ?_
          refine dr_end ?_
          replace hA := hA.sel [5, 6] (e' := [(5, .pointer (some ⟨b84, 0, none⟩)), (6, .pointer (some ⟨b74, 0, none⟩))]) rfl
          refine xt_norm ?_
          replace hS := hS.front 2 (C := [(b3, rowO [.int .i64 c0, .int .i64 c1, .int .i64 c2, .int .i64 c3, .bool c4] 24)]) (L' := [(b74, rowO [.int .i64 y86n0, .int .i64 y86n1, .int .i64 y86n2, .int .i64 y86n3, .bool y86n4] 24)] :: [(b84, rowO [.int .i64 y76n0, .int .i64 y76n1, .int .i64 y76n2, .int .i64 y76n3, .bool y76n4] 24)] :: [(b1, rowO [.int .i64 a0, .int .i64 a1, .int .i64 a2, .int .i64 a3, .bool a4] 24)] :: F) rfl rfl
          replace hS := hS.drop1
          replace hS := hS.front 2 (C := [(b1, rowO [.int .i64 a0, .int .i64 a1, .int .i64 a2, .int .i64 a3, .bool a4] 24)]) (L' := [(b74, rowO [.int .i64 y86n0, .int .i64 y86n1, .int .i64 y86n2, .int .i64 y86n3, .bool y86n4] 24)] :: [(b84, rowO [.int .i64 y76n0, .int .i64 y76n1, .int .i64 y76n2, .int .i64 y76n3, .bool y76n4] 24)] :: F) rfl rfl
          replace hS := hS.drop1
          replace hS := hS.front 1 (C := [(b84, rowO [.int .i64 y76n0, .int .i64 y76n1, .int .i64 y76n2, .int .i64 y76n3, .bool y76n4] 24)]) (L' := [(b74, rowO [.int .i64 y86n0, .int .i64 y86n1, .int .i64 y86n2, .int .i64 y86n3, .bool y86n4] 24)] :: F) rfl rfl
          exact ⟨y76n0, y76n1, y76n2, y76n3, y76n4, y86n0, y86n1, y86n2, y86n3, y86n4, b84, b74, (hA.sel [5, 6] rfl), hS, hy76, hy86⟩
      · refine dr_b (o := _) rfl ?_
        refine st_alloc tbOk hA hS [.int .i64 0, .int .i64 0, .int .i64 0, .int .i64 0, .bool false] rfl rfl rfl rfl rfl (by decide) ?_; clear hA hS; intro b90 w91 a hS hA
        refine dr_nil (.inr (hS.tail 2 rfl)) ?_
        refine dr_subL ?_
        refine dr_b (o := _) rfl ?_
        refine st_call0 hA rfl rfl rfl isfn10 rfl rfl (by decide) (small10 hS (a0, a1, a2, a3, a4)) ?_
        clear hA hS; rintro _ w93 a ⟨⟨y92n0, y92n1, y92n2, y92n3, y92n4⟩, hy92, rfl, hS⟩ hA
        have h2y92 := hy92; dsimp only [SOk, ab, az, ag, ao] at h2y92
        refine dr_nil (.inr (hS.tail 2 rfl)) ?_
        refine dr_b (o := _) rfl ?_
        refine st_call0 hA rfl rfl rfl isfn10 rfl rfl (by decide) (small10 hS (c0, c1, c2, c3, c4)) ?_
        clear hA hS; rintro _ w95 a ⟨⟨y94n0, y94n1, y94n2, y94n3, y94n4⟩, hy94, rfl, hS⟩ hA
        have h2y94 := hy94; dsimp only [SOk, ab, az, ag, ao] at h2y94
        refine dr_nil (.inr (hS.tail 2 rfl)) ?_
        refine dr_b (o := _) rfl ?_
        refine st_store tbOk hA hS [.int .i64 y92n0, .int .i64 y92n1, .int .i64 y92n2, .int .i64 y92n3, .bool y92n4] [.int .i64 y92n0, .int .i64 y92n1, .int .i64 y92n2, .int .i64 y92n3, .bool y92n4] rfl rfl rfl rfl rfl rfl (by simp [Value.oneCell']) (Nat.le_of_ble_eq_true rfl) rfl rfl rfl ?_; clear hS; intro w96 hS
        refine dr_nil (.inr (hS.tail 2 rfl)) ?_
        refine dr_b (o := _) rfl ?_
        replace hS := hS.front 1 (C := [(b74, rowO [.int .i64 0, .int .i64 0, .int .i64 0, .int .i64 0, .bool false] 24)]) (L' := [(b90, rowO [.int .i64 y92n0, .int .i64 y92n1, .int .i64 y92n2, .int .i64 y92n3, .bool y92n4] 24)] :: [(b3, rowO [.int .i64 c0, .int .i64 c1, .int .i64 c2, .int .i64 c3, .bool c4] 24)] :: [(b1, rowO [.int .i64 a0, .int .i64 a1, .int .i64 a2, .int .i64 a3, .bool a4] 24)] :: F) rfl rfl
        refine st_store tbOk hA hS [.int .i64 y94n0, .int .i64 y94n1, .int .i64 y94n2, .int .i64 y94n3, .bool y94n4] [.int .i64 y94n0, .int .i64 y94n1, .int .i64 y94n2, .int .i64 y94n3, .bool y94n4] rfl rfl rfl rfl rfl rfl (by simp [Value.oneCell']) (Nat.le_of_ble_eq_true rfl) rfl rfl rfl ?_; clear hS; intro w97 hS
        refine dr_nil (.inr (hS.tail 2 rfl)) ?_
        refine dr_end ?_
        replace hA := hA.sel [5, 6] (e' := [(5, .pointer (some ⟨b90, 0, none⟩)), (6, .pointer (some ⟨b74, 0, none⟩))]) rfl
        refine xt_norm ?_
        replace hS := hS.front 2 (C := [(b3, rowO [.int .i64 c0, .int .i64 c1, .int .i64 c2, .int .i64 c3, .bool c4] 24)]) (L' := [(b74, rowO [.int .i64 y94n0, .int .i64 y94n1, .int .i64 y94n2, .int .i64 y94n3, .bool y94n4] 24)] :: [(b90, rowO [.int .i64 y92n0, .int .i64 y92n1, .int .i64 y92n2, .int .i64 y92n3, .bool y92n4] 24)] :: [(b1, rowO [.int .i64 a0, .int .i64 a1, .int .i64 a2, .int .i64 a3, .bool a4] 24)] :: F) rfl rfl
        replace hS := hS.drop1
        replace hS := hS.front 2 (C := [(b1, rowO [.int .i64 a0, .int .i64 a1, .int .i64 a2, .int .i64 a3, .bool a4] 24)]) (L' := [(b74, rowO [.int .i64 y94n0, .int .i64 y94n1, .int .i64 y94n2, .int .i64 y94n3, .bool y94n4] 24)] :: [(b90, rowO [.int .i64 y92n0, .int .i64 y92n1, .int .i64 y92n2, .int .i64 y92n3, .bool y92n4] 24)] :: F) rfl rfl
        replace hS := hS.drop1
        replace hS := hS.front 1 (C := [(b90, rowO [.int .i64 y92n0, .int .i64 y92n1, .int .i64 y92n2, .int .i64 y92n3, .bool y92n4] 24)]) (L' := [(b74, rowO [.int .i64 y94n0, .int .i64 y94n1, .int .i64 y94n2, .int .i64 y94n3, .bool y94n4] 24)] :: F) rfl rfl
        exact ⟨y92n0, y92n1, y92n2, y92n3, y92n4, y94n0, y94n1, y94n2, y94n3, y94n4, b90, b74, (hA.sel [5, 6] rfl), hS, hy92, hy94⟩
  · clear hA hS; rintro a w98 ⟨x0, x1, x2, x3, x4, y0, y1, y2, y3, y4, b5, b6, hA, hS, hX, hY⟩
    have h2x := hX; have h2y := hY; dsimp only [SOk, ab, az, ag, ao] at h2x h2y
    refine wp_seq ?_
    refine wp_region_lit ?_
    rcases (show Ovl (x0, x1, x2, x3, x4) (y0, y1, y2, y3, y4) ∨ x0 + x1 ≤ y0 ∨ y0 + y1 ≤ x0 by dsimp only [Ovl, ab, az]; omega) with hov | hb | hb
    · have hov2 : Ovl (y0, y1, y2, y3, y4) (x0, x1, x2, x3, x4) := ⟨hov.2, hov.1⟩; have hov3 := hov; dsimp only [Ovl, ab, az] at hov3
      refine st_val hA rfl rfl (by decide) (rn_loadA tbOk hA [.int .i64 x0, .int .i64 x1, .int .i64 x2, .int .i64 x3, .bool x4] rfl rfl rfl rfl rfl (cells_row (hS.heapAt 0 rfl) rfl)) ?_; clear hA; intro a hA
      refine st_call0 hA rfl rfl rfl isfn12 rfl rfl (by decide) (add_ok12 hS (l := ([] : List Area)) RdS.nil (x0, x1, x2, x3, x4) hX.val hX.v2 (fun y hy => by cases hy) (fun y hy => by cases hy) (by decide) (i := 0) ⟨Nat.le_refl _, fun k x h => absurd h (by omega), fun k x _ h => by simp at h⟩) ?_
      clear hA hS; rintro _ w99 a ⟨v100, C101, hO101, rfl, hS⟩ hA
      obtain ⟨A102, c103, rfl, hmc103, hxc103⟩ := hO101.open'
      have hl : ([] : List Area).take 0 ++ ((x0, x1, x2, x3, x4) :: ([] : List Area).drop 0) = [((x0, x1, x2, x3, x4) : Area)] := rfl
      rw [hl] at hO101; rw [hl] at hA
      refine st_run tbOk 5 hA (e' := (8, .nilIface) :: (7, .slice A102 (([((x0, x1, x2, x3, x4) : Area)]).length) c103) :: (24, .nilIface) :: (23, .slice A102 (([((x0, x1, x2, x3, x4) : Area)]).length) c103) :: (20, .tuple #[.slice A102 (([((x0, x1, x2, x3, x4) : Area)]).length) c103, .nilIface]) :: _) rfl ?_; clear hA; intro a hA
      refine wpList_nil ?_
      replace hA := hA.sel [5, 6, 7, 8] (e' := [(5, .pointer (some ⟨b5, 0, none⟩)), (6, .pointer (some ⟨b6, 0, none⟩)), (7, .slice A102 (([((x0, x1, x2, x3, x4) : Area)]).length) c103), (8, .nilIface)]) rfl
      refine xt_norm ?_
      refine wp_seq ?_
      refine wp_region_lit ?_
      refine st_run tbOk 1 hA (e' := (26, .slice A102 (([((x0, x1, x2, x3, x4) : Area)]).length) c103) :: _) rfl ?_; clear hA; intro a hA
      refine st_val hA rfl rfl (by decide) (rn_loadA tbOk hA [.int .i64 y0, .int .i64 y1, .int .i64 y2, .int .i64 y3, .bool y4] rfl rfl rfl rfl rfl (cells_row (hS.heapAt 2 rfl) rfl)) ?_; clear hA; intro a hA
      refine st_call0 hA rfl rfl rfl isfn12 rfl rfl (by decide) (add_ovl12 hS (l := [((x0, x1, x2, x3, x4) : Area)]) (RdS.own hO101 0 rfl) (y0, y1, y2, y3, y4) hY.val hY.v2 (fun y hy => by rw [List.mem_singleton.1 hy]; exact hX) (j := 0) (y := (x0, x1, x2, x3, x4)) rfl hov2) ?_
      clear hA hS; rintro v w104 a ⟨rfl, hS⟩ hA
      refine st_run tbOk 5 hA (e' := (9, .iface 30 (.int .i64 14)) :: (7, .slice none 0 0) :: (30, .iface 30 (.int .i64 14)) :: (29, .slice none 0 0) :: (25, .tuple #[.slice none 0 0, .iface 30 (.int .i64 14)]) :: _) rfl ?_; clear hA; intro a hA
      refine wpList_nil ?_
      replace hA := hA.sel [5, 6, 7, 8, 9] (e' := [(5, .pointer (some ⟨b5, 0, none⟩)), (6, .pointer (some ⟨b6, 0, none⟩)), (7, .slice none 0 0), (8, .nilIface), (9, .iface 30 (.int .i64 14))]) rfl
      refine xt_norm ?_
      refine wp_seq ?_
      refine wp_region_lit ?_
      refine st_val hA rfl rfl (by decide) (rn_loadA tbOk hA [.int .i64 y0, .int .i64 y1, .int .i64 y2, .int .i64 y3, .bool y4] rfl rfl rfl rfl rfl (cells_row (hS.heapAt 2 rfl) rfl)) ?_; clear hA; intro a hA
      refine st_call0 hA rfl rfl rfl isfn12 rfl rfl (by decide) (add_ok12 hS (l := ([] : List Area)) RdS.nil (y0, y1, y2, y3, y4) hY.val hY.v2 (fun y hy => by cases hy) (fun y hy => by cases hy) (by decide) (i := 0) ⟨Nat.le_refl _, fun k x h => absurd h (by omega), fun k x _ h => by simp at h⟩) ?_
      clear hA hS; rintro _ w105 a ⟨v106, C107, hO107, rfl, hS⟩ hA
      obtain ⟨A108, c109, rfl, hmc109, hxc109⟩ := hO107.open'
      have hl : ([] : List Area).take 0 ++ ((y0, y1, y2, y3, y4) :: ([] : List Area).drop 0) = [((y0, y1, y2, y3, y4) : Area)] := rfl
      rw [hl] at hO107; rw [hl] at hA
      refine st_run tbOk 5 hA (e' := (11, .nilIface) :: (10, .slice A108 (([((y0, y1, y2, y3, y4) : Area)]).length) c109) :: (35, .nilIface) :: (34, .slice A108 (([((y0, y1, y2, y3, y4) : Area)]).length) c109) :: (31, .tuple #[.slice A108 (([((y0, y1, y2, y3, y4) : Area)]).length) c109, .nilIface]) :: _) rfl ?_; clear hA; intro a hA
      refine wpList_nil ?_
      replace hA := hA.sel [5, 6, 7, 8, 9, 10, 11] (e' := [(5, .pointer (some ⟨b5, 0, none⟩)), (6, .pointer (some ⟨b6, 0, none⟩)), (7, .slice none 0 0), (8, .nilIface), (9, .iface 30 (.int .i64 14)), (10, .slice A108 (([((y0, y1, y2, y3, y4) : Area)]).length) c109), (11, .nilIface)]) rfl
      refine xt_norm ?_
      refine wp_seq ?_
      refine wp_region_lit ?_
      refine st_run tbOk 1 hA (e' := (37, .slice A108 (([((y0, y1, y2, y3, y4) : Area)]).length) c109) :: _) rfl ?_; clear hA; intro a hA
      refine st_val hA rfl rfl (by decide) (rn_loadA tbOk hA [.int .i64 x0, .int .i64 x1, .int .i64 x2, .int .i64 x3, .bool x4] rfl rfl rfl rfl rfl (cells_row (hS.heapAt 2 rfl) rfl)) ?_; clear hA; intro a hA
      refine st_call0 hA rfl rfl rfl isfn12 rfl rfl (by decide) (add_ovl12 hS (l := [((y0, y1, y2, y3, y4) : Area)]) (RdS.own hO107 0 rfl) (x0, x1, x2, x3, x4) hX.val hX.v2 (fun y hy => by rw [List.mem_singleton.1 hy]; exact hY) (j := 0) (y := (y0, y1, y2, y3, y4)) rfl hov) ?_
      clear hA hS; rintro v w110 a ⟨rfl, hS⟩ hA
      refine st_run tbOk 5 hA (e' := (12, .iface 30 (.int .i64 14)) :: (10, .slice none 0 0) :: (41, .iface 30 (.int .i64 14)) :: (40, .slice none 0 0) :: (36, .tuple #[.slice none 0 0, .iface 30 (.int .i64 14)]) :: _) rfl ?_; clear hA; intro a hA
      refine wpList_nil ?_
      replace hA := hA.sel [5, 6, 7, 8, 9, 10, 11, 12] (e' := [(5, .pointer (some ⟨b5, 0, none⟩)), (6, .pointer (some ⟨b6, 0, none⟩)), (7, .slice none 0 0), (8, .nilIface), (9, .iface 30 (.int .i64 14)), (10, .slice none 0 0), (11, .nilIface), (12, .iface 30 (.int .i64 14))]) rfl
      refine xt_norm ?_
      refine wp_seq ?_
      refine wp_seq ?_
      refine wp_draw (fun w' => St w0 w' (C107 :: C101 :: [(b5, rowO [.int .i64 x0, .int .i64 x1, .int .i64 x2, .int .i64 x3, .bool x4] 24)] :: [(b6, rowO [.int .i64 y0, .int .i64 y1, .int .i64 y2, .int .i64 y3, .bool y4] 24)] :: F)) [] [(0, true), (1, true), (2, true), (3, true), (4, true), (5, true), (6, true), (7, true), (8, true), (9, true), (10, true), (11, true), (12, true), (13, true), (14, true), (15, true), (16, true), (17, true), (18, true), (19, true)] mixed (by kernel_rfl) (by rintro c a w ⟨_, _, h, _⟩; cases h) (by rfl) (by kernel_rfl) ?_
      replace hS := hS.drew
      refine dr_run tbOk 20 hA hS (e' := (61, .bool false) :: (60, .bool false) :: (59, .int .i64 0) :: (58, .slice none 0 0) :: (57, .int .i64 0) :: (56, .slice none 0 0) :: (55, .bool false) :: (54, .bool false) :: (53, .bool false) :: (52, .bool false) :: (51, .iface 30 (.int .i64 14)) :: (50, .bool false) :: (49, .iface 30 (.int .i64 14)) :: (48, .bool false) :: (47, .bool false) :: (46, .bool false) :: (45, .nilIface) :: (44, .bool false) :: (43, .bool false) :: (42, .nilIface) :: _) rfl ?_; clear hA; intro a hA
      refine dr_end ?_
      replace hA := hA.sel [5, 6, 7, 9, 10, 61] (e' := [(5, .pointer (some ⟨b5, 0, none⟩)), (6, .pointer (some ⟨b6, 0, none⟩)), (7, .slice none 0 0), (9, .iface 30 (.int .i64 14)), (10, .slice none 0 0), (61, .bool false)]) rfl
      refine xt_norm ?_
      refine cd_cond_f hA rfl ?_
      refine wp_skip ?_
      refine xt_norm ?_
      refine wp_seq ?_
      refine wp_seq ?_
      refine wp_region_lit ?_
      refine st_run tbOk 3 hA (e' := (64, .int .i64 0) :: (63, .int .i64 0) :: (62, .slice none 0 0) :: _) rfl ?_; clear hA; intro a hA
      refine wpList_nil ?_
      replace hA := hA.sel [5, 6, 7, 9, 10, 63, 64] (e' := [(5, .pointer (some ⟨b5, 0, none⟩)), (6, .pointer (some ⟨b6, 0, none⟩)), (7, .slice none 0 0), (9, .iface 30 (.int .i64 14)), (10, .slice none 0 0), (63, .int .i64 0), (64, .int .i64 0)]) rfl
      refine xt_norm ?_
      refine wp_block ?_
      refine wp_loop_ghost (fun m a w => ∃ (k : Nat), m = 0 - k ∧ Has a 98 [(5, .pointer (some ⟨b5, 0, none⟩)), (6, .pointer (some ⟨b6, 0, none⟩)), (7, .slice none 0 0), (9, .iface 30 (.int .i64 14)), (10, .slice none 0 0), (63, .int .i64 0), (64, .int .i64 ((k : Nat) : Int))] ∧ St w0 w (C107 :: C101 :: [(b5, rowO [.int .i64 x0, .int .i64 x1, .int .i64 x2, .int .i64 x3, .bool x4] 24)] :: [(b6, rowO [.int .i64 y0, .int .i64 y1, .int .i64 y2, .int .i64 y3, .bool y4] 24)] :: F) ∧ (k ≤ 0)) (0 - 0)
        ⟨0, rfl, (hA.sel [5, 6, 7, 9, 10, 63, 64] rfl), hS, Nat.zero_le _⟩ ?_
      clear hA hS; rintro m0 a w111 ⟨k, rfl, hA, hS, hk⟩
      refine wp_seq ?_
      refine wp_region_lit ?_
      refine st_run tbOk 1 hA (e' := (65, .bool (decide (((k : Nat) : Int) < 0))) :: _) rfl ?_; clear hA; intro a hA
      refine wpList_nil ?_
      refine xt_norm ?_
      refine wp_seq ?_
      by_cases hc112 : ((k : Nat) : Int) < 0
      · first
        | (exfalso; omega)
        | (replace hA := hA.rw 65 (v' := .bool true) rfl (vb_true hc112)
           refine cd_cond_t hA rfl ?_
           refine wp_skip ?_
           refine xt_norm ?_
           refine wp_seq ?_
           refine wp_block ?_
           refine wp_seq ?_
           exfalso; omega)
      · first
        | (exfalso; omega)
        | (replace hA := hA.rw 65 (v' := .bool false) rfl (vb_false hc112)
           refine cd_cond_f hA rfl ?_
           refine wp_exit ?_
           refine xt_exit ?_
           refine xt_exit ?_
           refine cd_exit_eq ?_
           refine xt_norm ?_
           refine wp_seq ?_
           refine wp_draw (fun w' => St w0 w' (C107 :: C101 :: [(b5, rowO [.int .i64 x0, .int .i64 x1, .int .i64 x2, .int .i64 x3, .bool x4] 24)] :: [(b6, rowO [.int .i64 y0, .int .i64 y1, .int .i64 y2, .int .i64 y3, .bool y4] 24)] :: F)) [] [(0, true), (1, true), (2, true), (3, true), (4, true), (5, true), (6, true), (7, true), (8, true), (9, true), (10, true), (11, true), (12, true), (13, true), (14, true), (15, true), (16, true), (17, true), (18, true), (19, true), (20, true), (21, true)] mixed (by kernel_rfl) (by rintro c a w ⟨_, _, h, _⟩; cases h) (by rfl) (by kernel_rfl) ?_
           replace hS := hS.drew
           refine dr_run tbOk 3 hA hS (e' := (79, .pointer (some ⟨b5, 0, none⟩)) :: (78, .bool false) :: (77, .iface 30 (.int .i64 14)) :: _) rfl ?_; clear hA; intro a hA
           refine dr_y hA rfl rfl rfl (by decide) hS (fun w' hS' => rn_load tbOk hA rfl rfl rfl rfl (cell_row (hS'.heapAt 2 rfl) rfl)) ?_; clear hA; intro a hA
           refine dr_run tbOk 1 hA hS (e' := (81, .pointer (some ⟨b5, 1, none⟩)) :: _) rfl ?_; clear hA; intro a hA
           refine dr_y hA rfl rfl rfl (by decide) hS (fun w' hS' => rn_load tbOk hA rfl rfl rfl rfl (cell_row (hS'.heapAt 2 rfl) rfl)) ?_; clear hA; intro a hA
           refine dr_run tbOk 1 hA hS (e' := (83, .int .i64 (IntKind.i64.wrap (x0 + x1))) :: _) rfl ?_; clear hA; intro a hA
           replace hA := hA.rw 83 (v' := .int .i64 (x0 + x1)) rfl (wr64 (by omega) (by omega) (by omega))
           refine dr_run tbOk 1 hA hS (e' := (84, .pointer (some ⟨b6, 0, none⟩)) :: _) rfl ?_; clear hA; intro a hA
           refine dr_y hA rfl rfl rfl (by decide) hS (fun w' hS' => rn_load tbOk hA rfl rfl rfl rfl (cell_row (hS'.heapAt 3 rfl) rfl)) ?_; clear hA; intro a hA
           refine dr_run tbOk 2 hA hS (e' := (87, .bool (decide (x0 + x1 ≤ y0))) :: (86, .bool (decide (x0 + x1 ≤ y0))) :: _) rfl ?_; clear hA; intro a hA
           by_cases hc113 : x0 + x1 ≤ y0
           · first
             | (exfalso; omega)
             | (replace hA := hA.rw 86 (v' := .bool true) rfl (vb_true hc113)
                replace hA := hA.rw 87 (v' := .bool true) rfl (vb_true hc113)
                refine dr_run tbOk 11 hA hS (e' := (4, .bool false) :: (97, .bool false) :: (96, .bool true) :: (95, undef) :: (94, undef) :: (93, undef) :: (92, undef) :: (91, undef) :: (90, undef) :: (89, undef) :: (88, undef) :: _) rfl ?_; clear hA; intro a hA
                refine dr_end ?_
                replace hA := hA.sel [4] (e' := [(4, .bool false)]) rfl
                refine xt_norm ?_
                refine wp_ret ?_
                refine ret1 (fn := Tryd.f6) hA rfl rfl ?_
                exfalso; omega)
           · first
             | (exfalso; omega)
             | (replace hA := hA.rw 86 (v' := .bool false) rfl (vb_false hc113)
                replace hA := hA.rw 87 (v' := .bool false) rfl (vb_false hc113)
                refine dr_run tbOk 1 hA hS (e' := (88, .pointer (some ⟨b6, 0, none⟩)) :: _) rfl ?_; clear hA; intro a hA
                refine dr_y hA rfl rfl rfl (by decide) hS (fun w' hS' => rn_load tbOk hA rfl rfl rfl rfl (cell_row (hS'.heapAt 3 rfl) rfl)) ?_; clear hA; intro a hA
                refine dr_run tbOk 1 hA hS (e' := (90, .pointer (some ⟨b6, 1, none⟩)) :: _) rfl ?_; clear hA; intro a hA
                refine dr_y hA rfl rfl rfl (by decide) hS (fun w' hS' => rn_load tbOk hA rfl rfl rfl rfl (cell_row (hS'.heapAt 3 rfl) rfl)) ?_; clear hA; intro a hA
                refine dr_run tbOk 1 hA hS (e' := (92, .int .i64 (IntKind.i64.wrap (y0 + y1))) :: _) rfl ?_; clear hA; intro a hA
                replace hA := hA.rw 92 (v' := .int .i64 (y0 + y1)) rfl (wr64 (by omega) (by omega) (by omega))
                refine dr_run tbOk 1 hA hS (e' := (93, .pointer (some ⟨b5, 0, none⟩)) :: _) rfl ?_; clear hA; intro a hA
                refine dr_y hA rfl rfl rfl (by decide) hS (fun w' hS' => rn_load tbOk hA rfl rfl rfl rfl (cell_row (hS'.heapAt 2 rfl) rfl)) ?_; clear hA; intro a hA
                refine dr_run tbOk 2 hA hS (e' := (96, .bool (decide (y0 + y1 ≤ x0))) :: (95, .bool (decide (y0 + y1 ≤ x0))) :: _) rfl ?_; clear hA; intro a hA
                by_cases hc114 : y0 + y1 ≤ x0
                · first
                  | (exfalso; omega)
                  | (replace hA := hA.rw 95 (v' := .bool true) rfl (vb_true hc114)
                     replace hA := hA.rw 96 (v' := .bool true) rfl (vb_true hc114)
                     refine dr_run tbOk 2 hA hS (e' := (4, .bool false) :: (97, .bool false) :: _) rfl ?_; clear hA; intro a hA
                     refine dr_end ?_
                     replace hA := hA.sel [4] (e' := [(4, .bool false)]) rfl
                     refine xt_norm ?_
                     refine wp_ret ?_
                     refine ret1 (fn := Tryd.f6) hA rfl rfl ?_
                     exfalso; omega)
                · first
                  | (exfalso; omega)
                  | (replace hA := hA.rw 95 (v' := .bool false) rfl (vb_false hc114)
                     replace hA := hA.rw 96 (v' := .bool false) rfl (vb_false hc114)
                     refine dr_run tbOk 2 hA hS (e' := (4, .bool true) :: (97, .bool true) :: _) rfl ?_; clear hA; intro a hA
                     refine dr_end ?_
                     replace hA := hA.sel [4] (e' := [(4, .bool true)]) rfl
                     refine xt_norm ?_
                     refine wp_ret ?_
                     refine ret1 (fn := Tryd.f6) hA rfl rfl ?_
                     replace hS := hS.drop1
                     replace hS := hS.drop1
                     replace hS := hS.drop1
                     replace hS := hS.drop1
                     exact ⟨rfl, hS⟩)))
    · refine st_val hA rfl rfl (by decide) (rn_loadA tbOk hA [.int .i64 x0, .int .i64 x1, .int .i64 x2, .int .i64 x3, .bool x4] rfl rfl rfl rfl rfl (cells_row (hS.heapAt 0 rfl) rfl)) ?_; clear hA; intro a hA
      refine st_call0 hA rfl rfl rfl isfn12 rfl rfl (by decide) (add_ok12 hS (l := ([] : List Area)) RdS.nil (x0, x1, x2, x3, x4) hX.val hX.v2 (fun y hy => by cases hy) (fun y hy => by cases hy) (by decide) (i := 0) ⟨Nat.le_refl _, fun k x h => absurd h (by omega), fun k x _ h => by simp at h⟩) ?_
      clear hA hS; rintro _ w115 a ⟨v116, C117, hO117, rfl, hS⟩ hA
      obtain ⟨A118, c119, rfl, hmc119, hxc119⟩ := hO117.open'
      have hl : ([] : List Area).take 0 ++ ((x0, x1, x2, x3, x4) :: ([] : List Area).drop 0) = [((x0, x1, x2, x3, x4) : Area)] := rfl
      rw [hl] at hO117; rw [hl] at hA
      refine st_run tbOk 5 hA (e' := (8, .nilIface) :: (7, .slice A118 (([((x0, x1, x2, x3, x4) : Area)]).length) c119) :: (24, .nilIface) :: (23, .slice A118 (([((x0, x1, x2, x3, x4) : Area)]).length) c119) :: (20, .tuple #[.slice A118 (([((x0, x1, x2, x3, x4) : Area)]).length) c119, .nilIface]) :: _) rfl ?_; clear hA; intro a hA
      refine wpList_nil ?_
      replace hA := hA.sel [5, 6, 7, 8] (e' := [(5, .pointer (some ⟨b5, 0, none⟩)), (6, .pointer (some ⟨b6, 0, none⟩)), (7, .slice A118 (([((x0, x1, x2, x3, x4) : Area)]).length) c119), (8, .nilIface)]) rfl
      refine xt_norm ?_
      refine wp_seq ?_
      refine wp_region_lit ?_
      refine st_run tbOk 1 hA (e' := (26, .slice A118 (([((x0, x1, x2, x3, x4) : Area)]).length) c119) :: _) rfl ?_; clear hA; intro a hA
      refine st_val hA rfl rfl (by decide) (rn_loadA tbOk hA [.int .i64 y0, .int .i64 y1, .int .i64 y2, .int .i64 y3, .bool y4] rfl rfl rfl rfl rfl (cells_row (hS.heapAt 2 rfl) rfl)) ?_; clear hA; intro a hA
      refine st_call0 hA rfl rfl rfl isfn12 rfl rfl (by decide) (add_ok12 hS (l := [((x0, x1, x2, x3, x4) : Area)]) (RdS.own hO117 0 rfl) (y0, y1, y2, y3, y4) hY.val hY.v2 (fun y hy => by rw [List.mem_singleton.1 hy]; exact hX) (fun y hy => by rw [List.mem_singleton.1 hy]; dsimp only [Ovl, ab, az]; omega) (show 1 < 64 by decide) (i := 1) ⟨Nat.le_refl _, fun k x _ h => by rw [List.mem_singleton.1 (List.mem_of_getElem? h)]; dsimp only [ab]; omega, fun k x h h2 => by have := (List.getElem?_eq_some_iff.1 h2).1; simp at this; omega⟩) ?_
      clear hA hS; rintro _ w120 a ⟨v121, C122, hO122, rfl, hS⟩ hA
      obtain ⟨A123, c124, rfl, hmc124, hxc124⟩ := hO122.open'
      have hl : ([((x0, x1, x2, x3, x4) : Area)]).take 1 ++ ((y0, y1, y2, y3, y4) :: ([((x0, x1, x2, x3, x4) : Area)]).drop 1) = [((x0, x1, x2, x3, x4) : Area), (y0, y1, y2, y3, y4)] := rfl
      rw [hl] at hO122; rw [hl] at hA
      refine st_run tbOk 5 hA (e' := (9, .nilIface) :: (7, .slice A123 (([((x0, x1, x2, x3, x4) : Area), (y0, y1, y2, y3, y4)]).length) c124) :: (30, .nilIface) :: (29, .slice A123 (([((x0, x1, x2, x3, x4) : Area), (y0, y1, y2, y3, y4)]).length) c124) :: (25, .tuple #[.slice A123 (([((x0, x1, x2, x3, x4) : Area), (y0, y1, y2, y3, y4)]).length) c124, .nilIface]) :: _) rfl ?_; clear hA; intro a hA
      refine wpList_nil ?_
      replace hA := hA.sel [5, 6, 7, 8, 9] (e' := [(5, .pointer (some ⟨b5, 0, none⟩)), (6, .pointer (some ⟨b6, 0, none⟩)), (7, .slice A123 (([((x0, x1, x2, x3, x4) : Area), (y0, y1, y2, y3, y4)]).length) c124), (8, .nilIface), (9, .nilIface)]) rfl
      refine xt_norm ?_
      refine wp_seq ?_
      refine wp_region_lit ?_
      refine st_val hA rfl rfl (by decide) (rn_loadA tbOk hA [.int .i64 y0, .int .i64 y1, .int .i64 y2, .int .i64 y3, .bool y4] rfl rfl rfl rfl rfl (cells_row (hS.heapAt 3 rfl) rfl)) ?_; clear hA; intro a hA
      refine st_call0 hA rfl rfl rfl isfn12 rfl rfl (by decide) (add_ok12 hS (l := ([] : List Area)) RdS.nil (y0, y1, y2, y3, y4) hY.val hY.v2 (fun y hy => by cases hy) (fun y hy => by cases hy) (by decide) (i := 0) ⟨Nat.le_refl _, fun k x h => absurd h (by omega), fun k x _ h => by simp at h⟩) ?_
      clear hA hS; rintro _ w125 a ⟨v126, C127, hO127, rfl, hS⟩ hA
      obtain ⟨A128, c129, rfl, hmc129, hxc129⟩ := hO127.open'
      have hl : ([] : List Area).take 0 ++ ((y0, y1, y2, y3, y4) :: ([] : List Area).drop 0) = [((y0, y1, y2, y3, y4) : Area)] := rfl
      rw [hl] at hO127; rw [hl] at hA
      refine st_run tbOk 5 hA (e' := (11, .nilIface) :: (10, .slice A128 (([((y0, y1, y2, y3, y4) : Area)]).length) c129) :: (35, .nilIface) :: (34, .slice A128 (([((y0, y1, y2, y3, y4) : Area)]).length) c129) :: (31, .tuple #[.slice A128 (([((y0, y1, y2, y3, y4) : Area)]).length) c129, .nilIface]) :: _) rfl ?_; clear hA; intro a hA
      refine wpList_nil ?_
      replace hA := hA.sel [5, 6, 7, 8, 9, 10, 11] (e' := [(5, .pointer (some ⟨b5, 0, none⟩)), (6, .pointer (some ⟨b6, 0, none⟩)), (7, .slice A123 (([((x0, x1, x2, x3, x4) : Area), (y0, y1, y2, y3, y4)]).length) c124), (8, .nilIface), (9, .nilIface), (10, .slice A128 (([((y0, y1, y2, y3, y4) : Area)]).length) c129), (11, .nilIface)]) rfl
      refine xt_norm ?_
      refine wp_seq ?_
      refine wp_region_lit ?_
      refine st_run tbOk 1 hA (e' := (37, .slice A128 (([((y0, y1, y2, y3, y4) : Area)]).length) c129) :: _) rfl ?_; clear hA; intro a hA
      refine st_val hA rfl rfl (by decide) (rn_loadA tbOk hA [.int .i64 x0, .int .i64 x1, .int .i64 x2, .int .i64 x3, .bool x4] rfl rfl rfl rfl rfl (cells_row (hS.heapAt 3 rfl) rfl)) ?_; clear hA; intro a hA
      refine st_call0 hA rfl rfl rfl isfn12 rfl rfl (by decide) (add_ok12 hS (l := [((y0, y1, y2, y3, y4) : Area)]) (RdS.own hO127 0 rfl) (x0, x1, x2, x3, x4) hX.val hX.v2 (fun y hy => by rw [List.mem_singleton.1 hy]; exact hY) (fun y hy => by rw [List.mem_singleton.1 hy]; dsimp only [Ovl, ab, az]; omega) (show 1 < 64 by decide) (i := 0) ⟨Nat.zero_le _, fun k x h => absurd h (by omega), fun k x _ h => by rw [List.mem_singleton.1 (List.mem_of_getElem? h)]; dsimp only [ab]; omega⟩) ?_
      clear hA hS; rintro _ w130 a ⟨v131, C132, hO132, rfl, hS⟩ hA
      obtain ⟨A133, c134, rfl, hmc134, hxc134⟩ := hO132.open'
      have hl : ([((y0, y1, y2, y3, y4) : Area)]).take 0 ++ ((x0, x1, x2, x3, x4) :: ([((y0, y1, y2, y3, y4) : Area)]).drop 0) = [((x0, x1, x2, x3, x4) : Area), (y0, y1, y2, y3, y4)] := rfl
      rw [hl] at hO132; rw [hl] at hA
      refine st_run tbOk 5 hA (e' := (12, .nilIface) :: (10, .slice A133 (([((x0, x1, x2, x3, x4) : Area), (y0, y1, y2, y3, y4)]).length) c134) :: (41, .nilIface) :: (40, .slice A133 (([((x0, x1, x2, x3, x4) : Area), (y0, y1, y2, y3, y4)]).length) c134) :: (36, .tuple #[.slice A133 (([((x0, x1, x2, x3, x4) : Area), (y0, y1, y2, y3, y4)]).length) c134, .nilIface]) :: _) rfl ?_; clear hA; intro a hA
      refine wpList_nil ?_
      replace hA := hA.sel [5, 6, 7, 8, 9, 10, 11, 12] (e' := [(5, .pointer (some ⟨b5, 0, none⟩)), (6, .pointer (some ⟨b6, 0, none⟩)), (7, .slice A123 (([((x0, x1, x2, x3, x4) : Area), (y0, y1, y2, y3, y4)]).length) c124), (8, .nilIface), (9, .nilIface), (10, .slice A133 (([((x0, x1, x2, x3, x4) : Area), (y0, y1, y2, y3, y4)]).length) c134), (11, .nilIface), (12, .nilIface)]) rfl
      refine xt_norm ?_
      refine wp_seq ?_
      refine wp_seq ?_
      refine wp_draw (fun w' => St w0 w' (C132 :: C127 :: C122 :: C117 :: [(b5, rowO [.int .i64 x0, .int .i64 x1, .int .i64 x2, .int .i64 x3, .bool x4] 24)] :: [(b6, rowO [.int .i64 y0, .int .i64 y1, .int .i64 y2, .int .i64 y3, .bool y4] 24)] :: F)) [] [(0, true), (1, true), (2, true), (3, true), (4, true), (5, true), (6, true), (7, true), (8, true), (9, true), (10, true), (11, true), (12, true), (13, true), (14, true), (15, true), (16, true), (17, true), (18, true), (19, true)] mixed (by kernel_rfl) (by rintro c a w ⟨_, _, h, _⟩; cases h) (by rfl) (by kernel_rfl) ?_
      replace hS := hS.drew
      refine dr_run tbOk 20 hA hS (e' := (61, .bool (((([((x0, x1, x2, x3, x4) : Area), (y0, y1, y2, y3, y4)]).length : Nat) : Int) != ((([((x0, x1, x2, x3, x4) : Area), (y0, y1, y2, y3, y4)]).length : Nat) : Int))) :: (60, .bool (((([((x0, x1, x2, x3, x4) : Area), (y0, y1, y2, y3, y4)]).length : Nat) : Int) != ((([((x0, x1, x2, x3, x4) : Area), (y0, y1, y2, y3, y4)]).length : Nat) : Int))) :: (59, .int .i64 ((([((x0, x1, x2, x3, x4) : Area), (y0, y1, y2, y3, y4)]).length : Nat) : Int)) :: (58, .slice A133 (([((x0, x1, x2, x3, x4) : Area), (y0, y1, y2, y3, y4)]).length) c134) :: (57, .int .i64 ((([((x0, x1, x2, x3, x4) : Area), (y0, y1, y2, y3, y4)]).length : Nat) : Int)) :: (56, .slice A123 (([((x0, x1, x2, x3, x4) : Area), (y0, y1, y2, y3, y4)]).length) c124) :: (55, .bool false) :: (54, .bool false) :: (53, .bool false) :: (52, .bool true) :: (51, .nilIface) :: (50, .bool true) :: (49, .nilIface) :: (48, .bool false) :: (47, .bool false) :: (46, .bool false) :: (45, .nilIface) :: (44, .bool false) :: (43, .bool false) :: (42, .nilIface) :: _) rfl ?_; clear hA; intro a hA
      refine dr_end ?_
      replace hA := hA.sel [5, 6, 7, 9, 10, 61] (e' := [(5, .pointer (some ⟨b5, 0, none⟩)), (6, .pointer (some ⟨b6, 0, none⟩)), (7, .slice A123 (([((x0, x1, x2, x3, x4) : Area), (y0, y1, y2, y3, y4)]).length) c124), (9, .nilIface), (10, .slice A133 (([((x0, x1, x2, x3, x4) : Area), (y0, y1, y2, y3, y4)]).length) c134), (61, .bool (((([((x0, x1, x2, x3, x4) : Area), (y0, y1, y2, y3, y4)]).length : Nat) : Int) != ((([((x0, x1, x2, x3, x4) : Area), (y0, y1, y2, y3, y4)]).length : Nat) : Int)))]) rfl
      refine xt_norm ?_
      by_cases hc135 : ((([((x0, x1, x2, x3, x4) : Area), (y0, y1, y2, y3, y4)]).length : Nat) : Int) = ((([((x0, x1, x2, x3, x4) : Area), (y0, y1, y2, y3, y4)]).length : Nat) : Int)
      · first
        | (exfalso; omega)
        | (replace hA := hA.rw 61 (v' := .bool false) rfl (vb_ne_f hc135)
           refine cd_cond_f hA rfl ?_
           refine wp_skip ?_
           refine xt_norm ?_
           refine wp_seq ?_
           refine wp_seq ?_
           refine wp_region_lit ?_
           refine st_run tbOk 3 hA (e' := (64, .int .i64 0) :: (63, .int .i64 ((([((x0, x1, x2, x3, x4) : Area), (y0, y1, y2, y3, y4)]).length : Nat) : Int)) :: (62, .slice A123 (([((x0, x1, x2, x3, x4) : Area), (y0, y1, y2, y3, y4)]).length) c124) :: _) rfl ?_; clear hA; intro a hA
           refine wpList_nil ?_
           replace hA := hA.sel [5, 6, 7, 9, 10, 63, 64] (e' := [(5, .pointer (some ⟨b5, 0, none⟩)), (6, .pointer (some ⟨b6, 0, none⟩)), (7, .slice A123 (([((x0, x1, x2, x3, x4) : Area), (y0, y1, y2, y3, y4)]).length) c124), (9, .nilIface), (10, .slice A133 (([((x0, x1, x2, x3, x4) : Area), (y0, y1, y2, y3, y4)]).length) c134), (63, .int .i64 ((([((x0, x1, x2, x3, x4) : Area), (y0, y1, y2, y3, y4)]).length : Nat) : Int)), (64, .int .i64 0)]) rfl
           refine xt_norm ?_
           refine wp_block ?_
           have hlen : [((x0, x1, x2, x3, x4) : Area), (y0, y1, y2, y3, y4)].length = 2 := rfl
           refine wp_loop_ghost (fun m a w => ∃ (k : Nat), m = [((x0, x1, x2, x3, x4) : Area), (y0, y1, y2, y3, y4)].length - k ∧ Has a 98 [(5, .pointer (some ⟨b5, 0, none⟩)), (6, .pointer (some ⟨b6, 0, none⟩)), (7, .slice A123 (([((x0, x1, x2, x3, x4) : Area), (y0, y1, y2, y3, y4)]).length) c124), (9, .nilIface), (10, .slice A133 (([((x0, x1, x2, x3, x4) : Area), (y0, y1, y2, y3, y4)]).length) c134), (63, .int .i64 ((([((x0, x1, x2, x3, x4) : Area), (y0, y1, y2, y3, y4)]).length : Nat) : Int)), (64, .int .i64 ((k : Nat) : Int))] ∧ St w0 w (C132 :: C127 :: C122 :: C117 :: [(b5, rowO [.int .i64 x0, .int .i64 x1, .int .i64 x2, .int .i64 x3, .bool x4] 24)] :: [(b6, rowO [.int .i64 y0, .int .i64 y1, .int .i64 y2, .int .i64 y3, .bool y4] 24)] :: F) ∧ (k ≤ [((x0, x1, x2, x3, x4) : Area), (y0, y1, y2, y3, y4)].length)) ([((x0, x1, x2, x3, x4) : Area), (y0, y1, y2, y3, y4)].length - 0)
             ⟨0, rfl, (hA.sel [5, 6, 7, 9, 10, 63, 64] rfl), hS, Nat.zero_le _⟩ ?_
           clear hA hS; rintro m0 a w136 ⟨k, rfl, hA, hS, hk⟩
           refine wp_seq ?_
           refine wp_region_lit ?_
           refine st_run tbOk 1 hA (e' := (65, .bool (decide (((k : Nat) : Int) < ((([((x0, x1, x2, x3, x4) : Area), (y0, y1, y2, y3, y4)]).length : Nat) : Int)))) :: _) rfl ?_; clear hA; intro a hA
           refine wpList_nil ?_
           refine xt_norm ?_
           refine wp_seq ?_
           by_cases hc137 : ((k : Nat) : Int) < ((([((x0, x1, x2, x3, x4) : Area), (y0, y1, y2, y3, y4)]).length : Nat) : Int)
           · first
             | (exfalso; omega)
             | (replace hA := hA.rw 65 (v' := .bool true) rfl (vb_true hc137)
                refine cd_cond_t hA rfl ?_
                refine wp_skip ?_
                refine xt_norm ?_
                refine wp_seq ?_
                refine wp_block ?_
                refine wp_seq ?_
                refine wp_region_lit ?_
                refine st_run tbOk 2 hA (e' := (13, .int .i64 ((k : Nat) : Int)) :: (66, .int .i64 ((k : Nat) : Int)) :: _) rfl ?_; clear hA; intro a hA
                refine wpList_nil ?_
                replace hA := hA.sel [5, 6, 7, 9, 10, 13, 63, 64] (e' := [(5, .pointer (some ⟨b5, 0, none⟩)), (6, .pointer (some ⟨b6, 0, none⟩)), (7, .slice A123 (([((x0, x1, x2, x3, x4) : Area), (y0, y1, y2, y3, y4)]).length) c124), (9, .nilIface), (10, .slice A133 (([((x0, x1, x2, x3, x4) : Area), (y0, y1, y2, y3, y4)]).length) c134), (13, .int .i64 ((k : Nat) : Int)), (63, .int .i64 ((([((x0, x1, x2, x3, x4) : Area), (y0, y1, y2, y3, y4)]).length : Nat) : Int)), (64, .int .i64 ((k : Nat) : Int))]) rfl
                refine xt_norm ?_
                refine wp_seq ?_
                obtain ⟨b138, o139, rfl⟩ := hO122.isSome (k := k) (by omega)
                obtain ⟨b140, o141, rfl⟩ := hO132.isSome (k := k) (by omega)
                obtain ⟨x142, hx142⟩ := get_ex (l := [((x0, x1, x2, x3, x4) : Area), (y0, y1, y2, y3, y4)]) (k := k) (by omega)
                obtain ⟨x142f0, x142f1, x142f2, x142f3, x142f4⟩ := x142
                refine wp_draw (fun w' => St w0 w' (C132 :: C127 :: C122 :: C117 :: [(b5, rowO [.int .i64 x0, .int .i64 x1, .int .i64 x2, .int .i64 x3, .bool x4] 24)] :: [(b6, rowO [.int .i64 y0, .int .i64 y1, .int .i64 y2, .int .i64 y3, .bool y4] 24)] :: F)) [] [(0, true), (1, true), (2, true), (3, true), (4, true), (5, true), (6, true), (7, true), (8, true)] mixed (by kernel_rfl) (by rintro c a w ⟨_, _, h, _⟩; cases h) (by rfl) (by kernel_rfl) ?_
                replace hS := hS.drew
                refine dr_run tbOk 2 hA hS (e' := (68, .int .i64 ((k : Nat) : Int)) :: (67, .slice (some ⟨b138, o139, none⟩) (([((x0, x1, x2, x3, x4) : Area), (y0, y1, y2, y3, y4)]).length) c124) :: _) rfl ?_; clear hA; intro a hA
                refine dr_y hA rfl rfl rfl (by decide) hS (fun w' hS' => rn_indexAddr tbOk hA k (o139 + (k * 5)) rfl rfl rfl rfl rfl rfl (by rfl) (by omega) (by first | rfl | simp [Nat.mul_one, Nat.zero_add] | omega)) ?_; clear hA; intro a hA
                refine dr_y hA rfl rfl rfl (by decide) hS (fun w' hS' => rn_loadA tbOk hA ([.int .i64 x142f0, .int .i64 x142f1, .int .i64 x142f2, .int .i64 x142f3, .bool x142f4]) rfl rfl rfl rfl (by rfl) ((hO122.rd (hS'.own_ 2 rfl)).elem (k := k) encArea_ok hx142)) ?_; clear hA; intro a hA
                refine dr_run tbOk 2 hA hS (e' := (72, .int .i64 ((k : Nat) : Int)) :: (71, .slice (some ⟨b140, o141, none⟩) (([((x0, x1, x2, x3, x4) : Area), (y0, y1, y2, y3, y4)]).length) c134) :: _) rfl ?_; clear hA; intro a hA
                refine dr_y hA rfl rfl rfl (by decide) hS (fun w' hS' => rn_indexAddr tbOk hA k (o141 + (k * 5)) rfl rfl rfl rfl rfl rfl (by rfl) (by omega) (by first | rfl | simp [Nat.mul_one, Nat.zero_add] | omega)) ?_; clear hA; intro a hA
                refine dr_y hA rfl rfl rfl (by decide) hS (fun w' hS' => rn_loadA tbOk hA ([.int .i64 x142f0, .int .i64 x142f1, .int .i64 x142f2, .int .i64 x142f3, .bool x142f4]) rfl rfl rfl rfl (by rfl) ((hO132.rd (hS'.own_ 0 rfl)).elem (k := k) encArea_ok hx142)) ?_; clear hA; intro a hA
                refine dr_y hA rfl rfl rfl (by decide) hS (fun w' hS' => rn_neA tbOk hA rfl rfl rfl rfl rfl (by kernel_rfl) (by kernel_rfl) rfl) ?_; clear hA; intro a hA
                replace hA := hA.rw 75 (v' := .bool false) rfl (by simp)
                refine dr_end ?_
                replace hA := hA.sel [5, 6, 7, 9, 10, 63, 64, 75] (e' := [(5, .pointer (some ⟨b5, 0, none⟩)), (6, .pointer (some ⟨b6, 0, none⟩)), (7, .slice (some ⟨b138, o139, none⟩) (([((x0, x1, x2, x3, x4) : Area), (y0, y1, y2, y3, y4)]).length) c124), (9, .nilIface), (10, .slice (some ⟨b140, o141, none⟩) (([((x0, x1, x2, x3, x4) : Area), (y0, y1, y2, y3, y4)]).length) c134), (63, .int .i64 ((([((x0, x1, x2, x3, x4) : Area), (y0, y1, y2, y3, y4)]).length : Nat) : Int)), (64, .int .i64 ((k : Nat) : Int)), (75, .bool false)]) rfl
                refine xt_norm ?_
                refine cd_cond_f hA rfl ?_
                refine wp_skip ?_
                refine xb_norm ?_
                refine xt_norm ?_
                refine wp_region_lit ?_
                refine st_run tbOk 1 hA (e' := (76, .int .i64 (IntKind.i64.wrap (((k : Nat) : Int) + 1))) :: _) rfl ?_; clear hA; intro a hA
                replace hA := hA.rw 76 (v' := .int .i64 ((k + 1 : Nat) : Int)) rfl (wr64 (by omega) (by omega) (by omega))
                refine st_run tbOk 1 hA (e' := (64, .int .i64 ((k + 1 : Nat) : Int)) :: _) rfl ?_; clear hA; intro a hA
                refine wpList_nil ?_
                replace hA := hA.sel [5, 6, 7, 9, 10, 63, 64] (e' := [(5, .pointer (some ⟨b5, 0, none⟩)), (6, .pointer (some ⟨b6, 0, none⟩)), (7, .slice (some ⟨b138, o139, none⟩) (([((x0, x1, x2, x3, x4) : Area), (y0, y1, y2, y3, y4)]).length) c124), (9, .nilIface), (10, .slice (some ⟨b140, o141, none⟩) (([((x0, x1, x2, x3, x4) : Area), (y0, y1, y2, y3, y4)]).length) c134), (63, .int .i64 ((([((x0, x1, x2, x3, x4) : Area), (y0, y1, y2, y3, y4)]).length : Nat) : Int)), (64, .int .i64 ((k + 1 : Nat) : Int))]) rfl
                replace hS := hS.front 5 (C := [(b6, rowO [.int .i64 y0, .int .i64 y1, .int .i64 y2, .int .i64 y3, .bool y4] 24)]) (L' := C132 :: C127 :: C122 :: C117 :: [(b5, rowO [.int .i64 x0, .int .i64 x1, .int .i64 x2, .int .i64 x3, .bool x4] 24)] :: F) rfl rfl
                replace hS := hS.front 5 (C := [(b5, rowO [.int .i64 x0, .int .i64 x1, .int .i64 x2, .int .i64 x3, .bool x4] 24)]) (L' := [(b6, rowO [.int .i64 y0, .int .i64 y1, .int .i64 y2, .int .i64 y3, .bool y4] 24)] :: C132 :: C127 :: C122 :: C117 :: F) rfl rfl
                replace hS := hS.front 5 (C := C117) (L' := [(b5, rowO [.int .i64 x0, .int .i64 x1, .int .i64 x2, .int .i64 x3, .bool x4] 24)] :: [(b6, rowO [.int .i64 y0, .int .i64 y1, .int .i64 y2, .int .i64 y3, .bool y4] 24)] :: C132 :: C127 :: C122 :: F) rfl rfl
                replace hS := hS.front 5 (C := C122) (L' := C117 :: [(b5, rowO [.int .i64 x0, .int .i64 x1, .int .i64 x2, .int .i64 x3, .bool x4] 24)] :: [(b6, rowO [.int .i64 y0, .int .i64 y1, .int .i64 y2, .int .i64 y3, .bool y4] 24)] :: C132 :: C127 :: F) rfl rfl
                replace hS := hS.front 5 (C := C127) (L' := C122 :: C117 :: [(b5, rowO [.int .i64 x0, .int .i64 x1, .int .i64 x2, .int .i64 x3, .bool x4] 24)] :: [(b6, rowO [.int .i64 y0, .int .i64 y1, .int .i64 y2, .int .i64 y3, .bool y4] 24)] :: C132 :: F) rfl rfl
                replace hS := hS.front 5 (C := C132) (L' := C127 :: C122 :: C117 :: [(b5, rowO [.int .i64 x0, .int .i64 x1, .int .i64 x2, .int .i64 x3, .bool x4] 24)] :: [(b6, rowO [.int .i64 y0, .int .i64 y1, .int .i64 y2, .int .i64 y3, .bool y4] 24)] :: F) rfl rfl
                exact lp_next _ (by omega) ⟨(k + 1), rfl, (hA.sel [5, 6, 7, 9, 10, 63, 64] rfl), hS, by omega⟩)
           · first
             | (exfalso; omega)
             | (replace hA := hA.rw 65 (v' := .bool false) rfl (vb_false hc137)
                refine cd_cond_f hA rfl ?_
                refine wp_exit ?_
                refine xt_exit ?_
                refine xt_exit ?_
                refine cd_exit_eq ?_
                refine xt_norm ?_
                refine wp_seq ?_
                refine wp_draw (fun w' => St w0 w' (C132 :: C127 :: C122 :: C117 :: [(b5, rowO [.int .i64 x0, .int .i64 x1, .int .i64 x2, .int .i64 x3, .bool x4] 24)] :: [(b6, rowO [.int .i64 y0, .int .i64 y1, .int .i64 y2, .int .i64 y3, .bool y4] 24)] :: F)) [] [(0, true), (1, true), (2, true), (3, true), (4, true), (5, true), (6, true), (7, true), (8, true), (9, true), (10, true), (11, true), (12, true), (13, true), (14, true), (15, true), (16, true), (17, true), (18, true), (19, true), (20, true), (21, true)] mixed (by kernel_rfl) (by rintro c a w ⟨_, _, h, _⟩; cases h) (by rfl) (by kernel_rfl) ?_
                replace hS := hS.drew
                refine dr_run tbOk 3 hA hS (e' := (79, .pointer (some ⟨b5, 0, none⟩)) :: (78, .bool true) :: (77, .nilIface) :: _) rfl ?_; clear hA; intro a hA
                refine dr_y hA rfl rfl rfl (by decide) hS (fun w' hS' => rn_load tbOk hA rfl rfl rfl rfl (cell_row (hS'.heapAt 4 rfl) rfl)) ?_; clear hA; intro a hA
                refine dr_run tbOk 1 hA hS (e' := (81, .pointer (some ⟨b5, 1, none⟩)) :: _) rfl ?_; clear hA; intro a hA
                refine dr_y hA rfl rfl rfl (by decide) hS (fun w' hS' => rn_load tbOk hA rfl rfl rfl rfl (cell_row (hS'.heapAt 4 rfl) rfl)) ?_; clear hA; intro a hA
                refine dr_run tbOk 1 hA hS (e' := (83, .int .i64 (IntKind.i64.wrap (x0 + x1))) :: _) rfl ?_; clear hA; intro a hA
                replace hA := hA.rw 83 (v' := .int .i64 (x0 + x1)) rfl (wr64 (by omega) (by omega) (by omega))
                refine dr_run tbOk 1 hA hS (e' := (84, .pointer (some ⟨b6, 0, none⟩)) :: _) rfl ?_; clear hA; intro a hA
                refine dr_y hA rfl rfl rfl (by decide) hS (fun w' hS' => rn_load tbOk hA rfl rfl rfl rfl (cell_row (hS'.heapAt 5 rfl) rfl)) ?_; clear hA; intro a hA
                refine dr_run tbOk 2 hA hS (e' := (87, .bool (decide (x0 + x1 ≤ y0))) :: (86, .bool (decide (x0 + x1 ≤ y0))) :: _) rfl ?_; clear hA; intro a hA
                by_cases hc143 : x0 + x1 ≤ y0
                · first
                  | (exfalso; omega)
                  | (replace hA := hA.rw 86 (v' := .bool true) rfl (vb_true hc143)
                     replace hA := hA.rw 87 (v' := .bool true) rfl (vb_true hc143)
                     refine dr_run tbOk 11 hA hS (e' := (4, .bool true) :: (97, .bool true) :: (96, .bool true) :: (95, undef) :: (94, undef) :: (93, undef) :: (92, undef) :: (91, undef) :: (90, undef) :: (89, undef) :: (88, undef) :: _) rfl ?_; clear hA; intro a hA
                     refine dr_end ?_
                     replace hA := hA.sel [4] (e' := [(4, .bool true)]) rfl
                     refine xt_norm ?_
                     refine wp_ret ?_
                     refine ret1 (fn := Tryd.f6) hA rfl rfl ?_
                     replace hS := hS.drop1
                     replace hS := hS.drop1
                     replace hS := hS.drop1
                     replace hS := hS.drop1
                     replace hS := hS.drop1
                     replace hS := hS.drop1
                     exact ⟨rfl, hS⟩)
                · first
                  | (exfalso; omega)
                  | (replace hA := hA.rw 86 (v' := .bool false) rfl (vb_false hc143)
                     replace hA := hA.rw 87 (v' := .bool false) rfl (vb_false hc143)
                     refine dr_run tbOk 1 hA hS (e' := (88, .pointer (some ⟨b6, 0, none⟩)) :: _) rfl ?_; clear hA; intro a hA
                     refine dr_y hA rfl rfl rfl (by decide) hS (fun w' hS' => rn_load tbOk hA rfl rfl rfl rfl (cell_row (hS'.heapAt 5 rfl) rfl)) ?_; clear hA; intro a hA
                     refine dr_run tbOk 1 hA hS (e' := (90, .pointer (some ⟨b6, 1, none⟩)) :: _) rfl ?_; clear hA; intro a hA
                     refine dr_y hA rfl rfl rfl (by decide) hS (fun w' hS' => rn_load tbOk hA rfl rfl rfl rfl (cell_row (hS'.heapAt 5 rfl) rfl)) ?_; clear hA; intro a hA
                     refine dr_run tbOk 1 hA hS (e' := (92, .int .i64 (IntKind.i64.wrap (y0 + y1))) :: _) rfl ?_; clear hA; intro a hA
                     replace hA := hA.rw 92 (v' := .int .i64 (y0 + y1)) rfl (wr64 (by omega) (by omega) (by omega))
                     refine dr_run tbOk 1 hA hS (e' := (93, .pointer (some ⟨b5, 0, none⟩)) :: _) rfl ?_; clear hA; intro a hA
                     refine dr_y hA rfl rfl rfl (by decide) hS (fun w' hS' => rn_load tbOk hA rfl rfl rfl rfl (cell_row (hS'.heapAt 4 rfl) rfl)) ?_; clear hA; intro a hA
                     refine dr_run tbOk 2 hA hS (e' := (96, .bool (decide (y0 + y1 ≤ x0))) :: (95, .bool (decide (y0 + y1 ≤ x0))) :: _) rfl ?_; clear hA; intro a hA
                     by_cases hc144 : y0 + y1 ≤ x0
                     · first
                       | (exfalso; omega)
                       | (replace hA := hA.rw 95 (v' := .bool true) rfl (vb_true hc144)
                          replace hA := hA.rw 96 (v' := .bool true) rfl (vb_true hc144)
                          refine dr_run tbOk 2 hA hS (e' := (4, .bool true) :: (97, .bool true) :: _) rfl ?_; clear hA; intro a hA
                          refine dr_end ?_
                          replace hA := hA.sel [4] (e' := [(4, .bool true)]) rfl
                          refine xt_norm ?_
                          refine wp_ret ?_
                          refine ret1 (fn := Tryd.f6) hA rfl rfl ?_
                          replace hS := hS.drop1
                          replace hS := hS.drop1
                          replace hS := hS.drop1
                          replace hS := hS.drop1
                          replace hS := hS.drop1
                          replace hS := hS.drop1
                          exact ⟨rfl, hS⟩)
                     · first
                       | (exfalso; omega)
                       | (replace hA := hA.rw 95 (v' := .bool false) rfl (vb_false hc144)
                          replace hA := hA.rw 96 (v' := .bool false) rfl (vb_false hc144)
                          refine dr_run tbOk 2 hA hS (e' := (4, .bool false) :: (97, .bool false) :: _) rfl ?_; clear hA; intro a hA
                          refine dr_end ?_
                          replace hA := hA.sel [4] (e' := [(4, .bool false)]) rfl
                          refine xt_norm ?_
                          refine wp_ret ?_
                          refine ret1 (fn := Tryd.f6) hA rfl rfl ?_
                          exfalso; omega))))
      · first
        | (exfalso; omega)
        | (replace hA := hA.rw 61 (v' := .bool true) rfl (vb_ne_t hc135)
           refine cd_cond_t hA rfl ?_
           refine wp_seq ?_
           refine wp_region_lit ?_
           refine st_run tbOk 1 hA (e' := (4, .bool false) :: _) rfl ?_; clear hA; intro a hA
           refine wpList_nil ?_
           replace hA := hA.sel [4] (e' := [(4, .bool false)]) rfl
           refine xt_norm ?_
           refine wp_ret (xt_ret ?_)
           refine ret1 (fn := Tryd.f6) hA rfl rfl ?_
           exfalso; omega)
    · refine st_val hA rfl rfl (by decide) (rn_loadA tbOk hA [.int .i64 x0, .int .i64 x1, .int .i64 x2, .int .i64 x3, .bool x4] rfl rfl rfl rfl rfl (cells_row (hS.heapAt 0 rfl) rfl)) ?_; clear hA; intro a hA
      refine st_call0 hA rfl rfl rfl isfn12 rfl rfl (by decide) (add_ok12 hS (l := ([] : List Area)) RdS.nil (x0, x1, x2, x3, x4) hX.val hX.v2 (fun y hy => by cases hy) (fun y hy => by cases hy) (by decide) (i := 0) ⟨Nat.le_refl _, fun k x h => absurd h (by omega), fun k x _ h => by simp at h⟩) ?_
      clear hA hS; rintro _ w145 a ⟨v146, C147, hO147, rfl, hS⟩ hA
      obtain ⟨A148, c149, rfl, hmc149, hxc149⟩ := hO147.open'
      have hl : ([] : List Area).take 0 ++ ((x0, x1, x2, x3, x4) :: ([] : List Area).drop 0) = [((x0, x1, x2, x3, x4) : Area)] := rfl
      rw [hl] at hO147; rw [hl] at hA
      refine st_run tbOk 5 hA (e' := (8, .nilIface) :: (7, .slice A148 (([((x0, x1, x2, x3, x4) : Area)]).length) c149) :: (24, .nilIface) :: (23, .slice A148 (([((x0, x1, x2, x3, x4) : Area)]).length) c149) :: (20, .tuple #[.slice A148 (([((x0, x1, x2, x3, x4) : Area)]).length) c149, .nilIface]) :: _) rfl ?_; clear hA; intro a hA
      refine wpList_nil ?_
      replace hA := hA.sel [5, 6, 7, 8] (e' := [(5, .pointer (some ⟨b5, 0, none⟩)), (6, .pointer (some ⟨b6, 0, none⟩)), (7, .slice A148 (([((x0, x1, x2, x3, x4) : Area)]).length) c149), (8, .nilIface)]) rfl
      refine xt_norm ?_
      refine wp_seq ?_
      refine wp_region_lit ?_
      refine st_run tbOk 1 hA (e' := (26, .slice A148 (([((x0, x1, x2, x3, x4) : Area)]).length) c149) :: _) rfl ?_; clear hA; intro a hA
      refine st_val hA rfl rfl (by decide) (rn_loadA tbOk hA [.int .i64 y0, .int .i64 y1, .int .i64 y2, .int .i64 y3, .bool y4] rfl rfl rfl rfl rfl (cells_row (hS.heapAt 2 rfl) rfl)) ?_; clear hA; intro a hA
      refine st_call0 hA rfl rfl rfl isfn12 rfl rfl (by decide) (add_ok12 hS (l := [((x0, x1, x2, x3, x4) : Area)]) (RdS.own hO147 0 rfl) (y0, y1, y2, y3, y4) hY.val hY.v2 (fun y hy => by rw [List.mem_singleton.1 hy]; exact hX) (fun y hy => by rw [List.mem_singleton.1 hy]; dsimp only [Ovl, ab, az]; omega) (show 1 < 64 by decide) (i := 0) ⟨Nat.zero_le _, fun k x h => absurd h (by omega), fun k x _ h => by rw [List.mem_singleton.1 (List.mem_of_getElem? h)]; dsimp only [ab]; omega⟩) ?_
      clear hA hS; rintro _ w150 a ⟨v151, C152, hO152, rfl, hS⟩ hA
      obtain ⟨A153, c154, rfl, hmc154, hxc154⟩ := hO152.open'
      have hl : ([((x0, x1, x2, x3, x4) : Area)]).take 0 ++ ((y0, y1, y2, y3, y4) :: ([((x0, x1, x2, x3, x4) : Area)]).drop 0) = [((y0, y1, y2, y3, y4) : Area), (x0, x1, x2, x3, x4)] := rfl
      rw [hl] at hO152; rw [hl] at hA
      refine st_run tbOk 5 hA (e' := (9, .nilIface) :: (7, .slice A153 (([((y0, y1, y2, y3, y4) : Area), (x0, x1, x2, x3, x4)]).length) c154) :: (30, .nilIface) :: (29, .slice A153 (([((y0, y1, y2, y3, y4) : Area), (x0, x1, x2, x3, x4)]).length) c154) :: (25, .tuple #[.slice A153 (([((y0, y1, y2, y3, y4) : Area), (x0, x1, x2, x3, x4)]).length) c154, .nilIface]) :: _) rfl ?_; clear hA; intro a hA
      refine wpList_nil ?_
      replace hA := hA.sel [5, 6, 7, 8, 9] (e' := [(5, .pointer (some ⟨b5, 0, none⟩)), (6, .pointer (some ⟨b6, 0, none⟩)), (7, .slice A153 (([((y0, y1, y2, y3, y4) : Area), (x0, x1, x2, x3, x4)]).length) c154), (8, .nilIface), (9, .nilIface)]) rfl
      refine xt_norm ?_
      refine wp_seq ?_
      refine wp_region_lit ?_
      refine st_val hA rfl rfl (by decide) (rn_loadA tbOk hA [.int .i64 y0, .int .i64 y1, .int .i64 y2, .int .i64 y3, .bool y4] rfl rfl rfl rfl rfl (cells_row (hS.heapAt 3 rfl) rfl)) ?_; clear hA; intro a hA
      refine st_call0 hA rfl rfl rfl isfn12 rfl rfl (by decide) (add_ok12 hS (l := ([] : List Area)) RdS.nil (y0, y1, y2, y3, y4) hY.val hY.v2 (fun y hy => by cases hy) (fun y hy => by cases hy) (by decide) (i := 0) ⟨Nat.le_refl _, fun k x h => absurd h (by omega), fun k x _ h => by simp at h⟩) ?_
      clear hA hS; rintro _ w155 a ⟨v156, C157, hO157, rfl, hS⟩ hA
      obtain ⟨A158, c159, rfl, hmc159, hxc159⟩ := hO157.open'
      have hl : ([] : List Area).take 0 ++ ((y0, y1, y2, y3, y4) :: ([] : List Area).drop 0) = [((y0, y1, y2, y3, y4) : Area)] := rfl
      rw [hl] at hO157; rw [hl] at hA
      refine st_run tbOk 5 hA (e' := (11, .nilIface) :: (10, .slice A158 (([((y0, y1, y2, y3, y4) : Area)]).length) c159) :: (35, .nilIface) :: (34, .slice A158 (([((y0, y1, y2, y3, y4) : Area)]).length) c159) :: (31, .tuple #[.slice A158 (([((y0, y1, y2, y3, y4) : Area)]).length) c159, .nilIface]) :: _) rfl ?_; clear hA; intro a hA
      refine wpList_nil ?_
      replace hA := hA.sel [5, 6, 7, 8, 9, 10, 11] (e' := [(5, .pointer (some ⟨b5, 0, none⟩)), (6, .pointer (some ⟨b6, 0, none⟩)), (7, .slice A153 (([((y0, y1, y2, y3, y4) : Area), (x0, x1, x2, x3, x4)]).length) c154), (8, .nilIface), (9, .nilIface), (10, .slice A158 (([((y0, y1, y2, y3, y4) : Area)]).length) c159), (11, .nilIface)]) rfl
      refine xt_norm ?_
      refine wp_seq ?_
      refine wp_region_lit ?_
      refine st_run tbOk 1 hA (e' := (37, .slice A158 (([((y0, y1, y2, y3, y4) : Area)]).length) c159) :: _) rfl ?_; clear hA; intro a hA
      refine st_val hA rfl rfl (by decide) (rn_loadA tbOk hA [.int .i64 x0, .int .i64 x1, .int .i64 x2, .int .i64 x3, .bool x4] rfl rfl rfl rfl rfl (cells_row (hS.heapAt 3 rfl) rfl)) ?_; clear hA; intro a hA
      refine st_call0 hA rfl rfl rfl isfn12 rfl rfl (by decide) (add_ok12 hS (l := [((y0, y1, y2, y3, y4) : Area)]) (RdS.own hO157 0 rfl) (x0, x1, x2, x3, x4) hX.val hX.v2 (fun y hy => by rw [List.mem_singleton.1 hy]; exact hY) (fun y hy => by rw [List.mem_singleton.1 hy]; dsimp only [Ovl, ab, az]; omega) (show 1 < 64 by decide) (i := 1) ⟨Nat.le_refl _, fun k x _ h => by rw [List.mem_singleton.1 (List.mem_of_getElem? h)]; dsimp only [ab]; omega, fun k x h h2 => by have := (List.getElem?_eq_some_iff.1 h2).1; simp at this; omega⟩) ?_
      clear hA hS; rintro _ w160 a ⟨v161, C162, hO162, rfl, hS⟩ hA
      obtain ⟨A163, c164, rfl, hmc164, hxc164⟩ := hO162.open'
      have hl : ([((y0, y1, y2, y3, y4) : Area)]).take 1 ++ ((x0, x1, x2, x3, x4) :: ([((y0, y1, y2, y3, y4) : Area)]).drop 1) = [((y0, y1, y2, y3, y4) : Area), (x0, x1, x2, x3, x4)] := rfl
      rw [hl] at hO162; rw [hl] at hA
      refine st_run tbOk 5 hA (e' := (12, .nilIface) :: (10, .slice A163 (([((y0, y1, y2, y3, y4) : Area), (x0, x1, x2, x3, x4)]).length) c164) :: (41, .nilIface) :: (40, .slice A163 (([((y0, y1, y2, y3, y4) : Area), (x0, x1, x2, x3, x4)]).length) c164) :: (36, .tuple #[.slice A163 (([((y0, y1, y2, y3, y4) : Area), (x0, x1, x2, x3, x4)]).length) c164, .nilIface]) :: _) rfl ?_; clear hA; intro a hA
      refine wpList_nil ?_
      replace hA := hA.sel [5, 6, 7, 8, 9, 10, 11, 12] (e' := [(5, .pointer (some ⟨b5, 0, none⟩)), (6, .pointer (some ⟨b6, 0, none⟩)), (7, .slice A153 (([((y0, y1, y2, y3, y4) : Area), (x0, x1, x2, x3, x4)]).length) c154), (8, .nilIface), (9, .nilIface), (10, .slice A163 (([((y0, y1, y2, y3, y4) : Area), (x0, x1, x2, x3, x4)]).length) c164), (11, .nilIface), (12, .nilIface)]) rfl
      refine xt_norm ?_
      refine wp_seq ?_
      refine wp_seq ?_
      refine wp_draw (fun w' => St w0 w' (C162 :: C157 :: C152 :: C147 :: [(b5, rowO [.int .i64 x0, .int .i64 x1, .int .i64 x2, .int .i64 x3, .bool x4] 24)] :: [(b6, rowO [.int .i64 y0, .int .i64 y1, .int .i64 y2, .int .i64 y3, .bool y4] 24)] :: F)) [] [(0, true), (1, true), (2, true), (3, true), (4, true), (5, true), (6, true), (7, true), (8, true), (9, true), (10, true), (11, true), (12, true), (13, true), (14, true), (15, true), (16, true), (17, true), (18, true), (19, true)] mixed (by kernel_rfl) (by rintro c a w ⟨_, _, h, _⟩; cases h) (by rfl) (by kernel_rfl) ?_
      replace hS := hS.drew
      refine dr_run tbOk 20 hA hS (e' := (61, .bool (((([((y0, y1, y2, y3, y4) : Area), (x0, x1, x2, x3, x4)]).length : Nat) : Int) != ((([((y0, y1, y2, y3, y4) : Area), (x0, x1, x2, x3, x4)]).length : Nat) : Int))) :: (60, .bool (((([((y0, y1, y2, y3, y4) : Area), (x0, x1, x2, x3, x4)]).length : Nat) : Int) != ((([((y0, y1, y2, y3, y4) : Area), (x0, x1, x2, x3, x4)]).length : Nat) : Int))) :: (59, .int .i64 ((([((y0, y1, y2, y3, y4) : Area), (x0, x1, x2, x3, x4)]).length : Nat) : Int)) :: (58, .slice A163 (([((y0, y1, y2, y3, y4) : Area), (x0, x1, x2, x3, x4)]).length) c164) :: (57, .int .i64 ((([((y0, y1, y2, y3, y4) : Area), (x0, x1, x2, x3, x4)]).length : Nat) : Int)) :: (56, .slice A153 (([((y0, y1, y2, y3, y4) : Area), (x0, x1, x2, x3, x4)]).length) c154) :: (55, .bool false) :: (54, .bool false) :: (53, .bool false) :: (52, .bool true) :: (51, .nilIface) :: (50, .bool true) :: (49, .nilIface) :: (48, .bool false) :: (47, .bool false) :: (46, .bool false) :: (45, .nilIface) :: (44, .bool false) :: (43, .bool false) :: (42, .nilIface) :: _) rfl ?_; clear hA; intro a hA
      refine dr_end ?_
      replace hA := hA.sel [5, 6, 7, 9, 10, 61] (e' := [(5, .pointer (some ⟨b5, 0, none⟩)), (6, .pointer (some ⟨b6, 0, none⟩)), (7, .slice A153 (([((y0, y1, y2, y3, y4) : Area), (x0, x1, x2, x3, x4)]).length) c154), (9, .nilIface), (10, .slice A163 (([((y0, y1, y2, y3, y4) : Area), (x0, x1, x2, x3, x4)]).length) c164), (61, .bool (((([((y0, y1, y2, y3, y4) : Area), (x0, x1, x2, x3, x4)]).length : Nat) : Int) != ((([((y0, y1, y2, y3, y4) : Area), (x0, x1, x2, x3, x4)]).length : Nat) : Int)))]) rfl
      refine xt_norm ?_
      by_cases hc165 : ((([((y0, y1, y2, y3, y4) : Area), (x0, x1, x2, x3, x4)]).length : Nat) : Int) = ((([((y0, y1, y2, y3, y4) : Area), (x0, x1, x2, x3, x4)]).length : Nat) : Int)
      · first
        | (exfalso; omega)
        | (replace hA := hA.rw 61 (v' := .bool false) rfl (vb_ne_f hc165)
           refine cd_cond_f hA rfl ?_
           refine wp_skip ?_
           refine xt_norm ?_
           refine wp_seq ?_
           refine wp_seq ?_
           refine wp_region_lit ?_
           refine st_run tbOk 3 hA (e' := (64, .int .i64 0) :: (63, .int .i64 ((([((y0, y1, y2, y3, y4) : Area), (x0, x1, x2, x3, x4)]).length : Nat) : Int)) :: (62, .slice A153 (([((y0, y1, y2, y3, y4) : Area), (x0, x1, x2, x3, x4)]).length) c154) :: _) rfl ?_; clear hA; intro a hA
           refine wpList_nil ?_
           replace hA := hA.sel [5, 6, 7, 9, 10, 63, 64] (e' := [(5, .pointer (some ⟨b5, 0, none⟩)), (6, .pointer (some ⟨b6, 0, none⟩)), (7, .slice A153 (([((y0, y1, y2, y3, y4) : Area), (x0, x1, x2, x3, x4)]).length) c154), (9, .nilIface), (10, .slice A163 (([((y0, y1, y2, y3, y4) : Area), (x0, x1, x2, x3, x4)]).length) c164), (63, .int .i64 ((([((y0, y1, y2, y3, y4) : Area), (x0, x1, x2, x3, x4)]).length : Nat) : Int)), (64, .int .i64 0)]) rfl
           refine xt_norm ?_
           refine wp_block ?_
           have hlen : [((y0, y1, y2, y3, y4) : Area), (x0, x1, x2, x3, x4)].length = 2 := rfl
           refine wp_loop_ghost (fun m a w => ∃ (k : Nat), m = [((y0, y1, y2, y3, y4) : Area), (x0, x1, x2, x3, x4)].length - k ∧ Has a 98 [(5, .pointer (some ⟨b5, 0, none⟩)), (6, .pointer (some ⟨b6, 0, none⟩)), (7, .slice A153 (([((y0, y1, y2, y3, y4) : Area), (x0, x1, x2, x3, x4)]).length) c154), (9, .nilIface), (10, .slice A163 (([((y0, y1, y2, y3, y4) : Area), (x0, x1, x2, x3, x4)]).length) c164), (63, .int .i64 ((([((y0, y1, y2, y3, y4) : Area), (x0, x1, x2, x3, x4)]).length : Nat) : Int)), (64, .int .i64 ((k : Nat) : Int))] ∧ St w0 w (C162 :: C157 :: C152 :: C147 :: [(b5, rowO [.int .i64 x0, .int .i64 x1, .int .i64 x2, .int .i64 x3, .bool x4] 24)] :: [(b6, rowO [.int .i64 y0, .int .i64 y1, .int .i64 y2, .int .i64 y3, .bool y4] 24)] :: F) ∧ (k ≤ [((y0, y1, y2, y3, y4) : Area), (x0, x1, x2, x3, x4)].length)) ([((y0, y1, y2, y3, y4) : Area), (x0, x1, x2, x3, x4)].length - 0)
             ⟨0, rfl, (hA.sel [5, 6, 7, 9, 10, 63, 64] rfl), hS, Nat.zero_le _⟩ ?_
           clear hA hS; rintro m0 a w166 ⟨k, rfl, hA, hS, hk⟩
           refine wp_seq ?_
           refine wp_region_lit ?_
           refine st_run tbOk 1 hA (e' := (65, .bool (decide (((k : Nat) : Int) < ((([((y0, y1, y2, y3, y4) : Area), (x0, x1, x2, x3, x4)]).length : Nat) : Int)))) :: _) rfl ?_; clear hA; intro a hA
           refine wpList_nil ?_
           refine xt_norm ?_
           refine wp_seq ?_
           by_cases hc167 : ((k : Nat) : Int) < ((([((y0, y1, y2, y3, y4) : Area), (x0, x1, x2, x3, x4)]).length : Nat) : Int)
           · first
             | (exfalso; omega)
             | (replace hA := hA.rw 65 (v' := .bool true) rfl (vb_true hc167)
                refine cd_cond_t hA rfl ?_
                refine wp_skip ?_
                refine xt_norm ?_
                refine wp_seq ?_
                refine wp_block ?_
                refine wp_seq ?_
                refine wp_region_lit ?_
                refine st_run tbOk 2 hA (e' := (13, .int .i64 ((k : Nat) : Int)) :: (66, .int .i64 ((k : Nat) : Int)) :: _) rfl ?_; clear hA; intro a hA
                refine wpList_nil ?_
                replace hA := hA.sel [5, 6, 7, 9, 10, 13, 63, 64] (e' := [(5, .pointer (some ⟨b5, 0, none⟩)), (6, .pointer (some ⟨b6, 0, none⟩)), (7, .slice A153 (([((y0, y1, y2, y3, y4) : Area), (x0, x1, x2, x3, x4)]).length) c154), (9, .nilIface), (10, .slice A163 (([((y0, y1, y2, y3, y4) : Area), (x0, x1, x2, x3, x4)]).length) c164), (13, .int .i64 ((k : Nat) : Int)), (63, .int .i64 ((([((y0, y1, y2, y3, y4) : Area), (x0, x1, x2, x3, x4)]).length : Nat) : Int)), (64, .int .i64 ((k : Nat) : Int))]) rfl
                refine xt_norm ?_
                refine wp_seq ?_
                obtain ⟨b168, o169, rfl⟩ := hO152.isSome (k := k) (by omega)
                obtain ⟨b170, o171, rfl⟩ := hO162.isSome (k := k) (by omega)
                obtain ⟨x172, hx172⟩ := get_ex (l := [((y0, y1, y2, y3, y4) : Area), (x0, x1, x2, x3, x4)]) (k := k) (by omega)
                obtain ⟨x172f0, x172f1, x172f2, x172f3, x172f4⟩ := x172
                refine wp_draw (fun w' => St w0 w' (C162 :: C157 :: C152 :: C147 :: [(b5, rowO [.int .i64 x0, .int .i64 x1, .int .i64 x2, .int .i64 x3, .bool x4] 24)] :: [(b6, rowO [.int .i64 y0, .int .i64 y1, .int .i64 y2, .int .i64 y3, .bool y4] 24)] :: F)) [] [(0, true), (1, true), (2, true), (3, true), (4, true), (5, true), (6, true), (7, true), (8, true)] mixed (by kernel_rfl) (by rintro c a w ⟨_, _, h, _⟩; cases h) (by rfl) (by kernel_rfl) ?_
                replace hS := hS.drew
                refine dr_run tbOk 2 hA hS (e' := (68, .int .i64 ((k : Nat) : Int)) :: (67, .slice (some ⟨b168, o169, none⟩) (([((y0, y1, y2, y3, y4) : Area), (x0, x1, x2, x3, x4)]).length) c154) :: _) rfl ?_; clear hA; intro a hA
                refine dr_y hA rfl rfl rfl (by decide) hS (fun w' hS' => rn_indexAddr tbOk hA k (o169 + (k * 5)) rfl rfl rfl rfl rfl rfl (by rfl) (by omega) (by first | rfl | simp [Nat.mul_one, Nat.zero_add] | omega)) ?_; clear hA; intro a hA
                refine dr_y hA rfl rfl rfl (by decide) hS (fun w' hS' => rn_loadA tbOk hA ([.int .i64 x172f0, .int .i64 x172f1, .int .i64 x172f2, .int .i64 x172f3, .bool x172f4]) rfl rfl rfl rfl (by rfl) ((hO152.rd (hS'.own_ 2 rfl)).elem (k := k) encArea_ok hx172)) ?_; clear hA; intro a hA
                refine dr_run tbOk 2 hA hS (e' := (72, .int .i64 ((k : Nat) : Int)) :: (71, .slice (some ⟨b170, o171, none⟩) (([((y0, y1, y2, y3, y4) : Area), (x0, x1, x2, x3, x4)]).length) c164) :: _) rfl ?_; clear hA; intro a hA
                refine dr_y hA rfl rfl rfl (by decide) hS (fun w' hS' => rn_indexAddr tbOk hA k (o171 + (k * 5)) rfl rfl rfl rfl rfl rfl (by rfl) (by omega) (by first | rfl | simp [Nat.mul_one, Nat.zero_add] | omega)) ?_; clear hA; intro a hA
                refine dr_y hA rfl rfl rfl (by decide) hS (fun w' hS' => rn_loadA tbOk hA ([.int .i64 x172f0, .int .i64 x172f1, .int .i64 x172f2, .int .i64 x172f3, .bool x172f4]) rfl rfl rfl rfl (by rfl) ((hO162.rd (hS'.own_ 0 rfl)).elem (k := k) encArea_ok hx172)) ?_; clear hA; intro a hA
                refine dr_y hA rfl rfl rfl (by decide) hS (fun w' hS' => rn_neA tbOk hA rfl rfl rfl rfl rfl (by kernel_rfl) (by kernel_rfl) rfl) ?_; clear hA; intro a hA
                replace hA := hA.rw 75 (v' := .bool false) rfl (by simp)
                refine dr_end ?_
                replace hA := hA.sel [5, 6, 7, 9, 10, 63, 64, 75] (e' := [(5, .pointer (some ⟨b5, 0, none⟩)), (6, .pointer (some ⟨b6, 0, none⟩)), (7, .slice (some ⟨b168, o169, none⟩) (([((y0, y1, y2, y3, y4) : Area), (x0, x1, x2, x3, x4)]).length) c154), (9, .nilIface), (10, .slice (some ⟨b170, o171, none⟩) (([((y0, y1, y2, y3, y4) : Area), (x0, x1, x2, x3, x4)]).length) c164), (63, .int .i64 ((([((y0, y1, y2, y3, y4) : Area), (x0, x1, x2, x3, x4)]).length : Nat) : Int)), (64, .int .i64 ((k : Nat) : Int)), (75, .bool false)]) rfl
                refine xt_norm ?_
                refine cd_cond_f hA rfl ?_
                refine wp_skip ?_
                refine xb_norm ?_
                refine xt_norm ?_
                refine wp_region_lit ?_
                refine st_run tbOk 1 hA (e' := (76, .int .i64 (IntKind.i64.wrap (((k : Nat) : Int) + 1))) :: _) rfl ?_; clear hA; intro a hA
                replace hA := hA.rw 76 (v' := .int .i64 ((k + 1 : Nat) : Int)) rfl (wr64 (by omega) (by omega) (by omega))
                refine st_run tbOk 1 hA (e' := (64, .int .i64 ((k + 1 : Nat) : Int)) :: _) rfl ?_; clear hA; intro a hA
                refine wpList_nil ?_
                replace hA := hA.sel [5, 6, 7, 9, 10, 63, 64] (e' := [(5, .pointer (some ⟨b5, 0, none⟩)), (6, .pointer (some ⟨b6, 0, none⟩)), (7, .slice (some ⟨b168, o169, none⟩) (([((y0, y1, y2, y3, y4) : Area), (x0, x1, x2, x3, x4)]).length) c154), (9, .nilIface), (10, .slice (some ⟨b170, o171, none⟩) (([((y0, y1, y2, y3, y4) : Area), (x0, x1, x2, x3, x4)]).length) c164), (63, .int .i64 ((([((y0, y1, y2, y3, y4) : Area), (x0, x1, x2, x3, x4)]).length : Nat) : Int)), (64, .int .i64 ((k + 1 : Nat) : Int))]) rfl
                replace hS := hS.front 5 (C := [(b6, rowO [.int .i64 y0, .int .i64 y1, .int .i64 y2, .int .i64 y3, .bool y4] 24)]) (L' := C162 :: C157 :: C152 :: C147 :: [(b5, rowO [.int .i64 x0, .int .i64 x1, .int .i64 x2, .int .i64 x3, .bool x4] 24)] :: F) rfl rfl
                replace hS := hS.front 5 (C := [(b5, rowO [.int .i64 x0, .int .i64 x1, .int .i64 x2, .int .i64 x3, .bool x4] 24)]) (L' := [(b6, rowO [.int .i64 y0, .int .i64 y1, .int .i64 y2, .int .i64 y3, .bool y4] 24)] :: C162 :: C157 :: C152 :: C147 :: F) rfl rfl
                replace hS := hS.front 5 (C := C147) (L' := [(b5, rowO [.int .i64 x0, .int .i64 x1, .int .i64 x2, .int .i64 x3, .bool x4] 24)] :: [(b6, rowO [.int .i64 y0, .int .i64 y1, .int .i64 y2, .int .i64 y3, .bool y4] 24)] :: C162 :: C157 :: C152 :: F) rfl rfl
                replace hS := hS.front 5 (C := C152) (L' := C147 :: [(b5, rowO [.int .i64 x0, .int .i64 x1, .int .i64 x2, .int .i64 x3, .bool x4] 24)] :: [(b6, rowO [.int .i64 y0, .int .i64 y1, .int .i64 y2, .int .i64 y3, .bool y4] 24)] :: C162 :: C157 :: F) rfl rfl
                replace hS := hS.front 5 (C := C157) (L' := C152 :: C147 :: [(b5, rowO [.int .i64 x0, .int .i64 x1, .int .i64 x2, .int .i64 x3, .bool x4] 24)] :: [(b6, rowO [.int .i64 y0, .int .i64 y1, .int .i64 y2, .int .i64 y3, .bool y4] 24)] :: C162 :: F) rfl rfl
                replace hS := hS.front 5 (C := C162) (L' := C157 :: C152 :: C147 :: [(b5, rowO [.int .i64 x0, .int .i64 x1, .int .i64 x2, .int .i64 x3, .bool x4] 24)] :: [(b6, rowO [.int .i64 y0, .int .i64 y1, .int .i64 y2, .int .i64 y3, .bool y4] 24)] :: F) rfl rfl
                exact lp_next _ (by omega) ⟨(k + 1), rfl, (hA.sel [5, 6, 7, 9, 10, 63, 64] rfl), hS, by omega⟩)
           · first
             | (exfalso; omega)
             | (replace hA := hA.rw 65 (v' := .bool false) rfl (vb_false hc167)
                refine cd_cond_f hA rfl ?_
                refine wp_exit ?_
                refine xt_exit ?_
                refine xt_exit ?_
                refine cd_exit_eq ?_
                refine xt_norm ?_
                refine wp_seq ?_
                refine wp_draw (fun w' => St w0 w' (C162 :: C157 :: C152 :: C147 :: [(b5, rowO [.int .i64 x0, .int .i64 x1, .int .i64 x2, .int .i64 x3, .bool x4] 24)] :: [(b6, rowO [.int .i64 y0, .int .i64 y1, .int .i64 y2, .int .i64 y3, .bool y4] 24)] :: F)) [] [(0, true), (1, true), (2, true), (3, true), (4, true), (5, true), (6, true), (7, true), (8, true), (9, true), (10, true), (11, true), (12, true), (13, true), (14, true), (15, true), (16, true), (17, true), (18, true), (19, true), (20, true), (21, true)] mixed (by kernel_rfl) (by rintro c a w ⟨_, _, h, _⟩; cases h) (by rfl) (by kernel_rfl) ?_
                replace hS := hS.drew
                refine dr_run tbOk 3 hA hS (e' := (79, .pointer (some ⟨b5, 0, none⟩)) :: (78, .bool true) :: (77, .nilIface) :: _) rfl ?_; clear hA; intro a hA
                refine dr_y hA rfl rfl rfl (by decide) hS (fun w' hS' => rn_load tbOk hA rfl rfl rfl rfl (cell_row (hS'.heapAt 4 rfl) rfl)) ?_; clear hA; intro a hA
                refine dr_run tbOk 1 hA hS (e' := (81, .pointer (some ⟨b5, 1, none⟩)) :: _) rfl ?_; clear hA; intro a hA
                refine dr_y hA rfl rfl rfl (by decide) hS (fun w' hS' => rn_load tbOk hA rfl rfl rfl rfl (cell_row (hS'.heapAt 4 rfl) rfl)) ?_; clear hA; intro a hA
                refine dr_run tbOk 1 hA hS (e' := (83, .int .i64 (IntKind.i64.wrap (x0 + x1))) :: _) rfl ?_; clear hA; intro a hA
                replace hA := hA.rw 83 (v' := .int .i64 (x0 + x1)) rfl (wr64 (by omega) (by omega) (by omega))
                refine dr_run tbOk 1 hA hS (e' := (84, .pointer (some ⟨b6, 0, none⟩)) :: _) rfl ?_; clear hA; intro a hA
                refine dr_y hA rfl rfl rfl (by decide) hS (fun w' hS' => rn_load tbOk hA rfl rfl rfl rfl (cell_row (hS'.heapAt 5 rfl) rfl)) ?_; clear hA; intro a hA
                refine dr_run tbOk 2 hA hS (e' := (87, .bool (decide (x0 + x1 ≤ y0))) :: (86, .bool (decide (x0 + x1 ≤ y0))) :: _) rfl ?_; clear hA; intro a hA
                by_cases hc173 : x0 + x1 ≤ y0
                · first
                  | (exfalso; omega)
                  | (replace hA := hA.rw 86 (v' := .bool true) rfl (vb_true hc173)
                     replace hA := hA.rw 87 (v' := .bool true) rfl (vb_true hc173)
                     refine dr_run tbOk 11 hA hS (e' := (4, .bool true) :: (97, .bool true) :: (96, .bool true) :: (95, undef) :: (94, undef) :: (93, undef) :: (92, undef) :: (91, undef) :: (90, undef) :: (89, undef) :: (88, undef) :: _) rfl ?_; clear hA; intro a hA
                     refine dr_end ?_
                     replace hA := hA.sel [4] (e' := [(4, .bool true)]) rfl
                     refine xt_norm ?_
                     refine wp_ret ?_
                     refine ret1 (fn := Tryd.f6) hA rfl rfl ?_
                     replace hS := hS.drop1
                     replace hS := hS.drop1
                     replace hS := hS.drop1
                     replace hS := hS.drop1
                     replace hS := hS.drop1
                     replace hS := hS.drop1
                     exact ⟨rfl, hS⟩)
                · first
                  | (exfalso; omega)
                  | (replace hA := hA.rw 86 (v' := .bool false) rfl (vb_false hc173)
                     replace hA := hA.rw 87 (v' := .bool false) rfl (vb_false hc173)
                     refine dr_run tbOk 1 hA hS (e' := (88, .pointer (some ⟨b6, 0, none⟩)) :: _) rfl ?_; clear hA; intro a hA
                     refine dr_y hA rfl rfl rfl (by decide) hS (fun w' hS' => rn_load tbOk hA rfl rfl rfl rfl (cell_row (hS'.heapAt 5 rfl) rfl)) ?_; clear hA; intro a hA
                     refine dr_run tbOk 1 hA hS (e' := (90, .pointer (some ⟨b6, 1, none⟩)) :: _) rfl ?_; clear hA; intro a hA
                     refine dr_y hA rfl rfl rfl (by decide) hS (fun w' hS' => rn_load tbOk hA rfl rfl rfl rfl (cell_row (hS'.heapAt 5 rfl) rfl)) ?_; clear hA; intro a hA
                     refine dr_run tbOk 1 hA hS (e' := (92, .int .i64 (IntKind.i64.wrap (y0 + y1))) :: _) rfl ?_; clear hA; intro a hA
                     replace hA := hA.rw 92 (v' := .int .i64 (y0 + y1)) rfl (wr64 (by omega) (by omega) (by omega))
                     refine dr_run tbOk 1 hA hS (e' := (93, .pointer (some ⟨b5, 0, none⟩)) :: _) rfl ?_; clear hA; intro a hA
                     refine dr_y hA rfl rfl rfl (by decide) hS (fun w' hS' => rn_load tbOk hA rfl rfl rfl rfl (cell_row (hS'.heapAt 4 rfl) rfl)) ?_; clear hA; intro a hA
                     refine dr_run tbOk 2 hA hS (e' := (96, .bool (decide (y0 + y1 ≤ x0))) :: (95, .bool (decide (y0 + y1 ≤ x0))) :: _) rfl ?_; clear hA; intro a hA
                     by_cases hc174 : y0 + y1 ≤ x0
                     · first
                       | (exfalso; omega)
                       | (replace hA := hA.rw 95 (v' := .bool true) rfl (vb_true hc174)
                          replace hA := hA.rw 96 (v' := .bool true) rfl (vb_true hc174)
                          refine dr_run tbOk 2 hA hS (e' := (4, .bool true) :: (97, .bool true) :: _) rfl ?_; clear hA; intro a hA
                          refine dr_end ?_
                          replace hA := hA.sel [4] (e' := [(4, .bool true)]) rfl
                          refine xt_norm ?_
                          refine wp_ret ?_
                          refine ret1 (fn := Tryd.f6) hA rfl rfl ?_
                          replace hS := hS.drop1
                          replace hS := hS.drop1
                          replace hS := hS.drop1
                          replace hS := hS.drop1
                          replace hS := hS.drop1
                          replace hS := hS.drop1
                          exact ⟨rfl, hS⟩)
                     · first
                       | (exfalso; omega)
                       | (replace hA := hA.rw 95 (v' := .bool false) rfl (vb_false hc174)
                          replace hA := hA.rw 96 (v' := .bool false) rfl (vb_false hc174)
                          refine dr_run tbOk 2 hA hS (e' := (4, .bool false) :: (97, .bool false) :: _) rfl ?_; clear hA; intro a hA
                          refine dr_end ?_
                          replace hA := hA.sel [4] (e' := [(4, .bool false)]) rfl
                          refine xt_norm ?_
                          refine wp_ret ?_
                          refine ret1 (fn := Tryd.f6) hA rfl rfl ?_
                          exfalso; omega))))
      · first
        | (exfalso; omega)
        | (replace hA := hA.rw 61 (v' := .bool true) rfl (vb_ne_t hc165)
           refine cd_cond_t hA rfl ?_
           refine wp_seq ?_
           refine wp_region_lit ?_
           refine st_run tbOk 1 hA (e' := (4, .bool false) :: _) rfl ?_; clear hA; intro a hA
           refine wpList_nil ?_
           replace hA := hA.sel [4] (e' := [(4, .bool false)]) rfl
           refine xt_norm ?_
           refine wp_ret (xt_ret ?_)
           refine ret1 (fn := Tryd.f6) hA rfl rfl ?_
           exfalso; omega)

theorem find7 {w0 w : World} {F : List Chunk} (hg : HG w0) (hS : St w0 w F) {v : Value} {l : List Area} (hr : RdS w0 F 5 v l.length (rows encArea l)) (t : Int) (ht : -9223372036854775808 ≤ t ∧ t < 9223372036854775808) :
    Ret Tryd.prog 7 #[v, .int .i64 t] w (fun v w' => v = .bool true ∧ St w0 w' F) := by
  obtain ⟨A, c, rfl, hmc, hcx⟩ := (hr w hS).open'
  refine enter (vs := [.slice A l.length c, .int .i64 t]) 114 Tryd.func7 rfl rfl (by simp) ?_; intro a hA
  refine wp_seq ?_
  refine wp_region_lit ?_
  refine st_run tbOk 1 hA (e' := (4, .bool false) :: _) rfl ?_; clear hA; intro a hA
  refine wpList_nil ?_
  replace hA := hA.sel [0, 1] (e' := [(0, .slice A l.length c), (1, .int .i64 t)]) rfl
  refine xt_norm ?_
  refine wp_seq ?_
  refine wp_seq ?_
  refine wp_region_lit ?_
  refine st_call0 hA rfl rfl rfl isfn8 rfl rfl (by decide) (awake8 hS hg) ?_
  clear hA hS; rintro v w1 a ⟨rfl, hS⟩ hA
  refine st_run tbOk 1 hA (e' := (20, .bool false) :: _) rfl ?_; clear hA; intro a hA
  refine wpList_nil ?_
  replace hA := hA.sel [0, 1, 20] (e' := [(0, .slice A l.length c), (1, .int .i64 t), (20, .bool false)]) rfl
  refine xt_norm ?_
  refine cd_cond_f hA rfl ?_
  refine wp_skip ?_
  refine xt_norm ?_
  refine wp_seq ?_
  refine wp_region_lit ?_
  refine st_run tbOk 1 hA (e' := (21, .slice A l.length c) :: _) rfl ?_; clear hA; intro a hA
  refine st_call0 hA rfl rfl rfl isfn9 rfl rfl (by decide) (make9 hS (l := l) (fun w' h => (hr _ h))) ?_
  clear hA hS; rintro v3 w2 a ⟨ms, C4, hM, hO4, hS⟩ hA
  obtain ⟨A5, c6, rfl, hmc6, hxc6⟩ := hO4.open'
  have hml := hM.n
  refine st_run tbOk 1 hA (e' := (5, .slice A5 ms.length c6) :: _) rfl ?_; clear hA; intro a hA
  refine wpList_nil ?_
  replace hA := hA.sel [1, 5] (e' := [(1, .int .i64 t), (5, .slice A5 ms.length c6)]) rfl
  refine xt_norm ?_
  refine wp_seq ?_
  refine wp_region_lit ?_
  refine st_run tbOk 1 hA (e' := (23, .agg #[.int .i64 0, .int .i64 0, .int .i64 0, .int .i64 0, .bool false]) :: _) rfl ?_; clear hA; intro a hA
  refine st_alloc tbOk hA hS [.int .i64 0, .int .i64 0, .int .i64 0, .int .i64 0, .bool false] rfl rfl rfl rfl rfl (by decide) ?_; clear hA hS; intro b7 w8 a hS hA
  refine st_store tbOk hA hS [.int .i64 0, .int .i64 0, .int .i64 0, .int .i64 0, .bool false] [.int .i64 0, .int .i64 0, .int .i64 0, .int .i64 0, .bool false] rfl rfl rfl rfl rfl rfl (by simp [Value.oneCell']) (Nat.le_of_ble_eq_true rfl) rfl rfl rfl ?_; clear hS; intro w9 hS
  refine st_run tbOk 1 hA (e' := (7, .bool false) :: _) rfl ?_; clear hA; intro a hA
  refine wpList_nil ?_
  replace hA := hA.sel [1, 5, 6, 7] (e' := [(1, .int .i64 t), (5, .slice A5 ms.length c6), (6, .pointer (some ⟨b7, 0, none⟩)), (7, .bool false)]) rfl
  refine xt_norm ?_
  refine wp_seq ?_
  refine wp_seq ?_
  refine wp_region_lit ?_
  refine st_run tbOk 3 hA (e' := (26, .int .i64 0) :: (25, .int .i64 ((ms.length : Nat) : Int)) :: (24, .slice A5 ms.length c6) :: _) rfl ?_; clear hA; intro a hA
  refine wpList_nil ?_
  refine xt_norm ?_
  refine wp_block ?_
  replace hS := hS.front 1 (C := C4) (L' := [(b7, rowO [.int .i64 0, .int .i64 0, .int .i64 0, .int .i64 0, .bool false] 24)] :: F) rfl rfl
  replace hS := hS.front 1 (C := [(b7, rowO [.int .i64 0, .int .i64 0, .int .i64 0, .int .i64 0, .bool false] 24)]) (L' := C4 :: F) rfl rfl
  refine wp_loop_ghost (fun m a w => ∃ (is : Bool) (u0 : Int) (u1 : Int) (u2 : Int) (u3 : Int) (u4 : Bool) (k : Nat), m = ms.length - k ∧ Has a 114 [(1, .int .i64 t), (5, .slice A5 ms.length c6), (6, .pointer (some ⟨b7, 0, none⟩)), (7, .bool is), (24, .slice A5 ms.length c6), (25, .int .i64 ((ms.length : Nat) : Int)), (26, .int .i64 ((k : Nat) : Int))] ∧ St w0 w ([(b7, rowO [.int .i64 u0, .int .i64 u1, .int .i64 u2, .int .i64 u3, .bool u4] 24)] :: C4 :: F) ∧ (k ≤ ms.length) ∧ ((is = true ∧ ∃ i : Nat, i < k ∧ ms[i]? = some (u0, u1, u2, u3, u4) ∧ InA (u0, u1, u2, u3, u4) t) ∨ (is = false ∧ (u0, u1, u2, u3, u4) = ((0, 0, 0, 0, false) : Area) ∧ ∀ (i : Nat) (y : Area), i < k → ms[i]? = some y → ¬ InA y t))) (ms.length - 0)
    ⟨false, 0, 0, 0, 0, false, 0, rfl, (hA.sel [1, 5, 6, 7, 24, 25, 26] rfl), hS, Nat.zero_le _, .inr ⟨rfl, rfl, fun i y hi => absurd hi (by omega)⟩⟩ ?_
  clear hA hS; rintro m0 a w10 ⟨is, u0, u1, u2, u3, u4, k, rfl, hA, hS, hk, hw⟩
  refine wp_seq ?_
  refine wp_region_lit ?_
  refine st_run tbOk 1 hA (e' := (27, .bool (decide (((k : Nat) : Int) < ((ms.length : Nat) : Int)))) :: _) rfl ?_; clear hA; intro a hA
  refine wpList_nil ?_
  refine xt_norm ?_
  refine wp_seq ?_
  by_cases hc11 : ((k : Nat) : Int) < ((ms.length : Nat) : Int)
  · first
    | (exfalso; omega)
    | (replace hA := hA.rw 27 (v' := .bool true) rfl (vb_true hc11)
       refine cd_cond_t hA rfl ?_
       refine wp_skip ?_
       refine xt_norm ?_
       refine wp_seq ?_
       refine wp_block ?_
       refine wp_seq ?_
       refine wp_region_lit ?_
       obtain ⟨b12, o13, rfl⟩ := hO4.isSome (k := k) (by omega)
       refine st_val hA rfl rfl (by decide) (rn_indexAddr tbOk hA k (o13 + (k * 5)) rfl rfl rfl rfl rfl rfl (by rfl) (by omega) (by first | rfl | simp [Nat.mul_one, Nat.zero_add] | omega)) ?_; clear hA; intro a hA
       obtain ⟨x14, hx14⟩ := get_ex (l := ms) (k := k) (by omega)
       obtain ⟨x14f0, x14f1, x14f2, x14f3, x14f4⟩ := x14
       have hk15 := hM.s _ (List.mem_of_getElem? hx14); dsimp only [SOk, ab, az, ag, ao] at hk15
       refine st_val hA rfl rfl (by decide) (rn_loadA tbOk hA ([.int .i64 x14f0, .int .i64 x14f1, .int .i64 x14f2, .int .i64 x14f3, .bool x14f4]) rfl rfl rfl rfl (by rfl) ((hO4.rd (hS.own_ 1 rfl)).elem (k := k) encArea_ok hx14)) ?_; clear hA; intro a hA
       refine st_alloc tbOk hA hS [.int .i64 0, .int .i64 0, .int .i64 0, .int .i64 0, .bool false] rfl rfl rfl rfl rfl (by decide) ?_; clear hA hS; intro b16 w17 a hS hA
       refine st_store tbOk hA hS [.int .i64 x14f0, .int .i64 x14f1, .int .i64 x14f2, .int .i64 x14f3, .bool x14f4] [.int .i64 x14f0, .int .i64 x14f1, .int .i64 x14f2, .int .i64 x14f3, .bool x14f4] rfl rfl rfl rfl rfl rfl (by simp [Value.oneCell']) (Nat.le_of_ble_eq_true rfl) rfl rfl rfl ?_; clear hS; intro w18 hS
       refine wpList_nil ?_
       replace hA := hA.sel [1, 5, 6, 7, 9, 24, 25, 26] (e' := [(1, .int .i64 t), (5, .slice (some ⟨b12, o13, none⟩) ms.length c6), (6, .pointer (some ⟨b7, 0, none⟩)), (7, .bool is), (9, .pointer (some ⟨b16, 0, none⟩)), (24, .slice (some ⟨b12, o13, none⟩) ms.length c6), (25, .int .i64 ((ms.length : Nat) : Int)), (26, .int .i64 ((k : Nat) : Int))]) rfl
       refine xt_norm ?_
       refine wp_seq ?_
       refine wp_region_lit ?_
       refine st_val hA rfl rfl (by decide) (rn_loadA tbOk hA [.int .i64 x14f0, .int .i64 x14f1, .int .i64 x14f2, .int .i64 x14f3, .bool x14f4] rfl rfl rfl rfl rfl (cells_row (hS.heapAt 0 rfl) rfl)) ?_; clear hA; intro a hA
       refine st_run tbOk 1 hA (e' := (31, .int .i64 t) :: _) rfl ?_; clear hA; intro a hA
       refine st_call0 hA rfl rfl rfl isfn11 rfl rfl (by decide) (has_ok11 hS (x14f0, x14f1, x14f2, x14f3, x14f4) t (by dsimp only [ab]; omega) (by omega)) ?_
       clear hA hS; rintro v w19 a ⟨rfl, hS⟩ hA
       refine wpList_nil ?_
       replace hA := hA.sel [1, 5, 6, 7, 9, 24, 25, 26, 32] (e' := [(1, .int .i64 t), (5, .slice (some ⟨b12, o13, none⟩) ms.length c6), (6, .pointer (some ⟨b7, 0, none⟩)), (7, .bool is), (9, .pointer (some ⟨b16, 0, none⟩)), (24, .slice (some ⟨b12, o13, none⟩) ms.length c6), (25, .int .i64 ((ms.length : Nat) : Int)), (26, .int .i64 ((k : Nat) : Int)), (32, .bool (decide (x14f0 ≤ t ∧ t < x14f0 + x14f1)))]) rfl
       refine xt_norm ?_
       by_cases hc20 : x14f0 ≤ t ∧ t < x14f0 + x14f1
       · first
         | (exfalso; omega)
         | (replace hA := hA.rw 32 (v' := .bool true) rfl (vb_true hc20)
            refine cd_cond_t hA rfl ?_
            refine wp_region_lit ?_
            refine st_val hA rfl rfl (by decide) (rn_loadA tbOk hA [.int .i64 x14f0, .int .i64 x14f1, .int .i64 x14f2, .int .i64 x14f3, .bool x14f4] rfl rfl rfl rfl rfl (cells_row (hS.heapAt 0 rfl) rfl)) ?_; clear hA; intro a hA
            replace hS := hS.front 1 (C := [(b7, rowO [.int .i64 u0, .int .i64 u1, .int .i64 u2, .int .i64 u3, .bool u4] 24)]) (L' := [(b16, rowO [.int .i64 x14f0, .int .i64 x14f1, .int .i64 x14f2, .int .i64 x14f3, .bool x14f4] 24)] :: C4 :: F) rfl rfl
            refine st_store tbOk hA hS [.int .i64 x14f0, .int .i64 x14f1, .int .i64 x14f2, .int .i64 x14f3, .bool x14f4] [.int .i64 x14f0, .int .i64 x14f1, .int .i64 x14f2, .int .i64 x14f3, .bool x14f4] rfl rfl rfl rfl rfl rfl (by simp [Value.oneCell']) (Nat.le_of_ble_eq_true rfl) rfl rfl rfl ?_; clear hS; intro w21 hS
            refine st_run tbOk 1 hA (e' := (7, .bool true) :: _) rfl ?_; clear hA; intro a hA
            refine wpList_nil ?_
            replace hA := hA.sel [1, 5, 6, 7, 24, 25, 26] (e' := [(1, .int .i64 t), (5, .slice (some ⟨b12, o13, none⟩) ms.length c6), (6, .pointer (some ⟨b7, 0, none⟩)), (7, .bool true), (24, .slice (some ⟨b12, o13, none⟩) ms.length c6), (25, .int .i64 ((ms.length : Nat) : Int)), (26, .int .i64 ((k : Nat) : Int))]) rfl
            refine xb_norm ?_
            refine xt_norm ?_
            refine wp_region_lit ?_
            refine st_run tbOk 1 hA (e' := (34, .int .i64 (IntKind.i64.wrap (((k : Nat) : Int) + 1))) :: _) rfl ?_; clear hA; intro a hA
            replace hA := hA.rw 34 (v' := .int .i64 ((k + 1 : Nat) : Int)) rfl (wr64 (by omega) (by omega) (by omega))
            refine st_run tbOk 1 hA (e' := (26, .int .i64 ((k + 1 : Nat) : Int)) :: _) rfl ?_; clear hA; intro a hA
            refine wpList_nil ?_
            replace hA := hA.sel [1, 5, 6, 7, 24, 25, 26] (e' := [(1, .int .i64 t), (5, .slice (some ⟨b12, o13, none⟩) ms.length c6), (6, .pointer (some ⟨b7, 0, none⟩)), (7, .bool true), (24, .slice (some ⟨b12, o13, none⟩) ms.length c6), (25, .int .i64 ((ms.length : Nat) : Int)), (26, .int .i64 ((k + 1 : Nat) : Int))]) rfl
            replace hS := hS.front 1 (C := [(b16, rowO [.int .i64 x14f0, .int .i64 x14f1, .int .i64 x14f2, .int .i64 x14f3, .bool x14f4] 24)]) (L' := [(b7, rowO [.int .i64 x14f0, .int .i64 x14f1, .int .i64 x14f2, .int .i64 x14f3, .bool x14f4] 24)] :: C4 :: F) rfl rfl
            replace hS := hS.drop1
            replace hS := hS.front 1 (C := C4) (L' := [(b7, rowO [.int .i64 x14f0, .int .i64 x14f1, .int .i64 x14f2, .int .i64 x14f3, .bool x14f4] 24)] :: F) rfl rfl
            replace hS := hS.front 1 (C := [(b7, rowO [.int .i64 x14f0, .int .i64 x14f1, .int .i64 x14f2, .int .i64 x14f3, .bool x14f4] 24)]) (L' := C4 :: F) rfl rfl
            exact lp_next _ (by omega) ⟨true, x14f0, x14f1, x14f2, x14f3, x14f4, (k + 1), rfl, (hA.sel [1, 5, 6, 7, 24, 25, 26] rfl), hS, by omega, .inl ⟨rfl, k, by omega, hx14, ⟨by dsimp only [ab]; omega, by dsimp only [ab, az]; omega⟩⟩⟩)
       · first
         | (exfalso; omega)
         | (replace hA := hA.rw 32 (v' := .bool false) rfl (vb_false hc20)
            refine cd_cond_f hA rfl ?_
            refine wp_skip ?_
            refine xb_norm ?_
            refine xt_norm ?_
            refine wp_region_lit ?_
            refine st_run tbOk 1 hA (e' := (34, .int .i64 (IntKind.i64.wrap (((k : Nat) : Int) + 1))) :: _) rfl ?_; clear hA; intro a hA
            replace hA := hA.rw 34 (v' := .int .i64 ((k + 1 : Nat) : Int)) rfl (wr64 (by omega) (by omega) (by omega))
            refine st_run tbOk 1 hA (e' := (26, .int .i64 ((k + 1 : Nat) : Int)) :: _) rfl ?_; clear hA; intro a hA
            refine wpList_nil ?_
            replace hA := hA.sel [1, 5, 6, 7, 24, 25, 26] (e' := [(1, .int .i64 t), (5, .slice (some ⟨b12, o13, none⟩) ms.length c6), (6, .pointer (some ⟨b7, 0, none⟩)), (7, .bool is), (24, .slice (some ⟨b12, o13, none⟩) ms.length c6), (25, .int .i64 ((ms.length : Nat) : Int)), (26, .int .i64 ((k + 1 : Nat) : Int))]) rfl
            replace hS := hS.drop1
            replace hS := hS.front 1 (C := C4) (L' := [(b7, rowO [.int .i64 u0, .int .i64 u1, .int .i64 u2, .int .i64 u3, .bool u4] 24)] :: F) rfl rfl
            replace hS := hS.front 1 (C := [(b7, rowO [.int .i64 u0, .int .i64 u1, .int .i64 u2, .int .i64 u3, .bool u4] 24)]) (L' := C4 :: F) rfl rfl
            exact lp_next _ (by omega) ⟨is, u0, u1, u2, u3, u4, (k + 1), rfl, (hA.sel [1, 5, 6, 7, 24, 25, 26] rfl), hS, by omega, hw.imp (fun h => h.imp id (fun ⟨i, h1, h2⟩ => ⟨i, by omega, h2⟩)) (fun ⟨h1, h2, h3⟩ => ⟨h1, h2, fun i y hi hy => (Nat.lt_succ_iff_lt_or_eq.1 hi).elim (fun h => h3 i y h hy) (fun h => by subst h; rw [hx14] at hy; injection hy with hy; subst hy; dsimp only [InA, ab, az]; omega)⟩)⟩))
  · first
    | (exfalso; omega)
    | (replace hA := hA.rw 27 (v' := .bool false) rfl (vb_false hc11)
       refine cd_cond_f hA rfl ?_
       refine wp_exit ?_
       refine xt_exit ?_
       refine xt_exit ?_
       refine cd_exit_eq ?_
       refine xt_norm ?_
       refine wp_seq ?_
       refine wp_region_lit ?_
       have hkl : k = ms.length := by omega
       rcases hw with ⟨hi1, i, hik, hi, hin⟩ | ⟨hi1, hz, hno⟩
       · replace hA := hA.rw 7 (v' := .bool true) rfl (by rw [hi1])
         have hil := (List.getElem?_eq_some_iff.1 hi).1
         have hU := hM.s _ (List.mem_of_getElem? hi)
         have hU2 := hU; have hin2 := hin; dsimp only [SOk, ab, az, ag, ao] at hU2; dsimp only [InA, ab, az] at hin2
         refine st_run tbOk 2 hA (e' := (37, .int .i64 t) :: (36, .slice A5 ms.length c6) :: _) rfl ?_; clear hA; intro a hA
         refine st_call0 hA rfl rfl rfl isfn15 rfl rfl (by decide) (find_hit15 hS (l := ms) (RdS.own hO4 1 rfl) hM.s t (y := (u0, u1, u2, u3, u4)) hi hin (fun k2 y2 hk2 hy2 h9 => absurd (hM.uniq hy2 hi h9 hin) (by omega))) ?_
         clear hA hS; rintro v w22 a ⟨rfl, hS⟩ hA
         refine st_run tbOk 3 hA (e' := (40, .bool true) :: (39, .agg #[.int .i64 u0, .int .i64 u1, .int .i64 u2, .int .i64 u3, .bool u4]) :: (35, .tuple #[.agg #[.int .i64 u0, .int .i64 u1, .int .i64 u2, .int .i64 u3, .bool u4], .bool true]) :: _) rfl ?_; clear hA; intro a hA
         refine st_alloc tbOk hA hS [.int .i64 0, .int .i64 0, .int .i64 0, .int .i64 0, .bool false] rfl rfl rfl rfl rfl (by decide) ?_; clear hA hS; intro b23 w24 a hS hA
         refine st_store tbOk hA hS [.int .i64 u0, .int .i64 u1, .int .i64 u2, .int .i64 u3, .bool u4] [.int .i64 u0, .int .i64 u1, .int .i64 u2, .int .i64 u3, .bool u4] rfl rfl rfl rfl rfl rfl (by simp [Value.oneCell']) (Nat.le_of_ble_eq_true rfl) rfl rfl rfl ?_; clear hS; intro w25 hS
         refine st_run tbOk 1 hA (e' := (11, .bool true) :: _) rfl ?_; clear hA; intro a hA
         refine wpList_nil ?_
         replace hA := hA.sel [1, 5, 6, 7, 10, 11] (e' := [(1, .int .i64 t), (5, .slice A5 ms.length c6), (6, .pointer (some ⟨b7, 0, none⟩)), (7, .bool true), (10, .pointer (some ⟨b23, 0, none⟩)), (11, .bool true)]) rfl
         refine xt_norm ?_
         refine wp_seq ?_
         refine wp_seq ?_
         refine wp_region_lit ?_
         refine st_run tbOk 4 hA (e' := (44, .bool false) :: (43, .bool false) :: (42, .bool true) :: (41, .bool true) :: _) rfl ?_; clear hA; intro a hA
         refine st_val hA rfl rfl (by decide) (rn_loadA tbOk hA [.int .i64 u0, .int .i64 u1, .int .i64 u2, .int .i64 u3, .bool u4] rfl rfl rfl rfl rfl (cells_row (hS.heapAt 0 rfl) rfl)) ?_; clear hA; intro a hA
         refine st_val hA rfl rfl (by decide) (rn_loadA tbOk hA [.int .i64 u0, .int .i64 u1, .int .i64 u2, .int .i64 u3, .bool u4] rfl rfl rfl rfl rfl (cells_row (hS.heapAt 1 rfl) rfl)) ?_; clear hA; intro a hA
         refine st_val hA rfl rfl (by decide) (rn_neA tbOk hA rfl rfl rfl rfl rfl (by kernel_rfl) (by kernel_rfl) rfl) ?_; clear hA; intro a hA
         replace hA := hA.rw 47 (v' := .bool false) rfl (by simp)
         refine st_run tbOk 1 hA (e' := (48, .bool false) :: _) rfl ?_; clear hA; intro a hA
         refine wpList_nil ?_
         replace hA := hA.sel [1, 5, 6, 7, 48] (e' := [(1, .int .i64 t), (5, .slice A5 ms.length c6), (6, .pointer (some ⟨b7, 0, none⟩)), (7, .bool true), (48, .bool false)]) rfl
         refine xt_norm ?_
         refine cd_cond_f hA rfl ?_
         refine wp_skip ?_
         refine xt_norm ?_
         refine wp_seq ?_
         refine wp_region_lit ?_
         refine st_run tbOk 2 hA (e' := (51, .int .i64 t) :: (50, .slice A5 ms.length c6) :: _) rfl ?_; clear hA; intro a hA
         by_cases hub : u0 = t
         · refine st_call0 hA rfl rfl rfl isfn17 rfl rfl (by decide) (remove_ok17 hS (l := ms) (RdS.own hO4 2 rfl) t (y := (u0, u1, u2, u3, u4)) hi hub (fun k2 y2 hk2 hy2 h9 => absurd (hM.uniq hy2 hi (hM.based hy2 h9) hin) (by omega)) hml) ?_
           clear hA hS; rintro _ w26 a ⟨v27, C28, hO28, rfl, hS⟩ hA
           obtain ⟨A29, c30, rfl, hmc30, hxc30⟩ := hO28.open'
           refine st_run tbOk 5 hA (e' := (13, .nilIface) :: (12, .slice A29 ((ms.take i ++ ms.drop (i + 1)).length) c30) :: (54, .nilIface) :: (53, .slice A29 ((ms.take i ++ ms.drop (i + 1)).length) c30) :: (49, .tuple #[.slice A29 ((ms.take i ++ ms.drop (i + 1)).length) c30, .nilIface]) :: _) rfl ?_; clear hA; intro a hA
           refine wpList_nil ?_
           replace hA := hA.sel [1, 5, 6, 7, 12, 13] (e' := [(1, .int .i64 t), (5, .slice A5 ms.length c6), (6, .pointer (some ⟨b7, 0, none⟩)), (7, .bool true), (12, .slice A29 ((ms.take i ++ ms.drop (i + 1)).length) c30), (13, .nilIface)]) rfl
           refine xt_norm ?_
           refine wp_seq ?_
           refine wp_seq ?_
           refine wp_region_lit ?_
           refine st_run tbOk 4 hA (e' := (58, .pointer (some ⟨b7, 0, none⟩)) :: (57, .bool false) :: (56, .bool false) :: (55, .bool true) :: _) rfl ?_; clear hA; intro a hA
           refine st_val hA rfl rfl (by decide) (rn_load tbOk hA rfl rfl rfl rfl (cell_row (hS.heapAt 2 rfl) rfl)) ?_; clear hA; intro a hA
           refine st_run tbOk 3 hA (e' := (62, .bool (u0 != t)) :: (61, .bool (u0 != t)) :: (60, .int .i64 t) :: _) rfl ?_; clear hA; intro a hA
           refine wpList_nil ?_
           replace hA := hA.sel [1, 5, 6, 12, 13, 62] (e' := [(1, .int .i64 t), (5, .slice A5 ms.length c6), (6, .pointer (some ⟨b7, 0, none⟩)), (12, .slice A29 ((ms.take i ++ ms.drop (i + 1)).length) c30), (13, .nilIface), (62, .bool (u0 != t))]) rfl
           refine xt_norm ?_
           by_cases hc31 : u0 = t
           · first
             | (exfalso; omega)
             | (replace hA := hA.rw 62 (v' := .bool false) rfl (vb_ne_f hc31)
                refine cd_cond_f hA rfl ?_
                refine wp_skip ?_
                refine xt_norm ?_
                refine wp_seq ?_
                have hMd := hM.del i hil
                have hdl : (ms.take i ++ ms.drop (i + 1)).length + 1 = ms.length := by rw [List.length_append, List.length_take, List.length_drop]; omega
                refine wp_region_lit ?_
                refine st_run tbOk 2 hA (e' := (73, .int .i64 t) :: (72, .slice A29 ((ms.take i ++ ms.drop (i + 1)).length) c30) :: _) rfl ?_; clear hA; intro a hA
                refine st_call0 hA rfl rfl rfl isfn15 rfl rfl (by decide) (find_none15 hS (l := ms.take i ++ ms.drop (i + 1)) (RdS.own hO28 0 rfl) hMd.s t (fun k2 y2 hy2 => hM.delin hi hin _ (List.mem_of_getElem? hy2))) ?_
                clear hA hS; rintro v w32 a ⟨rfl, hS⟩ hA
                refine st_run tbOk 3 hA (e' := (76, .bool false) :: (75, .agg #[.int .i64 0, .int .i64 0, .int .i64 0, .int .i64 0, .bool false]) :: (71, .tuple #[.agg #[.int .i64 0, .int .i64 0, .int .i64 0, .int .i64 0, .bool false], .bool false]) :: _) rfl ?_; clear hA; intro a hA
                refine st_alloc tbOk hA hS [.int .i64 0, .int .i64 0, .int .i64 0, .int .i64 0, .bool false] rfl rfl rfl rfl rfl (by decide) ?_; clear hA hS; intro b33 w34 a hS hA
                refine st_store tbOk hA hS [.int .i64 0, .int .i64 0, .int .i64 0, .int .i64 0, .bool false] [.int .i64 0, .int .i64 0, .int .i64 0, .int .i64 0, .bool false] rfl rfl rfl rfl rfl rfl (by simp [Value.oneCell']) (Nat.le_of_ble_eq_true rfl) rfl rfl rfl ?_; clear hS; intro w35 hS
                refine st_run tbOk 1 hA (e' := (15, .bool false) :: _) rfl ?_; clear hA; intro a hA
                refine wpList_nil ?_
                replace hA := hA.sel [5, 6, 12, 13, 15] (e' := [(5, .slice A5 ms.length c6), (6, .pointer (some ⟨b7, 0, none⟩)), (12, .slice A29 ((ms.take i ++ ms.drop (i + 1)).length) c30), (13, .nilIface), (15, .bool false)]) rfl
                refine xt_norm ?_
                refine wp_seq ?_
                refine wp_region_lit ?_
                refine st_run tbOk 1 hA (e' := (78, .slice A29 ((ms.take i ++ ms.drop (i + 1)).length) c30) :: _) rfl ?_; clear hA; intro a hA
                refine st_val hA rfl rfl (by decide) (rn_loadA tbOk hA [.int .i64 u0, .int .i64 u1, .int .i64 u2, .int .i64 u3, .bool u4] rfl rfl rfl rfl rfl (cells_row (hS.heapAt 3 rfl) rfl)) ?_; clear hA; intro a hA
                refine st_call0 hA rfl rfl rfl isfn12 rfl rfl (by decide) (add_ok12 hS (l := ms.take i ++ ms.drop (i + 1)) (RdS.own hO28 1 rfl) (u0, u1, u2, u3, u4) hU.val hU.v2 hMd.s (hM.delno hi) (by omega) (i := i) (hM.delpl hi)) ?_
                clear hA hS; rintro _ w36 a ⟨v37, C38, hO38, rfl, hS⟩ hA
                obtain ⟨A39, c40, rfl, hmc40, hxc40⟩ := hO38.open'
                have hl : (ms.take i ++ ms.drop (i + 1)).take i ++ ((u0, u1, u2, u3, u4) :: (ms.take i ++ ms.drop (i + 1)).drop i) = ms := del_ins hi
                rw [hl] at hO38; rw [hl] at hA
                refine st_run tbOk 5 hA (e' := (17, .nilIface) :: (16, .slice A39 ms.length c40) :: (82, .nilIface) :: (81, .slice A39 ms.length c40) :: (77, .tuple #[.slice A39 ms.length c40, .nilIface]) :: _) rfl ?_; clear hA; intro a hA
                refine wpList_nil ?_
                replace hA := hA.sel [5, 13, 15, 16, 17] (e' := [(5, .slice A5 ms.length c6), (13, .nilIface), (15, .bool false), (16, .slice A39 ms.length c40), (17, .nilIface)]) rfl
                refine xt_norm ?_
                refine wp_seq ?_
                refine wp_seq ?_
                refine wp_region_lit ?_
                refine st_run tbOk 16 hA (e' := (98, .bool (((ms.length : Nat) : Int) != ((ms.length : Nat) : Int))) :: (97, .bool (((ms.length : Nat) : Int) != ((ms.length : Nat) : Int))) :: (96, .int .i64 ((ms.length : Nat) : Int)) :: (95, .slice A5 ms.length c6) :: (94, .int .i64 ((ms.length : Nat) : Int)) :: (93, .slice A39 ms.length c40) :: (92, .bool false) :: (91, .bool false) :: (90, .bool false) :: (89, .bool false) :: (88, .bool false) :: (87, .bool false) :: (86, .nilIface) :: (85, .bool false) :: (84, .bool false) :: (83, .nilIface) :: _) rfl ?_; clear hA; intro a hA
                refine wpList_nil ?_
                replace hA := hA.sel [5, 16, 98] (e' := [(5, .slice A5 ms.length c6), (16, .slice A39 ms.length c40), (98, .bool (((ms.length : Nat) : Int) != ((ms.length : Nat) : Int)))]) rfl
                refine xt_norm ?_
                by_cases hc41 : ((ms.length : Nat) : Int) = ((ms.length : Nat) : Int)
                · first
                  | (exfalso; omega)
                  | (replace hA := hA.rw 98 (v' := .bool false) rfl (vb_ne_f hc41)
                     refine cd_cond_f hA rfl ?_
                     refine wp_skip ?_
                     refine xt_norm ?_
                     refine wp_seq ?_
                     refine wp_seq ?_
                     refine wp_region_lit ?_
                     refine st_run tbOk 3 hA (e' := (101, .int .i64 0) :: (100, .int .i64 ((ms.length : Nat) : Int)) :: (99, .slice A5 ms.length c6) :: _) rfl ?_; clear hA; intro a hA
                     refine wpList_nil ?_
                     replace hA := hA.sel [5, 16, 100, 101] (e' := [(5, .slice A5 ms.length c6), (16, .slice A39 ms.length c40), (100, .int .i64 ((ms.length : Nat) : Int)), (101, .int .i64 0)]) rfl
                     refine xt_norm ?_
                     refine wp_block ?_
                     refine wp_loop_ghost (fun m a w => ∃ (j : Nat), m = ms.length - j ∧ Has a 114 [(5, .slice A5 ms.length c6), (16, .slice A39 ms.length c40), (100, .int .i64 ((ms.length : Nat) : Int)), (101, .int .i64 ((j : Nat) : Int))] ∧ St w0 w (C38 :: [(b33, rowO [.int .i64 0, .int .i64 0, .int .i64 0, .int .i64 0, .bool false] 24)] :: C28 :: [(b23, rowO [.int .i64 u0, .int .i64 u1, .int .i64 u2, .int .i64 u3, .bool u4] 24)] :: [(b7, rowO [.int .i64 u0, .int .i64 u1, .int .i64 u2, .int .i64 u3, .bool u4] 24)] :: C4 :: F) ∧ (j ≤ ms.length)) (ms.length - 0)
                       ⟨0, rfl, (hA.sel [5, 16, 100, 101] rfl), hS, Nat.zero_le _⟩ ?_
                     clear hA hS; rintro m0 a w42 ⟨j, rfl, hA, hS, hj⟩
                     refine wp_seq ?_
                     refine wp_region_lit ?_
                     refine st_run tbOk 1 hA (e' := (102, .bool (decide (((j : Nat) : Int) < ((ms.length : Nat) : Int)))) :: _) rfl ?_; clear hA; intro a hA
                     refine wpList_nil ?_
                     refine xt_norm ?_
                     refine wp_seq ?_
                     by_cases hc43 : ((j : Nat) : Int) < ((ms.length : Nat) : Int)
                     · first
                       | (exfalso; omega)
                       | (replace hA := hA.rw 102 (v' := .bool true) rfl (vb_true hc43)
                          refine cd_cond_t hA rfl ?_
                          refine wp_skip ?_
                          refine xt_norm ?_
                          refine wp_seq ?_
                          refine wp_block ?_
                          refine wp_seq ?_
                          refine wp_region_lit ?_
                          refine st_run tbOk 2 hA (e' := (18, .int .i64 ((j : Nat) : Int)) :: (103, .int .i64 ((j : Nat) : Int)) :: _) rfl ?_; clear hA; intro a hA
                          refine wpList_nil ?_
                          replace hA := hA.sel [5, 16, 18, 100, 101] (e' := [(5, .slice A5 ms.length c6), (16, .slice A39 ms.length c40), (18, .int .i64 ((j : Nat) : Int)), (100, .int .i64 ((ms.length : Nat) : Int)), (101, .int .i64 ((j : Nat) : Int))]) rfl
                          refine xt_norm ?_
                          refine wp_seq ?_
                          obtain ⟨b44, o45, rfl⟩ := hO4.isSome (k := j) (by omega)
                          obtain ⟨b46, o47, rfl⟩ := hO38.isSome (k := j) (by omega)
                          obtain ⟨x48, hx48⟩ := get_ex (l := ms) (k := j) (by omega)
                          obtain ⟨x48f0, x48f1, x48f2, x48f3, x48f4⟩ := x48
                          have hk49 := hM.s _ (List.mem_of_getElem? hx48); dsimp only [SOk, ab, az, ag, ao] at hk49
                          refine wp_draw (fun w' => St w0 w' (C38 :: [(b33, rowO [.int .i64 0, .int .i64 0, .int .i64 0, .int .i64 0, .bool false] 24)] :: C28 :: [(b23, rowO [.int .i64 u0, .int .i64 u1, .int .i64 u2, .int .i64 u3, .bool u4] 24)] :: [(b7, rowO [.int .i64 u0, .int .i64 u1, .int .i64 u2, .int .i64 u3, .bool u4] 24)] :: C4 :: F)) [] [(0, true), (1, true), (2, true), (3, true), (4, true), (5, true), (6, true), (7, true), (8, true)] mixed (by kernel_rfl) (by rintro c a w ⟨_, _, h, _⟩; cases h) (by rfl) (by kernel_rfl) ?_
                          replace hS := hS.drew
                          refine dr_run tbOk 2 hA hS (e' := (105, .int .i64 ((j : Nat) : Int)) :: (104, .slice (some ⟨b46, o47, none⟩) ms.length c40) :: _) rfl ?_; clear hA; intro a hA
                          refine dr_y hA rfl rfl rfl (by decide) hS (fun w' hS' => rn_indexAddr tbOk hA j (o47 + (j * 5)) rfl rfl rfl rfl rfl rfl (by rfl) (by omega) (by first | rfl | simp [Nat.mul_one, Nat.zero_add] | omega)) ?_; clear hA; intro a hA
                          refine dr_y hA rfl rfl rfl (by decide) hS (fun w' hS' => rn_loadA tbOk hA ([.int .i64 x48f0, .int .i64 x48f1, .int .i64 x48f2, .int .i64 x48f3, .bool x48f4]) rfl rfl rfl rfl (by rfl) ((hO38.rd (hS'.own_ 0 rfl)).elem (k := j) encArea_ok hx48)) ?_; clear hA; intro a hA
                          refine dr_run tbOk 2 hA hS (e' := (109, .int .i64 ((j : Nat) : Int)) :: (108, .slice (some ⟨b44, o45, none⟩) ms.length c6) :: _) rfl ?_; clear hA; intro a hA
                          refine dr_y hA rfl rfl rfl (by decide) hS (fun w' hS' => rn_indexAddr tbOk hA j (o45 + (j * 5)) rfl rfl rfl rfl rfl rfl (by rfl) (by omega) (by first | rfl | simp [Nat.mul_one, Nat.zero_add] | omega)) ?_; clear hA; intro a hA
                          refine dr_y hA rfl rfl rfl (by decide) hS (fun w' hS' => rn_loadA tbOk hA ([.int .i64 x48f0, .int .i64 x48f1, .int .i64 x48f2, .int .i64 x48f3, .bool x48f4]) rfl rfl rfl rfl (by rfl) ((hO4.rd (hS'.own_ 5 rfl)).elem (k := j) encArea_ok hx48)) ?_; clear hA; intro a hA
                          refine dr_y hA rfl rfl rfl (by decide) hS (fun w' hS' => rn_neA tbOk hA rfl rfl rfl rfl rfl (by kernel_rfl) (by kernel_rfl) rfl) ?_; clear hA; intro a hA
                          replace hA := hA.rw 112 (v' := .bool false) rfl (by simp)
                          refine dr_end ?_
                          replace hA := hA.sel [5, 16, 100, 101, 112] (e' := [(5, .slice (some ⟨b44, o45, none⟩) ms.length c6), (16, .slice (some ⟨b46, o47, none⟩) ms.length c40), (100, .int .i64 ((ms.length : Nat) : Int)), (101, .int .i64 ((j : Nat) : Int)), (112, .bool false)]) rfl
                          refine xt_norm ?_
                          refine cd_cond_f hA rfl ?_
                          refine wp_skip ?_
                          refine xb_norm ?_
                          refine xt_norm ?_
                          refine wp_region_lit ?_
                          refine st_run tbOk 1 hA (e' := (113, .int .i64 (IntKind.i64.wrap (((j : Nat) : Int) + 1))) :: _) rfl ?_; clear hA; intro a hA
                          replace hA := hA.rw 113 (v' := .int .i64 ((j + 1 : Nat) : Int)) rfl (wr64 (by omega) (by omega) (by omega))
                          refine st_run tbOk 1 hA (e' := (101, .int .i64 ((j + 1 : Nat) : Int)) :: _) rfl ?_; clear hA; intro a hA
                          refine wpList_nil ?_
                          replace hA := hA.sel [5, 16, 100, 101] (e' := [(5, .slice (some ⟨b44, o45, none⟩) ms.length c6), (16, .slice (some ⟨b46, o47, none⟩) ms.length c40), (100, .int .i64 ((ms.length : Nat) : Int)), (101, .int .i64 ((j + 1 : Nat) : Int))]) rfl
                          replace hS := hS.front 5 (C := C4) (L' := C38 :: [(b33, rowO [.int .i64 0, .int .i64 0, .int .i64 0, .int .i64 0, .bool false] 24)] :: C28 :: [(b23, rowO [.int .i64 u0, .int .i64 u1, .int .i64 u2, .int .i64 u3, .bool u4] 24)] :: [(b7, rowO [.int .i64 u0, .int .i64 u1, .int .i64 u2, .int .i64 u3, .bool u4] 24)] :: F) rfl rfl
                          replace hS := hS.front 5 (C := [(b7, rowO [.int .i64 u0, .int .i64 u1, .int .i64 u2, .int .i64 u3, .bool u4] 24)]) (L' := C4 :: C38 :: [(b33, rowO [.int .i64 0, .int .i64 0, .int .i64 0, .int .i64 0, .bool false] 24)] :: C28 :: [(b23, rowO [.int .i64 u0, .int .i64 u1, .int .i64 u2, .int .i64 u3, .bool u4] 24)] :: F) rfl rfl
                          replace hS := hS.front 5 (C := [(b23, rowO [.int .i64 u0, .int .i64 u1, .int .i64 u2, .int .i64 u3, .bool u4] 24)]) (L' := [(b7, rowO [.int .i64 u0, .int .i64 u1, .int .i64 u2, .int .i64 u3, .bool u4] 24)] :: C4 :: C38 :: [(b33, rowO [.int .i64 0, .int .i64 0, .int .i64 0, .int .i64 0, .bool false] 24)] :: C28 :: F) rfl rfl
                          replace hS := hS.front 5 (C := C28) (L' := [(b23, rowO [.int .i64 u0, .int .i64 u1, .int .i64 u2, .int .i64 u3, .bool u4] 24)] :: [(b7, rowO [.int .i64 u0, .int .i64 u1, .int .i64 u2, .int .i64 u3, .bool u4] 24)] :: C4 :: C38 :: [(b33, rowO [.int .i64 0, .int .i64 0, .int .i64 0, .int .i64 0, .bool false] 24)] :: F) rfl rfl
                          replace hS := hS.front 5 (C := [(b33, rowO [.int .i64 0, .int .i64 0, .int .i64 0, .int .i64 0, .bool false] 24)]) (L' := C28 :: [(b23, rowO [.int .i64 u0, .int .i64 u1, .int .i64 u2, .int .i64 u3, .bool u4] 24)] :: [(b7, rowO [.int .i64 u0, .int .i64 u1, .int .i64 u2, .int .i64 u3, .bool u4] 24)] :: C4 :: C38 :: F) rfl rfl
                          replace hS := hS.front 5 (C := C38) (L' := [(b33, rowO [.int .i64 0, .int .i64 0, .int .i64 0, .int .i64 0, .bool false] 24)] :: C28 :: [(b23, rowO [.int .i64 u0, .int .i64 u1, .int .i64 u2, .int .i64 u3, .bool u4] 24)] :: [(b7, rowO [.int .i64 u0, .int .i64 u1, .int .i64 u2, .int .i64 u3, .bool u4] 24)] :: C4 :: F) rfl rfl
                          exact lp_next _ (by omega) ⟨(j + 1), rfl, (hA.sel [5, 16, 100, 101] rfl), hS, by omega⟩)
                     · first
                       | (exfalso; omega)
                       | (replace hA := hA.rw 102 (v' := .bool false) rfl (vb_false hc43)
                          refine cd_cond_f hA rfl ?_
                          refine wp_exit ?_
                          refine xt_exit ?_
                          refine xt_exit ?_
                          refine cd_exit_eq ?_
                          refine xt_norm ?_
                          refine wp_seq ?_
                          refine wp_region_lit ?_
                          refine st_run tbOk 1 hA (e' := (4, .bool true) :: _) rfl ?_; clear hA; intro a hA
                          refine wpList_nil ?_
                          replace hA := hA.sel [4] (e' := [(4, .bool true)]) rfl
                          refine xt_norm ?_
                          refine wp_ret ?_
                          refine ret1 (fn := Tryd.f7) hA rfl rfl ?_
                          replace hS := hS.drop1
                          replace hS := hS.drop1
                          replace hS := hS.drop1
                          replace hS := hS.drop1
                          replace hS := hS.drop1
                          replace hS := hS.drop1
                          exact ⟨rfl, hS⟩))
                · first
                  | (exfalso; omega)
                  | (replace hA := hA.rw 98 (v' := .bool true) rfl (vb_ne_t hc41)
                     refine cd_cond_t hA rfl ?_
                     refine wp_seq ?_
                     refine wp_region_lit ?_
                     refine st_run tbOk 1 hA (e' := (4, .bool false) :: _) rfl ?_; clear hA; intro a hA
                     refine wpList_nil ?_
                     replace hA := hA.sel [4] (e' := [(4, .bool false)]) rfl
                     refine xt_norm ?_
                     refine wp_ret (xt_ret ?_)
                     refine ret1 (fn := Tryd.f7) hA rfl rfl ?_
                     exfalso; omega))
           · first
             | (exfalso; omega)
             | (replace hA := hA.rw 62 (v' := .bool true) rfl (vb_ne_t hc31)
                refine cd_cond_t hA rfl ?_
                refine wp_seq ?_
                refine wp_region_lit ?_
                refine st_run tbOk 4 hA (e' := (66, .bool ((((ms.take i ++ ms.drop (i + 1)).length : Nat) : Int) == 0)) :: (65, .bool ((((ms.take i ++ ms.drop (i + 1)).length : Nat) : Int) == 0)) :: (64, .int .i64 (((ms.take i ++ ms.drop (i + 1)).length : Nat) : Int)) :: (63, .slice A29 ((ms.take i ++ ms.drop (i + 1)).length) c30) :: _) rfl ?_; clear hA; intro a hA
                by_cases hc50 : (((ms.take i ++ ms.drop (i + 1)).length : Nat) : Int) = 0
                · first
                  | (exfalso; omega)
                  | (replace hA := hA.rw 65 (v' := .bool true) rfl (vb_eq_t hc50)
                     replace hA := hA.rw 66 (v' := .bool true) rfl (vb_eq_t hc50)
                     refine st_run tbOk 1 hA (e' := (67, .nilIface) :: _) rfl ?_; clear hA; intro a hA
                     refine st_call0 hA rfl rfl rfl isfn13 rfl rfl (by decide) (number_nil13 hS hg) ?_
                     clear hA hS; rintro v w51 a ⟨rfl, hS⟩ hA
                     refine st_run tbOk 3 hA (e' := (4, .bool false) :: (70, .bool false) :: (69, .bool false) :: _) rfl ?_; clear hA; intro a hA
                     refine wpList_nil ?_
                     replace hA := hA.sel [4] (e' := [(4, .bool false)]) rfl
                     refine xt_norm ?_
                     refine wp_ret (xt_ret ?_)
                     refine ret1 (fn := Tryd.f7) hA rfl rfl ?_
                     exfalso; omega)
                · first
                  | (exfalso; omega)
                  | (replace hA := hA.rw 65 (v' := .bool false) rfl (vb_eq_f hc50)
                     replace hA := hA.rw 66 (v' := .bool false) rfl (vb_eq_f hc50)
                     refine st_run tbOk 5 hA (e' := (4, .bool false) :: (70, .bool false) :: (69, undef) :: (68, undef) :: (67, undef) :: _) rfl ?_; clear hA; intro a hA
                     refine wpList_nil ?_
                     replace hA := hA.sel [4] (e' := [(4, .bool false)]) rfl
                     refine xt_norm ?_
                     refine wp_ret (xt_ret ?_)
                     refine ret1 (fn := Tryd.f7) hA rfl rfl ?_
                     exfalso; omega))
         · refine st_call0 hA rfl rfl rfl isfn17 rfl rfl (by decide) (remove_none17 hS (l := ms) (RdS.own hO4 2 rfl) t (fun k2 y2 hy2 h9 => by have e := hM.uniq hy2 hi (hM.based hy2 h9) hin; subst e; rw [hi] at hy2; injection hy2 with hy2; subst hy2; exact hub h9)) ?_
           clear hA hS; rintro v w52 a ⟨rfl, hS⟩ hA
           refine st_run tbOk 5 hA (e' := (13, .iface 30 (.int .i64 12)) :: (12, .slice none 0 0) :: (54, .iface 30 (.int .i64 12)) :: (53, .slice none 0 0) :: (49, .tuple #[.slice none 0 0, .iface 30 (.int .i64 12)]) :: _) rfl ?_; clear hA; intro a hA
           refine wpList_nil ?_
           replace hA := hA.sel [1, 5, 6, 7, 12, 13] (e' := [(1, .int .i64 t), (5, .slice A5 ms.length c6), (6, .pointer (some ⟨b7, 0, none⟩)), (7, .bool true), (12, .slice none 0 0), (13, .iface 30 (.int .i64 12))]) rfl
           refine xt_norm ?_
           refine wp_seq ?_
           refine wp_seq ?_
           refine wp_region_lit ?_
           refine st_run tbOk 4 hA (e' := (58, .pointer (some ⟨b7, 0, none⟩)) :: (57, .bool false) :: (56, .bool false) :: (55, .bool true) :: _) rfl ?_; clear hA; intro a hA
           refine st_val hA rfl rfl (by decide) (rn_load tbOk hA rfl rfl rfl rfl (cell_row (hS.heapAt 1 rfl) rfl)) ?_; clear hA; intro a hA
           refine st_run tbOk 3 hA (e' := (62, .bool (u0 != t)) :: (61, .bool (u0 != t)) :: (60, .int .i64 t) :: _) rfl ?_; clear hA; intro a hA
           refine wpList_nil ?_
           replace hA := hA.sel [1, 5, 6, 12, 13, 62] (e' := [(1, .int .i64 t), (5, .slice A5 ms.length c6), (6, .pointer (some ⟨b7, 0, none⟩)), (12, .slice none 0 0), (13, .iface 30 (.int .i64 12)), (62, .bool (u0 != t))]) rfl
           refine xt_norm ?_
           by_cases hc53 : u0 = t
           · first
             | (exfalso; omega)
             | (replace hA := hA.rw 62 (v' := .bool false) rfl (vb_ne_f hc53)
                refine cd_cond_f hA rfl ?_
                refine wp_skip ?_
                refine xt_norm ?_
                refine wp_seq ?_
                exfalso; omega)
           · first
             | (exfalso; omega)
             | (replace hA := hA.rw 62 (v' := .bool true) rfl (vb_ne_t hc53)
                refine cd_cond_t hA rfl ?_
                refine wp_seq ?_
                refine wp_region_lit ?_
                refine st_run tbOk 5 hA (e' := (67, .iface 30 (.int .i64 12)) :: (66, .bool true) :: (65, .bool true) :: (64, .int .i64 0) :: (63, .slice none 0 0) :: _) rfl ?_; clear hA; intro a hA
                refine st_call0 hA rfl rfl rfl isfn13 rfl rfl (by decide) (number_hit13 hS hg 12) ?_
                clear hA hS; rintro v w54 a ⟨rfl, hS⟩ hA
                refine st_run tbOk 3 hA (e' := (4, .bool true) :: (70, .bool true) :: (69, .bool true) :: _) rfl ?_; clear hA; intro a hA
                refine wpList_nil ?_
                replace hA := hA.sel [4] (e' := [(4, .bool true)]) rfl
                refine xt_norm ?_
                refine wp_ret (xt_ret ?_)
                refine ret1 (fn := Tryd.f7) hA rfl rfl ?_
                replace hS := hS.drop1
                replace hS := hS.drop1
                replace hS := hS.drop1
                exact ⟨rfl, hS⟩)
       · replace hA := hA.rw 7 (v' := .bool false) rfl (by rw [hi1])
         have hno2 : ∀ (k2 : Nat) (y2 : Area), ms[k2]? = some y2 → ¬ InA y2 t := fun k2 y2 hy2 => hno k2 y2 (by have := (List.getElem?_eq_some_iff.1 hy2).1; omega) hy2
         obtain ⟨rfl, rfl, rfl, rfl, rfl⟩ : u0 = 0 ∧ u1 = 0 ∧ u2 = 0 ∧ u3 = 0 ∧ u4 = false := by simpa using hz
         refine st_run tbOk 2 hA (e' := (37, .int .i64 t) :: (36, .slice A5 ms.length c6) :: _) rfl ?_; clear hA; intro a hA
         refine st_call0 hA rfl rfl rfl isfn15 rfl rfl (by decide) (find_none15 hS (l := ms) (RdS.own hO4 1 rfl) hM.s t hno2) ?_
         clear hA hS; rintro v w55 a ⟨rfl, hS⟩ hA
         refine st_run tbOk 3 hA (e' := (40, .bool false) :: (39, .agg #[.int .i64 0, .int .i64 0, .int .i64 0, .int .i64 0, .bool false]) :: (35, .tuple #[.agg #[.int .i64 0, .int .i64 0, .int .i64 0, .int .i64 0, .bool false], .bool false]) :: _) rfl ?_; clear hA; intro a hA
         refine st_alloc tbOk hA hS [.int .i64 0, .int .i64 0, .int .i64 0, .int .i64 0, .bool false] rfl rfl rfl rfl rfl (by decide) ?_; clear hA hS; intro b56 w57 a hS hA
         refine st_store tbOk hA hS [.int .i64 0, .int .i64 0, .int .i64 0, .int .i64 0, .bool false] [.int .i64 0, .int .i64 0, .int .i64 0, .int .i64 0, .bool false] rfl rfl rfl rfl rfl rfl (by simp [Value.oneCell']) (Nat.le_of_ble_eq_true rfl) rfl rfl rfl ?_; clear hS; intro w58 hS
         refine st_run tbOk 1 hA (e' := (11, .bool false) :: _) rfl ?_; clear hA; intro a hA
         refine wpList_nil ?_
         replace hA := hA.sel [1, 5, 6, 7, 10, 11] (e' := [(1, .int .i64 t), (5, .slice A5 ms.length c6), (6, .pointer (some ⟨b7, 0, none⟩)), (7, .bool false), (10, .pointer (some ⟨b56, 0, none⟩)), (11, .bool false)]) rfl
         refine xt_norm ?_
         refine wp_seq ?_
         refine wp_seq ?_
         refine wp_region_lit ?_
         refine st_run tbOk 4 hA (e' := (44, .bool false) :: (43, .bool false) :: (42, .bool false) :: (41, .bool false) :: _) rfl ?_; clear hA; intro a hA
         refine st_val hA rfl rfl (by decide) (rn_loadA tbOk hA [.int .i64 0, .int .i64 0, .int .i64 0, .int .i64 0, .bool false] rfl rfl rfl rfl rfl (cells_row (hS.heapAt 0 rfl) rfl)) ?_; clear hA; intro a hA
         refine st_val hA rfl rfl (by decide) (rn_loadA tbOk hA [.int .i64 0, .int .i64 0, .int .i64 0, .int .i64 0, .bool false] rfl rfl rfl rfl rfl (cells_row (hS.heapAt 1 rfl) rfl)) ?_; clear hA; intro a hA
         refine st_val hA rfl rfl (by decide) (rn_neA tbOk hA rfl rfl rfl rfl rfl (by kernel_rfl) (by kernel_rfl) rfl) ?_; clear hA; intro a hA
         replace hA := hA.rw 47 (v' := .bool false) rfl (by simp)
         refine st_run tbOk 1 hA (e' := (48, .bool false) :: _) rfl ?_; clear hA; intro a hA
         refine wpList_nil ?_
         replace hA := hA.sel [1, 5, 6, 7, 48] (e' := [(1, .int .i64 t), (5, .slice A5 ms.length c6), (6, .pointer (some ⟨b7, 0, none⟩)), (7, .bool false), (48, .bool false)]) rfl
         refine xt_norm ?_
         refine cd_cond_f hA rfl ?_
         refine wp_skip ?_
         refine xt_norm ?_
         refine wp_seq ?_
         refine wp_region_lit ?_
         refine st_run tbOk 2 hA (e' := (51, .int .i64 t) :: (50, .slice A5 ms.length c6) :: _) rfl ?_; clear hA; intro a hA
         refine st_call0 hA rfl rfl rfl isfn17 rfl rfl (by decide) (remove_none17 hS (l := ms) (RdS.own hO4 2 rfl) t (fun k2 y2 hy2 h9 => hno2 k2 y2 hy2 (hM.based hy2 h9))) ?_
         clear hA hS; rintro v w59 a ⟨rfl, hS⟩ hA
         refine st_run tbOk 5 hA (e' := (13, .iface 30 (.int .i64 12)) :: (12, .slice none 0 0) :: (54, .iface 30 (.int .i64 12)) :: (53, .slice none 0 0) :: (49, .tuple #[.slice none 0 0, .iface 30 (.int .i64 12)]) :: _) rfl ?_; clear hA; intro a hA
         refine wpList_nil ?_
         replace hA := hA.sel [1, 5, 6, 7, 12, 13] (e' := [(1, .int .i64 t), (5, .slice A5 ms.length c6), (6, .pointer (some ⟨b7, 0, none⟩)), (7, .bool false), (12, .slice none 0 0), (13, .iface 30 (.int .i64 12))]) rfl
         refine xt_norm ?_
         refine wp_seq ?_
         refine wp_seq ?_
         refine wp_region_lit ?_
         refine st_run tbOk 8 hA (e' := (62, .bool true) :: (61, undef) :: (60, undef) :: (59, undef) :: (58, undef) :: (57, .bool true) :: (56, .bool true) :: (55, .bool false) :: _) rfl ?_; clear hA; intro a hA
         refine wpList_nil ?_
         replace hA := hA.sel [1, 5, 6, 12, 13, 62] (e' := [(1, .int .i64 t), (5, .slice A5 ms.length c6), (6, .pointer (some ⟨b7, 0, none⟩)), (12, .slice none 0 0), (13, .iface 30 (.int .i64 12)), (62, .bool true)]) rfl
         refine xt_norm ?_
         refine cd_cond_t hA rfl ?_
         refine wp_seq ?_
         refine wp_region_lit ?_
         refine st_run tbOk 5 hA (e' := (67, .iface 30 (.int .i64 12)) :: (66, .bool true) :: (65, .bool true) :: (64, .int .i64 0) :: (63, .slice none 0 0) :: _) rfl ?_; clear hA; intro a hA
         refine st_call0 hA rfl rfl rfl isfn13 rfl rfl (by decide) (number_hit13 hS hg 12) ?_
         clear hA hS; rintro v w60 a ⟨rfl, hS⟩ hA
         refine st_run tbOk 3 hA (e' := (4, .bool true) :: (70, .bool true) :: (69, .bool true) :: _) rfl ?_; clear hA; intro a hA
         refine wpList_nil ?_
         replace hA := hA.sel [4] (e' := [(4, .bool true)]) rfl
         refine xt_norm ?_
         refine wp_ret (xt_ret ?_)
         refine ret1 (fn := Tryd.f7) hA rfl rfl ?_
         replace hS := hS.drop1
         replace hS := hS.drop1
         replace hS := hS.drop1
         exact ⟨rfl, hS⟩)
end Go.Proofs.YtplhgbfibiinaaaDoor
