import Derived.Test.YtplhgbfibiinaaaDoorJ
set_option linter.unusedVariables false
set_option linter.unusedSimpArgs false
set_option maxRecDepth 4000
namespace Go.Proofs.YtplhgbfibiinaaaDoor
open Go Go.SK
theorem add_four {l : List Area} (h : MOk l) (a : Area) : ¬ (0 ≤ ao a ∧ 0 ≤ ag a) ∨ (0 ≤ ao a ∧ 0 ≤ ag a) ∧ ((∃ (j : Nat) (y : Area), l[j]? = some y ∧ Ovl a y) ∨ ((∀ y ∈ l, ¬ Ovl a y) ∧ 64 ≤ l.length) ∨ ((∀ y ∈ l, ¬ Ovl a y) ∧ l.length < 64 ∧ ∃ i, Pl l a i)) := by
  by_cases h2 : 0 ≤ ao a ∧ 0 ≤ ag a
  · exact .inr ⟨h2, add_cases h a⟩
  · exact .inl h2
theorem addlaw3 {w0 w : World} {F : List Chunk} (hg : HG w0) (hS : St w0 w F) {v : Value} {l : List Area} (hr : RdS w0 F 5 v l.length (rows encArea l)) (x : Area) (sm : Bool) :
    Ret Tryd.prog 3 #[v, .agg #[.int .i64 x.1, .int .i64 x.2.1, .int .i64 x.2.2.1, .int .i64 x.2.2.2.1, .bool x.2.2.2.2], .bool sm] w (fun v w' => v = .bool true ∧ St w0 w' F) := by
  obtain ⟨A, c, rfl, hmc, hcx⟩ := (hr w hS).open'
  obtain ⟨c0, c1, c2, c3, c4⟩ := x
  refine enter (vs := [.slice A l.length c, .agg #[.int .i64 c0, .int .i64 c1, .int .i64 c2, .int .i64 c3, .bool c4], .bool sm]) 164 Tryd.func3 rfl rfl (by simp) ?_; intro a hA
  refine wp_seq ?_
  refine wp_region_lit ?_
  refine st_box hA hS [.int .i64 c0, .int .i64 c1, .int .i64 c2, .int .i64 c3, .bool c4] rfl rfl rfl rfl rfl (by decide) ?_; clear hA hS; intro b1 w2 a hS hA
  refine st_run tbOk 1 hA (e' := (6, .bool false) :: _) rfl ?_; clear hA; intro a hA
  refine wpList_nil ?_
  replace hA := hA.sel [0, 2, 4] (e' := [(0, .slice A l.length c), (2, .bool sm), (4, .pointer (some ⟨b1, 0, none⟩))]) rfl
  refine xt_norm ?_
  refine wp_seq ?_
  refine wp_seq ?_
  refine wp_region_lit ?_
  refine st_call0 hA rfl rfl rfl isfn8 rfl rfl (by decide) (awake8 hS hg) ?_
  clear hA hS; rintro v w3 a ⟨rfl, hS⟩ hA
  refine st_run tbOk 1 hA (e' := (19, .bool false) :: _) rfl ?_; clear hA; intro a hA
  refine wpList_nil ?_
  replace hA := hA.sel [0, 2, 4, 19] (e' := [(0, .slice A l.length c), (2, .bool sm), (4, .pointer (some ⟨b1, 0, none⟩)), (19, .bool false)]) rfl
  refine xt_norm ?_
  refine cd_cond_f hA rfl ?_
  refine wp_skip ?_
  refine xt_norm ?_
  refine wp_seq ?_
  refine wp_region_lit ?_
  refine st_run tbOk 1 hA (e' := (20, .slice A l.length c) :: _) rfl ?_; clear hA; intro a hA
  refine st_call0 hA rfl rfl rfl isfn9 rfl rfl (by decide) (make9 hS (l := l) (fun w' h => (hr _ (h.tail 1 rfl)))) ?_
  clear hA hS; rintro v5 w4 a ⟨ms, C6, hM, hO6, hS⟩ hA
  obtain ⟨A7, c8, rfl, hmc8, hxc8⟩ := hO6.open'
  have hml := hM.n
  refine st_run tbOk 1 hA (e' := (7, .slice A7 ms.length c8) :: _) rfl ?_; clear hA; intro a hA
  refine wpList_nil ?_
  replace hA := hA.sel [2, 4, 7] (e' := [(2, .bool sm), (4, .pointer (some ⟨b1, 0, none⟩)), (7, .slice A7 ms.length c8)]) rfl
  refine xt_norm ?_
  refine wp_seq_join (fun a w => ∃ (a0 : Int) (a1 : Int) (a2 : Int) (a3 : Int) (a4 : Bool) (b : Nat), Has a 164 [(4, .pointer (some ⟨b, 0, none⟩)), (7, .slice A7 ms.length c8)] ∧ St w0 w ([(b, rowO [.int .i64 a0, .int .i64 a1, .int .i64 a2, .int .i64 a3, .bool a4] 24)] :: C6 :: F)) ?_ ?_
  · refine wp_seq ?_
    refine wp_region_lit ?_
    refine st_run tbOk 1 hA (e' := (22, .bool sm) :: _) rfl ?_; clear hA; intro a hA
    refine wpList_nil ?_
    replace hA := hA.sel [4, 7, 22] (e' := [(4, .pointer (some ⟨b1, 0, none⟩)), (7, .slice A7 ms.length c8), (22, .bool sm)]) rfl
    refine xt_norm ?_
    by_cases hc9 : sm = true
    · first
      | (exfalso; omega)
      | (replace hA := hA.rw 22 (v' := .bool true) rfl (vb_t hc9)
         refine cd_cond_t hA rfl ?_
         refine wp_region_lit ?_
         refine st_val hA rfl rfl (by decide) (rn_loadA tbOk hA [.int .i64 c0, .int .i64 c1, .int .i64 c2, .int .i64 c3, .bool c4] rfl rfl rfl rfl rfl (cells_row (hS.heapAt 1 rfl) rfl)) ?_; clear hA; intro a hA
         refine st_call0 hA rfl rfl rfl isfn10 rfl rfl (by decide) (small10 hS (c0, c1, c2, c3, c4)) ?_
         clear hA hS; rintro _ w11 a ⟨⟨y10n0, y10n1, y10n2, y10n3, y10n4⟩, hy10, rfl, hS⟩ hA
         have h2y10 := hy10; dsimp only [SOk, ab, az, ag, ao] at h2y10
         replace hS := hS.front 1 (C := [(b1, rowO [.int .i64 c0, .int .i64 c1, .int .i64 c2, .int .i64 c3, .bool c4] 24)]) (L' := C6 :: F) rfl rfl
         refine st_store tbOk hA hS [.int .i64 y10n0, .int .i64 y10n1, .int .i64 y10n2, .int .i64 y10n3, .bool y10n4] [.int .i64 y10n0, .int .i64 y10n1, .int .i64 y10n2, .int .i64 y10n3, .bool y10n4] rfl rfl rfl rfl rfl rfl (by simp [Value.oneCell']) (Nat.le_of_ble_eq_true rfl) rfl rfl rfl ?_; clear hS; intro w12 hS
         refine wpList_nil ?_
         replace hA := hA.sel [4, 7] (e' := [(4, .pointer (some ⟨b1, 0, none⟩)), (7, .slice A7 ms.length c8)]) rfl
         refine xt_norm ?_
         replace hS := hS.front 1 (C := C6) (L' := [(b1, rowO [.int .i64 y10n0, .int .i64 y10n1, .int .i64 y10n2, .int .i64 y10n3, .bool y10n4] 24)] :: F) rfl rfl
         replace hS := hS.front 1 (C := [(b1, rowO [.int .i64 y10n0, .int .i64 y10n1, .int .i64 y10n2, .int .i64 y10n3, .bool y10n4] 24)]) (L' := C6 :: F) rfl rfl
         exact ⟨y10n0, y10n1, y10n2, y10n3, y10n4, b1, (hA.sel [4, 7] rfl), hS⟩)
    · first
      | (exfalso; omega)
      | (replace hA := hA.rw 22 (v' := .bool false) rfl (vb_f hc9)
         refine cd_cond_f hA rfl ?_
         refine wp_skip ?_
         refine xt_norm ?_
         replace hS := hS.front 1 (C := [(b1, rowO [.int .i64 c0, .int .i64 c1, .int .i64 c2, .int .i64 c3, .bool c4] 24)]) (L' := C6 :: F) rfl rfl
         exact ⟨c0, c1, c2, c3, c4, b1, (hA.sel [4, 7] rfl), hS⟩)
  · clear hA hS; rintro a w13 ⟨a0, a1, a2, a3, a4, b, hA, hS⟩
    refine wp_seq ?_
    refine wp_region_lit ?_
    refine st_run tbOk 1 hA (e' := (8, .bool false) :: _) rfl ?_; clear hA; intro a hA
    refine wpList_nil ?_
    refine xt_norm ?_
    refine wp_seq ?_
    refine wp_seq ?_
    refine wp_region_lit ?_
    by_cases hv : Val (a0, a1, a2, a3, a4)
    · have hv2 := hv; dsimp only [Val, ab, az] at hv2
      refine st_run tbOk 3 hA (e' := (27, .int .i64 0) :: (26, .int .i64 ((ms.length : Nat) : Int)) :: (25, .slice A7 ms.length c8) :: _) rfl ?_; clear hA; intro a hA
      refine wpList_nil ?_
      refine xt_norm ?_
      refine wp_block ?_
      replace hS := hS.front 1 (C := C6) (L' := [(b, rowO [.int .i64 a0, .int .i64 a1, .int .i64 a2, .int .i64 a3, .bool a4] 24)] :: F) rfl rfl
      replace hS := hS.front 1 (C := [(b, rowO [.int .i64 a0, .int .i64 a1, .int .i64 a2, .int .i64 a3, .bool a4] 24)]) (L' := C6 :: F) rfl rfl
      refine wp_loop_ghost (fun m a w => ∃ (ov : Bool) (k : Nat), m = ms.length - k ∧ Has a 164 [(4, .pointer (some ⟨b, 0, none⟩)), (7, .slice A7 ms.length c8), (8, .bool ov), (25, .slice A7 ms.length c8), (26, .int .i64 ((ms.length : Nat) : Int)), (27, .int .i64 ((k : Nat) : Int))] ∧ St w0 w ([(b, rowO [.int .i64 a0, .int .i64 a1, .int .i64 a2, .int .i64 a3, .bool a4] 24)] :: C6 :: F) ∧ (k ≤ ms.length) ∧ (ov = true ↔ ∃ (i : Nat) (y : Area), i < k ∧ ms[i]? = some y ∧ Ovl (a0, a1, a2, a3, a4) y)) (ms.length - 0)
        ⟨false, 0, rfl, (hA.sel [4, 7, 8, 25, 26, 27] rfl), hS, Nat.zero_le _, ⟨fun h => absurd h (by decide), fun ⟨i, y, h, _⟩ => absurd h (by omega)⟩⟩ ?_
      clear hA hS; rintro m0 a w14 ⟨ov, k, rfl, hA, hS, hk, hov⟩
      refine wp_seq ?_
      refine wp_region_lit ?_
      refine st_run tbOk 1 hA (e' := (28, .bool (decide (((k : Nat) : Int) < ((ms.length : Nat) : Int)))) :: _) rfl ?_; clear hA; intro a hA
      refine wpList_nil ?_
      refine xt_norm ?_
      refine wp_seq ?_
      by_cases hc15 : ((k : Nat) : Int) < ((ms.length : Nat) : Int)
      · first
        | (exfalso; omega)
        | (replace hA := hA.rw 28 (v' := .bool true) rfl (vb_true hc15)
           refine cd_cond_t hA rfl ?_
           refine wp_skip ?_
           refine xt_norm ?_
           refine wp_seq ?_
           refine wp_block ?_
           refine wp_seq ?_
           refine wp_region_lit ?_
           obtain ⟨b16, o17, rfl⟩ := hO6.isSome (k := k) (by omega)
           refine st_val hA rfl rfl (by decide) (rn_indexAddr tbOk hA k (o17 + (k * 5)) rfl rfl rfl rfl rfl rfl (by rfl) (by omega) (by first | rfl | simp [Nat.mul_one, Nat.zero_add] | omega)) ?_; clear hA; intro a hA
           obtain ⟨x18, hx18⟩ := get_ex (l := ms) (k := k) (by omega)
           obtain ⟨x18f0, x18f1, x18f2, x18f3, x18f4⟩ := x18
           have hk19 := hM.s _ (List.mem_of_getElem? hx18); dsimp only [SOk, ab, az, ag, ao] at hk19
           refine st_val hA rfl rfl (by decide) (rn_loadA tbOk hA ([.int .i64 x18f0, .int .i64 x18f1, .int .i64 x18f2, .int .i64 x18f3, .bool x18f4]) rfl rfl rfl rfl (by rfl) ((hO6.rd (hS.own_ 1 rfl)).elem (k := k) encArea_ok hx18)) ?_; clear hA; intro a hA
           refine st_alloc tbOk hA hS [.int .i64 0, .int .i64 0, .int .i64 0, .int .i64 0, .bool false] rfl rfl rfl rfl rfl (by decide) ?_; clear hA hS; intro b20 w21 a hS hA
           refine st_store tbOk hA hS [.int .i64 x18f0, .int .i64 x18f1, .int .i64 x18f2, .int .i64 x18f3, .bool x18f4] [.int .i64 x18f0, .int .i64 x18f1, .int .i64 x18f2, .int .i64 x18f3, .bool x18f4] rfl rfl rfl rfl rfl rfl (by simp [Value.oneCell']) (Nat.le_of_ble_eq_true rfl) rfl rfl rfl ?_; clear hS; intro w22 hS
           refine wpList_nil ?_
           replace hA := hA.sel [4, 7, 8, 10, 25, 26, 27] (e' := [(4, .pointer (some ⟨b, 0, none⟩)), (7, .slice (some ⟨b16, o17, none⟩) ms.length c8), (8, .bool ov), (10, .pointer (some ⟨b20, 0, none⟩)), (25, .slice (some ⟨b16, o17, none⟩) ms.length c8), (26, .int .i64 ((ms.length : Nat) : Int)), (27, .int .i64 ((k : Nat) : Int))]) rfl
           refine xt_norm ?_
           refine wp_seq ?_
           refine wp_region_lit ?_
           refine st_run tbOk 1 hA (e' := (31, .pointer (some ⟨b20, 0, none⟩)) :: _) rfl ?_; clear hA; intro a hA
           refine st_val hA rfl rfl (by decide) (rn_load tbOk hA rfl rfl rfl rfl (cell_row (hS.heapAt 0 rfl) rfl)) ?_; clear hA; intro a hA
           refine st_run tbOk 1 hA (e' := (11, .int .i64 x18f0) :: _) rfl ?_; clear hA; intro a hA
           refine wpList_nil ?_
           replace hA := hA.sel [4, 7, 8, 10, 11, 25, 26, 27] (e' := [(4, .pointer (some ⟨b, 0, none⟩)), (7, .slice (some ⟨b16, o17, none⟩) ms.length c8), (8, .bool ov), (10, .pointer (some ⟨b20, 0, none⟩)), (11, .int .i64 x18f0), (25, .slice (some ⟨b16, o17, none⟩) ms.length c8), (26, .int .i64 ((ms.length : Nat) : Int)), (27, .int .i64 ((k : Nat) : Int))]) rfl
           refine xt_norm ?_
           refine wp_block ?_
           replace hA := hA.rw 11 (v' := .int .i64 (x18f0 + ((0 : Nat) : Int))) rfl (vint (by omega))
           refine wp_loop_ghost (fun m a w => ∃ (ov2 : Bool) (q : Nat), m = x18f1.toNat - q ∧ Has a 164 [(4, .pointer (some ⟨b, 0, none⟩)), (7, .slice (some ⟨b16, o17, none⟩) ms.length c8), (8, .bool ov2), (10, .pointer (some ⟨b20, 0, none⟩)), (11, .int .i64 (x18f0 + ((q : Nat) : Int))), (25, .slice (some ⟨b16, o17, none⟩) ms.length c8), (26, .int .i64 ((ms.length : Nat) : Int)), (27, .int .i64 ((k : Nat) : Int))] ∧ St w0 w ([(b20, rowO [.int .i64 x18f0, .int .i64 x18f1, .int .i64 x18f2, .int .i64 x18f3, .bool x18f4] 24)] :: [(b, rowO [.int .i64 a0, .int .i64 a1, .int .i64 a2, .int .i64 a3, .bool a4] 24)] :: C6 :: F) ∧ (((q : Nat) : Int) ≤ x18f1) ∧ (ov2 = true ↔ (ov = true ∨ ∃ d : Nat, d < q ∧ InA (a0, a1, a2, a3, a4) (x18f0 + ((d : Nat) : Int))))) (x18f1.toNat - 0)
             ⟨ov, 0, rfl, (hA.sel [4, 7, 8, 10, 11, 25, 26, 27] rfl), hS, (by omega), ⟨fun h => .inl h, fun h => h.elim id (fun ⟨d, h, _⟩ => absurd h (by omega))⟩⟩ ?_
           clear hA hS; rintro m0 a w23 ⟨ov2, q, rfl, hA, hS, hq, hov2⟩
           refine wp_seq ?_
           refine wp_seq ?_
           refine wp_region_lit ?_
           refine st_run tbOk 2 hA (e' := (34, .pointer (some ⟨b20, 0, none⟩)) :: (33, .int .i64 (x18f0 + ((q : Nat) : Int))) :: _) rfl ?_; clear hA; intro a hA
           refine st_val hA rfl rfl (by decide) (rn_load tbOk hA rfl rfl rfl rfl (cell_row (hS.heapAt 0 rfl) rfl)) ?_; clear hA; intro a hA
           refine st_run tbOk 1 hA (e' := (36, .pointer (some ⟨b20, 1, none⟩)) :: _) rfl ?_; clear hA; intro a hA
           refine st_val hA rfl rfl (by decide) (rn_load tbOk hA rfl rfl rfl rfl (cell_row (hS.heapAt 0 rfl) rfl)) ?_; clear hA; intro a hA
           refine st_run tbOk 1 hA (e' := (38, .int .i64 (IntKind.i64.wrap (x18f0 + x18f1))) :: _) rfl ?_; clear hA; intro a hA
           replace hA := hA.rw 38 (v' := .int .i64 (x18f0 + x18f1)) rfl (wr64 (by omega) (by omega) (by omega))
           refine st_run tbOk 1 hA (e' := (39, .bool (decide (x18f0 + ((q : Nat) : Int) < x18f0 + x18f1))) :: _) rfl ?_; clear hA; intro a hA
           refine wpList_nil ?_
           replace hA := hA.sel [4, 7, 8, 10, 11, 25, 26, 27, 39] (e' := [(4, .pointer (some ⟨b, 0, none⟩)), (7, .slice (some ⟨b16, o17, none⟩) ms.length c8), (8, .bool ov2), (10, .pointer (some ⟨b20, 0, none⟩)), (11, .int .i64 (x18f0 + ((q : Nat) : Int))), (25, .slice (some ⟨b16, o17, none⟩) ms.length c8), (26, .int .i64 ((ms.length : Nat) : Int)), (27, .int .i64 ((k : Nat) : Int)), (39, .bool (decide (x18f0 + ((q : Nat) : Int) < x18f0 + x18f1)))]) rfl
           refine xt_norm ?_
           by_cases hc24 : x18f0 + ((q : Nat) : Int) < x18f0 + x18f1
           · first
             | (exfalso; omega)
             | (replace hA := hA.rw 39 (v' := .bool true) rfl (vb_true hc24)
                refine cd_cond_t hA rfl ?_
                refine wp_skip ?_
                refine xt_norm ?_
                refine wp_seq ?_
                refine wp_block ?_
                refine wp_region_lit ?_
                refine st_run tbOk 2 hA (e' := (43, .bool ov2) :: (42, .bool ov2) :: _) rfl ?_; clear hA; intro a hA
                by_cases hc25 : ov2 = true
                · first
                  | (exfalso; omega)
                  | (replace hA := hA.rw 8 (v' := .bool true) rfl (vb_t hc25)
                     replace hA := hA.rw 42 (v' := .bool true) rfl (vb_t hc25)
                     replace hA := hA.rw 43 (v' := .bool true) rfl (vb_t hc25)
                     refine st_run tbOk 5 hA (e' := (8, .bool true) :: (47, .bool true) :: (46, undef) :: (45, undef) :: (44, undef) :: _) rfl ?_; clear hA; intro a hA
                     refine wpList_nil ?_
                     replace hA := hA.sel [4, 7, 8, 10, 11, 25, 26, 27] (e' := [(4, .pointer (some ⟨b, 0, none⟩)), (7, .slice (some ⟨b16, o17, none⟩) ms.length c8), (8, .bool true), (10, .pointer (some ⟨b20, 0, none⟩)), (11, .int .i64 (x18f0 + ((q : Nat) : Int))), (25, .slice (some ⟨b16, o17, none⟩) ms.length c8), (26, .int .i64 ((ms.length : Nat) : Int)), (27, .int .i64 ((k : Nat) : Int))]) rfl
                     refine xb_norm ?_
                     refine xt_norm ?_
                     refine wp_region_lit ?_
                     refine st_run tbOk 2 hA (e' := (41, .int .i64 (IntKind.i64.wrap ((x18f0 + ((q : Nat) : Int)) + 1))) :: (40, .int .i64 (x18f0 + ((q : Nat) : Int))) :: _) rfl ?_; clear hA; intro a hA
                     replace hA := hA.rw 41 (v' := .int .i64 ((x18f0 + ((q : Nat) : Int)) + 1)) rfl (wr64 (by omega) (by omega) (by omega))
                     refine st_run tbOk 1 hA (e' := (11, .int .i64 ((x18f0 + ((q : Nat) : Int)) + 1)) :: _) rfl ?_; clear hA; intro a hA
                     refine wpList_nil ?_
                     replace hA := hA.sel [4, 7, 8, 10, 11, 25, 26, 27] (e' := [(4, .pointer (some ⟨b, 0, none⟩)), (7, .slice (some ⟨b16, o17, none⟩) ms.length c8), (8, .bool true), (10, .pointer (some ⟨b20, 0, none⟩)), (11, .int .i64 ((x18f0 + ((q : Nat) : Int)) + 1)), (25, .slice (some ⟨b16, o17, none⟩) ms.length c8), (26, .int .i64 ((ms.length : Nat) : Int)), (27, .int .i64 ((k : Nat) : Int))]) rfl
                     replace hS := hS.front 2 (C := C6) (L' := [(b20, rowO [.int .i64 x18f0, .int .i64 x18f1, .int .i64 x18f2, .int .i64 x18f3, .bool x18f4] 24)] :: [(b, rowO [.int .i64 a0, .int .i64 a1, .int .i64 a2, .int .i64 a3, .bool a4] 24)] :: F) rfl rfl
                     replace hS := hS.front 2 (C := [(b, rowO [.int .i64 a0, .int .i64 a1, .int .i64 a2, .int .i64 a3, .bool a4] 24)]) (L' := C6 :: [(b20, rowO [.int .i64 x18f0, .int .i64 x18f1, .int .i64 x18f2, .int .i64 x18f3, .bool x18f4] 24)] :: F) rfl rfl
                     replace hS := hS.front 2 (C := [(b20, rowO [.int .i64 x18f0, .int .i64 x18f1, .int .i64 x18f2, .int .i64 x18f3, .bool x18f4] 24)]) (L' := [(b, rowO [.int .i64 a0, .int .i64 a1, .int .i64 a2, .int .i64 a3, .bool a4] 24)] :: C6 :: F) rfl rfl
                     replace hA := hA.rw 11 (v' := .int .i64 (x18f0 + ((q + 1 : Nat) : Int))) rfl (vint (by omega))
                     exact lp_next _ (by omega) ⟨true, (q + 1), rfl, (hA.sel [4, 7, 8, 10, 11, 25, 26, 27] rfl), hS, by omega, ⟨fun _ => (hov2.1 (by assumption)).imp id (fun ⟨d, h1, h2⟩ => ⟨d, by omega, h2⟩), fun _ => rfl⟩⟩)
                · first
                  | (exfalso; omega)
                  | (replace hA := hA.rw 8 (v' := .bool false) rfl (vb_f hc25)
                     replace hA := hA.rw 42 (v' := .bool false) rfl (vb_f hc25)
                     replace hA := hA.rw 43 (v' := .bool false) rfl (vb_f hc25)
                     refine st_val hA rfl rfl (by decide) (rn_loadA tbOk hA [.int .i64 a0, .int .i64 a1, .int .i64 a2, .int .i64 a3, .bool a4] rfl rfl rfl rfl rfl (cells_row (hS.heapAt 1 rfl) rfl)) ?_; clear hA; intro a hA
                     refine st_run tbOk 1 hA (e' := (45, .int .i64 (x18f0 + ((q : Nat) : Int))) :: _) rfl ?_; clear hA; intro a hA
                     refine st_call0 hA rfl rfl rfl isfn11 rfl rfl (by decide) (has_ok11 hS (a0, a1, a2, a3, a4) (x18f0 + ((q : Nat) : Int)) (by dsimp only [ab]; omega) (by omega)) ?_
                     clear hA hS; rintro v w26 a ⟨rfl, hS⟩ hA
                     refine st_run tbOk 2 hA (e' := (8, .bool (decide (a0 ≤ (x18f0 + ((q : Nat) : Int)) ∧ (x18f0 + ((q : Nat) : Int)) < a0 + a1))) :: (47, .bool (decide (a0 ≤ (x18f0 + ((q : Nat) : Int)) ∧ (x18f0 + ((q : Nat) : Int)) < a0 + a1))) :: _) rfl ?_; clear hA; intro a hA
                     refine wpList_nil ?_
                     replace hA := hA.sel [4, 7, 8, 10, 11, 25, 26, 27] (e' := [(4, .pointer (some ⟨b, 0, none⟩)), (7, .slice (some ⟨b16, o17, none⟩) ms.length c8), (8, .bool (decide (a0 ≤ (x18f0 + ((q : Nat) : Int)) ∧ (x18f0 + ((q : Nat) : Int)) < a0 + a1))), (10, .pointer (some ⟨b20, 0, none⟩)), (11, .int .i64 (x18f0 + ((q : Nat) : Int))), (25, .slice (some ⟨b16, o17, none⟩) ms.length c8), (26, .int .i64 ((ms.length : Nat) : Int)), (27, .int .i64 ((k : Nat) : Int))]) rfl
                     refine xb_norm ?_
                     refine xt_norm ?_
                     refine wp_region_lit ?_
                     refine st_run tbOk 2 hA (e' := (41, .int .i64 (IntKind.i64.wrap ((x18f0 + ((q : Nat) : Int)) + 1))) :: (40, .int .i64 (x18f0 + ((q : Nat) : Int))) :: _) rfl ?_; clear hA; intro a hA
                     replace hA := hA.rw 41 (v' := .int .i64 ((x18f0 + ((q : Nat) : Int)) + 1)) rfl (wr64 (by omega) (by omega) (by omega))
                     refine st_run tbOk 1 hA (e' := (11, .int .i64 ((x18f0 + ((q : Nat) : Int)) + 1)) :: _) rfl ?_; clear hA; intro a hA
                     refine wpList_nil ?_
                     replace hA := hA.sel [4, 7, 8, 10, 11, 25, 26, 27] (e' := [(4, .pointer (some ⟨b, 0, none⟩)), (7, .slice (some ⟨b16, o17, none⟩) ms.length c8), (8, .bool (decide (a0 ≤ (x18f0 + ((q : Nat) : Int)) ∧ (x18f0 + ((q : Nat) : Int)) < a0 + a1))), (10, .pointer (some ⟨b20, 0, none⟩)), (11, .int .i64 ((x18f0 + ((q : Nat) : Int)) + 1)), (25, .slice (some ⟨b16, o17, none⟩) ms.length c8), (26, .int .i64 ((ms.length : Nat) : Int)), (27, .int .i64 ((k : Nat) : Int))]) rfl
                     replace hS := hS.front 2 (C := C6) (L' := [(b20, rowO [.int .i64 x18f0, .int .i64 x18f1, .int .i64 x18f2, .int .i64 x18f3, .bool x18f4] 24)] :: [(b, rowO [.int .i64 a0, .int .i64 a1, .int .i64 a2, .int .i64 a3, .bool a4] 24)] :: F) rfl rfl
                     replace hS := hS.front 2 (C := [(b, rowO [.int .i64 a0, .int .i64 a1, .int .i64 a2, .int .i64 a3, .bool a4] 24)]) (L' := C6 :: [(b20, rowO [.int .i64 x18f0, .int .i64 x18f1, .int .i64 x18f2, .int .i64 x18f3, .bool x18f4] 24)] :: F) rfl rfl
                     replace hS := hS.front 2 (C := [(b20, rowO [.int .i64 x18f0, .int .i64 x18f1, .int .i64 x18f2, .int .i64 x18f3, .bool x18f4] 24)]) (L' := [(b, rowO [.int .i64 a0, .int .i64 a1, .int .i64 a2, .int .i64 a3, .bool a4] 24)] :: C6 :: F) rfl rfl
                     replace hA := hA.rw 11 (v' := .int .i64 (x18f0 + ((q + 1 : Nat) : Int))) rfl (vint (by omega))
                     exact lp_next _ (by omega) ⟨(decide (a0 ≤ (x18f0 + ((q : Nat) : Int)) ∧ (x18f0 + ((q : Nat) : Int)) < a0 + a1)), (q + 1), rfl, (hA.sel [4, 7, 8, 10, 11, 25, 26, 27] rfl), hS, by omega, ⟨fun h5 => .inr ⟨q, by omega, of_decide_eq_true h5⟩, fun h5 => by
                           rcases h5 with h5 | ⟨d, h6, h7⟩
                           · exact absurd (hov2.2 (.inl h5)) (by assumption)
                           · rcases Nat.lt_succ_iff_lt_or_eq.1 h6 with h6 | rfl
                             · exact absurd (hov2.2 (.inr ⟨d, h6, h7⟩)) (by assumption)
                             · exact decide_eq_true h7⟩⟩))
           · first
             | (exfalso; omega)
             | (replace hA := hA.rw 39 (v' := .bool false) rfl (vb_false hc24)
                refine cd_cond_f hA rfl ?_
                refine wp_exit ?_
                refine xt_exit ?_
                refine xt_exit ?_
                refine cd_exit_eq ?_
                refine xb_norm ?_
                refine xt_norm ?_
                refine wp_region_lit ?_
                refine st_run tbOk 1 hA (e' := (48, .int .i64 (IntKind.i64.wrap (((k : Nat) : Int) + 1))) :: _) rfl ?_; clear hA; intro a hA
                replace hA := hA.rw 48 (v' := .int .i64 ((k + 1 : Nat) : Int)) rfl (wr64 (by omega) (by omega) (by omega))
                refine st_run tbOk 1 hA (e' := (27, .int .i64 ((k + 1 : Nat) : Int)) :: _) rfl ?_; clear hA; intro a hA
                refine wpList_nil ?_
                replace hA := hA.sel [4, 7, 8, 25, 26, 27] (e' := [(4, .pointer (some ⟨b, 0, none⟩)), (7, .slice (some ⟨b16, o17, none⟩) ms.length c8), (8, .bool ov2), (25, .slice (some ⟨b16, o17, none⟩) ms.length c8), (26, .int .i64 ((ms.length : Nat) : Int)), (27, .int .i64 ((k + 1 : Nat) : Int))]) rfl
                replace hS := hS.drop1
                replace hS := hS.front 1 (C := C6) (L' := [(b, rowO [.int .i64 a0, .int .i64 a1, .int .i64 a2, .int .i64 a3, .bool a4] 24)] :: F) rfl rfl
                replace hS := hS.front 1 (C := [(b, rowO [.int .i64 a0, .int .i64 a1, .int .i64 a2, .int .i64 a3, .bool a4] 24)]) (L' := C6 :: F) rfl rfl
                exact lp_next _ (by omega) ⟨ov2, (k + 1), rfl, (hA.sel [4, 7, 8, 25, 26, 27] rfl), hS, by omega, ov_step hx18 hov hov2 (by dsimp only [az]; omega) (by dsimp only [az]; omega) (by dsimp only [az]; omega)⟩))
      · first
        | (exfalso; omega)
        | (replace hA := hA.rw 28 (v' := .bool false) rfl (vb_false hc15)
           refine cd_cond_f hA rfl ?_
           refine wp_exit ?_
           refine xt_exit ?_
           refine xt_exit ?_
           refine cd_exit_eq ?_
           refine xt_norm ?_
           refine wp_seq ?_
           refine wp_region_lit ?_
           have hkl : k = ms.length := by omega
           rcases add_four hM (a0, a1, a2, a3, a4) with h2 | ⟨h2, ⟨j, yo, hy, hovl⟩ | ⟨hn, hl⟩ | ⟨hn, hl, i, hp⟩⟩
           · have h3 := h2; dsimp only [ao, ag] at h3
             refine st_run tbOk 1 hA (e' := (12, .int .i64 0) :: _) rfl ?_; clear hA; intro a hA
             refine wpList_nil ?_
             replace hA := hA.sel [4, 7, 8, 12] (e' := [(4, .pointer (some ⟨b, 0, none⟩)), (7, .slice A7 ms.length c8), (8, .bool ov), (12, .int .i64 0)]) rfl
             refine xt_norm ?_
             refine wp_seq ?_
             refine wp_block ?_
             refine wp_seq ?_
             refine wp_region_lit ?_
             refine st_run tbOk 1 hA (e' := (50, .pointer (some ⟨b, 1, none⟩)) :: _) rfl ?_; clear hA; intro a hA
             refine st_val hA rfl rfl (by decide) (rn_load tbOk hA rfl rfl rfl rfl (cell_row (hS.heapAt 0 rfl) rfl)) ?_; clear hA; intro a hA
             refine st_run tbOk 2 hA (e' := (53, .bool (decide (a1 < 1))) :: (52, .bool (decide (a1 < 1))) :: _) rfl ?_; clear hA; intro a hA
             have hc27 : ¬ (a1 < 1) := by omega
             replace hA := hA.rw 52 (v' := .bool false) rfl (vb_false hc27)
             replace hA := hA.rw 53 (v' := .bool false) rfl (vb_false hc27)
             refine st_run tbOk 1 hA (e' := (54, .pointer (some ⟨b, 0, none⟩)) :: _) rfl ?_; clear hA; intro a hA
             refine st_val hA rfl rfl (by decide) (rn_load tbOk hA rfl rfl rfl rfl (cell_row (hS.heapAt 0 rfl) rfl)) ?_; clear hA; intro a hA
             refine st_run tbOk 3 hA (e' := (58, .bool (decide (a0 < 0))) :: (57, .bool (decide (a0 < 0))) :: (56, .bool (decide (a0 < 0))) :: _) rfl ?_; clear hA; intro a hA
             have hc28 : ¬ (a0 < 0) := by omega
             replace hA := hA.rw 56 (v' := .bool false) rfl (vb_false hc28)
             replace hA := hA.rw 57 (v' := .bool false) rfl (vb_false hc28)
             replace hA := hA.rw 58 (v' := .bool false) rfl (vb_false hc28)
             refine st_run tbOk 1 hA (e' := (59, .pointer (some ⟨b, 0, none⟩)) :: _) rfl ?_; clear hA; intro a hA
             refine st_val hA rfl rfl (by decide) (rn_load tbOk hA rfl rfl rfl rfl (cell_row (hS.heapAt 0 rfl) rfl)) ?_; clear hA; intro a hA
             refine st_run tbOk 3 hA (e' := (63, .bool (decide (a0 > 1073741824))) :: (62, .bool (decide (a0 > 1073741824))) :: (61, .bool (decide (a0 > 1073741824))) :: _) rfl ?_; clear hA; intro a hA
             have hc29 : ¬ (a0 > 1073741824) := by omega
             replace hA := hA.rw 61 (v' := .bool false) rfl (vb_false hc29)
             replace hA := hA.rw 62 (v' := .bool false) rfl (vb_false hc29)
             replace hA := hA.rw 63 (v' := .bool false) rfl (vb_false hc29)
             refine st_run tbOk 1 hA (e' := (64, .pointer (some ⟨b, 1, none⟩)) :: _) rfl ?_; clear hA; intro a hA
             refine st_val hA rfl rfl (by decide) (rn_load tbOk hA rfl rfl rfl rfl (cell_row (hS.heapAt 0 rfl) rfl)) ?_; clear hA; intro a hA
             refine st_run tbOk 1 hA (e' := (66, .pointer (some ⟨b, 0, none⟩)) :: _) rfl ?_; clear hA; intro a hA
             refine st_val hA rfl rfl (by decide) (rn_load tbOk hA rfl rfl rfl rfl (cell_row (hS.heapAt 0 rfl) rfl)) ?_; clear hA; intro a hA
             refine st_run tbOk 1 hA (e' := (68, .int .i64 (IntKind.i64.wrap (1073741824 - a0))) :: _) rfl ?_; clear hA; intro a hA
             replace hA := hA.rw 68 (v' := .int .i64 (1073741824 - a0)) rfl (wr64 (by omega) (by omega) (by omega))
             refine st_run tbOk 3 hA (e' := (49, .bool (decide (a1 > 1073741824 - a0))) :: (70, .bool (decide (a1 > 1073741824 - a0))) :: (69, .bool (decide (a1 > 1073741824 - a0))) :: _) rfl ?_; clear hA; intro a hA
             refine wpList_nil ?_
             replace hA := hA.sel [4, 7, 8, 12, 49] (e' := [(4, .pointer (some ⟨b, 0, none⟩)), (7, .slice A7 ms.length c8), (8, .bool ov), (12, .int .i64 0), (49, .bool (decide (a1 > 1073741824 - a0)))]) rfl
             refine xt_norm ?_
             have hc30 : ¬ (a1 > 1073741824 - a0) := by omega
             replace hA := hA.rw 49 (v' := .bool false) rfl (vb_false hc30)
             refine cd_cond_f hA rfl ?_
             refine wp_seq ?_
             refine wp_region_lit ?_
             refine st_run tbOk 1 hA (e' := (72, .pointer (some ⟨b, 3, none⟩)) :: _) rfl ?_; clear hA; intro a hA
             refine st_val hA rfl rfl (by decide) (rn_load tbOk hA rfl rfl rfl rfl (cell_row (hS.heapAt 0 rfl) rfl)) ?_; clear hA; intro a hA
             refine st_run tbOk 2 hA (e' := (75, .bool (decide (a3 < 0))) :: (74, .bool (decide (a3 < 0))) :: _) rfl ?_; clear hA; intro a hA
             by_cases hc31 : a3 < 0
             · first
               | (exfalso; omega)
               | (replace hA := hA.rw 74 (v' := .bool true) rfl (vb_true hc31)
                  replace hA := hA.rw 75 (v' := .bool true) rfl (vb_true hc31)
                  refine st_run tbOk 5 hA (e' := (71, .bool true) :: (79, .bool true) :: (78, undef) :: (77, undef) :: (76, undef) :: _) rfl ?_; clear hA; intro a hA
                  refine wpList_nil ?_
                  replace hA := hA.sel [4, 7, 8, 12, 71] (e' := [(4, .pointer (some ⟨b, 0, none⟩)), (7, .slice A7 ms.length c8), (8, .bool ov), (12, .int .i64 0), (71, .bool true)]) rfl
                  refine xt_norm ?_
                  refine cd_cond_t hA rfl ?_
                  refine wp_region_lit ?_
                  refine st_run tbOk 1 hA (e' := (12, .int .i64 4) :: _) rfl ?_; clear hA; intro a hA
                  refine wpList_nil ?_
                  replace hA := hA.sel [4, 7, 12] (e' := [(4, .pointer (some ⟨b, 0, none⟩)), (7, .slice A7 ms.length c8), (12, .int .i64 4)]) rfl
                  refine xb_norm ?_
                  refine xt_norm ?_
                  refine wp_seq ?_
                  refine wp_region_lit ?_
                  refine st_run tbOk 1 hA (e' := (87, .slice A7 ms.length c8) :: _) rfl ?_; clear hA; intro a hA
                  refine st_val hA rfl rfl (by decide) (rn_loadA tbOk hA [.int .i64 a0, .int .i64 a1, .int .i64 a2, .int .i64 a3, .bool a4] rfl rfl rfl rfl rfl (cells_row (hS.heapAt 0 rfl) rfl)) ?_; clear hA; intro a hA
                  refine st_call0 hA rfl rfl rfl isfn12 rfl rfl (by decide) (add_arg12 hS (l := ms) (RdS.own hO6 1 rfl) (a0, a1, a2, a3, a4) hv h2) ?_
                  clear hA hS; rintro v w32 a ⟨rfl, hS⟩ hA
                  refine st_run tbOk 5 hA (e' := (14, .iface 30 (.int .i64 4)) :: (13, .slice none 0 0) :: (91, .iface 30 (.int .i64 4)) :: (90, .slice none 0 0) :: (86, .tuple #[.slice none 0 0, .iface 30 (.int .i64 4)]) :: _) rfl ?_; clear hA; intro a hA
                  refine wpList_nil ?_
                  replace hA := hA.sel [4, 7, 12, 13, 14] (e' := [(4, .pointer (some ⟨b, 0, none⟩)), (7, .slice A7 ms.length c8), (12, .int .i64 4), (13, .slice none 0 0), (14, .iface 30 (.int .i64 4))]) rfl
                  refine xt_norm ?_
                  refine wp_seq ?_
                  refine wp_seq ?_
                  refine wp_region_lit ?_
                  refine st_run tbOk 1 hA (e' := (92, .iface 30 (.int .i64 4)) :: _) rfl ?_; clear hA; intro a hA
                  refine st_call0 hA rfl rfl rfl isfn13 rfl rfl (by decide) (number_hit13 hS hg 4) ?_
                  clear hA hS; rintro v w33 a ⟨rfl, hS⟩ hA
                  refine st_run tbOk 18 hA (e' := (111, .bool false) :: (110, .bool false) :: (109, .bool false) :: (108, .int .i64 0) :: (107, .slice none 0 0) :: (106, .bool true) :: (105, .bool true) :: (104, .int .i64 4) :: (103, .bool false) :: (102, .bool false) :: (101, .bool false) :: (100, .bool false) :: (99, .int .i64 4) :: (98, .bool false) :: (97, .iface 30 (.int .i64 4)) :: (96, .bool false) :: (95, .bool false) :: (94, .int .i64 4) :: _) rfl ?_; clear hA; intro a hA
                  refine wpList_nil ?_
                  replace hA := hA.sel [4, 7, 12, 13, 111] (e' := [(4, .pointer (some ⟨b, 0, none⟩)), (7, .slice A7 ms.length c8), (12, .int .i64 4), (13, .slice none 0 0), (111, .bool false)]) rfl
                  refine xt_norm ?_
                  refine cd_cond_f hA rfl ?_
                  refine wp_skip ?_
                  refine xt_norm ?_
                  refine wp_seq ?_
                  refine wp_seq ?_
                  refine wp_region_lit ?_
                  refine st_run tbOk 2 hA (e' := (113, .bool true) :: (112, .int .i64 4) :: _) rfl ?_; clear hA; intro a hA
                  refine wpList_nil ?_
                  replace hA := hA.sel [4, 7, 13, 113] (e' := [(4, .pointer (some ⟨b, 0, none⟩)), (7, .slice A7 ms.length c8), (13, .slice none 0 0), (113, .bool true)]) rfl
                  refine xt_norm ?_
                  refine cd_cond_t hA rfl ?_
                  refine wp_seq ?_
                  refine wp_region_lit ?_
                  refine st_run tbOk 1 hA (e' := (6, .bool true) :: _) rfl ?_; clear hA; intro a hA
                  refine wpList_nil ?_
                  replace hA := hA.sel [6] (e' := [(6, .bool true)]) rfl
                  refine xt_norm ?_
                  refine wp_ret (xt_ret ?_)
                  refine ret1 (fn := Tryd.f3) hA rfl rfl ?_
                  replace hS := hS.drop1
                  replace hS := hS.drop1
                  exact ⟨rfl, hS⟩)
             · first
               | (exfalso; omega)
               | (replace hA := hA.rw 74 (v' := .bool false) rfl (vb_false hc31)
                  replace hA := hA.rw 75 (v' := .bool false) rfl (vb_false hc31)
                  refine st_run tbOk 1 hA (e' := (76, .pointer (some ⟨b, 2, none⟩)) :: _) rfl ?_; clear hA; intro a hA
                  refine st_val hA rfl rfl (by decide) (rn_load tbOk hA rfl rfl rfl rfl (cell_row (hS.heapAt 0 rfl) rfl)) ?_; clear hA; intro a hA
                  refine st_run tbOk 3 hA (e' := (71, .bool (decide (a2 < 0))) :: (79, .bool (decide (a2 < 0))) :: (78, .bool (decide (a2 < 0))) :: _) rfl ?_; clear hA; intro a hA
                  refine wpList_nil ?_
                  replace hA := hA.sel [4, 7, 8, 12, 71] (e' := [(4, .pointer (some ⟨b, 0, none⟩)), (7, .slice A7 ms.length c8), (8, .bool ov), (12, .int .i64 0), (71, .bool (decide (a2 < 0)))]) rfl
                  refine xt_norm ?_
                  by_cases hc34 : a2 < 0
                  · first
                    | (exfalso; omega)
                    | (replace hA := hA.rw 71 (v' := .bool true) rfl (vb_true hc34)
                       refine cd_cond_t hA rfl ?_
                       refine wp_region_lit ?_
                       refine st_run tbOk 1 hA (e' := (12, .int .i64 4) :: _) rfl ?_; clear hA; intro a hA
                       refine wpList_nil ?_
                       replace hA := hA.sel [4, 7, 12] (e' := [(4, .pointer (some ⟨b, 0, none⟩)), (7, .slice A7 ms.length c8), (12, .int .i64 4)]) rfl
                       refine xb_norm ?_
                       refine xt_norm ?_
                       refine wp_seq ?_
                       refine wp_region_lit ?_
                       refine st_run tbOk 1 hA (e' := (87, .slice A7 ms.length c8) :: _) rfl ?_; clear hA; intro a hA
                       refine st_val hA rfl rfl (by decide) (rn_loadA tbOk hA [.int .i64 a0, .int .i64 a1, .int .i64 a2, .int .i64 a3, .bool a4] rfl rfl rfl rfl rfl (cells_row (hS.heapAt 0 rfl) rfl)) ?_; clear hA; intro a hA
                       refine st_call0 hA rfl rfl rfl isfn12 rfl rfl (by decide) (add_arg12 hS (l := ms) (RdS.own hO6 1 rfl) (a0, a1, a2, a3, a4) hv h2) ?_
                       clear hA hS; rintro v w35 a ⟨rfl, hS⟩ hA
                       refine st_run tbOk 5 hA (e' := (14, .iface 30 (.int .i64 4)) :: (13, .slice none 0 0) :: (91, .iface 30 (.int .i64 4)) :: (90, .slice none 0 0) :: (86, .tuple #[.slice none 0 0, .iface 30 (.int .i64 4)]) :: _) rfl ?_; clear hA; intro a hA
                       refine wpList_nil ?_
                       replace hA := hA.sel [4, 7, 12, 13, 14] (e' := [(4, .pointer (some ⟨b, 0, none⟩)), (7, .slice A7 ms.length c8), (12, .int .i64 4), (13, .slice none 0 0), (14, .iface 30 (.int .i64 4))]) rfl
                       refine xt_norm ?_
                       refine wp_seq ?_
                       refine wp_seq ?_
                       refine wp_region_lit ?_
                       refine st_run tbOk 1 hA (e' := (92, .iface 30 (.int .i64 4)) :: _) rfl ?_; clear hA; intro a hA
                       refine st_call0 hA rfl rfl rfl isfn13 rfl rfl (by decide) (number_hit13 hS hg 4) ?_
                       clear hA hS; rintro v w36 a ⟨rfl, hS⟩ hA
                       refine st_run tbOk 18 hA (e' := (111, .bool false) :: (110, .bool false) :: (109, .bool false) :: (108, .int .i64 0) :: (107, .slice none 0 0) :: (106, .bool true) :: (105, .bool true) :: (104, .int .i64 4) :: (103, .bool false) :: (102, .bool false) :: (101, .bool false) :: (100, .bool false) :: (99, .int .i64 4) :: (98, .bool false) :: (97, .iface 30 (.int .i64 4)) :: (96, .bool false) :: (95, .bool false) :: (94, .int .i64 4) :: _) rfl ?_; clear hA; intro a hA
                       refine wpList_nil ?_
                       replace hA := hA.sel [4, 7, 12, 13, 111] (e' := [(4, .pointer (some ⟨b, 0, none⟩)), (7, .slice A7 ms.length c8), (12, .int .i64 4), (13, .slice none 0 0), (111, .bool false)]) rfl
                       refine xt_norm ?_
                       refine cd_cond_f hA rfl ?_
                       refine wp_skip ?_
                       refine xt_norm ?_
                       refine wp_seq ?_
                       refine wp_seq ?_
                       refine wp_region_lit ?_
                       refine st_run tbOk 2 hA (e' := (113, .bool true) :: (112, .int .i64 4) :: _) rfl ?_; clear hA; intro a hA
                       refine wpList_nil ?_
                       replace hA := hA.sel [4, 7, 13, 113] (e' := [(4, .pointer (some ⟨b, 0, none⟩)), (7, .slice A7 ms.length c8), (13, .slice none 0 0), (113, .bool true)]) rfl
                       refine xt_norm ?_
                       refine cd_cond_t hA rfl ?_
                       refine wp_seq ?_
                       refine wp_region_lit ?_
                       refine st_run tbOk 1 hA (e' := (6, .bool true) :: _) rfl ?_; clear hA; intro a hA
                       refine wpList_nil ?_
                       replace hA := hA.sel [6] (e' := [(6, .bool true)]) rfl
                       refine xt_norm ?_
                       refine wp_ret (xt_ret ?_)
                       refine ret1 (fn := Tryd.f3) hA rfl rfl ?_
                       replace hS := hS.drop1
                       replace hS := hS.drop1
                       exact ⟨rfl, hS⟩)
                  · first
                    | (exfalso; omega)
                    | (replace hA := hA.rw 71 (v' := .bool false) rfl (vb_false hc34)
                       refine cd_cond_f hA rfl ?_
                       refine wp_seq ?_
                       exfalso; omega))
           · have h3 := h2; dsimp only [ao, ag] at h3
             replace hA := hA.rw 8 (v' := .bool true) rfl (congrArg Value.bool (hov.2 ⟨j, yo, by have := (List.getElem?_eq_some_iff.1 hy).1; omega, hy, hovl⟩))
             refine st_run tbOk 1 hA (e' := (12, .int .i64 0) :: _) rfl ?_; clear hA; intro a hA
             refine wpList_nil ?_
             replace hA := hA.sel [4, 7, 8, 12] (e' := [(4, .pointer (some ⟨b, 0, none⟩)), (7, .slice A7 ms.length c8), (8, .bool true), (12, .int .i64 0)]) rfl
             refine xt_norm ?_
             refine wp_seq ?_
             refine wp_block ?_
             refine wp_seq ?_
             refine wp_region_lit ?_
             refine st_run tbOk 1 hA (e' := (50, .pointer (some ⟨b, 1, none⟩)) :: _) rfl ?_; clear hA; intro a hA
             refine st_val hA rfl rfl (by decide) (rn_load tbOk hA rfl rfl rfl rfl (cell_row (hS.heapAt 0 rfl) rfl)) ?_; clear hA; intro a hA
             refine st_run tbOk 2 hA (e' := (53, .bool (decide (a1 < 1))) :: (52, .bool (decide (a1 < 1))) :: _) rfl ?_; clear hA; intro a hA
             have hc37 : ¬ (a1 < 1) := by omega
             replace hA := hA.rw 52 (v' := .bool false) rfl (vb_false hc37)
             replace hA := hA.rw 53 (v' := .bool false) rfl (vb_false hc37)
             refine st_run tbOk 1 hA (e' := (54, .pointer (some ⟨b, 0, none⟩)) :: _) rfl ?_; clear hA; intro a hA
             refine st_val hA rfl rfl (by decide) (rn_load tbOk hA rfl rfl rfl rfl (cell_row (hS.heapAt 0 rfl) rfl)) ?_; clear hA; intro a hA
             refine st_run tbOk 3 hA (e' := (58, .bool (decide (a0 < 0))) :: (57, .bool (decide (a0 < 0))) :: (56, .bool (decide (a0 < 0))) :: _) rfl ?_; clear hA; intro a hA
             have hc38 : ¬ (a0 < 0) := by omega
             replace hA := hA.rw 56 (v' := .bool false) rfl (vb_false hc38)
             replace hA := hA.rw 57 (v' := .bool false) rfl (vb_false hc38)
             replace hA := hA.rw 58 (v' := .bool false) rfl (vb_false hc38)
             refine st_run tbOk 1 hA (e' := (59, .pointer (some ⟨b, 0, none⟩)) :: _) rfl ?_; clear hA; intro a hA
             refine st_val hA rfl rfl (by decide) (rn_load tbOk hA rfl rfl rfl rfl (cell_row (hS.heapAt 0 rfl) rfl)) ?_; clear hA; intro a hA
             refine st_run tbOk 3 hA (e' := (63, .bool (decide (a0 > 1073741824))) :: (62, .bool (decide (a0 > 1073741824))) :: (61, .bool (decide (a0 > 1073741824))) :: _) rfl ?_; clear hA; intro a hA
             have hc39 : ¬ (a0 > 1073741824) := by omega
             replace hA := hA.rw 61 (v' := .bool false) rfl (vb_false hc39)
             replace hA := hA.rw 62 (v' := .bool false) rfl (vb_false hc39)
             replace hA := hA.rw 63 (v' := .bool false) rfl (vb_false hc39)
             refine st_run tbOk 1 hA (e' := (64, .pointer (some ⟨b, 1, none⟩)) :: _) rfl ?_; clear hA; intro a hA
             refine st_val hA rfl rfl (by decide) (rn_load tbOk hA rfl rfl rfl rfl (cell_row (hS.heapAt 0 rfl) rfl)) ?_; clear hA; intro a hA
             refine st_run tbOk 1 hA (e' := (66, .pointer (some ⟨b, 0, none⟩)) :: _) rfl ?_; clear hA; intro a hA
             refine st_val hA rfl rfl (by decide) (rn_load tbOk hA rfl rfl rfl rfl (cell_row (hS.heapAt 0 rfl) rfl)) ?_; clear hA; intro a hA
             refine st_run tbOk 1 hA (e' := (68, .int .i64 (IntKind.i64.wrap (1073741824 - a0))) :: _) rfl ?_; clear hA; intro a hA
             replace hA := hA.rw 68 (v' := .int .i64 (1073741824 - a0)) rfl (wr64 (by omega) (by omega) (by omega))
             refine st_run tbOk 3 hA (e' := (49, .bool (decide (a1 > 1073741824 - a0))) :: (70, .bool (decide (a1 > 1073741824 - a0))) :: (69, .bool (decide (a1 > 1073741824 - a0))) :: _) rfl ?_; clear hA; intro a hA
             refine wpList_nil ?_
             replace hA := hA.sel [4, 7, 8, 12, 49] (e' := [(4, .pointer (some ⟨b, 0, none⟩)), (7, .slice A7 ms.length c8), (8, .bool true), (12, .int .i64 0), (49, .bool (decide (a1 > 1073741824 - a0)))]) rfl
             refine xt_norm ?_
             have hc40 : ¬ (a1 > 1073741824 - a0) := by omega
             replace hA := hA.rw 49 (v' := .bool false) rfl (vb_false hc40)
             refine cd_cond_f hA rfl ?_
             refine wp_seq ?_
             refine wp_region_lit ?_
             refine st_run tbOk 1 hA (e' := (72, .pointer (some ⟨b, 3, none⟩)) :: _) rfl ?_; clear hA; intro a hA
             refine st_val hA rfl rfl (by decide) (rn_load tbOk hA rfl rfl rfl rfl (cell_row (hS.heapAt 0 rfl) rfl)) ?_; clear hA; intro a hA
             refine st_run tbOk 2 hA (e' := (75, .bool (decide (a3 < 0))) :: (74, .bool (decide (a3 < 0))) :: _) rfl ?_; clear hA; intro a hA
             have hc41 : ¬ (a3 < 0) := by omega
             replace hA := hA.rw 74 (v' := .bool false) rfl (vb_false hc41)
             replace hA := hA.rw 75 (v' := .bool false) rfl (vb_false hc41)
             refine st_run tbOk 1 hA (e' := (76, .pointer (some ⟨b, 2, none⟩)) :: _) rfl ?_; clear hA; intro a hA
             refine st_val hA rfl rfl (by decide) (rn_load tbOk hA rfl rfl rfl rfl (cell_row (hS.heapAt 0 rfl) rfl)) ?_; clear hA; intro a hA
             refine st_run tbOk 3 hA (e' := (71, .bool (decide (a2 < 0))) :: (79, .bool (decide (a2 < 0))) :: (78, .bool (decide (a2 < 0))) :: _) rfl ?_; clear hA; intro a hA
             refine wpList_nil ?_
             replace hA := hA.sel [4, 7, 8, 12, 71] (e' := [(4, .pointer (some ⟨b, 0, none⟩)), (7, .slice A7 ms.length c8), (8, .bool true), (12, .int .i64 0), (71, .bool (decide (a2 < 0)))]) rfl
             refine xt_norm ?_
             have hc42 : ¬ (a2 < 0) := by omega
             replace hA := hA.rw 71 (v' := .bool false) rfl (vb_false hc42)
             refine cd_cond_f hA rfl ?_
             refine wp_seq ?_
             refine wp_region_lit ?_
             refine st_run tbOk 2 hA (e' := (80, .bool true) :: (81, .bool true) :: _) rfl ?_; clear hA; intro a hA
             refine wpList_nil ?_
             replace hA := hA.sel [4, 7, 12, 80] (e' := [(4, .pointer (some ⟨b, 0, none⟩)), (7, .slice A7 ms.length c8), (12, .int .i64 0), (80, .bool true)]) rfl
             refine xt_norm ?_
             refine cd_cond_t hA rfl ?_
             refine wp_region_lit ?_
             refine st_run tbOk 1 hA (e' := (12, .int .i64 14) :: _) rfl ?_; clear hA; intro a hA
             refine wpList_nil ?_
             replace hA := hA.sel [4, 7, 12] (e' := [(4, .pointer (some ⟨b, 0, none⟩)), (7, .slice A7 ms.length c8), (12, .int .i64 14)]) rfl
             refine xb_norm ?_
             refine xt_norm ?_
             refine wp_seq ?_
             refine wp_region_lit ?_
             refine st_run tbOk 1 hA (e' := (87, .slice A7 ms.length c8) :: _) rfl ?_; clear hA; intro a hA
             refine st_val hA rfl rfl (by decide) (rn_loadA tbOk hA [.int .i64 a0, .int .i64 a1, .int .i64 a2, .int .i64 a3, .bool a4] rfl rfl rfl rfl rfl (cells_row (hS.heapAt 0 rfl) rfl)) ?_; clear hA; intro a hA
             refine st_call0 hA rfl rfl rfl isfn12 rfl rfl (by decide) (add_ovl12 hS (l := ms) (RdS.own hO6 1 rfl) (a0, a1, a2, a3, a4) hv h2 hM.s hy hovl) ?_
             clear hA hS; rintro v w43 a ⟨rfl, hS⟩ hA
             refine st_run tbOk 5 hA (e' := (14, .iface 30 (.int .i64 14)) :: (13, .slice none 0 0) :: (91, .iface 30 (.int .i64 14)) :: (90, .slice none 0 0) :: (86, .tuple #[.slice none 0 0, .iface 30 (.int .i64 14)]) :: _) rfl ?_; clear hA; intro a hA
             refine wpList_nil ?_
             replace hA := hA.sel [4, 7, 12, 13, 14] (e' := [(4, .pointer (some ⟨b, 0, none⟩)), (7, .slice A7 ms.length c8), (12, .int .i64 14), (13, .slice none 0 0), (14, .iface 30 (.int .i64 14))]) rfl
             refine xt_norm ?_
             refine wp_seq ?_
             refine wp_seq ?_
             refine wp_region_lit ?_
             refine st_run tbOk 1 hA (e' := (92, .iface 30 (.int .i64 14)) :: _) rfl ?_; clear hA; intro a hA
             refine st_call0 hA rfl rfl rfl isfn13 rfl rfl (by decide) (number_hit13 hS hg 14) ?_
             clear hA hS; rintro v w44 a ⟨rfl, hS⟩ hA
             refine st_run tbOk 18 hA (e' := (111, .bool false) :: (110, .bool false) :: (109, .bool false) :: (108, .int .i64 0) :: (107, .slice none 0 0) :: (106, .bool true) :: (105, .bool true) :: (104, .int .i64 14) :: (103, .bool false) :: (102, .bool false) :: (101, .bool false) :: (100, .bool false) :: (99, .int .i64 14) :: (98, .bool false) :: (97, .iface 30 (.int .i64 14)) :: (96, .bool false) :: (95, .bool false) :: (94, .int .i64 14) :: _) rfl ?_; clear hA; intro a hA
             refine wpList_nil ?_
             replace hA := hA.sel [4, 7, 12, 13, 111] (e' := [(4, .pointer (some ⟨b, 0, none⟩)), (7, .slice A7 ms.length c8), (12, .int .i64 14), (13, .slice none 0 0), (111, .bool false)]) rfl
             refine xt_norm ?_
             refine cd_cond_f hA rfl ?_
             refine wp_skip ?_
             refine xt_norm ?_
             refine wp_seq ?_
             refine wp_seq ?_
             refine wp_region_lit ?_
             refine st_run tbOk 2 hA (e' := (113, .bool true) :: (112, .int .i64 14) :: _) rfl ?_; clear hA; intro a hA
             refine wpList_nil ?_
             replace hA := hA.sel [4, 7, 13, 113] (e' := [(4, .pointer (some ⟨b, 0, none⟩)), (7, .slice A7 ms.length c8), (13, .slice none 0 0), (113, .bool true)]) rfl
             refine xt_norm ?_
             refine cd_cond_t hA rfl ?_
             refine wp_seq ?_
             refine wp_region_lit ?_
             refine st_run tbOk 1 hA (e' := (6, .bool true) :: _) rfl ?_; clear hA; intro a hA
             refine wpList_nil ?_
             replace hA := hA.sel [6] (e' := [(6, .bool true)]) rfl
             refine xt_norm ?_
             refine wp_ret (xt_ret ?_)
             refine ret1 (fn := Tryd.f3) hA rfl rfl ?_
             replace hS := hS.drop1
             replace hS := hS.drop1
             exact ⟨rfl, hS⟩
           · have h3 := h2; dsimp only [ao, ag] at h3
             replace hA := hA.rw 8 (v' := .bool false) rfl (congrArg Value.bool (Bool.eq_false_iff.2 (fun h => by obtain ⟨i9, y9, _, h9, h8⟩ := hov.1 h; exact hn y9 (List.mem_of_getElem? h9) h8)))
             refine st_run tbOk 1 hA (e' := (12, .int .i64 0) :: _) rfl ?_; clear hA; intro a hA
             refine wpList_nil ?_
             replace hA := hA.sel [4, 7, 8, 12] (e' := [(4, .pointer (some ⟨b, 0, none⟩)), (7, .slice A7 ms.length c8), (8, .bool false), (12, .int .i64 0)]) rfl
             refine xt_norm ?_
             refine wp_seq ?_
             refine wp_block ?_
             refine wp_seq ?_
             refine wp_region_lit ?_
             refine st_run tbOk 1 hA (e' := (50, .pointer (some ⟨b, 1, none⟩)) :: _) rfl ?_; clear hA; intro a hA
             refine st_val hA rfl rfl (by decide) (rn_load tbOk hA rfl rfl rfl rfl (cell_row (hS.heapAt 0 rfl) rfl)) ?_; clear hA; intro a hA
             refine st_run tbOk 2 hA (e' := (53, .bool (decide (a1 < 1))) :: (52, .bool (decide (a1 < 1))) :: _) rfl ?_; clear hA; intro a hA
             have hc45 : ¬ (a1 < 1) := by omega
             replace hA := hA.rw 52 (v' := .bool false) rfl (vb_false hc45)
             replace hA := hA.rw 53 (v' := .bool false) rfl (vb_false hc45)
             refine st_run tbOk 1 hA (e' := (54, .pointer (some ⟨b, 0, none⟩)) :: _) rfl ?_; clear hA; intro a hA
             refine st_val hA rfl rfl (by decide) (rn_load tbOk hA rfl rfl rfl rfl (cell_row (hS.heapAt 0 rfl) rfl)) ?_; clear hA; intro a hA
             refine st_run tbOk 3 hA (e' := (58, .bool (decide (a0 < 0))) :: (57, .bool (decide (a0 < 0))) :: (56, .bool (decide (a0 < 0))) :: _) rfl ?_; clear hA; intro a hA
             have hc46 : ¬ (a0 < 0) := by omega
             replace hA := hA.rw 56 (v' := .bool false) rfl (vb_false hc46)
             replace hA := hA.rw 57 (v' := .bool false) rfl (vb_false hc46)
             replace hA := hA.rw 58 (v' := .bool false) rfl (vb_false hc46)
             refine st_run tbOk 1 hA (e' := (59, .pointer (some ⟨b, 0, none⟩)) :: _) rfl ?_; clear hA; intro a hA
             refine st_val hA rfl rfl (by decide) (rn_load tbOk hA rfl rfl rfl rfl (cell_row (hS.heapAt 0 rfl) rfl)) ?_; clear hA; intro a hA
             refine st_run tbOk 3 hA (e' := (63, .bool (decide (a0 > 1073741824))) :: (62, .bool (decide (a0 > 1073741824))) :: (61, .bool (decide (a0 > 1073741824))) :: _) rfl ?_; clear hA; intro a hA
             have hc47 : ¬ (a0 > 1073741824) := by omega
             replace hA := hA.rw 61 (v' := .bool false) rfl (vb_false hc47)
             replace hA := hA.rw 62 (v' := .bool false) rfl (vb_false hc47)
             replace hA := hA.rw 63 (v' := .bool false) rfl (vb_false hc47)
             refine st_run tbOk 1 hA (e' := (64, .pointer (some ⟨b, 1, none⟩)) :: _) rfl ?_; clear hA; intro a hA
             refine st_val hA rfl rfl (by decide) (rn_load tbOk hA rfl rfl rfl rfl (cell_row (hS.heapAt 0 rfl) rfl)) ?_; clear hA; intro a hA
             refine st_run tbOk 1 hA (e' := (66, .pointer (some ⟨b, 0, none⟩)) :: _) rfl ?_; clear hA; intro a hA
             refine st_val hA rfl rfl (by decide) (rn_load tbOk hA rfl rfl rfl rfl (cell_row (hS.heapAt 0 rfl) rfl)) ?_; clear hA; intro a hA
             refine st_run tbOk 1 hA (e' := (68, .int .i64 (IntKind.i64.wrap (1073741824 - a0))) :: _) rfl ?_; clear hA; intro a hA
             replace hA := hA.rw 68 (v' := .int .i64 (1073741824 - a0)) rfl (wr64 (by omega) (by omega) (by omega))
             refine st_run tbOk 3 hA (e' := (49, .bool (decide (a1 > 1073741824 - a0))) :: (70, .bool (decide (a1 > 1073741824 - a0))) :: (69, .bool (decide (a1 > 1073741824 - a0))) :: _) rfl ?_; clear hA; intro a hA
             refine wpList_nil ?_
             replace hA := hA.sel [4, 7, 8, 12, 49] (e' := [(4, .pointer (some ⟨b, 0, none⟩)), (7, .slice A7 ms.length c8), (8, .bool false), (12, .int .i64 0), (49, .bool (decide (a1 > 1073741824 - a0)))]) rfl
             refine xt_norm ?_
             have hc48 : ¬ (a1 > 1073741824 - a0) := by omega
             replace hA := hA.rw 49 (v' := .bool false) rfl (vb_false hc48)
             refine cd_cond_f hA rfl ?_
             refine wp_seq ?_
             refine wp_region_lit ?_
             refine st_run tbOk 1 hA (e' := (72, .pointer (some ⟨b, 3, none⟩)) :: _) rfl ?_; clear hA; intro a hA
             refine st_val hA rfl rfl (by decide) (rn_load tbOk hA rfl rfl rfl rfl (cell_row (hS.heapAt 0 rfl) rfl)) ?_; clear hA; intro a hA
             refine st_run tbOk 2 hA (e' := (75, .bool (decide (a3 < 0))) :: (74, .bool (decide (a3 < 0))) :: _) rfl ?_; clear hA; intro a hA
             have hc49 : ¬ (a3 < 0) := by omega
             replace hA := hA.rw 74 (v' := .bool false) rfl (vb_false hc49)
             replace hA := hA.rw 75 (v' := .bool false) rfl (vb_false hc49)
             refine st_run tbOk 1 hA (e' := (76, .pointer (some ⟨b, 2, none⟩)) :: _) rfl ?_; clear hA; intro a hA
             refine st_val hA rfl rfl (by decide) (rn_load tbOk hA rfl rfl rfl rfl (cell_row (hS.heapAt 0 rfl) rfl)) ?_; clear hA; intro a hA
             refine st_run tbOk 3 hA (e' := (71, .bool (decide (a2 < 0))) :: (79, .bool (decide (a2 < 0))) :: (78, .bool (decide (a2 < 0))) :: _) rfl ?_; clear hA; intro a hA
             refine wpList_nil ?_
             replace hA := hA.sel [4, 7, 8, 12, 71] (e' := [(4, .pointer (some ⟨b, 0, none⟩)), (7, .slice A7 ms.length c8), (8, .bool false), (12, .int .i64 0), (71, .bool (decide (a2 < 0)))]) rfl
             refine xt_norm ?_
             have hc50 : ¬ (a2 < 0) := by omega
             replace hA := hA.rw 71 (v' := .bool false) rfl (vb_false hc50)
             refine cd_cond_f hA rfl ?_
             refine wp_seq ?_
             refine wp_region_lit ?_
             refine st_run tbOk 2 hA (e' := (80, .bool false) :: (81, .bool false) :: _) rfl ?_; clear hA; intro a hA
             refine wpList_nil ?_
             replace hA := hA.sel [4, 7, 12, 80] (e' := [(4, .pointer (some ⟨b, 0, none⟩)), (7, .slice A7 ms.length c8), (12, .int .i64 0), (80, .bool false)]) rfl
             refine xt_norm ?_
             refine cd_cond_f hA rfl ?_
             refine wp_seq ?_
             refine wp_region_lit ?_
             refine st_run tbOk 4 hA (e' := (82, .bool (decide (((ms.length : Nat) : Int) ≥ 64))) :: (85, .bool (decide (((ms.length : Nat) : Int) ≥ 64))) :: (84, .int .i64 ((ms.length : Nat) : Int)) :: (83, .slice A7 ms.length c8) :: _) rfl ?_; clear hA; intro a hA
             refine wpList_nil ?_
             replace hA := hA.sel [4, 7, 12, 82] (e' := [(4, .pointer (some ⟨b, 0, none⟩)), (7, .slice A7 ms.length c8), (12, .int .i64 0), (82, .bool (decide (((ms.length : Nat) : Int) ≥ 64)))]) rfl
             refine xt_norm ?_
             have hc51 : ((ms.length : Nat) : Int) ≥ 64 := by omega
             replace hA := hA.rw 82 (v' := .bool true) rfl (vb_true hc51)
             refine cd_cond_t hA rfl ?_
             refine wp_region_lit ?_
             refine st_run tbOk 1 hA (e' := (12, .int .i64 5) :: _) rfl ?_; clear hA; intro a hA
             refine wpList_nil ?_
             replace hA := hA.sel [4, 7, 12] (e' := [(4, .pointer (some ⟨b, 0, none⟩)), (7, .slice A7 ms.length c8), (12, .int .i64 5)]) rfl
             refine xb_norm ?_
             refine xt_norm ?_
             refine wp_seq ?_
             refine wp_region_lit ?_
             refine st_run tbOk 1 hA (e' := (87, .slice A7 ms.length c8) :: _) rfl ?_; clear hA; intro a hA
             refine st_val hA rfl rfl (by decide) (rn_loadA tbOk hA [.int .i64 a0, .int .i64 a1, .int .i64 a2, .int .i64 a3, .bool a4] rfl rfl rfl rfl rfl (cells_row (hS.heapAt 0 rfl) rfl)) ?_; clear hA; intro a hA
             refine st_call0 hA rfl rfl rfl isfn12 rfl rfl (by decide) (add_full12 hS (l := ms) (RdS.own hO6 1 rfl) (a0, a1, a2, a3, a4) hv h2 hM.s hn hl) ?_
             clear hA hS; rintro v w52 a ⟨rfl, hS⟩ hA
             refine st_run tbOk 5 hA (e' := (14, .iface 30 (.int .i64 5)) :: (13, .slice none 0 0) :: (91, .iface 30 (.int .i64 5)) :: (90, .slice none 0 0) :: (86, .tuple #[.slice none 0 0, .iface 30 (.int .i64 5)]) :: _) rfl ?_; clear hA; intro a hA
             refine wpList_nil ?_
             replace hA := hA.sel [4, 7, 12, 13, 14] (e' := [(4, .pointer (some ⟨b, 0, none⟩)), (7, .slice A7 ms.length c8), (12, .int .i64 5), (13, .slice none 0 0), (14, .iface 30 (.int .i64 5))]) rfl
             refine xt_norm ?_
             refine wp_seq ?_
             refine wp_seq ?_
             refine wp_region_lit ?_
             refine st_run tbOk 1 hA (e' := (92, .iface 30 (.int .i64 5)) :: _) rfl ?_; clear hA; intro a hA
             refine st_call0 hA rfl rfl rfl isfn13 rfl rfl (by decide) (number_hit13 hS hg 5) ?_
             clear hA hS; rintro v w53 a ⟨rfl, hS⟩ hA
             refine st_run tbOk 18 hA (e' := (111, .bool false) :: (110, .bool false) :: (109, .bool false) :: (108, .int .i64 0) :: (107, .slice none 0 0) :: (106, .bool true) :: (105, .bool true) :: (104, .int .i64 5) :: (103, .bool false) :: (102, .bool false) :: (101, .bool false) :: (100, .bool false) :: (99, .int .i64 5) :: (98, .bool false) :: (97, .iface 30 (.int .i64 5)) :: (96, .bool false) :: (95, .bool false) :: (94, .int .i64 5) :: _) rfl ?_; clear hA; intro a hA
             refine wpList_nil ?_
             replace hA := hA.sel [4, 7, 12, 13, 111] (e' := [(4, .pointer (some ⟨b, 0, none⟩)), (7, .slice A7 ms.length c8), (12, .int .i64 5), (13, .slice none 0 0), (111, .bool false)]) rfl
             refine xt_norm ?_
             refine cd_cond_f hA rfl ?_
             refine wp_skip ?_
             refine xt_norm ?_
             refine wp_seq ?_
             refine wp_seq ?_
             refine wp_region_lit ?_
             refine st_run tbOk 2 hA (e' := (113, .bool true) :: (112, .int .i64 5) :: _) rfl ?_; clear hA; intro a hA
             refine wpList_nil ?_
             replace hA := hA.sel [4, 7, 13, 113] (e' := [(4, .pointer (some ⟨b, 0, none⟩)), (7, .slice A7 ms.length c8), (13, .slice none 0 0), (113, .bool true)]) rfl
             refine xt_norm ?_
             refine cd_cond_t hA rfl ?_
             refine wp_seq ?_
             refine wp_region_lit ?_
             refine st_run tbOk 1 hA (e' := (6, .bool true) :: _) rfl ?_; clear hA; intro a hA
             refine wpList_nil ?_
             replace hA := hA.sel [6] (e' := [(6, .bool true)]) rfl
             refine xt_norm ?_
             refine wp_ret (xt_ret ?_)
             refine ret1 (fn := Tryd.f3) hA rfl rfl ?_
             replace hS := hS.drop1
             replace hS := hS.drop1
             exact ⟨rfl, hS⟩
           · have h3 := h2; dsimp only [ao, ag] at h3
             replace hA := hA.rw 8 (v' := .bool false) rfl (congrArg Value.bool (Bool.eq_false_iff.2 (fun h => by obtain ⟨i9, y9, _, h9, h8⟩ := hov.1 h; exact hn y9 (List.mem_of_getElem? h9) h8)))
             have hil := hp.le
             have hLl := ins_len (a := (a0, a1, a2, a3, a4)) hp.le
             have hRis := ins_ris hM.o hp (fun y hy => (hM.s y hy).2.2.1) (by dsimp only [az]; omega) hn
             have hLs : ∀ y ∈ ms.take i ++ ((a0, a1, a2, a3, a4) :: ms.drop i), 1 ≤ az y := fun y hy => (ins_mem hy).elim (fun e => by rw [e]; dsimp only [az]; omega) (fun h => (hM.s y h).2.2.1)
             refine st_run tbOk 1 hA (e' := (12, .int .i64 0) :: _) rfl ?_; clear hA; intro a hA
             refine wpList_nil ?_
             replace hA := hA.sel [4, 7, 8, 12] (e' := [(4, .pointer (some ⟨b, 0, none⟩)), (7, .slice A7 ms.length c8), (8, .bool false), (12, .int .i64 0)]) rfl
             refine xt_norm ?_
             refine wp_seq ?_
             refine wp_block ?_
             refine wp_seq ?_
             refine wp_region_lit ?_
             refine st_run tbOk 1 hA (e' := (50, .pointer (some ⟨b, 1, none⟩)) :: _) rfl ?_; clear hA; intro a hA
             refine st_val hA rfl rfl (by decide) (rn_load tbOk hA rfl rfl rfl rfl (cell_row (hS.heapAt 0 rfl) rfl)) ?_; clear hA; intro a hA
             refine st_run tbOk 2 hA (e' := (53, .bool (decide (a1 < 1))) :: (52, .bool (decide (a1 < 1))) :: _) rfl ?_; clear hA; intro a hA
             have hc54 : ¬ (a1 < 1) := by omega
             replace hA := hA.rw 52 (v' := .bool false) rfl (vb_false hc54)
             replace hA := hA.rw 53 (v' := .bool false) rfl (vb_false hc54)
             refine st_run tbOk 1 hA (e' := (54, .pointer (some ⟨b, 0, none⟩)) :: _) rfl ?_; clear hA; intro a hA
             refine st_val hA rfl rfl (by decide) (rn_load tbOk hA rfl rfl rfl rfl (cell_row (hS.heapAt 0 rfl) rfl)) ?_; clear hA; intro a hA
             refine st_run tbOk 3 hA (e' := (58, .bool (decide (a0 < 0))) :: (57, .bool (decide (a0 < 0))) :: (56, .bool (decide (a0 < 0))) :: _) rfl ?_; clear hA; intro a hA
             have hc55 : ¬ (a0 < 0) := by omega
             replace hA := hA.rw 56 (v' := .bool false) rfl (vb_false hc55)
             replace hA := hA.rw 57 (v' := .bool false) rfl (vb_false hc55)
             replace hA := hA.rw 58 (v' := .bool false) rfl (vb_false hc55)
             refine st_run tbOk 1 hA (e' := (59, .pointer (some ⟨b, 0, none⟩)) :: _) rfl ?_; clear hA; intro a hA
             refine st_val hA rfl rfl (by decide) (rn_load tbOk hA rfl rfl rfl rfl (cell_row (hS.heapAt 0 rfl) rfl)) ?_; clear hA; intro a hA
             refine st_run tbOk 3 hA (e' := (63, .bool (decide (a0 > 1073741824))) :: (62, .bool (decide (a0 > 1073741824))) :: (61, .bool (decide (a0 > 1073741824))) :: _) rfl ?_; clear hA; intro a hA
             have hc56 : ¬ (a0 > 1073741824) := by omega
             replace hA := hA.rw 61 (v' := .bool false) rfl (vb_false hc56)
             replace hA := hA.rw 62 (v' := .bool false) rfl (vb_false hc56)
             replace hA := hA.rw 63 (v' := .bool false) rfl (vb_false hc56)
             refine st_run tbOk 1 hA (e' := (64, .pointer (some ⟨b, 1, none⟩)) :: _) rfl ?_; clear hA; intro a hA
             refine st_val hA rfl rfl (by decide) (rn_load tbOk hA rfl rfl rfl rfl (cell_row (hS.heapAt 0 rfl) rfl)) ?_; clear hA; intro a hA
             refine st_run tbOk 1 hA (e' := (66, .pointer (some ⟨b, 0, none⟩)) :: _) rfl ?_; clear hA; intro a hA
             refine st_val hA rfl rfl (by decide) (rn_load tbOk hA rfl rfl rfl rfl (cell_row (hS.heapAt 0 rfl) rfl)) ?_; clear hA; intro a hA
             refine st_run tbOk 1 hA (e' := (68, .int .i64 (IntKind.i64.wrap (1073741824 - a0))) :: _) rfl ?_; clear hA; intro a hA
             replace hA := hA.rw 68 (v' := .int .i64 (1073741824 - a0)) rfl (wr64 (by omega) (by omega) (by omega))
             refine st_run tbOk 3 hA (e' := (49, .bool (decide (a1 > 1073741824 - a0))) :: (70, .bool (decide (a1 > 1073741824 - a0))) :: (69, .bool (decide (a1 > 1073741824 - a0))) :: _) rfl ?_; clear hA; intro a hA
             refine wpList_nil ?_
             replace hA := hA.sel [4, 7, 8, 12, 49] (e' := [(4, .pointer (some ⟨b, 0, none⟩)), (7, .slice A7 ms.length c8), (8, .bool false), (12, .int .i64 0), (49, .bool (decide (a1 > 1073741824 - a0)))]) rfl
             refine xt_norm ?_
             have hc57 : ¬ (a1 > 1073741824 - a0) := by omega
             replace hA := hA.rw 49 (v' := .bool false) rfl (vb_false hc57)
             refine cd_cond_f hA rfl ?_
             refine wp_seq ?_
             refine wp_region_lit ?_
             refine st_run tbOk 1 hA (e' := (72, .pointer (some ⟨b, 3, none⟩)) :: _) rfl ?_; clear hA; intro a hA
             refine st_val hA rfl rfl (by decide) (rn_load tbOk hA rfl rfl rfl rfl (cell_row (hS.heapAt 0 rfl) rfl)) ?_; clear hA; intro a hA
             refine st_run tbOk 2 hA (e' := (75, .bool (decide (a3 < 0))) :: (74, .bool (decide (a3 < 0))) :: _) rfl ?_; clear hA; intro a hA
             have hc58 : ¬ (a3 < 0) := by omega
             replace hA := hA.rw 74 (v' := .bool false) rfl (vb_false hc58)
             replace hA := hA.rw 75 (v' := .bool false) rfl (vb_false hc58)
             refine st_run tbOk 1 hA (e' := (76, .pointer (some ⟨b, 2, none⟩)) :: _) rfl ?_; clear hA; intro a hA
             refine st_val hA rfl rfl (by decide) (rn_load tbOk hA rfl rfl rfl rfl (cell_row (hS.heapAt 0 rfl) rfl)) ?_; clear hA; intro a hA
             refine st_run tbOk 3 hA (e' := (71, .bool (decide (a2 < 0))) :: (79, .bool (decide (a2 < 0))) :: (78, .bool (decide (a2 < 0))) :: _) rfl ?_; clear hA; intro a hA
             refine wpList_nil ?_
             replace hA := hA.sel [4, 7, 8, 12, 71] (e' := [(4, .pointer (some ⟨b, 0, none⟩)), (7, .slice A7 ms.length c8), (8, .bool false), (12, .int .i64 0), (71, .bool (decide (a2 < 0)))]) rfl
             refine xt_norm ?_
             have hc59 : ¬ (a2 < 0) := by omega
             replace hA := hA.rw 71 (v' := .bool false) rfl (vb_false hc59)
             refine cd_cond_f hA rfl ?_
             refine wp_seq ?_
             refine wp_region_lit ?_
             refine st_run tbOk 2 hA (e' := (80, .bool false) :: (81, .bool false) :: _) rfl ?_; clear hA; intro a hA
             refine wpList_nil ?_
             replace hA := hA.sel [4, 7, 12, 80] (e' := [(4, .pointer (some ⟨b, 0, none⟩)), (7, .slice A7 ms.length c8), (12, .int .i64 0), (80, .bool false)]) rfl
             refine xt_norm ?_
             refine cd_cond_f hA rfl ?_
             refine wp_seq ?_
             refine wp_region_lit ?_
             refine st_run tbOk 4 hA (e' := (82, .bool (decide (((ms.length : Nat) : Int) ≥ 64))) :: (85, .bool (decide (((ms.length : Nat) : Int) ≥ 64))) :: (84, .int .i64 ((ms.length : Nat) : Int)) :: (83, .slice A7 ms.length c8) :: _) rfl ?_; clear hA; intro a hA
             refine wpList_nil ?_
             replace hA := hA.sel [4, 7, 12, 82] (e' := [(4, .pointer (some ⟨b, 0, none⟩)), (7, .slice A7 ms.length c8), (12, .int .i64 0), (82, .bool (decide (((ms.length : Nat) : Int) ≥ 64)))]) rfl
             refine xt_norm ?_
             have hc60 : ¬ (((ms.length : Nat) : Int) ≥ 64) := by omega
             replace hA := hA.rw 82 (v' := .bool false) rfl (vb_false hc60)
             refine cd_cond_f hA rfl ?_
             refine wp_skip ?_
             refine xb_norm ?_
             refine xt_norm ?_
             refine wp_seq ?_
             refine wp_region_lit ?_
             refine st_run tbOk 1 hA (e' := (87, .slice A7 ms.length c8) :: _) rfl ?_; clear hA; intro a hA
             refine st_val hA rfl rfl (by decide) (rn_loadA tbOk hA [.int .i64 a0, .int .i64 a1, .int .i64 a2, .int .i64 a3, .bool a4] rfl rfl rfl rfl rfl (cells_row (hS.heapAt 0 rfl) rfl)) ?_; clear hA; intro a hA
             refine st_call0 hA rfl rfl rfl isfn12 rfl rfl (by decide) (add_ok12 hS (l := ms) (RdS.own hO6 1 rfl) (a0, a1, a2, a3, a4) hv h2 hM.s hn hl hp) ?_
             clear hA hS; rintro _ w61 a ⟨v62, C63, hO63, rfl, hS⟩ hA
             obtain ⟨A64, c65, rfl, hmc65, hxc65⟩ := hO63.open'
             refine st_run tbOk 5 hA (e' := (14, .nilIface) :: (13, .slice A64 ((ms.take i ++ ((a0, a1, a2, a3, a4) :: ms.drop i)).length) c65) :: (91, .nilIface) :: (90, .slice A64 ((ms.take i ++ ((a0, a1, a2, a3, a4) :: ms.drop i)).length) c65) :: (86, .tuple #[.slice A64 ((ms.take i ++ ((a0, a1, a2, a3, a4) :: ms.drop i)).length) c65, .nilIface]) :: _) rfl ?_; clear hA; intro a hA
             refine wpList_nil ?_
             replace hA := hA.sel [4, 7, 12, 13, 14] (e' := [(4, .pointer (some ⟨b, 0, none⟩)), (7, .slice A7 ms.length c8), (12, .int .i64 0), (13, .slice A64 ((ms.take i ++ ((a0, a1, a2, a3, a4) :: ms.drop i)).length) c65), (14, .nilIface)]) rfl
             refine xt_norm ?_
             refine wp_seq ?_
             refine wp_seq ?_
             refine wp_region_lit ?_
             refine st_run tbOk 1 hA (e' := (92, .nilIface) :: _) rfl ?_; clear hA; intro a hA
             refine st_call0 hA rfl rfl rfl isfn13 rfl rfl (by decide) (number_nil13 hS hg) ?_
             clear hA hS; rintro v w66 a ⟨rfl, hS⟩ hA
             refine st_run tbOk 18 hA (e' := (111, .bool false) :: (110, .bool false) :: (109, undef) :: (108, undef) :: (107, undef) :: (106, .bool false) :: (105, .bool false) :: (104, .int .i64 0) :: (103, .bool false) :: (102, .bool false) :: (101, .bool false) :: (100, .bool true) :: (99, .int .i64 0) :: (98, .bool true) :: (97, .nilIface) :: (96, .bool false) :: (95, .bool false) :: (94, .int .i64 0) :: _) rfl ?_; clear hA; intro a hA
             refine wpList_nil ?_
             replace hA := hA.sel [4, 7, 12, 13, 111] (e' := [(4, .pointer (some ⟨b, 0, none⟩)), (7, .slice A7 ms.length c8), (12, .int .i64 0), (13, .slice A64 ((ms.take i ++ ((a0, a1, a2, a3, a4) :: ms.drop i)).length) c65), (111, .bool false)]) rfl
             refine xt_norm ?_
             refine cd_cond_f hA rfl ?_
             refine wp_skip ?_
             refine xt_norm ?_
             refine wp_seq ?_
             refine wp_seq ?_
             refine wp_region_lit ?_
             refine st_run tbOk 2 hA (e' := (113, .bool false) :: (112, .int .i64 0) :: _) rfl ?_; clear hA; intro a hA
             refine wpList_nil ?_
             replace hA := hA.sel [4, 7, 13, 113] (e' := [(4, .pointer (some ⟨b, 0, none⟩)), (7, .slice A7 ms.length c8), (13, .slice A64 ((ms.take i ++ ((a0, a1, a2, a3, a4) :: ms.drop i)).length) c65), (113, .bool false)]) rfl
             refine xt_norm ?_
             refine cd_cond_f hA rfl ?_
             refine wp_skip ?_
             refine xt_norm ?_
             refine wp_seq ?_
             refine wp_region_lit ?_
             refine st_run tbOk 1 hA (e' := (15, .int .i64 0) :: _) rfl ?_; clear hA; intro a hA
             refine wpList_nil ?_
             replace hA := hA.sel [4, 7, 13, 15] (e' := [(4, .pointer (some ⟨b, 0, none⟩)), (7, .slice A7 ms.length c8), (13, .slice A64 ((ms.take i ++ ((a0, a1, a2, a3, a4) :: ms.drop i)).length) c65), (15, .int .i64 0)]) rfl
             refine xt_norm ?_
             refine wp_seq ?_
             refine wp_seq ?_
             refine wp_region_lit ?_
             refine st_run tbOk 3 hA (e' := (116, .int .i64 0) :: (115, .int .i64 (((ms.take i ++ ((a0, a1, a2, a3, a4) :: ms.drop i)).length : Nat) : Int)) :: (114, .slice A64 ((ms.take i ++ ((a0, a1, a2, a3, a4) :: ms.drop i)).length) c65) :: _) rfl ?_; clear hA; intro a hA
             refine wpList_nil ?_
             refine xt_norm ?_
             refine wp_block ?_
             replace hS := hS.front 2 (C := C6) (L' := C63 :: [(b, rowO [.int .i64 a0, .int .i64 a1, .int .i64 a2, .int .i64 a3, .bool a4] 24)] :: F) rfl rfl
             replace hS := hS.front 1 (C := C63) (L' := C6 :: [(b, rowO [.int .i64 a0, .int .i64 a1, .int .i64 a2, .int .i64 a3, .bool a4] 24)] :: F) rfl rfl
             replace hS := hS.front 2 (C := [(b, rowO [.int .i64 a0, .int .i64 a1, .int .i64 a2, .int .i64 a3, .bool a4] 24)]) (L' := C63 :: C6 :: F) rfl rfl
             refine wp_loop_ghost (fun m a w => ∃ (k : Nat) (q : Nat), m = (ms.take i ++ ((a0, a1, a2, a3, a4) :: ms.drop i)).length - k ∧ Has a 164 [(4, .pointer (some ⟨b, 0, none⟩)), (7, .slice A7 ms.length c8), (13, .slice A64 ((ms.take i ++ ((a0, a1, a2, a3, a4) :: ms.drop i)).length) c65), (15, .int .i64 ((q : Nat) : Int)), (114, .slice A64 ((ms.take i ++ ((a0, a1, a2, a3, a4) :: ms.drop i)).length) c65), (115, .int .i64 (((ms.take i ++ ((a0, a1, a2, a3, a4) :: ms.drop i)).length : Nat) : Int)), (116, .int .i64 ((k : Nat) : Int))] ∧ St w0 w ([(b, rowO [.int .i64 a0, .int .i64 a1, .int .i64 a2, .int .i64 a3, .bool a4] 24)] :: C63 :: C6 :: F) ∧ (k ≤ (ms.take i ++ ((a0, a1, a2, a3, a4) :: ms.drop i)).length) ∧ ((k ≤ i ∧ q = k) ∨ (i < k ∧ q + 1 = k))) ((ms.take i ++ ((a0, a1, a2, a3, a4) :: ms.drop i)).length - 0)
               ⟨0, 0, rfl, (hA.sel [4, 7, 13, 15, 114, 115, 116] rfl), hS, Nat.zero_le _, .inl ⟨Nat.zero_le _, rfl⟩⟩ ?_
             clear hA hS; rintro m0 a w67 ⟨k, q, rfl, hA, hS, hk, hq⟩
             refine wp_seq ?_
             refine wp_region_lit ?_
             refine st_run tbOk 1 hA (e' := (117, .bool (decide (((k : Nat) : Int) < (((ms.take i ++ ((a0, a1, a2, a3, a4) :: ms.drop i)).length : Nat) : Int)))) :: _) rfl ?_; clear hA; intro a hA
             refine wpList_nil ?_
             refine xt_norm ?_
             refine wp_seq ?_
             by_cases hc68 : ((k : Nat) : Int) < (((ms.take i ++ ((a0, a1, a2, a3, a4) :: ms.drop i)).length : Nat) : Int)
             · first
               | (exfalso; omega)
               | (replace hA := hA.rw 117 (v' := .bool true) rfl (vb_true hc68)
                  refine cd_cond_t hA rfl ?_
                  refine wp_skip ?_
                  refine xt_norm ?_
                  refine wp_seq ?_
                  refine wp_block ?_
                  refine wp_seq ?_
                  refine wp_region_lit ?_
                  refine st_run tbOk 1 hA (e' := (118, .int .i64 ((k : Nat) : Int)) :: _) rfl ?_; clear hA; intro a hA
                  rcases Nat.lt_trichotomy k i with hki | hki | hki
                  · obtain ⟨⟨y0, y1, y2, y3, y4⟩, hyk⟩ := get_ex (l := ms) (k := k) (by omega)
                    have hLk : (ms.take i ++ ((a0, a1, a2, a3, a4) :: ms.drop i))[k]? = some (y0, y1, y2, y3, y4) := by rw [ins_get hp.le, if_pos hki]; exact hyk
                    have hyq : ms[q]? = some (y0, y1, y2, y3, y4) := by rw [show q = k by omega]; exact hyk
                    have hky := hM.s _ (List.mem_of_getElem? hyk); dsimp only [SOk, ab, az, ag, ao] at hky
                    have hne : ¬ y0 = a0 := fun h => by have := hp.bf k _ hki hyk; dsimp only [ab] at this; omega
                    obtain ⟨b69, o70, rfl⟩ := hO63.isSome (k := k) (by omega)
                    refine st_val hA rfl rfl (by decide) (rn_indexAddr tbOk hA k (o70 + (k * 5)) rfl rfl rfl rfl rfl rfl (by rfl) (by omega) (by first | rfl | simp [Nat.mul_one, Nat.zero_add] | omega)) ?_; clear hA; intro a hA
                    refine st_val hA rfl rfl (by decide) (rn_loadA tbOk hA ([.int .i64 y0, .int .i64 y1, .int .i64 y2, .int .i64 y3, .bool y4]) rfl rfl rfl rfl (by rfl) ((hO63.rd (hS.own_ 1 rfl)).elem (k := k) encArea_ok hLk)) ?_; clear hA; intro a hA
                    refine st_alloc tbOk hA hS [.int .i64 0, .int .i64 0, .int .i64 0, .int .i64 0, .bool false] rfl rfl rfl rfl rfl (by decide) ?_; clear hA hS; intro b71 w72 a hS hA
                    refine st_run tbOk 1 hA (e' := (16, .int .i64 ((k : Nat) : Int)) :: _) rfl ?_; clear hA; intro a hA
                    refine st_store tbOk hA hS [.int .i64 y0, .int .i64 y1, .int .i64 y2, .int .i64 y3, .bool y4] [.int .i64 y0, .int .i64 y1, .int .i64 y2, .int .i64 y3, .bool y4] rfl rfl rfl rfl rfl rfl (by simp [Value.oneCell']) (Nat.le_of_ble_eq_true rfl) rfl rfl rfl ?_; clear hS; intro w73 hS
                    refine wpList_nil ?_
                    replace hA := hA.sel [4, 7, 13, 15, 16, 17, 114, 115, 116] (e' := [(4, .pointer (some ⟨b, 0, none⟩)), (7, .slice A7 ms.length c8), (13, .slice (some ⟨b69, o70, none⟩) ((ms.take i ++ ((a0, a1, a2, a3, a4) :: ms.drop i)).length) c65), (15, .int .i64 ((q : Nat) : Int)), (16, .int .i64 ((k : Nat) : Int)), (17, .pointer (some ⟨b71, 0, none⟩)), (114, .slice (some ⟨b69, o70, none⟩) ((ms.take i ++ ((a0, a1, a2, a3, a4) :: ms.drop i)).length) c65), (115, .int .i64 (((ms.take i ++ ((a0, a1, a2, a3, a4) :: ms.drop i)).length : Nat) : Int)), (116, .int .i64 ((k : Nat) : Int))]) rfl
                    refine xt_norm ?_
                    refine wp_seq ?_
                    refine wp_seq ?_
                    refine wp_draw (fun w' => St w0 w' ([(b71, rowO [.int .i64 y0, .int .i64 y1, .int .i64 y2, .int .i64 y3, .bool y4] 24)] :: [(b, rowO [.int .i64 a0, .int .i64 a1, .int .i64 a2, .int .i64 a3, .bool a4] 24)] :: C63 :: C6 :: F)) [] [(0, true), (1, true), (2, true), (3, true), (4, true), (5, true), (6, true), (7, true), (8, true), (9, true), (10, true), (11, true), (12, true)] mixed (by kernel_rfl) (by rintro c a w ⟨_, _, h, _⟩; cases h) (by rfl) (by kernel_rfl) ?_
                    replace hS := hS.drew
                    refine dr_run tbOk 3 hA hS (e' := (123, .bool (decide (((k : Nat) : Int) > 0))) :: (122, .bool (decide (((k : Nat) : Int) > 0))) :: (121, .int .i64 ((k : Nat) : Int)) :: _) rfl ?_; clear hA; intro a hA
                    by_cases hc74 : ((k : Nat) : Int) > 0
                    · first
                      | (exfalso; omega)
                      | (replace hA := hA.rw 122 (v' := .bool true) rfl (vb_true hc74)
                         replace hA := hA.rw 123 (v' := .bool true) rfl (vb_true hc74)
                         refine dr_run tbOk 1 hA hS (e' := (124, .pointer (some ⟨b71, 0, none⟩)) :: _) rfl ?_; clear hA; intro a hA
                         refine dr_y hA rfl rfl rfl (by decide) hS (fun w' hS' => rn_load tbOk hA rfl rfl rfl rfl (cell_row (hS'.heapAt 0 rfl) rfl)) ?_; clear hA; intro a hA
                         refine dr_run tbOk 3 hA hS (e' := (128, .int .i64 (IntKind.i64.wrap (((k : Nat) : Int) - 1))) :: (127, .int .i64 ((k : Nat) : Int)) :: (126, .slice (some ⟨b69, o70, none⟩) ((ms.take i ++ ((a0, a1, a2, a3, a4) :: ms.drop i)).length) c65) :: _) rfl ?_; clear hA; intro a hA
                         replace hA := hA.rw 128 (v' := .int .i64 (((k : Nat) : Int) - 1)) rfl (wr64 (by omega) (by omega) (by omega))
                         replace hA := hA.rw 128 (v' := .int .i64 ((k - 1 : Nat) : Int)) rfl (vint (by omega))
                         refine dr_y hA rfl rfl rfl (by decide) hS (fun w' hS' => rn_indexAddr tbOk hA (k - 1) (o70 + ((k - 1) * 5)) rfl rfl rfl rfl rfl rfl (by rfl) (by omega) (by first | rfl | simp [Nat.mul_one, Nat.zero_add] | omega)) ?_; clear hA; intro a hA
                         refine dr_run tbOk 1 hA hS (e' := (130, .pointer (some ⟨b69, o70 + ((k - 1) * 5), none⟩)) :: _) rfl ?_; clear hA; intro a hA
                         obtain ⟨x75, hx75⟩ := get_ex (l := ms.take i ++ ((a0, a1, a2, a3, a4) :: ms.drop i)) (k := k - 1) (by omega)
                         obtain ⟨x75f0, x75f1, x75f2, x75f3, x75f4⟩ := x75
                         refine dr_y hA rfl rfl rfl (by decide) hS (fun w' hS' => rn_load tbOk hA rfl rfl rfl rfl ((hO63.rd (hS'.own_ 2 rfl)).elemf (k := k - 1) encArea_ok hx75 (j := 0) rfl)) ?_; clear hA; intro a hA
                         have hr9 := hRis (k - 1) k _ _ (by omega) hx75 hLk; dsimp only [ab, az] at hr9; have hs9 := hLs _ (List.mem_of_getElem? hx75); dsimp only [az] at hs9
                         refine dr_run tbOk 2 hA hS (e' := (133, .bool (decide (y0 ≤ x75f0))) :: (132, .bool (decide (y0 ≤ x75f0))) :: _) rfl ?_; clear hA; intro a hA
                         refine dr_end ?_
                         replace hA := hA.sel [4, 7, 13, 15, 17, 114, 115, 116, 133] (e' := [(4, .pointer (some ⟨b, 0, none⟩)), (7, .slice A7 ms.length c8), (13, .slice (some ⟨b69, o70, none⟩) ((ms.take i ++ ((a0, a1, a2, a3, a4) :: ms.drop i)).length) c65), (15, .int .i64 ((q : Nat) : Int)), (17, .pointer (some ⟨b71, 0, none⟩)), (114, .slice (some ⟨b69, o70, none⟩) ((ms.take i ++ ((a0, a1, a2, a3, a4) :: ms.drop i)).length) c65), (115, .int .i64 (((ms.take i ++ ((a0, a1, a2, a3, a4) :: ms.drop i)).length : Nat) : Int)), (116, .int .i64 ((k : Nat) : Int)), (133, .bool (decide (y0 ≤ x75f0)))]) rfl
                         refine xt_norm ?_
                         by_cases hc76 : y0 ≤ x75f0
                         · first
                           | (exfalso; omega)
                           | (replace hA := hA.rw 133 (v' := .bool true) rfl (vb_true hc76)
                              refine cd_cond_t hA rfl ?_
                              refine wp_seq ?_
                              refine wp_region_lit ?_
                              refine st_run tbOk 1 hA (e' := (6, .bool false) :: _) rfl ?_; clear hA; intro a hA
                              refine wpList_nil ?_
                              replace hA := hA.sel [6] (e' := [(6, .bool false)]) rfl
                              refine xt_norm ?_
                              refine wp_ret (xt_ret (xb_ret (xt_ret (xt_ret (xb_ret (xt_ret ?_))))))
                              refine ret1 (fn := Tryd.f3) hA rfl rfl ?_
                              exfalso; omega)
                         · first
                           | (exfalso; omega)
                           | (replace hA := hA.rw 133 (v' := .bool false) rfl (vb_false hc76)
                              refine cd_cond_f hA rfl ?_
                              refine wp_skip ?_
                              refine xt_norm ?_
                              refine wp_seq ?_
                              refine wp_seq ?_
                              refine wp_region_lit ?_
                              refine st_val hA rfl rfl (by decide) (rn_loadA tbOk hA [.int .i64 y0, .int .i64 y1, .int .i64 y2, .int .i64 y3, .bool y4] rfl rfl rfl rfl rfl (cells_row (hS.heapAt 0 rfl) rfl)) ?_; clear hA; intro a hA
                              refine st_val hA rfl rfl (by decide) (rn_loadA tbOk hA [.int .i64 a0, .int .i64 a1, .int .i64 a2, .int .i64 a3, .bool a4] rfl rfl rfl rfl rfl (cells_row (hS.heapAt 1 rfl) rfl)) ?_; clear hA; intro a hA
                              refine st_val hA rfl rfl (by decide) (rn_eqA tbOk hA rfl rfl rfl rfl rfl (by kernel_rfl) (by kernel_rfl) rfl) ?_; clear hA; intro a hA
                              refine wpList_nil ?_
                              replace hA := hA.sel [4, 7, 13, 15, 17, 114, 115, 116, 136] (e' := [(4, .pointer (some ⟨b, 0, none⟩)), (7, .slice A7 ms.length c8), (13, .slice (some ⟨b69, o70, none⟩) ((ms.take i ++ ((a0, a1, a2, a3, a4) :: ms.drop i)).length) c65), (15, .int .i64 ((q : Nat) : Int)), (17, .pointer (some ⟨b71, 0, none⟩)), (114, .slice (some ⟨b69, o70, none⟩) ((ms.take i ++ ((a0, a1, a2, a3, a4) :: ms.drop i)).length) c65), (115, .int .i64 (((ms.take i ++ ((a0, a1, a2, a3, a4) :: ms.drop i)).length : Nat) : Int)), (116, .int .i64 ((k : Nat) : Int)), (136, .bool (((y0 : Int) == (a0 : Int)) && (((y1 : Int) == (a1 : Int)) && (((y2 : Int) == (a2 : Int)) && (((y3 : Int) == (a3 : Int)) && (((y4 : Bool) == (a4 : Bool)) && true))))))]) rfl
                              refine xt_norm ?_
                              have hc77 : ¬ ((((y0 : Int) == (a0 : Int)) && (((y1 : Int) == (a1 : Int)) && (((y2 : Int) == (a2 : Int)) && (((y3 : Int) == (a3 : Int)) && (((y4 : Bool) == (a4 : Bool)) && true))))) = true) := (fun h => by simp only [Bool.and_eq_true, beq_iff_eq] at h; exact hne h.1)
                              replace hA := hA.rw 136 (v' := .bool false) rfl (vb_f hc77)
                              refine cd_cond_f hA rfl ?_
                              refine wp_skip ?_
                              refine xt_norm ?_
                              refine wp_seq ?_
                              refine wp_seq ?_
                              have hql : q < ms.length := (List.getElem?_eq_some_iff.1 hyq).1
                              obtain ⟨b78, o79, rfl⟩ := hO6.isSome (k := q) (by omega)
                              refine wp_draw (fun w' => St w0 w' ([(b71, rowO [.int .i64 y0, .int .i64 y1, .int .i64 y2, .int .i64 y3, .bool y4] 24)] :: [(b, rowO [.int .i64 a0, .int .i64 a1, .int .i64 a2, .int .i64 a3, .bool a4] 24)] :: C63 :: C6 :: F)) [] [(0, true), (1, true), (2, true), (3, true), (4, true), (5, true), (6, true), (7, true), (8, true), (9, true), (10, true), (11, true)] mixed (by kernel_rfl) (by rintro c a w ⟨_, _, h, _⟩; cases h) (by rfl) (by kernel_rfl) ?_
                              replace hS := hS.drew
                              refine dr_run tbOk 5 hA hS (e' := (141, .bool (decide (((q : Nat) : Int) ≥ ((ms.length : Nat) : Int)))) :: (140, .bool (decide (((q : Nat) : Int) ≥ ((ms.length : Nat) : Int)))) :: (139, .int .i64 ((ms.length : Nat) : Int)) :: (138, .slice (some ⟨b78, o79, none⟩) ms.length c8) :: (137, .int .i64 ((q : Nat) : Int)) :: _) rfl ?_; clear hA; intro a hA
                              by_cases hc80 : ((q : Nat) : Int) ≥ ((ms.length : Nat) : Int)
                              · first
                                | (exfalso; omega)
                                | (replace hA := hA.rw 140 (v' := .bool true) rfl (vb_true hc80)
                                   replace hA := hA.rw 141 (v' := .bool true) rfl (vb_true hc80)
                                   refine dr_run tbOk 7 hA hS (e' := (148, .bool true) :: (147, undef) :: (146, undef) :: (145, undef) :: (144, undef) :: (143, undef) :: (142, undef) :: _) rfl ?_; clear hA; intro a hA
                                   refine dr_end ?_
                                   replace hA := hA.sel [4, 7, 13, 15, 114, 115, 116, 148] (e' := [(4, .pointer (some ⟨b, 0, none⟩)), (7, .slice (some ⟨b78, o79, none⟩) ms.length c8), (13, .slice (some ⟨b69, o70, none⟩) ((ms.take i ++ ((a0, a1, a2, a3, a4) :: ms.drop i)).length) c65), (15, .int .i64 ((q : Nat) : Int)), (114, .slice (some ⟨b69, o70, none⟩) ((ms.take i ++ ((a0, a1, a2, a3, a4) :: ms.drop i)).length) c65), (115, .int .i64 (((ms.take i ++ ((a0, a1, a2, a3, a4) :: ms.drop i)).length : Nat) : Int)), (116, .int .i64 ((k : Nat) : Int)), (148, .bool true)]) rfl
                                   refine xt_norm ?_
                                   refine cd_cond_t hA rfl ?_
                                   refine wp_seq ?_
                                   refine wp_region_lit ?_
                                   refine st_run tbOk 1 hA (e' := (6, .bool false) :: _) rfl ?_; clear hA; intro a hA
                                   refine wpList_nil ?_
                                   replace hA := hA.sel [6] (e' := [(6, .bool false)]) rfl
                                   refine xt_norm ?_
                                   refine wp_ret (xt_ret (xb_ret (xt_ret (xt_ret (xb_ret (xt_ret ?_))))))
                                   refine ret1 (fn := Tryd.f3) hA rfl rfl ?_
                                   exfalso; omega)
                              · first
                                | (exfalso; omega)
                                | (replace hA := hA.rw 140 (v' := .bool false) rfl (vb_false hc80)
                                   replace hA := hA.rw 141 (v' := .bool false) rfl (vb_false hc80)
                                   refine dr_run tbOk 2 hA hS (e' := (143, .int .i64 ((q : Nat) : Int)) :: (142, .slice (some ⟨b78, o79, none⟩) ms.length c8) :: _) rfl ?_; clear hA; intro a hA
                                   refine dr_y hA rfl rfl rfl (by decide) hS (fun w' hS' => rn_indexAddr tbOk hA q (o79 + (q * 5)) rfl rfl rfl rfl rfl rfl (by rfl) (by omega) (by first | rfl | simp [Nat.mul_one, Nat.zero_add] | omega)) ?_; clear hA; intro a hA
                                   refine dr_y hA rfl rfl rfl (by decide) hS (fun w' hS' => rn_loadA tbOk hA ([.int .i64 y0, .int .i64 y1, .int .i64 y2, .int .i64 y3, .bool y4]) rfl rfl rfl rfl (by rfl) ((hO6.rd (hS'.own_ 3 rfl)).elem (k := q) encArea_ok hyq)) ?_; clear hA; intro a hA
                                   refine dr_y hA rfl rfl rfl (by decide) hS (fun w' hS' => rn_loadA tbOk hA [.int .i64 y0, .int .i64 y1, .int .i64 y2, .int .i64 y3, .bool y4] rfl rfl rfl rfl rfl (cells_row (hS'.heapAt 0 rfl) rfl)) ?_; clear hA; intro a hA
                                   refine dr_y hA rfl rfl rfl (by decide) hS (fun w' hS' => rn_neA tbOk hA rfl rfl rfl rfl rfl (by kernel_rfl) (by kernel_rfl) rfl) ?_; clear hA; intro a hA
                                   replace hA := hA.rw 147 (v' := .bool false) rfl (by simp)
                                   refine dr_run tbOk 1 hA hS (e' := (148, .bool false) :: _) rfl ?_; clear hA; intro a hA
                                   refine dr_end ?_
                                   replace hA := hA.sel [4, 7, 13, 15, 114, 115, 116, 148] (e' := [(4, .pointer (some ⟨b, 0, none⟩)), (7, .slice (some ⟨b78, o79, none⟩) ms.length c8), (13, .slice (some ⟨b69, o70, none⟩) ((ms.take i ++ ((a0, a1, a2, a3, a4) :: ms.drop i)).length) c65), (15, .int .i64 ((q : Nat) : Int)), (114, .slice (some ⟨b69, o70, none⟩) ((ms.take i ++ ((a0, a1, a2, a3, a4) :: ms.drop i)).length) c65), (115, .int .i64 (((ms.take i ++ ((a0, a1, a2, a3, a4) :: ms.drop i)).length : Nat) : Int)), (116, .int .i64 ((k : Nat) : Int)), (148, .bool false)]) rfl
                                   refine xt_norm ?_
                                   refine cd_cond_f hA rfl ?_
                                   refine wp_skip ?_
                                   refine xt_norm ?_
                                   refine wp_region_lit ?_
                                   refine st_run tbOk 2 hA (e' := (150, .int .i64 (IntKind.i64.wrap (((q : Nat) : Int) + 1))) :: (149, .int .i64 ((q : Nat) : Int)) :: _) rfl ?_; clear hA; intro a hA
                                   replace hA := hA.rw 150 (v' := .int .i64 ((q + 1 : Nat) : Int)) rfl (wr64 (by omega) (by omega) (by omega))
                                   refine st_run tbOk 1 hA (e' := (15, .int .i64 ((q + 1 : Nat) : Int)) :: _) rfl ?_; clear hA; intro a hA
                                   refine wpList_nil ?_
                                   replace hA := hA.sel [4, 7, 13, 15, 114, 115, 116] (e' := [(4, .pointer (some ⟨b, 0, none⟩)), (7, .slice (some ⟨b78, o79, none⟩) ms.length c8), (13, .slice (some ⟨b69, o70, none⟩) ((ms.take i ++ ((a0, a1, a2, a3, a4) :: ms.drop i)).length) c65), (15, .int .i64 ((q + 1 : Nat) : Int)), (114, .slice (some ⟨b69, o70, none⟩) ((ms.take i ++ ((a0, a1, a2, a3, a4) :: ms.drop i)).length) c65), (115, .int .i64 (((ms.take i ++ ((a0, a1, a2, a3, a4) :: ms.drop i)).length : Nat) : Int)), (116, .int .i64 ((k : Nat) : Int))]) rfl
                                   refine xb_norm ?_
                                   refine xt_norm ?_
                                   refine wp_region_lit ?_
                                   refine st_run tbOk 1 hA (e' := (151, .int .i64 (IntKind.i64.wrap (((k : Nat) : Int) + 1))) :: _) rfl ?_; clear hA; intro a hA
                                   replace hA := hA.rw 151 (v' := .int .i64 ((k + 1 : Nat) : Int)) rfl (wr64 (by omega) (by omega) (by omega))
                                   refine st_run tbOk 1 hA (e' := (116, .int .i64 ((k + 1 : Nat) : Int)) :: _) rfl ?_; clear hA; intro a hA
                                   refine wpList_nil ?_
                                   replace hA := hA.sel [4, 7, 13, 15, 114, 115, 116] (e' := [(4, .pointer (some ⟨b, 0, none⟩)), (7, .slice (some ⟨b78, o79, none⟩) ms.length c8), (13, .slice (some ⟨b69, o70, none⟩) ((ms.take i ++ ((a0, a1, a2, a3, a4) :: ms.drop i)).length) c65), (15, .int .i64 ((q + 1 : Nat) : Int)), (114, .slice (some ⟨b69, o70, none⟩) ((ms.take i ++ ((a0, a1, a2, a3, a4) :: ms.drop i)).length) c65), (115, .int .i64 (((ms.take i ++ ((a0, a1, a2, a3, a4) :: ms.drop i)).length : Nat) : Int)), (116, .int .i64 ((k + 1 : Nat) : Int))]) rfl
                                   replace hS := hS.drop1
                                   replace hS := hS.front 2 (C := C6) (L' := [(b, rowO [.int .i64 a0, .int .i64 a1, .int .i64 a2, .int .i64 a3, .bool a4] 24)] :: C63 :: F) rfl rfl
                                   replace hS := hS.front 2 (C := C63) (L' := C6 :: [(b, rowO [.int .i64 a0, .int .i64 a1, .int .i64 a2, .int .i64 a3, .bool a4] 24)] :: F) rfl rfl
                                   replace hS := hS.front 2 (C := [(b, rowO [.int .i64 a0, .int .i64 a1, .int .i64 a2, .int .i64 a3, .bool a4] 24)]) (L' := C63 :: C6 :: F) rfl rfl
                                   exact lp_next _ (by omega) ⟨(k + 1), (q + 1), rfl, (hA.sel [4, 7, 13, 15, 114, 115, 116] rfl), hS, by omega, by omega⟩)))
                    · first
                      | (exfalso; omega)
                      | (replace hA := hA.rw 122 (v' := .bool false) rfl (vb_false hc74)
                         replace hA := hA.rw 123 (v' := .bool false) rfl (vb_false hc74)
                         refine dr_run tbOk 5 hA hS (e' := (128, undef) :: (127, undef) :: (126, undef) :: (125, undef) :: (124, undef) :: _) rfl ?_; clear hA; intro a hA
                         refine dr_run tbOk 3 hA hS (e' := (131, undef) :: (130, undef) :: (129, undef) :: _) rfl ?_; clear hA; intro a hA
                         refine dr_run tbOk 2 hA hS (e' := (133, .bool false) :: (132, undef) :: _) rfl ?_; clear hA; intro a hA
                         refine dr_end ?_
                         replace hA := hA.sel [4, 7, 13, 15, 17, 114, 115, 116, 133] (e' := [(4, .pointer (some ⟨b, 0, none⟩)), (7, .slice A7 ms.length c8), (13, .slice (some ⟨b69, o70, none⟩) ((ms.take i ++ ((a0, a1, a2, a3, a4) :: ms.drop i)).length) c65), (15, .int .i64 ((q : Nat) : Int)), (17, .pointer (some ⟨b71, 0, none⟩)), (114, .slice (some ⟨b69, o70, none⟩) ((ms.take i ++ ((a0, a1, a2, a3, a4) :: ms.drop i)).length) c65), (115, .int .i64 (((ms.take i ++ ((a0, a1, a2, a3, a4) :: ms.drop i)).length : Nat) : Int)), (116, .int .i64 ((k : Nat) : Int)), (133, .bool false)]) rfl
                         refine xt_norm ?_
                         refine cd_cond_f hA rfl ?_
                         refine wp_skip ?_
                         refine xt_norm ?_
                         refine wp_seq ?_
                         refine wp_seq ?_
                         refine wp_region_lit ?_
                         refine st_val hA rfl rfl (by decide) (rn_loadA tbOk hA [.int .i64 y0, .int .i64 y1, .int .i64 y2, .int .i64 y3, .bool y4] rfl rfl rfl rfl rfl (cells_row (hS.heapAt 0 rfl) rfl)) ?_; clear hA; intro a hA
                         refine st_val hA rfl rfl (by decide) (rn_loadA tbOk hA [.int .i64 a0, .int .i64 a1, .int .i64 a2, .int .i64 a3, .bool a4] rfl rfl rfl rfl rfl (cells_row (hS.heapAt 1 rfl) rfl)) ?_; clear hA; intro a hA
                         refine st_val hA rfl rfl (by decide) (rn_eqA tbOk hA rfl rfl rfl rfl rfl (by kernel_rfl) (by kernel_rfl) rfl) ?_; clear hA; intro a hA
                         refine wpList_nil ?_
                         replace hA := hA.sel [4, 7, 13, 15, 17, 114, 115, 116, 136] (e' := [(4, .pointer (some ⟨b, 0, none⟩)), (7, .slice A7 ms.length c8), (13, .slice (some ⟨b69, o70, none⟩) ((ms.take i ++ ((a0, a1, a2, a3, a4) :: ms.drop i)).length) c65), (15, .int .i64 ((q : Nat) : Int)), (17, .pointer (some ⟨b71, 0, none⟩)), (114, .slice (some ⟨b69, o70, none⟩) ((ms.take i ++ ((a0, a1, a2, a3, a4) :: ms.drop i)).length) c65), (115, .int .i64 (((ms.take i ++ ((a0, a1, a2, a3, a4) :: ms.drop i)).length : Nat) : Int)), (116, .int .i64 ((k : Nat) : Int)), (136, .bool (((y0 : Int) == (a0 : Int)) && (((y1 : Int) == (a1 : Int)) && (((y2 : Int) == (a2 : Int)) && (((y3 : Int) == (a3 : Int)) && (((y4 : Bool) == (a4 : Bool)) && true))))))]) rfl
                         refine xt_norm ?_
                         have hc81 : ¬ ((((y0 : Int) == (a0 : Int)) && (((y1 : Int) == (a1 : Int)) && (((y2 : Int) == (a2 : Int)) && (((y3 : Int) == (a3 : Int)) && (((y4 : Bool) == (a4 : Bool)) && true))))) = true) := (fun h => by simp only [Bool.and_eq_true, beq_iff_eq] at h; exact hne h.1)
                         replace hA := hA.rw 136 (v' := .bool false) rfl (vb_f hc81)
                         refine cd_cond_f hA rfl ?_
                         refine wp_skip ?_
                         refine xt_norm ?_
                         refine wp_seq ?_
                         refine wp_seq ?_
                         have hql : q < ms.length := (List.getElem?_eq_some_iff.1 hyq).1
                         obtain ⟨b82, o83, rfl⟩ := hO6.isSome (k := q) (by omega)
                         refine wp_draw (fun w' => St w0 w' ([(b71, rowO [.int .i64 y0, .int .i64 y1, .int .i64 y2, .int .i64 y3, .bool y4] 24)] :: [(b, rowO [.int .i64 a0, .int .i64 a1, .int .i64 a2, .int .i64 a3, .bool a4] 24)] :: C63 :: C6 :: F)) [] [(0, true), (1, true), (2, true), (3, true), (4, true), (5, true), (6, true), (7, true), (8, true), (9, true), (10, true), (11, true)] mixed (by kernel_rfl) (by rintro c a w ⟨_, _, h, _⟩; cases h) (by rfl) (by kernel_rfl) ?_
                         replace hS := hS.drew
                         refine dr_run tbOk 5 hA hS (e' := (141, .bool (decide (((q : Nat) : Int) ≥ ((ms.length : Nat) : Int)))) :: (140, .bool (decide (((q : Nat) : Int) ≥ ((ms.length : Nat) : Int)))) :: (139, .int .i64 ((ms.length : Nat) : Int)) :: (138, .slice (some ⟨b82, o83, none⟩) ms.length c8) :: (137, .int .i64 ((q : Nat) : Int)) :: _) rfl ?_; clear hA; intro a hA
                         by_cases hc84 : ((q : Nat) : Int) ≥ ((ms.length : Nat) : Int)
                         · first
                           | (exfalso; omega)
                           | (replace hA := hA.rw 140 (v' := .bool true) rfl (vb_true hc84)
                              replace hA := hA.rw 141 (v' := .bool true) rfl (vb_true hc84)
                              refine dr_run tbOk 7 hA hS (e' := (148, .bool true) :: (147, undef) :: (146, undef) :: (145, undef) :: (144, undef) :: (143, undef) :: (142, undef) :: _) rfl ?_; clear hA; intro a hA
                              refine dr_end ?_
                              replace hA := hA.sel [4, 7, 13, 15, 114, 115, 116, 148] (e' := [(4, .pointer (some ⟨b, 0, none⟩)), (7, .slice (some ⟨b82, o83, none⟩) ms.length c8), (13, .slice (some ⟨b69, o70, none⟩) ((ms.take i ++ ((a0, a1, a2, a3, a4) :: ms.drop i)).length) c65), (15, .int .i64 ((q : Nat) : Int)), (114, .slice (some ⟨b69, o70, none⟩) ((ms.take i ++ ((a0, a1, a2, a3, a4) :: ms.drop i)).length) c65), (115, .int .i64 (((ms.take i ++ ((a0, a1, a2, a3, a4) :: ms.drop i)).length : Nat) : Int)), (116, .int .i64 ((k : Nat) : Int)), (148, .bool true)]) rfl
                              refine xt_norm ?_
                              refine cd_cond_t hA rfl ?_
                              refine wp_seq ?_
                              refine wp_region_lit ?_
                              refine st_run tbOk 1 hA (e' := (6, .bool false) :: _) rfl ?_; clear hA; intro a hA
                              refine wpList_nil ?_
                              replace hA := hA.sel [6] (e' := [(6, .bool false)]) rfl
                              refine xt_norm ?_
                              refine wp_ret (xt_ret (xb_ret (xt_ret (xt_ret (xb_ret (xt_ret ?_))))))
                              refine ret1 (fn := Tryd.f3) hA rfl rfl ?_
                              exfalso; omega)
                         · first
                           | (exfalso; omega)
                           | (replace hA := hA.rw 140 (v' := .bool false) rfl (vb_false hc84)
                              replace hA := hA.rw 141 (v' := .bool false) rfl (vb_false hc84)
                              refine dr_run tbOk 2 hA hS (e' := (143, .int .i64 ((q : Nat) : Int)) :: (142, .slice (some ⟨b82, o83, none⟩) ms.length c8) :: _) rfl ?_; clear hA; intro a hA
                              refine dr_y hA rfl rfl rfl (by decide) hS (fun w' hS' => rn_indexAddr tbOk hA q (o83 + (q * 5)) rfl rfl rfl rfl rfl rfl (by rfl) (by omega) (by first | rfl | simp [Nat.mul_one, Nat.zero_add] | omega)) ?_; clear hA; intro a hA
                              refine dr_y hA rfl rfl rfl (by decide) hS (fun w' hS' => rn_loadA tbOk hA ([.int .i64 y0, .int .i64 y1, .int .i64 y2, .int .i64 y3, .bool y4]) rfl rfl rfl rfl (by rfl) ((hO6.rd (hS'.own_ 3 rfl)).elem (k := q) encArea_ok hyq)) ?_; clear hA; intro a hA
                              refine dr_y hA rfl rfl rfl (by decide) hS (fun w' hS' => rn_loadA tbOk hA [.int .i64 y0, .int .i64 y1, .int .i64 y2, .int .i64 y3, .bool y4] rfl rfl rfl rfl rfl (cells_row (hS'.heapAt 0 rfl) rfl)) ?_; clear hA; intro a hA
                              refine dr_y hA rfl rfl rfl (by decide) hS (fun w' hS' => rn_neA tbOk hA rfl rfl rfl rfl rfl (by kernel_rfl) (by kernel_rfl) rfl) ?_; clear hA; intro a hA
                              replace hA := hA.rw 147 (v' := .bool false) rfl (by simp)
                              refine dr_run tbOk 1 hA hS (e' := (148, .bool false) :: _) rfl ?_; clear hA; intro a hA
                              refine dr_end ?_
                              replace hA := hA.sel [4, 7, 13, 15, 114, 115, 116, 148] (e' := [(4, .pointer (some ⟨b, 0, none⟩)), (7, .slice (some ⟨b82, o83, none⟩) ms.length c8), (13, .slice (some ⟨b69, o70, none⟩) ((ms.take i ++ ((a0, a1, a2, a3, a4) :: ms.drop i)).length) c65), (15, .int .i64 ((q : Nat) : Int)), (114, .slice (some ⟨b69, o70, none⟩) ((ms.take i ++ ((a0, a1, a2, a3, a4) :: ms.drop i)).length) c65), (115, .int .i64 (((ms.take i ++ ((a0, a1, a2, a3, a4) :: ms.drop i)).length : Nat) : Int)), (116, .int .i64 ((k : Nat) : Int)), (148, .bool false)]) rfl
                              refine xt_norm ?_
                              refine cd_cond_f hA rfl ?_
                              refine wp_skip ?_
                              refine xt_norm ?_
                              refine wp_region_lit ?_
                              refine st_run tbOk 2 hA (e' := (150, .int .i64 (IntKind.i64.wrap (((q : Nat) : Int) + 1))) :: (149, .int .i64 ((q : Nat) : Int)) :: _) rfl ?_; clear hA; intro a hA
                              replace hA := hA.rw 150 (v' := .int .i64 ((q + 1 : Nat) : Int)) rfl (wr64 (by omega) (by omega) (by omega))
                              refine st_run tbOk 1 hA (e' := (15, .int .i64 ((q + 1 : Nat) : Int)) :: _) rfl ?_; clear hA; intro a hA
                              refine wpList_nil ?_
                              replace hA := hA.sel [4, 7, 13, 15, 114, 115, 116] (e' := [(4, .pointer (some ⟨b, 0, none⟩)), (7, .slice (some ⟨b82, o83, none⟩) ms.length c8), (13, .slice (some ⟨b69, o70, none⟩) ((ms.take i ++ ((a0, a1, a2, a3, a4) :: ms.drop i)).length) c65), (15, .int .i64 ((q + 1 : Nat) : Int)), (114, .slice (some ⟨b69, o70, none⟩) ((ms.take i ++ ((a0, a1, a2, a3, a4) :: ms.drop i)).length) c65), (115, .int .i64 (((ms.take i ++ ((a0, a1, a2, a3, a4) :: ms.drop i)).length : Nat) : Int)), (116, .int .i64 ((k : Nat) : Int))]) rfl
                              refine xb_norm ?_
                              refine xt_norm ?_
                              refine wp_region_lit ?_
                              refine st_run tbOk 1 hA (e' := (151, .int .i64 (IntKind.i64.wrap (((k : Nat) : Int) + 1))) :: _) rfl ?_; clear hA; intro a hA
                              replace hA := hA.rw 151 (v' := .int .i64 ((k + 1 : Nat) : Int)) rfl (wr64 (by omega) (by omega) (by omega))
                              refine st_run tbOk 1 hA (e' := (116, .int .i64 ((k + 1 : Nat) : Int)) :: _) rfl ?_; clear hA; intro a hA
                              refine wpList_nil ?_
                              replace hA := hA.sel [4, 7, 13, 15, 114, 115, 116] (e' := [(4, .pointer (some ⟨b, 0, none⟩)), (7, .slice (some ⟨b82, o83, none⟩) ms.length c8), (13, .slice (some ⟨b69, o70, none⟩) ((ms.take i ++ ((a0, a1, a2, a3, a4) :: ms.drop i)).length) c65), (15, .int .i64 ((q + 1 : Nat) : Int)), (114, .slice (some ⟨b69, o70, none⟩) ((ms.take i ++ ((a0, a1, a2, a3, a4) :: ms.drop i)).length) c65), (115, .int .i64 (((ms.take i ++ ((a0, a1, a2, a3, a4) :: ms.drop i)).length : Nat) : Int)), (116, .int .i64 ((k + 1 : Nat) : Int))]) rfl
                              replace hS := hS.drop1
                              replace hS := hS.front 2 (C := C6) (L' := [(b, rowO [.int .i64 a0, .int .i64 a1, .int .i64 a2, .int .i64 a3, .bool a4] 24)] :: C63 :: F) rfl rfl
                              replace hS := hS.front 2 (C := C63) (L' := C6 :: [(b, rowO [.int .i64 a0, .int .i64 a1, .int .i64 a2, .int .i64 a3, .bool a4] 24)] :: F) rfl rfl
                              replace hS := hS.front 2 (C := [(b, rowO [.int .i64 a0, .int .i64 a1, .int .i64 a2, .int .i64 a3, .bool a4] 24)]) (L' := C63 :: C6 :: F) rfl rfl
                              exact lp_next _ (by omega) ⟨(k + 1), (q + 1), rfl, (hA.sel [4, 7, 13, 15, 114, 115, 116] rfl), hS, by omega, by omega⟩))
                  · have hLk : (ms.take i ++ ((a0, a1, a2, a3, a4) :: ms.drop i))[k]? = some (a0, a1, a2, a3, a4) := by rw [ins_get hp.le, if_neg (by omega), if_pos hki]
                    obtain ⟨b85, o86, rfl⟩ := hO63.isSome (k := k) (by omega)
                    refine st_val hA rfl rfl (by decide) (rn_indexAddr tbOk hA k (o86 + (k * 5)) rfl rfl rfl rfl rfl rfl (by rfl) (by omega) (by first | rfl | simp [Nat.mul_one, Nat.zero_add] | omega)) ?_; clear hA; intro a hA
                    refine st_val hA rfl rfl (by decide) (rn_loadA tbOk hA ([.int .i64 a0, .int .i64 a1, .int .i64 a2, .int .i64 a3, .bool a4]) rfl rfl rfl rfl (by rfl) ((hO63.rd (hS.own_ 1 rfl)).elem (k := k) encArea_ok hLk)) ?_; clear hA; intro a hA
                    refine st_alloc tbOk hA hS [.int .i64 0, .int .i64 0, .int .i64 0, .int .i64 0, .bool false] rfl rfl rfl rfl rfl (by decide) ?_; clear hA hS; intro b87 w88 a hS hA
                    refine st_run tbOk 1 hA (e' := (16, .int .i64 ((k : Nat) : Int)) :: _) rfl ?_; clear hA; intro a hA
                    refine st_store tbOk hA hS [.int .i64 a0, .int .i64 a1, .int .i64 a2, .int .i64 a3, .bool a4] [.int .i64 a0, .int .i64 a1, .int .i64 a2, .int .i64 a3, .bool a4] rfl rfl rfl rfl rfl rfl (by simp [Value.oneCell']) (Nat.le_of_ble_eq_true rfl) rfl rfl rfl ?_; clear hS; intro w89 hS
                    refine wpList_nil ?_
                    replace hA := hA.sel [4, 7, 13, 15, 16, 17, 114, 115, 116] (e' := [(4, .pointer (some ⟨b, 0, none⟩)), (7, .slice A7 ms.length c8), (13, .slice (some ⟨b85, o86, none⟩) ((ms.take i ++ ((a0, a1, a2, a3, a4) :: ms.drop i)).length) c65), (15, .int .i64 ((q : Nat) : Int)), (16, .int .i64 ((k : Nat) : Int)), (17, .pointer (some ⟨b87, 0, none⟩)), (114, .slice (some ⟨b85, o86, none⟩) ((ms.take i ++ ((a0, a1, a2, a3, a4) :: ms.drop i)).length) c65), (115, .int .i64 (((ms.take i ++ ((a0, a1, a2, a3, a4) :: ms.drop i)).length : Nat) : Int)), (116, .int .i64 ((k : Nat) : Int))]) rfl
                    refine xt_norm ?_
                    refine wp_seq ?_
                    refine wp_seq ?_
                    refine wp_draw (fun w' => St w0 w' ([(b87, rowO [.int .i64 a0, .int .i64 a1, .int .i64 a2, .int .i64 a3, .bool a4] 24)] :: [(b, rowO [.int .i64 a0, .int .i64 a1, .int .i64 a2, .int .i64 a3, .bool a4] 24)] :: C63 :: C6 :: F)) [] [(0, true), (1, true), (2, true), (3, true), (4, true), (5, true), (6, true), (7, true), (8, true), (9, true), (10, true), (11, true), (12, true)] mixed (by kernel_rfl) (by rintro c a w ⟨_, _, h, _⟩; cases h) (by rfl) (by kernel_rfl) ?_
                    replace hS := hS.drew
                    refine dr_run tbOk 3 hA hS (e' := (123, .bool (decide (((k : Nat) : Int) > 0))) :: (122, .bool (decide (((k : Nat) : Int) > 0))) :: (121, .int .i64 ((k : Nat) : Int)) :: _) rfl ?_; clear hA; intro a hA
                    by_cases hc90 : ((k : Nat) : Int) > 0
                    · first
                      | (exfalso; omega)
                      | (replace hA := hA.rw 122 (v' := .bool true) rfl (vb_true hc90)
                         replace hA := hA.rw 123 (v' := .bool true) rfl (vb_true hc90)
                         refine dr_run tbOk 1 hA hS (e' := (124, .pointer (some ⟨b87, 0, none⟩)) :: _) rfl ?_; clear hA; intro a hA
                         refine dr_y hA rfl rfl rfl (by decide) hS (fun w' hS' => rn_load tbOk hA rfl rfl rfl rfl (cell_row (hS'.heapAt 0 rfl) rfl)) ?_; clear hA; intro a hA
                         refine dr_run tbOk 3 hA hS (e' := (128, .int .i64 (IntKind.i64.wrap (((k : Nat) : Int) - 1))) :: (127, .int .i64 ((k : Nat) : Int)) :: (126, .slice (some ⟨b85, o86, none⟩) ((ms.take i ++ ((a0, a1, a2, a3, a4) :: ms.drop i)).length) c65) :: _) rfl ?_; clear hA; intro a hA
                         replace hA := hA.rw 128 (v' := .int .i64 (((k : Nat) : Int) - 1)) rfl (wr64 (by omega) (by omega) (by omega))
                         replace hA := hA.rw 128 (v' := .int .i64 ((k - 1 : Nat) : Int)) rfl (vint (by omega))
                         refine dr_y hA rfl rfl rfl (by decide) hS (fun w' hS' => rn_indexAddr tbOk hA (k - 1) (o86 + ((k - 1) * 5)) rfl rfl rfl rfl rfl rfl (by rfl) (by omega) (by first | rfl | simp [Nat.mul_one, Nat.zero_add] | omega)) ?_; clear hA; intro a hA
                         refine dr_run tbOk 1 hA hS (e' := (130, .pointer (some ⟨b85, o86 + ((k - 1) * 5), none⟩)) :: _) rfl ?_; clear hA; intro a hA
                         obtain ⟨x91, hx91⟩ := get_ex (l := ms.take i ++ ((a0, a1, a2, a3, a4) :: ms.drop i)) (k := k - 1) (by omega)
                         obtain ⟨x91f0, x91f1, x91f2, x91f3, x91f4⟩ := x91
                         refine dr_y hA rfl rfl rfl (by decide) hS (fun w' hS' => rn_load tbOk hA rfl rfl rfl rfl ((hO63.rd (hS'.own_ 2 rfl)).elemf (k := k - 1) encArea_ok hx91 (j := 0) rfl)) ?_; clear hA; intro a hA
                         have hr9 := hRis (k - 1) k _ _ (by omega) hx91 hLk; dsimp only [ab, az] at hr9; have hs9 := hLs _ (List.mem_of_getElem? hx91); dsimp only [az] at hs9
                         refine dr_run tbOk 2 hA hS (e' := (133, .bool (decide (a0 ≤ x91f0))) :: (132, .bool (decide (a0 ≤ x91f0))) :: _) rfl ?_; clear hA; intro a hA
                         refine dr_end ?_
                         replace hA := hA.sel [4, 7, 13, 15, 17, 114, 115, 116, 133] (e' := [(4, .pointer (some ⟨b, 0, none⟩)), (7, .slice A7 ms.length c8), (13, .slice (some ⟨b85, o86, none⟩) ((ms.take i ++ ((a0, a1, a2, a3, a4) :: ms.drop i)).length) c65), (15, .int .i64 ((q : Nat) : Int)), (17, .pointer (some ⟨b87, 0, none⟩)), (114, .slice (some ⟨b85, o86, none⟩) ((ms.take i ++ ((a0, a1, a2, a3, a4) :: ms.drop i)).length) c65), (115, .int .i64 (((ms.take i ++ ((a0, a1, a2, a3, a4) :: ms.drop i)).length : Nat) : Int)), (116, .int .i64 ((k : Nat) : Int)), (133, .bool (decide (a0 ≤ x91f0)))]) rfl
                         refine xt_norm ?_
                         by_cases hc92 : a0 ≤ x91f0
                         · first
                           | (exfalso; omega)
                           | (replace hA := hA.rw 133 (v' := .bool true) rfl (vb_true hc92)
                              refine cd_cond_t hA rfl ?_
                              refine wp_seq ?_
                              refine wp_region_lit ?_
                              refine st_run tbOk 1 hA (e' := (6, .bool false) :: _) rfl ?_; clear hA; intro a hA
                              refine wpList_nil ?_
                              replace hA := hA.sel [6] (e' := [(6, .bool false)]) rfl
                              refine xt_norm ?_
                              refine wp_ret (xt_ret (xb_ret (xt_ret (xt_ret (xb_ret (xt_ret ?_))))))
                              refine ret1 (fn := Tryd.f3) hA rfl rfl ?_
                              exfalso; omega)
                         · first
                           | (exfalso; omega)
                           | (replace hA := hA.rw 133 (v' := .bool false) rfl (vb_false hc92)
                              refine cd_cond_f hA rfl ?_
                              refine wp_skip ?_
                              refine xt_norm ?_
                              refine wp_seq ?_
                              refine wp_seq ?_
                              refine wp_region_lit ?_
                              refine st_val hA rfl rfl (by decide) (rn_loadA tbOk hA [.int .i64 a0, .int .i64 a1, .int .i64 a2, .int .i64 a3, .bool a4] rfl rfl rfl rfl rfl (cells_row (hS.heapAt 0 rfl) rfl)) ?_; clear hA; intro a hA
                              refine st_val hA rfl rfl (by decide) (rn_loadA tbOk hA [.int .i64 a0, .int .i64 a1, .int .i64 a2, .int .i64 a3, .bool a4] rfl rfl rfl rfl rfl (cells_row (hS.heapAt 1 rfl) rfl)) ?_; clear hA; intro a hA
                              refine st_val hA rfl rfl (by decide) (rn_eqA tbOk hA rfl rfl rfl rfl rfl (by kernel_rfl) (by kernel_rfl) rfl) ?_; clear hA; intro a hA
                              replace hA := hA.rw 136 (v' := .bool true) rfl (by simp)
                              refine wpList_nil ?_
                              replace hA := hA.sel [4, 7, 13, 15, 17, 114, 115, 116, 136] (e' := [(4, .pointer (some ⟨b, 0, none⟩)), (7, .slice A7 ms.length c8), (13, .slice (some ⟨b85, o86, none⟩) ((ms.take i ++ ((a0, a1, a2, a3, a4) :: ms.drop i)).length) c65), (15, .int .i64 ((q : Nat) : Int)), (17, .pointer (some ⟨b87, 0, none⟩)), (114, .slice (some ⟨b85, o86, none⟩) ((ms.take i ++ ((a0, a1, a2, a3, a4) :: ms.drop i)).length) c65), (115, .int .i64 (((ms.take i ++ ((a0, a1, a2, a3, a4) :: ms.drop i)).length : Nat) : Int)), (116, .int .i64 ((k : Nat) : Int)), (136, .bool true)]) rfl
                              refine xt_norm ?_
                              refine cd_cond_t hA rfl ?_
                              refine wp_exit ?_
                              refine xt_exit ?_
                              refine cd_exit_eq ?_
                              refine xt_norm ?_
                              refine wp_region_lit ?_
                              refine st_run tbOk 1 hA (e' := (151, .int .i64 (IntKind.i64.wrap (((k : Nat) : Int) + 1))) :: _) rfl ?_; clear hA; intro a hA
                              replace hA := hA.rw 151 (v' := .int .i64 ((k + 1 : Nat) : Int)) rfl (wr64 (by omega) (by omega) (by omega))
                              refine st_run tbOk 1 hA (e' := (116, .int .i64 ((k + 1 : Nat) : Int)) :: _) rfl ?_; clear hA; intro a hA
                              refine wpList_nil ?_
                              replace hA := hA.sel [4, 7, 13, 15, 114, 115, 116] (e' := [(4, .pointer (some ⟨b, 0, none⟩)), (7, .slice A7 ms.length c8), (13, .slice (some ⟨b85, o86, none⟩) ((ms.take i ++ ((a0, a1, a2, a3, a4) :: ms.drop i)).length) c65), (15, .int .i64 ((q : Nat) : Int)), (114, .slice (some ⟨b85, o86, none⟩) ((ms.take i ++ ((a0, a1, a2, a3, a4) :: ms.drop i)).length) c65), (115, .int .i64 (((ms.take i ++ ((a0, a1, a2, a3, a4) :: ms.drop i)).length : Nat) : Int)), (116, .int .i64 ((k + 1 : Nat) : Int))]) rfl
                              replace hS := hS.drop1
                              replace hS := hS.front 2 (C := C6) (L' := [(b, rowO [.int .i64 a0, .int .i64 a1, .int .i64 a2, .int .i64 a3, .bool a4] 24)] :: C63 :: F) rfl rfl
                              replace hS := hS.front 2 (C := C63) (L' := C6 :: [(b, rowO [.int .i64 a0, .int .i64 a1, .int .i64 a2, .int .i64 a3, .bool a4] 24)] :: F) rfl rfl
                              replace hS := hS.front 2 (C := [(b, rowO [.int .i64 a0, .int .i64 a1, .int .i64 a2, .int .i64 a3, .bool a4] 24)]) (L' := C63 :: C6 :: F) rfl rfl
                              exact lp_next _ (by omega) ⟨(k + 1), q, rfl, (hA.sel [4, 7, 13, 15, 114, 115, 116] rfl), hS, by omega, by omega⟩))
                    · first
                      | (exfalso; omega)
                      | (replace hA := hA.rw 122 (v' := .bool false) rfl (vb_false hc90)
                         replace hA := hA.rw 123 (v' := .bool false) rfl (vb_false hc90)
                         refine dr_run tbOk 5 hA hS (e' := (128, undef) :: (127, undef) :: (126, undef) :: (125, undef) :: (124, undef) :: _) rfl ?_; clear hA; intro a hA
                         refine dr_run tbOk 3 hA hS (e' := (131, undef) :: (130, undef) :: (129, undef) :: _) rfl ?_; clear hA; intro a hA
                         refine dr_run tbOk 2 hA hS (e' := (133, .bool false) :: (132, undef) :: _) rfl ?_; clear hA; intro a hA
                         refine dr_end ?_
                         replace hA := hA.sel [4, 7, 13, 15, 17, 114, 115, 116, 133] (e' := [(4, .pointer (some ⟨b, 0, none⟩)), (7, .slice A7 ms.length c8), (13, .slice (some ⟨b85, o86, none⟩) ((ms.take i ++ ((a0, a1, a2, a3, a4) :: ms.drop i)).length) c65), (15, .int .i64 ((q : Nat) : Int)), (17, .pointer (some ⟨b87, 0, none⟩)), (114, .slice (some ⟨b85, o86, none⟩) ((ms.take i ++ ((a0, a1, a2, a3, a4) :: ms.drop i)).length) c65), (115, .int .i64 (((ms.take i ++ ((a0, a1, a2, a3, a4) :: ms.drop i)).length : Nat) : Int)), (116, .int .i64 ((k : Nat) : Int)), (133, .bool false)]) rfl
                         refine xt_norm ?_
                         refine cd_cond_f hA rfl ?_
                         refine wp_skip ?_
                         refine xt_norm ?_
                         refine wp_seq ?_
                         refine wp_seq ?_
                         refine wp_region_lit ?_
                         refine st_val hA rfl rfl (by decide) (rn_loadA tbOk hA [.int .i64 a0, .int .i64 a1, .int .i64 a2, .int .i64 a3, .bool a4] rfl rfl rfl rfl rfl (cells_row (hS.heapAt 0 rfl) rfl)) ?_; clear hA; intro a hA
                         refine st_val hA rfl rfl (by decide) (rn_loadA tbOk hA [.int .i64 a0, .int .i64 a1, .int .i64 a2, .int .i64 a3, .bool a4] rfl rfl rfl rfl rfl (cells_row (hS.heapAt 1 rfl) rfl)) ?_; clear hA; intro a hA
                         refine st_val hA rfl rfl (by decide) (rn_eqA tbOk hA rfl rfl rfl rfl rfl (by kernel_rfl) (by kernel_rfl) rfl) ?_; clear hA; intro a hA
                         replace hA := hA.rw 136 (v' := .bool true) rfl (by simp)
                         refine wpList_nil ?_
                         replace hA := hA.sel [4, 7, 13, 15, 17, 114, 115, 116, 136] (e' := [(4, .pointer (some ⟨b, 0, none⟩)), (7, .slice A7 ms.length c8), (13, .slice (some ⟨b85, o86, none⟩) ((ms.take i ++ ((a0, a1, a2, a3, a4) :: ms.drop i)).length) c65), (15, .int .i64 ((q : Nat) : Int)), (17, .pointer (some ⟨b87, 0, none⟩)), (114, .slice (some ⟨b85, o86, none⟩) ((ms.take i ++ ((a0, a1, a2, a3, a4) :: ms.drop i)).length) c65), (115, .int .i64 (((ms.take i ++ ((a0, a1, a2, a3, a4) :: ms.drop i)).length : Nat) : Int)), (116, .int .i64 ((k : Nat) : Int)), (136, .bool true)]) rfl
                         refine xt_norm ?_
                         refine cd_cond_t hA rfl ?_
                         refine wp_exit ?_
                         refine xt_exit ?_
                         refine cd_exit_eq ?_
                         refine xt_norm ?_
                         refine wp_region_lit ?_
                         refine st_run tbOk 1 hA (e' := (151, .int .i64 (IntKind.i64.wrap (((k : Nat) : Int) + 1))) :: _) rfl ?_; clear hA; intro a hA
                         replace hA := hA.rw 151 (v' := .int .i64 ((k + 1 : Nat) : Int)) rfl (wr64 (by omega) (by omega) (by omega))
                         refine st_run tbOk 1 hA (e' := (116, .int .i64 ((k + 1 : Nat) : Int)) :: _) rfl ?_; clear hA; intro a hA
                         refine wpList_nil ?_
                         replace hA := hA.sel [4, 7, 13, 15, 114, 115, 116] (e' := [(4, .pointer (some ⟨b, 0, none⟩)), (7, .slice A7 ms.length c8), (13, .slice (some ⟨b85, o86, none⟩) ((ms.take i ++ ((a0, a1, a2, a3, a4) :: ms.drop i)).length) c65), (15, .int .i64 ((q : Nat) : Int)), (114, .slice (some ⟨b85, o86, none⟩) ((ms.take i ++ ((a0, a1, a2, a3, a4) :: ms.drop i)).length) c65), (115, .int .i64 (((ms.take i ++ ((a0, a1, a2, a3, a4) :: ms.drop i)).length : Nat) : Int)), (116, .int .i64 ((k + 1 : Nat) : Int))]) rfl
                         replace hS := hS.drop1
                         replace hS := hS.front 2 (C := C6) (L' := [(b, rowO [.int .i64 a0, .int .i64 a1, .int .i64 a2, .int .i64 a3, .bool a4] 24)] :: C63 :: F) rfl rfl
                         replace hS := hS.front 2 (C := C63) (L' := C6 :: [(b, rowO [.int .i64 a0, .int .i64 a1, .int .i64 a2, .int .i64 a3, .bool a4] 24)] :: F) rfl rfl
                         replace hS := hS.front 2 (C := [(b, rowO [.int .i64 a0, .int .i64 a1, .int .i64 a2, .int .i64 a3, .bool a4] 24)]) (L' := C63 :: C6 :: F) rfl rfl
                         exact lp_next _ (by omega) ⟨(k + 1), q, rfl, (hA.sel [4, 7, 13, 15, 114, 115, 116] rfl), hS, by omega, by omega⟩)
                  · obtain ⟨⟨y0, y1, y2, y3, y4⟩, hyk⟩ := get_ex (l := ms) (k := k - 1) (by omega)
                    have hLk : (ms.take i ++ ((a0, a1, a2, a3, a4) :: ms.drop i))[k]? = some (y0, y1, y2, y3, y4) := by rw [ins_get hp.le, if_neg (by omega), if_neg (by omega)]; exact hyk
                    have hyq : ms[q]? = some (y0, y1, y2, y3, y4) := by rw [show q = k - 1 by omega]; exact hyk
                    have hky := hM.s _ (List.mem_of_getElem? hyk); dsimp only [SOk, ab, az, ag, ao] at hky
                    have hLi : (ms.take i ++ ((a0, a1, a2, a3, a4) :: ms.drop i))[i]? = some (a0, a1, a2, a3, a4) := by rw [ins_get hp.le, if_neg (by omega), if_pos rfl]
                    have hne : ¬ y0 = a0 := fun h => by have := hRis i k _ _ hki hLi hLk; dsimp only [ab, az] at this; omega
                    obtain ⟨b93, o94, rfl⟩ := hO63.isSome (k := k) (by omega)
                    refine st_val hA rfl rfl (by decide) (rn_indexAddr tbOk hA k (o94 + (k * 5)) rfl rfl rfl rfl rfl rfl (by rfl) (by omega) (by first | rfl | simp [Nat.mul_one, Nat.zero_add] | omega)) ?_; clear hA; intro a hA
                    refine st_val hA rfl rfl (by decide) (rn_loadA tbOk hA ([.int .i64 y0, .int .i64 y1, .int .i64 y2, .int .i64 y3, .bool y4]) rfl rfl rfl rfl (by rfl) ((hO63.rd (hS.own_ 1 rfl)).elem (k := k) encArea_ok hLk)) ?_; clear hA; intro a hA
                    refine st_alloc tbOk hA hS [.int .i64 0, .int .i64 0, .int .i64 0, .int .i64 0, .bool false] rfl rfl rfl rfl rfl (by decide) ?_; clear hA hS; intro b95 w96 a hS hA
                    refine st_run tbOk 1 hA (e' := (16, .int .i64 ((k : Nat) : Int)) :: _) rfl ?_; clear hA; intro a hA
                    refine st_store tbOk hA hS [.int .i64 y0, .int .i64 y1, .int .i64 y2, .int .i64 y3, .bool y4] [.int .i64 y0, .int .i64 y1, .int .i64 y2, .int .i64 y3, .bool y4] rfl rfl rfl rfl rfl rfl (by simp [Value.oneCell']) (Nat.le_of_ble_eq_true rfl) rfl rfl rfl ?_; clear hS; intro w97 hS
                    refine wpList_nil ?_
                    replace hA := hA.sel [4, 7, 13, 15, 16, 17, 114, 115, 116] (e' := [(4, .pointer (some ⟨b, 0, none⟩)), (7, .slice A7 ms.length c8), (13, .slice (some ⟨b93, o94, none⟩) ((ms.take i ++ ((a0, a1, a2, a3, a4) :: ms.drop i)).length) c65), (15, .int .i64 ((q : Nat) : Int)), (16, .int .i64 ((k : Nat) : Int)), (17, .pointer (some ⟨b95, 0, none⟩)), (114, .slice (some ⟨b93, o94, none⟩) ((ms.take i ++ ((a0, a1, a2, a3, a4) :: ms.drop i)).length) c65), (115, .int .i64 (((ms.take i ++ ((a0, a1, a2, a3, a4) :: ms.drop i)).length : Nat) : Int)), (116, .int .i64 ((k : Nat) : Int))]) rfl
                    refine xt_norm ?_
                    refine wp_seq ?_
                    refine wp_seq ?_
                    refine wp_draw (fun w' => St w0 w' ([(b95, rowO [.int .i64 y0, .int .i64 y1, .int .i64 y2, .int .i64 y3, .bool y4] 24)] :: [(b, rowO [.int .i64 a0, .int .i64 a1, .int .i64 a2, .int .i64 a3, .bool a4] 24)] :: C63 :: C6 :: F)) [] [(0, true), (1, true), (2, true), (3, true), (4, true), (5, true), (6, true), (7, true), (8, true), (9, true), (10, true), (11, true), (12, true)] mixed (by kernel_rfl) (by rintro c a w ⟨_, _, h, _⟩; cases h) (by rfl) (by kernel_rfl) ?_
                    replace hS := hS.drew
                    refine dr_run tbOk 3 hA hS (e' := (123, .bool (decide (((k : Nat) : Int) > 0))) :: (122, .bool (decide (((k : Nat) : Int) > 0))) :: (121, .int .i64 ((k : Nat) : Int)) :: _) rfl ?_; clear hA; intro a hA
                    by_cases hc98 : ((k : Nat) : Int) > 0
                    · first
                      | (exfalso; omega)
                      | (replace hA := hA.rw 122 (v' := .bool true) rfl (vb_true hc98)
                         replace hA := hA.rw 123 (v' := .bool true) rfl (vb_true hc98)
                         refine dr_run tbOk 1 hA hS (e' := (124, .pointer (some ⟨b95, 0, none⟩)) :: _) rfl ?_; clear hA; intro a hA
                         refine dr_y hA rfl rfl rfl (by decide) hS (fun w' hS' => rn_load tbOk hA rfl rfl rfl rfl (cell_row (hS'.heapAt 0 rfl) rfl)) ?_; clear hA; intro a hA
                         refine dr_run tbOk 3 hA hS (e' := (128, .int .i64 (IntKind.i64.wrap (((k : Nat) : Int) - 1))) :: (127, .int .i64 ((k : Nat) : Int)) :: (126, .slice (some ⟨b93, o94, none⟩) ((ms.take i ++ ((a0, a1, a2, a3, a4) :: ms.drop i)).length) c65) :: _) rfl ?_; clear hA; intro a hA
                         replace hA := hA.rw 128 (v' := .int .i64 (((k : Nat) : Int) - 1)) rfl (wr64 (by omega) (by omega) (by omega))
                         replace hA := hA.rw 128 (v' := .int .i64 ((k - 1 : Nat) : Int)) rfl (vint (by omega))
                         refine dr_y hA rfl rfl rfl (by decide) hS (fun w' hS' => rn_indexAddr tbOk hA (k - 1) (o94 + ((k - 1) * 5)) rfl rfl rfl rfl rfl rfl (by rfl) (by omega) (by first | rfl | simp [Nat.mul_one, Nat.zero_add] | omega)) ?_; clear hA; intro a hA
                         refine dr_run tbOk 1 hA hS (e' := (130, .pointer (some ⟨b93, o94 + ((k - 1) * 5), none⟩)) :: _) rfl ?_; clear hA; intro a hA
                         obtain ⟨x99, hx99⟩ := get_ex (l := ms.take i ++ ((a0, a1, a2, a3, a4) :: ms.drop i)) (k := k - 1) (by omega)
                         obtain ⟨x99f0, x99f1, x99f2, x99f3, x99f4⟩ := x99
                         refine dr_y hA rfl rfl rfl (by decide) hS (fun w' hS' => rn_load tbOk hA rfl rfl rfl rfl ((hO63.rd (hS'.own_ 2 rfl)).elemf (k := k - 1) encArea_ok hx99 (j := 0) rfl)) ?_; clear hA; intro a hA
                         have hr9 := hRis (k - 1) k _ _ (by omega) hx99 hLk; dsimp only [ab, az] at hr9; have hs9 := hLs _ (List.mem_of_getElem? hx99); dsimp only [az] at hs9
                         refine dr_run tbOk 2 hA hS (e' := (133, .bool (decide (y0 ≤ x99f0))) :: (132, .bool (decide (y0 ≤ x99f0))) :: _) rfl ?_; clear hA; intro a hA
                         refine dr_end ?_
                         replace hA := hA.sel [4, 7, 13, 15, 17, 114, 115, 116, 133] (e' := [(4, .pointer (some ⟨b, 0, none⟩)), (7, .slice A7 ms.length c8), (13, .slice (some ⟨b93, o94, none⟩) ((ms.take i ++ ((a0, a1, a2, a3, a4) :: ms.drop i)).length) c65), (15, .int .i64 ((q : Nat) : Int)), (17, .pointer (some ⟨b95, 0, none⟩)), (114, .slice (some ⟨b93, o94, none⟩) ((ms.take i ++ ((a0, a1, a2, a3, a4) :: ms.drop i)).length) c65), (115, .int .i64 (((ms.take i ++ ((a0, a1, a2, a3, a4) :: ms.drop i)).length : Nat) : Int)), (116, .int .i64 ((k : Nat) : Int)), (133, .bool (decide (y0 ≤ x99f0)))]) rfl
                         refine xt_norm ?_
                         by_cases hc100 : y0 ≤ x99f0
                         · first
                           | (exfalso; omega)
                           | (replace hA := hA.rw 133 (v' := .bool true) rfl (vb_true hc100)
                              refine cd_cond_t hA rfl ?_
                              refine wp_seq ?_
                              refine wp_region_lit ?_
                              refine st_run tbOk 1 hA (e' := (6, .bool false) :: _) rfl ?_; clear hA; intro a hA
                              refine wpList_nil ?_
                              replace hA := hA.sel [6] (e' := [(6, .bool false)]) rfl
                              refine xt_norm ?_
                              refine wp_ret (xt_ret (xb_ret (xt_ret (xt_ret (xb_ret (xt_ret ?_))))))
                              refine ret1 (fn := Tryd.f3) hA rfl rfl ?_
                              exfalso; omega)
                         · first
                           | (exfalso; omega)
                           | (replace hA := hA.rw 133 (v' := .bool false) rfl (vb_false hc100)
                              refine cd_cond_f hA rfl ?_
                              refine wp_skip ?_
                              refine xt_norm ?_
                              refine wp_seq ?_
                              refine wp_seq ?_
                              refine wp_region_lit ?_
                              refine st_val hA rfl rfl (by decide) (rn_loadA tbOk hA [.int .i64 y0, .int .i64 y1, .int .i64 y2, .int .i64 y3, .bool y4] rfl rfl rfl rfl rfl (cells_row (hS.heapAt 0 rfl) rfl)) ?_; clear hA; intro a hA
                              refine st_val hA rfl rfl (by decide) (rn_loadA tbOk hA [.int .i64 a0, .int .i64 a1, .int .i64 a2, .int .i64 a3, .bool a4] rfl rfl rfl rfl rfl (cells_row (hS.heapAt 1 rfl) rfl)) ?_; clear hA; intro a hA
                              refine st_val hA rfl rfl (by decide) (rn_eqA tbOk hA rfl rfl rfl rfl rfl (by kernel_rfl) (by kernel_rfl) rfl) ?_; clear hA; intro a hA
                              refine wpList_nil ?_
                              replace hA := hA.sel [4, 7, 13, 15, 17, 114, 115, 116, 136] (e' := [(4, .pointer (some ⟨b, 0, none⟩)), (7, .slice A7 ms.length c8), (13, .slice (some ⟨b93, o94, none⟩) ((ms.take i ++ ((a0, a1, a2, a3, a4) :: ms.drop i)).length) c65), (15, .int .i64 ((q : Nat) : Int)), (17, .pointer (some ⟨b95, 0, none⟩)), (114, .slice (some ⟨b93, o94, none⟩) ((ms.take i ++ ((a0, a1, a2, a3, a4) :: ms.drop i)).length) c65), (115, .int .i64 (((ms.take i ++ ((a0, a1, a2, a3, a4) :: ms.drop i)).length : Nat) : Int)), (116, .int .i64 ((k : Nat) : Int)), (136, .bool (((y0 : Int) == (a0 : Int)) && (((y1 : Int) == (a1 : Int)) && (((y2 : Int) == (a2 : Int)) && (((y3 : Int) == (a3 : Int)) && (((y4 : Bool) == (a4 : Bool)) && true))))))]) rfl
                              refine xt_norm ?_
                              have hc101 : ¬ ((((y0 : Int) == (a0 : Int)) && (((y1 : Int) == (a1 : Int)) && (((y2 : Int) == (a2 : Int)) && (((y3 : Int) == (a3 : Int)) && (((y4 : Bool) == (a4 : Bool)) && true))))) = true) := (fun h => by simp only [Bool.and_eq_true, beq_iff_eq] at h; exact hne h.1)
                              replace hA := hA.rw 136 (v' := .bool false) rfl (vb_f hc101)
                              refine cd_cond_f hA rfl ?_
                              refine wp_skip ?_
                              refine xt_norm ?_
                              refine wp_seq ?_
                              refine wp_seq ?_
                              have hql : q < ms.length := (List.getElem?_eq_some_iff.1 hyq).1
                              obtain ⟨b102, o103, rfl⟩ := hO6.isSome (k := q) (by omega)
                              refine wp_draw (fun w' => St w0 w' ([(b95, rowO [.int .i64 y0, .int .i64 y1, .int .i64 y2, .int .i64 y3, .bool y4] 24)] :: [(b, rowO [.int .i64 a0, .int .i64 a1, .int .i64 a2, .int .i64 a3, .bool a4] 24)] :: C63 :: C6 :: F)) [] [(0, true), (1, true), (2, true), (3, true), (4, true), (5, true), (6, true), (7, true), (8, true), (9, true), (10, true), (11, true)] mixed (by kernel_rfl) (by rintro c a w ⟨_, _, h, _⟩; cases h) (by rfl) (by kernel_rfl) ?_
                              replace hS := hS.drew
                              refine dr_run tbOk 5 hA hS (e' := (141, .bool (decide (((q : Nat) : Int) ≥ ((ms.length : Nat) : Int)))) :: (140, .bool (decide (((q : Nat) : Int) ≥ ((ms.length : Nat) : Int)))) :: (139, .int .i64 ((ms.length : Nat) : Int)) :: (138, .slice (some ⟨b102, o103, none⟩) ms.length c8) :: (137, .int .i64 ((q : Nat) : Int)) :: _) rfl ?_; clear hA; intro a hA
                              by_cases hc104 : ((q : Nat) : Int) ≥ ((ms.length : Nat) : Int)
                              · first
                                | (exfalso; omega)
                                | (replace hA := hA.rw 140 (v' := .bool true) rfl (vb_true hc104)
                                   replace hA := hA.rw 141 (v' := .bool true) rfl (vb_true hc104)
                                   refine dr_run tbOk 7 hA hS (e' := (148, .bool true) :: (147, undef) :: (146, undef) :: (145, undef) :: (144, undef) :: (143, undef) :: (142, undef) :: _) rfl ?_; clear hA; intro a hA
                                   refine dr_end ?_
                                   replace hA := hA.sel [4, 7, 13, 15, 114, 115, 116, 148] (e' := [(4, .pointer (some ⟨b, 0, none⟩)), (7, .slice (some ⟨b102, o103, none⟩) ms.length c8), (13, .slice (some ⟨b93, o94, none⟩) ((ms.take i ++ ((a0, a1, a2, a3, a4) :: ms.drop i)).length) c65), (15, .int .i64 ((q : Nat) : Int)), (114, .slice (some ⟨b93, o94, none⟩) ((ms.take i ++ ((a0, a1, a2, a3, a4) :: ms.drop i)).length) c65), (115, .int .i64 (((ms.take i ++ ((a0, a1, a2, a3, a4) :: ms.drop i)).length : Nat) : Int)), (116, .int .i64 ((k : Nat) : Int)), (148, .bool true)]) rfl
                                   refine xt_norm ?_
                                   refine cd_cond_t hA rfl ?_
                                   refine wp_seq ?_
                                   refine wp_region_lit ?_
                                   refine st_run tbOk 1 hA (e' := (6, .bool false) :: _) rfl ?_; clear hA; intro a hA
                                   refine wpList_nil ?_
                                   replace hA := hA.sel [6] (e' := [(6, .bool false)]) rfl
                                   refine xt_norm ?_
                                   refine wp_ret (xt_ret (xb_ret (xt_ret (xt_ret (xb_ret (xt_ret ?_))))))
                                   refine ret1 (fn := Tryd.f3) hA rfl rfl ?_
                                   exfalso; omega)
                              · first
                                | (exfalso; omega)
                                | (replace hA := hA.rw 140 (v' := .bool false) rfl (vb_false hc104)
                                   replace hA := hA.rw 141 (v' := .bool false) rfl (vb_false hc104)
                                   refine dr_run tbOk 2 hA hS (e' := (143, .int .i64 ((q : Nat) : Int)) :: (142, .slice (some ⟨b102, o103, none⟩) ms.length c8) :: _) rfl ?_; clear hA; intro a hA
                                   refine dr_y hA rfl rfl rfl (by decide) hS (fun w' hS' => rn_indexAddr tbOk hA q (o103 + (q * 5)) rfl rfl rfl rfl rfl rfl (by rfl) (by omega) (by first | rfl | simp [Nat.mul_one, Nat.zero_add] | omega)) ?_; clear hA; intro a hA
                                   refine dr_y hA rfl rfl rfl (by decide) hS (fun w' hS' => rn_loadA tbOk hA ([.int .i64 y0, .int .i64 y1, .int .i64 y2, .int .i64 y3, .bool y4]) rfl rfl rfl rfl (by rfl) ((hO6.rd (hS'.own_ 3 rfl)).elem (k := q) encArea_ok hyq)) ?_; clear hA; intro a hA
                                   refine dr_y hA rfl rfl rfl (by decide) hS (fun w' hS' => rn_loadA tbOk hA [.int .i64 y0, .int .i64 y1, .int .i64 y2, .int .i64 y3, .bool y4] rfl rfl rfl rfl rfl (cells_row (hS'.heapAt 0 rfl) rfl)) ?_; clear hA; intro a hA
                                   refine dr_y hA rfl rfl rfl (by decide) hS (fun w' hS' => rn_neA tbOk hA rfl rfl rfl rfl rfl (by kernel_rfl) (by kernel_rfl) rfl) ?_; clear hA; intro a hA
                                   replace hA := hA.rw 147 (v' := .bool false) rfl (by simp)
                                   refine dr_run tbOk 1 hA hS (e' := (148, .bool false) :: _) rfl ?_; clear hA; intro a hA
                                   refine dr_end ?_
                                   replace hA := hA.sel [4, 7, 13, 15, 114, 115, 116, 148] (e' := [(4, .pointer (some ⟨b, 0, none⟩)), (7, .slice (some ⟨b102, o103, none⟩) ms.length c8), (13, .slice (some ⟨b93, o94, none⟩) ((ms.take i ++ ((a0, a1, a2, a3, a4) :: ms.drop i)).length) c65), (15, .int .i64 ((q : Nat) : Int)), (114, .slice (some ⟨b93, o94, none⟩) ((ms.take i ++ ((a0, a1, a2, a3, a4) :: ms.drop i)).length) c65), (115, .int .i64 (((ms.take i ++ ((a0, a1, a2, a3, a4) :: ms.drop i)).length : Nat) : Int)), (116, .int .i64 ((k : Nat) : Int)), (148, .bool false)]) rfl
                                   refine xt_norm ?_
                                   refine cd_cond_f hA rfl ?_
                                   refine wp_skip ?_
                                   refine xt_norm ?_
                                   refine wp_region_lit ?_
                                   refine st_run tbOk 2 hA (e' := (150, .int .i64 (IntKind.i64.wrap (((q : Nat) : Int) + 1))) :: (149, .int .i64 ((q : Nat) : Int)) :: _) rfl ?_; clear hA; intro a hA
                                   replace hA := hA.rw 150 (v' := .int .i64 ((q + 1 : Nat) : Int)) rfl (wr64 (by omega) (by omega) (by omega))
                                   refine st_run tbOk 1 hA (e' := (15, .int .i64 ((q + 1 : Nat) : Int)) :: _) rfl ?_; clear hA; intro a hA
                                   refine wpList_nil ?_
                                   replace hA := hA.sel [4, 7, 13, 15, 114, 115, 116] (e' := [(4, .pointer (some ⟨b, 0, none⟩)), (7, .slice (some ⟨b102, o103, none⟩) ms.length c8), (13, .slice (some ⟨b93, o94, none⟩) ((ms.take i ++ ((a0, a1, a2, a3, a4) :: ms.drop i)).length) c65), (15, .int .i64 ((q + 1 : Nat) : Int)), (114, .slice (some ⟨b93, o94, none⟩) ((ms.take i ++ ((a0, a1, a2, a3, a4) :: ms.drop i)).length) c65), (115, .int .i64 (((ms.take i ++ ((a0, a1, a2, a3, a4) :: ms.drop i)).length : Nat) : Int)), (116, .int .i64 ((k : Nat) : Int))]) rfl
                                   refine xb_norm ?_
                                   refine xt_norm ?_
                                   refine wp_region_lit ?_
                                   refine st_run tbOk 1 hA (e' := (151, .int .i64 (IntKind.i64.wrap (((k : Nat) : Int) + 1))) :: _) rfl ?_; clear hA; intro a hA
                                   replace hA := hA.rw 151 (v' := .int .i64 ((k + 1 : Nat) : Int)) rfl (wr64 (by omega) (by omega) (by omega))
                                   refine st_run tbOk 1 hA (e' := (116, .int .i64 ((k + 1 : Nat) : Int)) :: _) rfl ?_; clear hA; intro a hA
                                   refine wpList_nil ?_
                                   replace hA := hA.sel [4, 7, 13, 15, 114, 115, 116] (e' := [(4, .pointer (some ⟨b, 0, none⟩)), (7, .slice (some ⟨b102, o103, none⟩) ms.length c8), (13, .slice (some ⟨b93, o94, none⟩) ((ms.take i ++ ((a0, a1, a2, a3, a4) :: ms.drop i)).length) c65), (15, .int .i64 ((q + 1 : Nat) : Int)), (114, .slice (some ⟨b93, o94, none⟩) ((ms.take i ++ ((a0, a1, a2, a3, a4) :: ms.drop i)).length) c65), (115, .int .i64 (((ms.take i ++ ((a0, a1, a2, a3, a4) :: ms.drop i)).length : Nat) : Int)), (116, .int .i64 ((k + 1 : Nat) : Int))]) rfl
                                   replace hS := hS.drop1
                                   replace hS := hS.front 2 (C := C6) (L' := [(b, rowO [.int .i64 a0, .int .i64 a1, .int .i64 a2, .int .i64 a3, .bool a4] 24)] :: C63 :: F) rfl rfl
                                   replace hS := hS.front 2 (C := C63) (L' := C6 :: [(b, rowO [.int .i64 a0, .int .i64 a1, .int .i64 a2, .int .i64 a3, .bool a4] 24)] :: F) rfl rfl
                                   replace hS := hS.front 2 (C := [(b, rowO [.int .i64 a0, .int .i64 a1, .int .i64 a2, .int .i64 a3, .bool a4] 24)]) (L' := C63 :: C6 :: F) rfl rfl
                                   exact lp_next _ (by omega) ⟨(k + 1), (q + 1), rfl, (hA.sel [4, 7, 13, 15, 114, 115, 116] rfl), hS, by omega, by omega⟩)))
                    · first
                      | (exfalso; omega)
                      | (replace hA := hA.rw 122 (v' := .bool false) rfl (vb_false hc98)
                         replace hA := hA.rw 123 (v' := .bool false) rfl (vb_false hc98)
                         refine dr_run tbOk 5 hA hS (e' := (128, undef) :: (127, undef) :: (126, undef) :: (125, undef) :: (124, undef) :: _) rfl ?_; clear hA; intro a hA
                         refine dr_run tbOk 3 hA hS (e' := (131, undef) :: (130, undef) :: (129, undef) :: _) rfl ?_; clear hA; intro a hA
                         refine dr_run tbOk 2 hA hS (e' := (133, .bool false) :: (132, undef) :: _) rfl ?_; clear hA; intro a hA
                         refine dr_end ?_
                         replace hA := hA.sel [4, 7, 13, 15, 17, 114, 115, 116, 133] (e' := [(4, .pointer (some ⟨b, 0, none⟩)), (7, .slice A7 ms.length c8), (13, .slice (some ⟨b93, o94, none⟩) ((ms.take i ++ ((a0, a1, a2, a3, a4) :: ms.drop i)).length) c65), (15, .int .i64 ((q : Nat) : Int)), (17, .pointer (some ⟨b95, 0, none⟩)), (114, .slice (some ⟨b93, o94, none⟩) ((ms.take i ++ ((a0, a1, a2, a3, a4) :: ms.drop i)).length) c65), (115, .int .i64 (((ms.take i ++ ((a0, a1, a2, a3, a4) :: ms.drop i)).length : Nat) : Int)), (116, .int .i64 ((k : Nat) : Int)), (133, .bool false)]) rfl
                         refine xt_norm ?_
                         refine cd_cond_f hA rfl ?_
                         refine wp_skip ?_
                         refine xt_norm ?_
                         refine wp_seq ?_
                         refine wp_seq ?_
                         refine wp_region_lit ?_
                         refine st_val hA rfl rfl (by decide) (rn_loadA tbOk hA [.int .i64 y0, .int .i64 y1, .int .i64 y2, .int .i64 y3, .bool y4] rfl rfl rfl rfl rfl (cells_row (hS.heapAt 0 rfl) rfl)) ?_; clear hA; intro a hA
                         refine st_val hA rfl rfl (by decide) (rn_loadA tbOk hA [.int .i64 a0, .int .i64 a1, .int .i64 a2, .int .i64 a3, .bool a4] rfl rfl rfl rfl rfl (cells_row (hS.heapAt 1 rfl) rfl)) ?_; clear hA; intro a hA
                         refine st_val hA rfl rfl (by decide) (rn_eqA tbOk hA rfl rfl rfl rfl rfl (by kernel_rfl) (by kernel_rfl) rfl) ?_; clear hA; intro a hA
                         refine wpList_nil ?_
                         replace hA := hA.sel [4, 7, 13, 15, 17, 114, 115, 116, 136] (e' := [(4, .pointer (some ⟨b, 0, none⟩)), (7, .slice A7 ms.length c8), (13, .slice (some ⟨b93, o94, none⟩) ((ms.take i ++ ((a0, a1, a2, a3, a4) :: ms.drop i)).length) c65), (15, .int .i64 ((q : Nat) : Int)), (17, .pointer (some ⟨b95, 0, none⟩)), (114, .slice (some ⟨b93, o94, none⟩) ((ms.take i ++ ((a0, a1, a2, a3, a4) :: ms.drop i)).length) c65), (115, .int .i64 (((ms.take i ++ ((a0, a1, a2, a3, a4) :: ms.drop i)).length : Nat) : Int)), (116, .int .i64 ((k : Nat) : Int)), (136, .bool (((y0 : Int) == (a0 : Int)) && (((y1 : Int) == (a1 : Int)) && (((y2 : Int) == (a2 : Int)) && (((y3 : Int) == (a3 : Int)) && (((y4 : Bool) == (a4 : Bool)) && true))))))]) rfl
                         refine xt_norm ?_
                         have hc105 : ¬ ((((y0 : Int) == (a0 : Int)) && (((y1 : Int) == (a1 : Int)) && (((y2 : Int) == (a2 : Int)) && (((y3 : Int) == (a3 : Int)) && (((y4 : Bool) == (a4 : Bool)) && true))))) = true) := (fun h => by simp only [Bool.and_eq_true, beq_iff_eq] at h; exact hne h.1)
                         replace hA := hA.rw 136 (v' := .bool false) rfl (vb_f hc105)
                         refine cd_cond_f hA rfl ?_
                         refine wp_skip ?_
                         refine xt_norm ?_
                         refine wp_seq ?_
                         refine wp_seq ?_
                         have hql : q < ms.length := (List.getElem?_eq_some_iff.1 hyq).1
                         obtain ⟨b106, o107, rfl⟩ := hO6.isSome (k := q) (by omega)
                         refine wp_draw (fun w' => St w0 w' ([(b95, rowO [.int .i64 y0, .int .i64 y1, .int .i64 y2, .int .i64 y3, .bool y4] 24)] :: [(b, rowO [.int .i64 a0, .int .i64 a1, .int .i64 a2, .int .i64 a3, .bool a4] 24)] :: C63 :: C6 :: F)) [] [(0, true), (1, true), (2, true), (3, true), (4, true), (5, true), (6, true), (7, true), (8, true), (9, true), (10, true), (11, true)] mixed (by kernel_rfl) (by rintro c a w ⟨_, _, h, _⟩; cases h) (by rfl) (by kernel_rfl) ?_
                         replace hS := hS.drew
                         refine dr_run tbOk 5 hA hS (e' := (141, .bool (decide (((q : Nat) : Int) ≥ ((ms.length : Nat) : Int)))) :: (140, .bool (decide (((q : Nat) : Int) ≥ ((ms.length : Nat) : Int)))) :: (139, .int .i64 ((ms.length : Nat) : Int)) :: (138, .slice (some ⟨b106, o107, none⟩) ms.length c8) :: (137, .int .i64 ((q : Nat) : Int)) :: _) rfl ?_; clear hA; intro a hA
                         by_cases hc108 : ((q : Nat) : Int) ≥ ((ms.length : Nat) : Int)
                         · first
                           | (exfalso; omega)
                           | (replace hA := hA.rw 140 (v' := .bool true) rfl (vb_true hc108)
                              replace hA := hA.rw 141 (v' := .bool true) rfl (vb_true hc108)
                              refine dr_run tbOk 7 hA hS (e' := (148, .bool true) :: (147, undef) :: (146, undef) :: (145, undef) :: (144, undef) :: (143, undef) :: (142, undef) :: _) rfl ?_; clear hA; intro a hA
                              refine dr_end ?_
                              replace hA := hA.sel [4, 7, 13, 15, 114, 115, 116, 148] (e' := [(4, .pointer (some ⟨b, 0, none⟩)), (7, .slice (some ⟨b106, o107, none⟩) ms.length c8), (13, .slice (some ⟨b93, o94, none⟩) ((ms.take i ++ ((a0, a1, a2, a3, a4) :: ms.drop i)).length) c65), (15, .int .i64 ((q : Nat) : Int)), (114, .slice (some ⟨b93, o94, none⟩) ((ms.take i ++ ((a0, a1, a2, a3, a4) :: ms.drop i)).length) c65), (115, .int .i64 (((ms.take i ++ ((a0, a1, a2, a3, a4) :: ms.drop i)).length : Nat) : Int)), (116, .int .i64 ((k : Nat) : Int)), (148, .bool true)]) rfl
                              refine xt_norm ?_
                              refine cd_cond_t hA rfl ?_
                              refine wp_seq ?_
                              refine wp_region_lit ?_
                              refine st_run tbOk 1 hA (e' := (6, .bool false) :: _) rfl ?_; clear hA; intro a hA
                              refine wpList_nil ?_
                              replace hA := hA.sel [6] (e' := [(6, .bool false)]) rfl
                              refine xt_norm ?_
                              refine wp_ret (xt_ret (xb_ret (xt_ret (xt_ret (xb_ret (xt_ret ?_))))))
                              refine ret1 (fn := Tryd.f3) hA rfl rfl ?_
                              exfalso; omega)
                         · first
                           | (exfalso; omega)
                           | (replace hA := hA.rw 140 (v' := .bool false) rfl (vb_false hc108)
                              replace hA := hA.rw 141 (v' := .bool false) rfl (vb_false hc108)
                              refine dr_run tbOk 2 hA hS (e' := (143, .int .i64 ((q : Nat) : Int)) :: (142, .slice (some ⟨b106, o107, none⟩) ms.length c8) :: _) rfl ?_; clear hA; intro a hA
                              refine dr_y hA rfl rfl rfl (by decide) hS (fun w' hS' => rn_indexAddr tbOk hA q (o107 + (q * 5)) rfl rfl rfl rfl rfl rfl (by rfl) (by omega) (by first | rfl | simp [Nat.mul_one, Nat.zero_add] | omega)) ?_; clear hA; intro a hA
                              refine dr_y hA rfl rfl rfl (by decide) hS (fun w' hS' => rn_loadA tbOk hA ([.int .i64 y0, .int .i64 y1, .int .i64 y2, .int .i64 y3, .bool y4]) rfl rfl rfl rfl (by rfl) ((hO6.rd (hS'.own_ 3 rfl)).elem (k := q) encArea_ok hyq)) ?_; clear hA; intro a hA
                              refine dr_y hA rfl rfl rfl (by decide) hS (fun w' hS' => rn_loadA tbOk hA [.int .i64 y0, .int .i64 y1, .int .i64 y2, .int .i64 y3, .bool y4] rfl rfl rfl rfl rfl (cells_row (hS'.heapAt 0 rfl) rfl)) ?_; clear hA; intro a hA
                              refine dr_y hA rfl rfl rfl (by decide) hS (fun w' hS' => rn_neA tbOk hA rfl rfl rfl rfl rfl (by kernel_rfl) (by kernel_rfl) rfl) ?_; clear hA; intro a hA
                              replace hA := hA.rw 147 (v' := .bool false) rfl (by simp)
                              refine dr_run tbOk 1 hA hS (e' := (148, .bool false) :: _) rfl ?_; clear hA; intro a hA
                              refine dr_end ?_
                              replace hA := hA.sel [4, 7, 13, 15, 114, 115, 116, 148] (e' := [(4, .pointer (some ⟨b, 0, none⟩)), (7, .slice (some ⟨b106, o107, none⟩) ms.length c8), (13, .slice (some ⟨b93, o94, none⟩) ((ms.take i ++ ((a0, a1, a2, a3, a4) :: ms.drop i)).length) c65), (15, .int .i64 ((q : Nat) : Int)), (114, .slice (some ⟨b93, o94, none⟩) ((ms.take i ++ ((a0, a1, a2, a3, a4) :: ms.drop i)).length) c65), (115, .int .i64 (((ms.take i ++ ((a0, a1, a2, a3, a4) :: ms.drop i)).length : Nat) : Int)), (116, .int .i64 ((k : Nat) : Int)), (148, .bool false)]) rfl
                              refine xt_norm ?_
                              refine cd_cond_f hA rfl ?_
                              refine wp_skip ?_
                              refine xt_norm ?_
                              refine wp_region_lit ?_
                              refine st_run tbOk 2 hA (e' := (150, .int .i64 (IntKind.i64.wrap (((q : Nat) : Int) + 1))) :: (149, .int .i64 ((q : Nat) : Int)) :: _) rfl ?_; clear hA; intro a hA
                              replace hA := hA.rw 150 (v' := .int .i64 ((q + 1 : Nat) : Int)) rfl (wr64 (by omega) (by omega) (by omega))
                              refine st_run tbOk 1 hA (e' := (15, .int .i64 ((q + 1 : Nat) : Int)) :: _) rfl ?_; clear hA; intro a hA
                              refine wpList_nil ?_
                              replace hA := hA.sel [4, 7, 13, 15, 114, 115, 116] (e' := [(4, .pointer (some ⟨b, 0, none⟩)), (7, .slice (some ⟨b106, o107, none⟩) ms.length c8), (13, .slice (some ⟨b93, o94, none⟩) ((ms.take i ++ ((a0, a1, a2, a3, a4) :: ms.drop i)).length) c65), (15, .int .i64 ((q + 1 : Nat) : Int)), (114, .slice (some ⟨b93, o94, none⟩) ((ms.take i ++ ((a0, a1, a2, a3, a4) :: ms.drop i)).length) c65), (115, .int .i64 (((ms.take i ++ ((a0, a1, a2, a3, a4) :: ms.drop i)).length : Nat) : Int)), (116, .int .i64 ((k : Nat) : Int))]) rfl
                              refine xb_norm ?_
                              refine xt_norm ?_
                              refine wp_region_lit ?_
                              refine st_run tbOk 1 hA (e' := (151, .int .i64 (IntKind.i64.wrap (((k : Nat) : Int) + 1))) :: _) rfl ?_; clear hA; intro a hA
                              replace hA := hA.rw 151 (v' := .int .i64 ((k + 1 : Nat) : Int)) rfl (wr64 (by omega) (by omega) (by omega))
                              refine st_run tbOk 1 hA (e' := (116, .int .i64 ((k + 1 : Nat) : Int)) :: _) rfl ?_; clear hA; intro a hA
                              refine wpList_nil ?_
                              replace hA := hA.sel [4, 7, 13, 15, 114, 115, 116] (e' := [(4, .pointer (some ⟨b, 0, none⟩)), (7, .slice (some ⟨b106, o107, none⟩) ms.length c8), (13, .slice (some ⟨b93, o94, none⟩) ((ms.take i ++ ((a0, a1, a2, a3, a4) :: ms.drop i)).length) c65), (15, .int .i64 ((q + 1 : Nat) : Int)), (114, .slice (some ⟨b93, o94, none⟩) ((ms.take i ++ ((a0, a1, a2, a3, a4) :: ms.drop i)).length) c65), (115, .int .i64 (((ms.take i ++ ((a0, a1, a2, a3, a4) :: ms.drop i)).length : Nat) : Int)), (116, .int .i64 ((k + 1 : Nat) : Int))]) rfl
                              replace hS := hS.drop1
                              replace hS := hS.front 2 (C := C6) (L' := [(b, rowO [.int .i64 a0, .int .i64 a1, .int .i64 a2, .int .i64 a3, .bool a4] 24)] :: C63 :: F) rfl rfl
                              replace hS := hS.front 2 (C := C63) (L' := C6 :: [(b, rowO [.int .i64 a0, .int .i64 a1, .int .i64 a2, .int .i64 a3, .bool a4] 24)] :: F) rfl rfl
                              replace hS := hS.front 2 (C := [(b, rowO [.int .i64 a0, .int .i64 a1, .int .i64 a2, .int .i64 a3, .bool a4] 24)]) (L' := C63 :: C6 :: F) rfl rfl
                              exact lp_next _ (by omega) ⟨(k + 1), (q + 1), rfl, (hA.sel [4, 7, 13, 15, 114, 115, 116] rfl), hS, by omega, by omega⟩)))
             · first
               | (exfalso; omega)
               | (replace hA := hA.rw 117 (v' := .bool false) rfl (vb_false hc68)
                  refine cd_cond_f hA rfl ?_
                  refine wp_exit ?_
                  refine xt_exit ?_
                  refine xt_exit ?_
                  refine cd_exit_eq ?_
                  refine xt_norm ?_
                  refine wp_seq ?_
                  refine wp_region_lit ?_
                  refine st_run tbOk 5 hA (e' := (156, .int .i64 (IntKind.i64.wrap (((ms.length : Nat) : Int) + 1))) :: (155, .int .i64 ((ms.length : Nat) : Int)) :: (154, .slice A7 ms.length c8) :: (153, .int .i64 (((ms.take i ++ ((a0, a1, a2, a3, a4) :: ms.drop i)).length : Nat) : Int)) :: (152, .slice A64 ((ms.take i ++ ((a0, a1, a2, a3, a4) :: ms.drop i)).length) c65) :: _) rfl ?_; clear hA; intro a hA
                  replace hA := hA.rw 156 (v' := .int .i64 ((ms.length + 1 : Nat) : Int)) rfl (wr64 (by omega) (by omega) (by omega))
                  refine st_run tbOk 2 hA (e' := (158, .bool ((((ms.take i ++ ((a0, a1, a2, a3, a4) :: ms.drop i)).length : Nat) : Int) == ((ms.length + 1 : Nat) : Int))) :: (157, .bool ((((ms.take i ++ ((a0, a1, a2, a3, a4) :: ms.drop i)).length : Nat) : Int) == ((ms.length + 1 : Nat) : Int))) :: _) rfl ?_; clear hA; intro a hA
                  by_cases hc109 : (((ms.take i ++ ((a0, a1, a2, a3, a4) :: ms.drop i)).length : Nat) : Int) = ((ms.length + 1 : Nat) : Int)
                  · first
                    | (exfalso; omega)
                    | (replace hA := hA.rw 157 (v' := .bool true) rfl (vb_eq_t hc109)
                       replace hA := hA.rw 158 (v' := .bool true) rfl (vb_eq_t hc109)
                       refine st_run tbOk 6 hA (e' := (6, .bool (((q : Nat) : Int) == ((ms.length : Nat) : Int))) :: (163, .bool (((q : Nat) : Int) == ((ms.length : Nat) : Int))) :: (162, .bool (((q : Nat) : Int) == ((ms.length : Nat) : Int))) :: (161, .int .i64 ((ms.length : Nat) : Int)) :: (160, .slice A7 ms.length c8) :: (159, .int .i64 ((q : Nat) : Int)) :: _) rfl ?_; clear hA; intro a hA
                       refine wpList_nil ?_
                       replace hA := hA.sel [6] (e' := [(6, .bool (((q : Nat) : Int) == ((ms.length : Nat) : Int)))]) rfl
                       refine xt_norm ?_
                       refine wp_ret ?_
                       refine ret1 (fn := Tryd.f3) hA rfl rfl ?_
                       replace hS := hS.drop1
                       replace hS := hS.drop1
                       replace hS := hS.drop1
                       exact ⟨congrArg Value.bool (beq_iff_eq.2 (by omega)), hS⟩)
                  · first
                    | (exfalso; omega)
                    | (replace hA := hA.rw 157 (v' := .bool false) rfl (vb_eq_f hc109)
                       replace hA := hA.rw 158 (v' := .bool false) rfl (vb_eq_f hc109)
                       refine st_run tbOk 6 hA (e' := (6, .bool false) :: (163, .bool false) :: (162, undef) :: (161, undef) :: (160, undef) :: (159, undef) :: _) rfl ?_; clear hA; intro a hA
                       refine wpList_nil ?_
                       replace hA := hA.sel [6] (e' := [(6, .bool false)]) rfl
                       refine xt_norm ?_
                       refine wp_ret ?_
                       refine ret1 (fn := Tryd.f3) hA rfl rfl ?_
                       exfalso; omega)))
    · have hv2 := hv; dsimp only [Val, ab, az] at hv2
      refine st_run tbOk 3 hA (e' := (27, .int .i64 0) :: (26, .int .i64 ((ms.length : Nat) : Int)) :: (25, .slice A7 ms.length c8) :: _) rfl ?_; clear hA; intro a hA
      refine wpList_nil ?_
      refine xt_norm ?_
      refine wp_block ?_
      replace hS := hS.front 1 (C := C6) (L' := [(b, rowO [.int .i64 a0, .int .i64 a1, .int .i64 a2, .int .i64 a3, .bool a4] 24)] :: F) rfl rfl
      replace hS := hS.front 1 (C := [(b, rowO [.int .i64 a0, .int .i64 a1, .int .i64 a2, .int .i64 a3, .bool a4] 24)]) (L' := C6 :: F) rfl rfl
      refine wp_loop_ghost (fun m a w => ∃ (ov : Bool) (k : Nat), m = ms.length - k ∧ Has a 164 [(4, .pointer (some ⟨b, 0, none⟩)), (7, .slice A7 ms.length c8), (8, .bool ov), (25, .slice A7 ms.length c8), (26, .int .i64 ((ms.length : Nat) : Int)), (27, .int .i64 ((k : Nat) : Int))] ∧ St w0 w ([(b, rowO [.int .i64 a0, .int .i64 a1, .int .i64 a2, .int .i64 a3, .bool a4] 24)] :: C6 :: F) ∧ (k ≤ ms.length)) (ms.length - 0)
        ⟨false, 0, rfl, (hA.sel [4, 7, 8, 25, 26, 27] rfl), hS, Nat.zero_le _⟩ ?_
      clear hA hS; rintro m0 a w110 ⟨ov, k, rfl, hA, hS, hk⟩
      refine wp_seq ?_
      refine wp_region_lit ?_
      refine st_run tbOk 1 hA (e' := (28, .bool (decide (((k : Nat) : Int) < ((ms.length : Nat) : Int)))) :: _) rfl ?_; clear hA; intro a hA
      refine wpList_nil ?_
      refine xt_norm ?_
      refine wp_seq ?_
      by_cases hc111 : ((k : Nat) : Int) < ((ms.length : Nat) : Int)
      · first
        | (exfalso; omega)
        | (replace hA := hA.rw 28 (v' := .bool true) rfl (vb_true hc111)
           refine cd_cond_t hA rfl ?_
           refine wp_skip ?_
           refine xt_norm ?_
           refine wp_seq ?_
           refine wp_block ?_
           refine wp_seq ?_
           refine wp_region_lit ?_
           obtain ⟨b112, o113, rfl⟩ := hO6.isSome (k := k) (by omega)
           refine st_val hA rfl rfl (by decide) (rn_indexAddr tbOk hA k (o113 + (k * 5)) rfl rfl rfl rfl rfl rfl (by rfl) (by omega) (by first | rfl | simp [Nat.mul_one, Nat.zero_add] | omega)) ?_; clear hA; intro a hA
           obtain ⟨x114, hx114⟩ := get_ex (l := ms) (k := k) (by omega)
           obtain ⟨x114f0, x114f1, x114f2, x114f3, x114f4⟩ := x114
           have hk115 := hM.s _ (List.mem_of_getElem? hx114); dsimp only [SOk, ab, az, ag, ao] at hk115
           refine st_val hA rfl rfl (by decide) (rn_loadA tbOk hA ([.int .i64 x114f0, .int .i64 x114f1, .int .i64 x114f2, .int .i64 x114f3, .bool x114f4]) rfl rfl rfl rfl (by rfl) ((hO6.rd (hS.own_ 1 rfl)).elem (k := k) encArea_ok hx114)) ?_; clear hA; intro a hA
           refine st_alloc tbOk hA hS [.int .i64 0, .int .i64 0, .int .i64 0, .int .i64 0, .bool false] rfl rfl rfl rfl rfl (by decide) ?_; clear hA hS; intro b116 w117 a hS hA
           refine st_store tbOk hA hS [.int .i64 x114f0, .int .i64 x114f1, .int .i64 x114f2, .int .i64 x114f3, .bool x114f4] [.int .i64 x114f0, .int .i64 x114f1, .int .i64 x114f2, .int .i64 x114f3, .bool x114f4] rfl rfl rfl rfl rfl rfl (by simp [Value.oneCell']) (Nat.le_of_ble_eq_true rfl) rfl rfl rfl ?_; clear hS; intro w118 hS
           refine wpList_nil ?_
           replace hA := hA.sel [4, 7, 8, 10, 25, 26, 27] (e' := [(4, .pointer (some ⟨b, 0, none⟩)), (7, .slice (some ⟨b112, o113, none⟩) ms.length c8), (8, .bool ov), (10, .pointer (some ⟨b116, 0, none⟩)), (25, .slice (some ⟨b112, o113, none⟩) ms.length c8), (26, .int .i64 ((ms.length : Nat) : Int)), (27, .int .i64 ((k : Nat) : Int))]) rfl
           refine xt_norm ?_
           refine wp_seq ?_
           refine wp_region_lit ?_
           refine st_run tbOk 1 hA (e' := (31, .pointer (some ⟨b116, 0, none⟩)) :: _) rfl ?_; clear hA; intro a hA
           refine st_val hA rfl rfl (by decide) (rn_load tbOk hA rfl rfl rfl rfl (cell_row (hS.heapAt 0 rfl) rfl)) ?_; clear hA; intro a hA
           refine st_run tbOk 1 hA (e' := (11, .int .i64 x114f0) :: _) rfl ?_; clear hA; intro a hA
           refine wpList_nil ?_
           replace hA := hA.sel [4, 7, 8, 10, 11, 25, 26, 27] (e' := [(4, .pointer (some ⟨b, 0, none⟩)), (7, .slice (some ⟨b112, o113, none⟩) ms.length c8), (8, .bool ov), (10, .pointer (some ⟨b116, 0, none⟩)), (11, .int .i64 x114f0), (25, .slice (some ⟨b112, o113, none⟩) ms.length c8), (26, .int .i64 ((ms.length : Nat) : Int)), (27, .int .i64 ((k : Nat) : Int))]) rfl
           refine xt_norm ?_
           refine wp_block ?_
           replace hA := hA.rw 11 (v' := .int .i64 (x114f0 + ((0 : Nat) : Int))) rfl (vint (by omega))
           refine wp_loop_ghost (fun m a w => ∃ (ov2 : Bool) (q : Nat), m = x114f1.toNat - q ∧ Has a 164 [(4, .pointer (some ⟨b, 0, none⟩)), (7, .slice (some ⟨b112, o113, none⟩) ms.length c8), (8, .bool ov2), (10, .pointer (some ⟨b116, 0, none⟩)), (11, .int .i64 (x114f0 + ((q : Nat) : Int))), (25, .slice (some ⟨b112, o113, none⟩) ms.length c8), (26, .int .i64 ((ms.length : Nat) : Int)), (27, .int .i64 ((k : Nat) : Int))] ∧ St w0 w ([(b116, rowO [.int .i64 x114f0, .int .i64 x114f1, .int .i64 x114f2, .int .i64 x114f3, .bool x114f4] 24)] :: [(b, rowO [.int .i64 a0, .int .i64 a1, .int .i64 a2, .int .i64 a3, .bool a4] 24)] :: C6 :: F) ∧ (((q : Nat) : Int) ≤ x114f1)) (x114f1.toNat - 0)
             ⟨ov, 0, rfl, (hA.sel [4, 7, 8, 10, 11, 25, 26, 27] rfl), hS, (by omega)⟩ ?_
           clear hA hS; rintro m0 a w119 ⟨ov2, q, rfl, hA, hS, hq⟩
           refine wp_seq ?_
           refine wp_seq ?_
           refine wp_region_lit ?_
           refine st_run tbOk 2 hA (e' := (34, .pointer (some ⟨b116, 0, none⟩)) :: (33, .int .i64 (x114f0 + ((q : Nat) : Int))) :: _) rfl ?_; clear hA; intro a hA
           refine st_val hA rfl rfl (by decide) (rn_load tbOk hA rfl rfl rfl rfl (cell_row (hS.heapAt 0 rfl) rfl)) ?_; clear hA; intro a hA
           refine st_run tbOk 1 hA (e' := (36, .pointer (some ⟨b116, 1, none⟩)) :: _) rfl ?_; clear hA; intro a hA
           refine st_val hA rfl rfl (by decide) (rn_load tbOk hA rfl rfl rfl rfl (cell_row (hS.heapAt 0 rfl) rfl)) ?_; clear hA; intro a hA
           refine st_run tbOk 1 hA (e' := (38, .int .i64 (IntKind.i64.wrap (x114f0 + x114f1))) :: _) rfl ?_; clear hA; intro a hA
           replace hA := hA.rw 38 (v' := .int .i64 (x114f0 + x114f1)) rfl (wr64 (by omega) (by omega) (by omega))
           refine st_run tbOk 1 hA (e' := (39, .bool (decide (x114f0 + ((q : Nat) : Int) < x114f0 + x114f1))) :: _) rfl ?_; clear hA; intro a hA
           refine wpList_nil ?_
           replace hA := hA.sel [4, 7, 8, 10, 11, 25, 26, 27, 39] (e' := [(4, .pointer (some ⟨b, 0, none⟩)), (7, .slice (some ⟨b112, o113, none⟩) ms.length c8), (8, .bool ov2), (10, .pointer (some ⟨b116, 0, none⟩)), (11, .int .i64 (x114f0 + ((q : Nat) : Int))), (25, .slice (some ⟨b112, o113, none⟩) ms.length c8), (26, .int .i64 ((ms.length : Nat) : Int)), (27, .int .i64 ((k : Nat) : Int)), (39, .bool (decide (x114f0 + ((q : Nat) : Int) < x114f0 + x114f1)))]) rfl
           refine xt_norm ?_
           by_cases hc120 : x114f0 + ((q : Nat) : Int) < x114f0 + x114f1
           · first
             | (exfalso; omega)
             | (replace hA := hA.rw 39 (v' := .bool true) rfl (vb_true hc120)
                refine cd_cond_t hA rfl ?_
                refine wp_skip ?_
                refine xt_norm ?_
                refine wp_seq ?_
                refine wp_block ?_
                refine wp_region_lit ?_
                refine st_run tbOk 2 hA (e' := (43, .bool ov2) :: (42, .bool ov2) :: _) rfl ?_; clear hA; intro a hA
                by_cases hc121 : ov2 = true
                · first
                  | (exfalso; omega)
                  | (replace hA := hA.rw 8 (v' := .bool true) rfl (vb_t hc121)
                     replace hA := hA.rw 42 (v' := .bool true) rfl (vb_t hc121)
                     replace hA := hA.rw 43 (v' := .bool true) rfl (vb_t hc121)
                     refine st_run tbOk 5 hA (e' := (8, .bool true) :: (47, .bool true) :: (46, undef) :: (45, undef) :: (44, undef) :: _) rfl ?_; clear hA; intro a hA
                     refine wpList_nil ?_
                     replace hA := hA.sel [4, 7, 8, 10, 11, 25, 26, 27] (e' := [(4, .pointer (some ⟨b, 0, none⟩)), (7, .slice (some ⟨b112, o113, none⟩) ms.length c8), (8, .bool true), (10, .pointer (some ⟨b116, 0, none⟩)), (11, .int .i64 (x114f0 + ((q : Nat) : Int))), (25, .slice (some ⟨b112, o113, none⟩) ms.length c8), (26, .int .i64 ((ms.length : Nat) : Int)), (27, .int .i64 ((k : Nat) : Int))]) rfl
                     refine xb_norm ?_
                     refine xt_norm ?_
                     refine wp_region_lit ?_
                     refine st_run tbOk 2 hA (e' := (41, .int .i64 (IntKind.i64.wrap ((x114f0 + ((q : Nat) : Int)) + 1))) :: (40, .int .i64 (x114f0 + ((q : Nat) : Int))) :: _) rfl ?_; clear hA; intro a hA
                     replace hA := hA.rw 41 (v' := .int .i64 ((x114f0 + ((q : Nat) : Int)) + 1)) rfl (wr64 (by omega) (by omega) (by omega))
                     refine st_run tbOk 1 hA (e' := (11, .int .i64 ((x114f0 + ((q : Nat) : Int)) + 1)) :: _) rfl ?_; clear hA; intro a hA
                     refine wpList_nil ?_
                     replace hA := hA.sel [4, 7, 8, 10, 11, 25, 26, 27] (e' := [(4, .pointer (some ⟨b, 0, none⟩)), (7, .slice (some ⟨b112, o113, none⟩) ms.length c8), (8, .bool true), (10, .pointer (some ⟨b116, 0, none⟩)), (11, .int .i64 ((x114f0 + ((q : Nat) : Int)) + 1)), (25, .slice (some ⟨b112, o113, none⟩) ms.length c8), (26, .int .i64 ((ms.length : Nat) : Int)), (27, .int .i64 ((k : Nat) : Int))]) rfl
                     replace hS := hS.front 2 (C := C6) (L' := [(b116, rowO [.int .i64 x114f0, .int .i64 x114f1, .int .i64 x114f2, .int .i64 x114f3, .bool x114f4] 24)] :: [(b, rowO [.int .i64 a0, .int .i64 a1, .int .i64 a2, .int .i64 a3, .bool a4] 24)] :: F) rfl rfl
                     replace hS := hS.front 2 (C := [(b, rowO [.int .i64 a0, .int .i64 a1, .int .i64 a2, .int .i64 a3, .bool a4] 24)]) (L' := C6 :: [(b116, rowO [.int .i64 x114f0, .int .i64 x114f1, .int .i64 x114f2, .int .i64 x114f3, .bool x114f4] 24)] :: F) rfl rfl
                     replace hS := hS.front 2 (C := [(b116, rowO [.int .i64 x114f0, .int .i64 x114f1, .int .i64 x114f2, .int .i64 x114f3, .bool x114f4] 24)]) (L' := [(b, rowO [.int .i64 a0, .int .i64 a1, .int .i64 a2, .int .i64 a3, .bool a4] 24)] :: C6 :: F) rfl rfl
                     replace hA := hA.rw 11 (v' := .int .i64 (x114f0 + ((q + 1 : Nat) : Int))) rfl (vint (by omega))
                     exact lp_next _ (by omega) ⟨true, (q + 1), rfl, (hA.sel [4, 7, 8, 10, 11, 25, 26, 27] rfl), hS, by omega⟩)
                · first
                  | (exfalso; omega)
                  | (replace hA := hA.rw 8 (v' := .bool false) rfl (vb_f hc121)
                     replace hA := hA.rw 42 (v' := .bool false) rfl (vb_f hc121)
                     replace hA := hA.rw 43 (v' := .bool false) rfl (vb_f hc121)
                     refine st_val hA rfl rfl (by decide) (rn_loadA tbOk hA [.int .i64 a0, .int .i64 a1, .int .i64 a2, .int .i64 a3, .bool a4] rfl rfl rfl rfl rfl (cells_row (hS.heapAt 1 rfl) rfl)) ?_; clear hA; intro a hA
                     refine st_run tbOk 1 hA (e' := (45, .int .i64 (x114f0 + ((q : Nat) : Int))) :: _) rfl ?_; clear hA; intro a hA
                     refine st_call0 hA rfl rfl rfl isfn11 rfl rfl (by decide) (has_any11 hS (a0, a1, a2, a3, a4) (x114f0 + ((q : Nat) : Int))) ?_
                     clear hA hS; rintro _ w122 a ⟨b123, rfl, hS⟩ hA
                     refine st_run tbOk 2 hA (e' := (8, .bool b123) :: (47, .bool b123) :: _) rfl ?_; clear hA; intro a hA
                     refine wpList_nil ?_
                     replace hA := hA.sel [4, 7, 8, 10, 11, 25, 26, 27] (e' := [(4, .pointer (some ⟨b, 0, none⟩)), (7, .slice (some ⟨b112, o113, none⟩) ms.length c8), (8, .bool b123), (10, .pointer (some ⟨b116, 0, none⟩)), (11, .int .i64 (x114f0 + ((q : Nat) : Int))), (25, .slice (some ⟨b112, o113, none⟩) ms.length c8), (26, .int .i64 ((ms.length : Nat) : Int)), (27, .int .i64 ((k : Nat) : Int))]) rfl
                     refine xb_norm ?_
                     refine xt_norm ?_
                     refine wp_region_lit ?_
                     refine st_run tbOk 2 hA (e' := (41, .int .i64 (IntKind.i64.wrap ((x114f0 + ((q : Nat) : Int)) + 1))) :: (40, .int .i64 (x114f0 + ((q : Nat) : Int))) :: _) rfl ?_; clear hA; intro a hA
                     replace hA := hA.rw 41 (v' := .int .i64 ((x114f0 + ((q : Nat) : Int)) + 1)) rfl (wr64 (by omega) (by omega) (by omega))
                     refine st_run tbOk 1 hA (e' := (11, .int .i64 ((x114f0 + ((q : Nat) : Int)) + 1)) :: _) rfl ?_; clear hA; intro a hA
                     refine wpList_nil ?_
                     replace hA := hA.sel [4, 7, 8, 10, 11, 25, 26, 27] (e' := [(4, .pointer (some ⟨b, 0, none⟩)), (7, .slice (some ⟨b112, o113, none⟩) ms.length c8), (8, .bool b123), (10, .pointer (some ⟨b116, 0, none⟩)), (11, .int .i64 ((x114f0 + ((q : Nat) : Int)) + 1)), (25, .slice (some ⟨b112, o113, none⟩) ms.length c8), (26, .int .i64 ((ms.length : Nat) : Int)), (27, .int .i64 ((k : Nat) : Int))]) rfl
                     replace hS := hS.front 2 (C := C6) (L' := [(b116, rowO [.int .i64 x114f0, .int .i64 x114f1, .int .i64 x114f2, .int .i64 x114f3, .bool x114f4] 24)] :: [(b, rowO [.int .i64 a0, .int .i64 a1, .int .i64 a2, .int .i64 a3, .bool a4] 24)] :: F) rfl rfl
                     replace hS := hS.front 2 (C := [(b, rowO [.int .i64 a0, .int .i64 a1, .int .i64 a2, .int .i64 a3, .bool a4] 24)]) (L' := C6 :: [(b116, rowO [.int .i64 x114f0, .int .i64 x114f1, .int .i64 x114f2, .int .i64 x114f3, .bool x114f4] 24)] :: F) rfl rfl
                     replace hS := hS.front 2 (C := [(b116, rowO [.int .i64 x114f0, .int .i64 x114f1, .int .i64 x114f2, .int .i64 x114f3, .bool x114f4] 24)]) (L' := [(b, rowO [.int .i64 a0, .int .i64 a1, .int .i64 a2, .int .i64 a3, .bool a4] 24)] :: C6 :: F) rfl rfl
                     replace hA := hA.rw 11 (v' := .int .i64 (x114f0 + ((q + 1 : Nat) : Int))) rfl (vint (by omega))
                     exact lp_next _ (by omega) ⟨(b123), (q + 1), rfl, (hA.sel [4, 7, 8, 10, 11, 25, 26, 27] rfl), hS, by omega⟩))
           · first
             | (exfalso; omega)
             | (replace hA := hA.rw 39 (v' := .bool false) rfl (vb_false hc120)
                refine cd_cond_f hA rfl ?_
                refine wp_exit ?_
                refine xt_exit ?_
                refine xt_exit ?_
                refine cd_exit_eq ?_
                refine xb_norm ?_
                refine xt_norm ?_
                refine wp_region_lit ?_
                refine st_run tbOk 1 hA (e' := (48, .int .i64 (IntKind.i64.wrap (((k : Nat) : Int) + 1))) :: _) rfl ?_; clear hA; intro a hA
                replace hA := hA.rw 48 (v' := .int .i64 ((k + 1 : Nat) : Int)) rfl (wr64 (by omega) (by omega) (by omega))
                refine st_run tbOk 1 hA (e' := (27, .int .i64 ((k + 1 : Nat) : Int)) :: _) rfl ?_; clear hA; intro a hA
                refine wpList_nil ?_
                replace hA := hA.sel [4, 7, 8, 25, 26, 27] (e' := [(4, .pointer (some ⟨b, 0, none⟩)), (7, .slice (some ⟨b112, o113, none⟩) ms.length c8), (8, .bool ov2), (25, .slice (some ⟨b112, o113, none⟩) ms.length c8), (26, .int .i64 ((ms.length : Nat) : Int)), (27, .int .i64 ((k + 1 : Nat) : Int))]) rfl
                replace hS := hS.drop1
                replace hS := hS.front 1 (C := C6) (L' := [(b, rowO [.int .i64 a0, .int .i64 a1, .int .i64 a2, .int .i64 a3, .bool a4] 24)] :: F) rfl rfl
                replace hS := hS.front 1 (C := [(b, rowO [.int .i64 a0, .int .i64 a1, .int .i64 a2, .int .i64 a3, .bool a4] 24)]) (L' := C6 :: F) rfl rfl
                exact lp_next _ (by omega) ⟨ov2, (k + 1), rfl, (hA.sel [4, 7, 8, 25, 26, 27] rfl), hS, by omega⟩))
      · first
        | (exfalso; omega)
        | (replace hA := hA.rw 28 (v' := .bool false) rfl (vb_false hc111)
           refine cd_cond_f hA rfl ?_
           refine wp_exit ?_
           refine xt_exit ?_
           refine xt_exit ?_
           refine cd_exit_eq ?_
           refine xt_norm ?_
           refine wp_seq ?_
           refine wp_region_lit ?_
           have hkl : k = ms.length := by omega
           refine st_run tbOk 1 hA (e' := (12, .int .i64 0) :: _) rfl ?_; clear hA; intro a hA
           refine wpList_nil ?_
           replace hA := hA.sel [4, 7, 8, 12] (e' := [(4, .pointer (some ⟨b, 0, none⟩)), (7, .slice A7 ms.length c8), (8, .bool ov), (12, .int .i64 0)]) rfl
           refine xt_norm ?_
           refine wp_seq ?_
           refine wp_block ?_
           refine wp_seq ?_
           refine wp_region_lit ?_
           refine st_run tbOk 1 hA (e' := (50, .pointer (some ⟨b, 1, none⟩)) :: _) rfl ?_; clear hA; intro a hA
           refine st_val hA rfl rfl (by decide) (rn_load tbOk hA rfl rfl rfl rfl (cell_row (hS.heapAt 0 rfl) rfl)) ?_; clear hA; intro a hA
           refine st_run tbOk 2 hA (e' := (53, .bool (decide (a1 < 1))) :: (52, .bool (decide (a1 < 1))) :: _) rfl ?_; clear hA; intro a hA
           by_cases hc124 : a1 < 1
           · first
             | (exfalso; omega)
             | (replace hA := hA.rw 52 (v' := .bool true) rfl (vb_true hc124)
                replace hA := hA.rw 53 (v' := .bool true) rfl (vb_true hc124)
                refine st_run tbOk 18 hA (e' := (49, .bool true) :: (70, .bool true) :: (69, undef) :: (68, undef) :: (67, undef) :: (66, undef) :: (65, undef) :: (64, undef) :: (63, .bool true) :: (62, .bool true) :: (61, undef) :: (60, undef) :: (59, undef) :: (58, .bool true) :: (57, .bool true) :: (56, undef) :: (55, undef) :: (54, undef) :: _) rfl ?_; clear hA; intro a hA
                refine wpList_nil ?_
                replace hA := hA.sel [4, 7, 8, 12, 49] (e' := [(4, .pointer (some ⟨b, 0, none⟩)), (7, .slice A7 ms.length c8), (8, .bool ov), (12, .int .i64 0), (49, .bool true)]) rfl
                refine xt_norm ?_
                refine cd_cond_t hA rfl ?_
                refine wp_region_lit ?_
                refine st_run tbOk 1 hA (e' := (12, .int .i64 13) :: _) rfl ?_; clear hA; intro a hA
                refine wpList_nil ?_
                replace hA := hA.sel [4, 7, 12] (e' := [(4, .pointer (some ⟨b, 0, none⟩)), (7, .slice A7 ms.length c8), (12, .int .i64 13)]) rfl
                refine xb_norm ?_
                refine xt_norm ?_
                refine wp_seq ?_
                refine wp_region_lit ?_
                refine st_run tbOk 1 hA (e' := (87, .slice A7 ms.length c8) :: _) rfl ?_; clear hA; intro a hA
                refine st_val hA rfl rfl (by decide) (rn_loadA tbOk hA [.int .i64 a0, .int .i64 a1, .int .i64 a2, .int .i64 a3, .bool a4] rfl rfl rfl rfl rfl (cells_row (hS.heapAt 0 rfl) rfl)) ?_; clear hA; intro a hA
                refine st_call0 hA rfl rfl rfl isfn12 rfl rfl (by decide) (add_bounds12 hS (l := ms) (RdS.own hO6 1 rfl) (a0, a1, a2, a3, a4) hv) ?_
                clear hA hS; rintro v w125 a ⟨rfl, hS⟩ hA
                refine st_run tbOk 5 hA (e' := (14, .iface 30 (.int .i64 13)) :: (13, .slice none 0 0) :: (91, .iface 30 (.int .i64 13)) :: (90, .slice none 0 0) :: (86, .tuple #[.slice none 0 0, .iface 30 (.int .i64 13)]) :: _) rfl ?_; clear hA; intro a hA
                refine wpList_nil ?_
                replace hA := hA.sel [4, 7, 12, 13, 14] (e' := [(4, .pointer (some ⟨b, 0, none⟩)), (7, .slice A7 ms.length c8), (12, .int .i64 13), (13, .slice none 0 0), (14, .iface 30 (.int .i64 13))]) rfl
                refine xt_norm ?_
                refine wp_seq ?_
                refine wp_seq ?_
                refine wp_region_lit ?_
                refine st_run tbOk 1 hA (e' := (92, .iface 30 (.int .i64 13)) :: _) rfl ?_; clear hA; intro a hA
                refine st_call0 hA rfl rfl rfl isfn13 rfl rfl (by decide) (number_hit13 hS hg 13) ?_
                clear hA hS; rintro v w126 a ⟨rfl, hS⟩ hA
                refine st_run tbOk 18 hA (e' := (111, .bool false) :: (110, .bool false) :: (109, .bool false) :: (108, .int .i64 0) :: (107, .slice none 0 0) :: (106, .bool true) :: (105, .bool true) :: (104, .int .i64 13) :: (103, .bool false) :: (102, .bool false) :: (101, .bool false) :: (100, .bool false) :: (99, .int .i64 13) :: (98, .bool false) :: (97, .iface 30 (.int .i64 13)) :: (96, .bool false) :: (95, .bool false) :: (94, .int .i64 13) :: _) rfl ?_; clear hA; intro a hA
                refine wpList_nil ?_
                replace hA := hA.sel [4, 7, 12, 13, 111] (e' := [(4, .pointer (some ⟨b, 0, none⟩)), (7, .slice A7 ms.length c8), (12, .int .i64 13), (13, .slice none 0 0), (111, .bool false)]) rfl
                refine xt_norm ?_
                refine cd_cond_f hA rfl ?_
                refine wp_skip ?_
                refine xt_norm ?_
                refine wp_seq ?_
                refine wp_seq ?_
                refine wp_region_lit ?_
                refine st_run tbOk 2 hA (e' := (113, .bool true) :: (112, .int .i64 13) :: _) rfl ?_; clear hA; intro a hA
                refine wpList_nil ?_
                replace hA := hA.sel [4, 7, 13, 113] (e' := [(4, .pointer (some ⟨b, 0, none⟩)), (7, .slice A7 ms.length c8), (13, .slice none 0 0), (113, .bool true)]) rfl
                refine xt_norm ?_
                refine cd_cond_t hA rfl ?_
                refine wp_seq ?_
                refine wp_region_lit ?_
                refine st_run tbOk 1 hA (e' := (6, .bool true) :: _) rfl ?_; clear hA; intro a hA
                refine wpList_nil ?_
                replace hA := hA.sel [6] (e' := [(6, .bool true)]) rfl
                refine xt_norm ?_
                refine wp_ret (xt_ret ?_)
                refine ret1 (fn := Tryd.f3) hA rfl rfl ?_
                replace hS := hS.drop1
                replace hS := hS.drop1
                exact ⟨rfl, hS⟩)
           · first
             | (exfalso; omega)
             | (replace hA := hA.rw 52 (v' := .bool false) rfl (vb_false hc124)
                replace hA := hA.rw 53 (v' := .bool false) rfl (vb_false hc124)
                refine st_run tbOk 1 hA (e' := (54, .pointer (some ⟨b, 0, none⟩)) :: _) rfl ?_; clear hA; intro a hA
                refine st_val hA rfl rfl (by decide) (rn_load tbOk hA rfl rfl rfl rfl (cell_row (hS.heapAt 0 rfl) rfl)) ?_; clear hA; intro a hA
                refine st_run tbOk 3 hA (e' := (58, .bool (decide (a0 < 0))) :: (57, .bool (decide (a0 < 0))) :: (56, .bool (decide (a0 < 0))) :: _) rfl ?_; clear hA; intro a hA
                by_cases hc127 : a0 < 0
                · first
                  | (exfalso; omega)
                  | (replace hA := hA.rw 56 (v' := .bool true) rfl (vb_true hc127)
                     replace hA := hA.rw 57 (v' := .bool true) rfl (vb_true hc127)
                     replace hA := hA.rw 58 (v' := .bool true) rfl (vb_true hc127)
                     refine st_run tbOk 13 hA (e' := (49, .bool true) :: (70, .bool true) :: (69, undef) :: (68, undef) :: (67, undef) :: (66, undef) :: (65, undef) :: (64, undef) :: (63, .bool true) :: (62, .bool true) :: (61, undef) :: (60, undef) :: (59, undef) :: _) rfl ?_; clear hA; intro a hA
                     refine wpList_nil ?_
                     replace hA := hA.sel [4, 7, 8, 12, 49] (e' := [(4, .pointer (some ⟨b, 0, none⟩)), (7, .slice A7 ms.length c8), (8, .bool ov), (12, .int .i64 0), (49, .bool true)]) rfl
                     refine xt_norm ?_
                     refine cd_cond_t hA rfl ?_
                     refine wp_region_lit ?_
                     refine st_run tbOk 1 hA (e' := (12, .int .i64 13) :: _) rfl ?_; clear hA; intro a hA
                     refine wpList_nil ?_
                     replace hA := hA.sel [4, 7, 12] (e' := [(4, .pointer (some ⟨b, 0, none⟩)), (7, .slice A7 ms.length c8), (12, .int .i64 13)]) rfl
                     refine xb_norm ?_
                     refine xt_norm ?_
                     refine wp_seq ?_
                     refine wp_region_lit ?_
                     refine st_run tbOk 1 hA (e' := (87, .slice A7 ms.length c8) :: _) rfl ?_; clear hA; intro a hA
                     refine st_val hA rfl rfl (by decide) (rn_loadA tbOk hA [.int .i64 a0, .int .i64 a1, .int .i64 a2, .int .i64 a3, .bool a4] rfl rfl rfl rfl rfl (cells_row (hS.heapAt 0 rfl) rfl)) ?_; clear hA; intro a hA
                     refine st_call0 hA rfl rfl rfl isfn12 rfl rfl (by decide) (add_bounds12 hS (l := ms) (RdS.own hO6 1 rfl) (a0, a1, a2, a3, a4) hv) ?_
                     clear hA hS; rintro v w128 a ⟨rfl, hS⟩ hA
                     refine st_run tbOk 5 hA (e' := (14, .iface 30 (.int .i64 13)) :: (13, .slice none 0 0) :: (91, .iface 30 (.int .i64 13)) :: (90, .slice none 0 0) :: (86, .tuple #[.slice none 0 0, .iface 30 (.int .i64 13)]) :: _) rfl ?_; clear hA; intro a hA
                     refine wpList_nil ?_
                     replace hA := hA.sel [4, 7, 12, 13, 14] (e' := [(4, .pointer (some ⟨b, 0, none⟩)), (7, .slice A7 ms.length c8), (12, .int .i64 13), (13, .slice none 0 0), (14, .iface 30 (.int .i64 13))]) rfl
                     refine xt_norm ?_
                     refine wp_seq ?_
                     refine wp_seq ?_
                     refine wp_region_lit ?_
                     refine st_run tbOk 1 hA (e' := (92, .iface 30 (.int .i64 13)) :: _) rfl ?_; clear hA; intro a hA
                     refine st_call0 hA rfl rfl rfl isfn13 rfl rfl (by decide) (number_hit13 hS hg 13) ?_
                     clear hA hS; rintro v w129 a ⟨rfl, hS⟩ hA
                     refine st_run tbOk 18 hA (e' := (111, .bool false) :: (110, .bool false) :: (109, .bool false) :: (108, .int .i64 0) :: (107, .slice none 0 0) :: (106, .bool true) :: (105, .bool true) :: (104, .int .i64 13) :: (103, .bool false) :: (102, .bool false) :: (101, .bool false) :: (100, .bool false) :: (99, .int .i64 13) :: (98, .bool false) :: (97, .iface 30 (.int .i64 13)) :: (96, .bool false) :: (95, .bool false) :: (94, .int .i64 13) :: _) rfl ?_; clear hA; intro a hA
                     refine wpList_nil ?_
                     replace hA := hA.sel [4, 7, 12, 13, 111] (e' := [(4, .pointer (some ⟨b, 0, none⟩)), (7, .slice A7 ms.length c8), (12, .int .i64 13), (13, .slice none 0 0), (111, .bool false)]) rfl
                     refine xt_norm ?_
                     refine cd_cond_f hA rfl ?_
                     refine wp_skip ?_
                     refine xt_norm ?_
                     refine wp_seq ?_
                     refine wp_seq ?_
                     refine wp_region_lit ?_
                     refine st_run tbOk 2 hA (e' := (113, .bool true) :: (112, .int .i64 13) :: _) rfl ?_; clear hA; intro a hA
                     refine wpList_nil ?_
                     replace hA := hA.sel [4, 7, 13, 113] (e' := [(4, .pointer (some ⟨b, 0, none⟩)), (7, .slice A7 ms.length c8), (13, .slice none 0 0), (113, .bool true)]) rfl
                     refine xt_norm ?_
                     refine cd_cond_t hA rfl ?_
                     refine wp_seq ?_
                     refine wp_region_lit ?_
                     refine st_run tbOk 1 hA (e' := (6, .bool true) :: _) rfl ?_; clear hA; intro a hA
                     refine wpList_nil ?_
                     replace hA := hA.sel [6] (e' := [(6, .bool true)]) rfl
                     refine xt_norm ?_
                     refine wp_ret (xt_ret ?_)
                     refine ret1 (fn := Tryd.f3) hA rfl rfl ?_
                     replace hS := hS.drop1
                     replace hS := hS.drop1
                     exact ⟨rfl, hS⟩)
                · first
                  | (exfalso; omega)
                  | (replace hA := hA.rw 56 (v' := .bool false) rfl (vb_false hc127)
                     replace hA := hA.rw 57 (v' := .bool false) rfl (vb_false hc127)
                     replace hA := hA.rw 58 (v' := .bool false) rfl (vb_false hc127)
                     refine st_run tbOk 1 hA (e' := (59, .pointer (some ⟨b, 0, none⟩)) :: _) rfl ?_; clear hA; intro a hA
                     refine st_val hA rfl rfl (by decide) (rn_load tbOk hA rfl rfl rfl rfl (cell_row (hS.heapAt 0 rfl) rfl)) ?_; clear hA; intro a hA
                     refine st_run tbOk 3 hA (e' := (63, .bool (decide (a0 > 1073741824))) :: (62, .bool (decide (a0 > 1073741824))) :: (61, .bool (decide (a0 > 1073741824))) :: _) rfl ?_; clear hA; intro a hA
                     by_cases hc130 : a0 > 1073741824
                     · first
                       | (exfalso; omega)
                       | (replace hA := hA.rw 61 (v' := .bool true) rfl (vb_true hc130)
                          replace hA := hA.rw 62 (v' := .bool true) rfl (vb_true hc130)
                          replace hA := hA.rw 63 (v' := .bool true) rfl (vb_true hc130)
                          refine st_run tbOk 8 hA (e' := (49, .bool true) :: (70, .bool true) :: (69, undef) :: (68, undef) :: (67, undef) :: (66, undef) :: (65, undef) :: (64, undef) :: _) rfl ?_; clear hA; intro a hA
                          refine wpList_nil ?_
                          replace hA := hA.sel [4, 7, 8, 12, 49] (e' := [(4, .pointer (some ⟨b, 0, none⟩)), (7, .slice A7 ms.length c8), (8, .bool ov), (12, .int .i64 0), (49, .bool true)]) rfl
                          refine xt_norm ?_
                          refine cd_cond_t hA rfl ?_
                          refine wp_region_lit ?_
                          refine st_run tbOk 1 hA (e' := (12, .int .i64 13) :: _) rfl ?_; clear hA; intro a hA
                          refine wpList_nil ?_
                          replace hA := hA.sel [4, 7, 12] (e' := [(4, .pointer (some ⟨b, 0, none⟩)), (7, .slice A7 ms.length c8), (12, .int .i64 13)]) rfl
                          refine xb_norm ?_
                          refine xt_norm ?_
                          refine wp_seq ?_
                          refine wp_region_lit ?_
                          refine st_run tbOk 1 hA (e' := (87, .slice A7 ms.length c8) :: _) rfl ?_; clear hA; intro a hA
                          refine st_val hA rfl rfl (by decide) (rn_loadA tbOk hA [.int .i64 a0, .int .i64 a1, .int .i64 a2, .int .i64 a3, .bool a4] rfl rfl rfl rfl rfl (cells_row (hS.heapAt 0 rfl) rfl)) ?_; clear hA; intro a hA
                          refine st_call0 hA rfl rfl rfl isfn12 rfl rfl (by decide) (add_bounds12 hS (l := ms) (RdS.own hO6 1 rfl) (a0, a1, a2, a3, a4) hv) ?_
                          clear hA hS; rintro v w131 a ⟨rfl, hS⟩ hA
                          refine st_run tbOk 5 hA (e' := (14, .iface 30 (.int .i64 13)) :: (13, .slice none 0 0) :: (91, .iface 30 (.int .i64 13)) :: (90, .slice none 0 0) :: (86, .tuple #[.slice none 0 0, .iface 30 (.int .i64 13)]) :: _) rfl ?_; clear hA; intro a hA
                          refine wpList_nil ?_
                          replace hA := hA.sel [4, 7, 12, 13, 14] (e' := [(4, .pointer (some ⟨b, 0, none⟩)), (7, .slice A7 ms.length c8), (12, .int .i64 13), (13, .slice none 0 0), (14, .iface 30 (.int .i64 13))]) rfl
                          refine xt_norm ?_
                          refine wp_seq ?_
                          refine wp_seq ?_
                          refine wp_region_lit ?_
                          refine st_run tbOk 1 hA (e' := (92, .iface 30 (.int .i64 13)) :: _) rfl ?_; clear hA; intro a hA
                          refine st_call0 hA rfl rfl rfl isfn13 rfl rfl (by decide) (number_hit13 hS hg 13) ?_
                          clear hA hS; rintro v w132 a ⟨rfl, hS⟩ hA
                          refine st_run tbOk 18 hA (e' := (111, .bool false) :: (110, .bool false) :: (109, .bool false) :: (108, .int .i64 0) :: (107, .slice none 0 0) :: (106, .bool true) :: (105, .bool true) :: (104, .int .i64 13) :: (103, .bool false) :: (102, .bool false) :: (101, .bool false) :: (100, .bool false) :: (99, .int .i64 13) :: (98, .bool false) :: (97, .iface 30 (.int .i64 13)) :: (96, .bool false) :: (95, .bool false) :: (94, .int .i64 13) :: _) rfl ?_; clear hA; intro a hA
                          refine wpList_nil ?_
                          replace hA := hA.sel [4, 7, 12, 13, 111] (e' := [(4, .pointer (some ⟨b, 0, none⟩)), (7, .slice A7 ms.length c8), (12, .int .i64 13), (13, .slice none 0 0), (111, .bool false)]) rfl
                          refine xt_norm ?_
                          refine cd_cond_f hA rfl ?_
                          refine wp_skip ?_
                          refine xt_norm ?_
                          refine wp_seq ?_
                          refine wp_seq ?_
                          refine wp_region_lit ?_
                          refine st_run tbOk 2 hA (e' := (113, .bool true) :: (112, .int .i64 13) :: _) rfl ?_; clear hA; intro a hA
                          refine wpList_nil ?_
                          replace hA := hA.sel [4, 7, 13, 113] (e' := [(4, .pointer (some ⟨b, 0, none⟩)), (7, .slice A7 ms.length c8), (13, .slice none 0 0), (113, .bool true)]) rfl
                          refine xt_norm ?_
                          refine cd_cond_t hA rfl ?_
                          refine wp_seq ?_
                          refine wp_region_lit ?_
                          refine st_run tbOk 1 hA (e' := (6, .bool true) :: _) rfl ?_; clear hA; intro a hA
                          refine wpList_nil ?_
                          replace hA := hA.sel [6] (e' := [(6, .bool true)]) rfl
                          refine xt_norm ?_
                          refine wp_ret (xt_ret ?_)
                          refine ret1 (fn := Tryd.f3) hA rfl rfl ?_
                          replace hS := hS.drop1
                          replace hS := hS.drop1
                          exact ⟨rfl, hS⟩)
                     · first
                       | (exfalso; omega)
                       | (replace hA := hA.rw 61 (v' := .bool false) rfl (vb_false hc130)
                          replace hA := hA.rw 62 (v' := .bool false) rfl (vb_false hc130)
                          replace hA := hA.rw 63 (v' := .bool false) rfl (vb_false hc130)
                          refine st_run tbOk 1 hA (e' := (64, .pointer (some ⟨b, 1, none⟩)) :: _) rfl ?_; clear hA; intro a hA
                          refine st_val hA rfl rfl (by decide) (rn_load tbOk hA rfl rfl rfl rfl (cell_row (hS.heapAt 0 rfl) rfl)) ?_; clear hA; intro a hA
                          refine st_run tbOk 1 hA (e' := (66, .pointer (some ⟨b, 0, none⟩)) :: _) rfl ?_; clear hA; intro a hA
                          refine st_val hA rfl rfl (by decide) (rn_load tbOk hA rfl rfl rfl rfl (cell_row (hS.heapAt 0 rfl) rfl)) ?_; clear hA; intro a hA
                          refine st_run tbOk 1 hA (e' := (68, .int .i64 (IntKind.i64.wrap (1073741824 - a0))) :: _) rfl ?_; clear hA; intro a hA
                          replace hA := hA.rw 68 (v' := .int .i64 (1073741824 - a0)) rfl (wr64 (by omega) (by omega) (by omega))
                          refine st_run tbOk 3 hA (e' := (49, .bool (decide (a1 > 1073741824 - a0))) :: (70, .bool (decide (a1 > 1073741824 - a0))) :: (69, .bool (decide (a1 > 1073741824 - a0))) :: _) rfl ?_; clear hA; intro a hA
                          refine wpList_nil ?_
                          replace hA := hA.sel [4, 7, 8, 12, 49] (e' := [(4, .pointer (some ⟨b, 0, none⟩)), (7, .slice A7 ms.length c8), (8, .bool ov), (12, .int .i64 0), (49, .bool (decide (a1 > 1073741824 - a0)))]) rfl
                          refine xt_norm ?_
                          by_cases hc133 : a1 > 1073741824 - a0
                          · first
                            | (exfalso; omega)
                            | (replace hA := hA.rw 49 (v' := .bool true) rfl (vb_true hc133)
                               refine cd_cond_t hA rfl ?_
                               refine wp_region_lit ?_
                               refine st_run tbOk 1 hA (e' := (12, .int .i64 13) :: _) rfl ?_; clear hA; intro a hA
                               refine wpList_nil ?_
                               replace hA := hA.sel [4, 7, 12] (e' := [(4, .pointer (some ⟨b, 0, none⟩)), (7, .slice A7 ms.length c8), (12, .int .i64 13)]) rfl
                               refine xb_norm ?_
                               refine xt_norm ?_
                               refine wp_seq ?_
                               refine wp_region_lit ?_
                               refine st_run tbOk 1 hA (e' := (87, .slice A7 ms.length c8) :: _) rfl ?_; clear hA; intro a hA
                               refine st_val hA rfl rfl (by decide) (rn_loadA tbOk hA [.int .i64 a0, .int .i64 a1, .int .i64 a2, .int .i64 a3, .bool a4] rfl rfl rfl rfl rfl (cells_row (hS.heapAt 0 rfl) rfl)) ?_; clear hA; intro a hA
                               refine st_call0 hA rfl rfl rfl isfn12 rfl rfl (by decide) (add_bounds12 hS (l := ms) (RdS.own hO6 1 rfl) (a0, a1, a2, a3, a4) hv) ?_
                               clear hA hS; rintro v w134 a ⟨rfl, hS⟩ hA
                               refine st_run tbOk 5 hA (e' := (14, .iface 30 (.int .i64 13)) :: (13, .slice none 0 0) :: (91, .iface 30 (.int .i64 13)) :: (90, .slice none 0 0) :: (86, .tuple #[.slice none 0 0, .iface 30 (.int .i64 13)]) :: _) rfl ?_; clear hA; intro a hA
                               refine wpList_nil ?_
                               replace hA := hA.sel [4, 7, 12, 13, 14] (e' := [(4, .pointer (some ⟨b, 0, none⟩)), (7, .slice A7 ms.length c8), (12, .int .i64 13), (13, .slice none 0 0), (14, .iface 30 (.int .i64 13))]) rfl
                               refine xt_norm ?_
                               refine wp_seq ?_
                               refine wp_seq ?_
                               refine wp_region_lit ?_
                               refine st_run tbOk 1 hA (e' := (92, .iface 30 (.int .i64 13)) :: _) rfl ?_; clear hA; intro a hA
                               refine st_call0 hA rfl rfl rfl isfn13 rfl rfl (by decide) (number_hit13 hS hg 13) ?_
                               clear hA hS; rintro v w135 a ⟨rfl, hS⟩ hA
                               refine st_run tbOk 18 hA (e' := (111, .bool false) :: (110, .bool false) :: (109, .bool false) :: (108, .int .i64 0) :: (107, .slice none 0 0) :: (106, .bool true) :: (105, .bool true) :: (104, .int .i64 13) :: (103, .bool false) :: (102, .bool false) :: (101, .bool false) :: (100, .bool false) :: (99, .int .i64 13) :: (98, .bool false) :: (97, .iface 30 (.int .i64 13)) :: (96, .bool false) :: (95, .bool false) :: (94, .int .i64 13) :: _) rfl ?_; clear hA; intro a hA
                               refine wpList_nil ?_
                               replace hA := hA.sel [4, 7, 12, 13, 111] (e' := [(4, .pointer (some ⟨b, 0, none⟩)), (7, .slice A7 ms.length c8), (12, .int .i64 13), (13, .slice none 0 0), (111, .bool false)]) rfl
                               refine xt_norm ?_
                               refine cd_cond_f hA rfl ?_
                               refine wp_skip ?_
                               refine xt_norm ?_
                               refine wp_seq ?_
                               refine wp_seq ?_
                               refine wp_region_lit ?_
                               refine st_run tbOk 2 hA (e' := (113, .bool true) :: (112, .int .i64 13) :: _) rfl ?_; clear hA; intro a hA
                               refine wpList_nil ?_
                               replace hA := hA.sel [4, 7, 13, 113] (e' := [(4, .pointer (some ⟨b, 0, none⟩)), (7, .slice A7 ms.length c8), (13, .slice none 0 0), (113, .bool true)]) rfl
                               refine xt_norm ?_
                               refine cd_cond_t hA rfl ?_
                               refine wp_seq ?_
                               refine wp_region_lit ?_
                               refine st_run tbOk 1 hA (e' := (6, .bool true) :: _) rfl ?_; clear hA; intro a hA
                               refine wpList_nil ?_
                               replace hA := hA.sel [6] (e' := [(6, .bool true)]) rfl
                               refine xt_norm ?_
                               refine wp_ret (xt_ret ?_)
                               refine ret1 (fn := Tryd.f3) hA rfl rfl ?_
                               replace hS := hS.drop1
                               replace hS := hS.drop1
                               exact ⟨rfl, hS⟩)
                          · first
                            | (exfalso; omega)
                            | (replace hA := hA.rw 49 (v' := .bool false) rfl (vb_false hc133)
                               refine cd_cond_f hA rfl ?_
                               refine wp_seq ?_
                               exfalso; omega)))))
end Go.Proofs.YtplhgbfibiinaaaDoor
