import Derived.Test.YtplhgbfibiinaaaDoorG
set_option linter.unusedVariables false
set_option linter.unusedSimpArgs false
set_option maxRecDepth 4000
namespace Go.Proofs.YtplhgbfibiinaaaDoor
open Go Go.SK
theorem pieces_none14 {w0 w : World} {F : List Chunk} (hS : St w0 w F) {v : Value} {l : List Area} (hr : RdS w0 F 5 v l.length (rows encArea l)) (t n : Nat) (wr : Bool) (hM : MOk l) (ht : t ≤ 1073741824) (hn : n ≤ 1073741824 - t) {j0 : Nat} (hj0 : j0 < n) (hf : ∀ k, k < j0 → Fine l wr t k) (hbad : fnd l ((t + j0 : Nat) : Int) = none) :
    Ret Tryd.prog 14 #[v, .int .i64 ((t : Nat) : Int), .int .i64 ((n : Nat) : Int), .bool wr] w (fun v w' => v = .tuple #[.slice none 0 0, .iface 30 (.int .i64 13)] ∧ St w0 w' F) := by
  obtain ⟨A, c, rfl, hmc, hcx⟩ := (hr w hS).open'
  have hs := hM.s
  refine enter (vs := [.slice A l.length c, .int .i64 ((t : Nat) : Int), .int .i64 ((n : Nat) : Int), .bool wr]) 83 Tryd.func14 rfl rfl (by simp) ?_; intro a hA
  refine wp_seq ?_
  refine wp_region_lit ?_
  refine st_run tbOk 2 hA (e' := (9, .nilIface) :: (8, .slice none 0 0) :: _) rfl ?_; clear hA; intro a hA
  refine wpList_nil ?_
  replace hA := hA.sel [0, 1, 2, 3] (e' := [(0, .slice A l.length c), (1, .int .i64 ((t : Nat) : Int)), (2, .int .i64 ((n : Nat) : Int)), (3, .bool wr)]) rfl
  refine xt_norm ?_
  refine wp_seq ?_
  refine wp_seq ?_
  refine wp_region_lit ?_
  refine st_run tbOk 3 hA (e' := (17, .bool (decide (((n : Nat) : Int) < 0))) :: (16, .bool (decide (((n : Nat) : Int) < 0))) :: (15, .int .i64 ((n : Nat) : Int)) :: _) rfl ?_; clear hA; intro a hA
  have hc1 : ¬ (((n : Nat) : Int) < 0) := by omega
  replace hA := hA.rw 16 (v' := .bool false) rfl (vb_false hc1)
  replace hA := hA.rw 17 (v' := .bool false) rfl (vb_false hc1)
  refine st_run tbOk 4 hA (e' := (21, .bool (decide (((t : Nat) : Int) < 0))) :: (20, .bool (decide (((t : Nat) : Int) < 0))) :: (19, .bool (decide (((t : Nat) : Int) < 0))) :: (18, .int .i64 ((t : Nat) : Int)) :: _) rfl ?_; clear hA; intro a hA
  have hc2 : ¬ (((t : Nat) : Int) < 0) := by omega
  replace hA := hA.rw 19 (v' := .bool false) rfl (vb_false hc2)
  replace hA := hA.rw 20 (v' := .bool false) rfl (vb_false hc2)
  replace hA := hA.rw 21 (v' := .bool false) rfl (vb_false hc2)
  refine st_run tbOk 4 hA (e' := (25, .bool (decide (((t : Nat) : Int) > 1073741824))) :: (24, .bool (decide (((t : Nat) : Int) > 1073741824))) :: (23, .bool (decide (((t : Nat) : Int) > 1073741824))) :: (22, .int .i64 ((t : Nat) : Int)) :: _) rfl ?_; clear hA; intro a hA
  have hc3 : ¬ (((t : Nat) : Int) > 1073741824) := by omega
  replace hA := hA.rw 23 (v' := .bool false) rfl (vb_false hc3)
  replace hA := hA.rw 24 (v' := .bool false) rfl (vb_false hc3)
  replace hA := hA.rw 25 (v' := .bool false) rfl (vb_false hc3)
  refine st_run tbOk 3 hA (e' := (28, .int .i64 (IntKind.i64.wrap (1073741824 - ((t : Nat) : Int)))) :: (27, .int .i64 ((t : Nat) : Int)) :: (26, .int .i64 ((n : Nat) : Int)) :: _) rfl ?_; clear hA; intro a hA
  replace hA := hA.rw 28 (v' := .int .i64 (1073741824 - ((t : Nat) : Int))) rfl (wr64 (by omega) (by omega) (by omega))
  refine st_run tbOk 2 hA (e' := (30, .bool (decide (((n : Nat) : Int) > 1073741824 - ((t : Nat) : Int)))) :: (29, .bool (decide (((n : Nat) : Int) > 1073741824 - ((t : Nat) : Int)))) :: _) rfl ?_; clear hA; intro a hA
  refine wpList_nil ?_
  replace hA := hA.sel [0, 1, 2, 3, 30] (e' := [(0, .slice A l.length c), (1, .int .i64 ((t : Nat) : Int)), (2, .int .i64 ((n : Nat) : Int)), (3, .bool wr), (30, .bool (decide (((n : Nat) : Int) > 1073741824 - ((t : Nat) : Int))))]) rfl
  refine xt_norm ?_
  have hc4 : ¬ (((n : Nat) : Int) > 1073741824 - ((t : Nat) : Int)) := by omega
  replace hA := hA.rw 30 (v' := .bool false) rfl (vb_false hc4)
  refine cd_cond_f hA rfl ?_
  refine wp_skip ?_
  refine xt_norm ?_
  refine wp_seq ?_
  refine wp_region_lit ?_
  refine st_run tbOk 1 hA (e' := (10, .slice none 0 0) :: _) rfl ?_; clear hA; intro a hA
  refine wpList_nil ?_
  replace hA := hA.sel [0, 1, 2, 3, 10] (e' := [(0, .slice A l.length c), (1, .int .i64 ((t : Nat) : Int)), (2, .int .i64 ((n : Nat) : Int)), (3, .bool wr), (10, .slice none 0 0)]) rfl
  refine xt_norm ?_
  refine wp_seq ?_
  refine wp_seq ?_
  refine wp_region_lit ?_
  refine st_run tbOk 3 hA (e' := (34, .int .i64 (IntKind.i64.wrap (((t : Nat) : Int) + ((n : Nat) : Int)))) :: (33, .int .i64 ((n : Nat) : Int)) :: (32, .int .i64 ((t : Nat) : Int)) :: _) rfl ?_; clear hA; intro a hA
  replace hA := hA.rw 34 (v' := .int .i64 ((t + n : Nat) : Int)) rfl (wr64 (by omega) (by omega) (by omega))
  refine st_run tbOk 1 hA (e' := (11, .int .i64 ((t + n : Nat) : Int)) :: _) rfl ?_; clear hA; intro a hA
  refine wpList_nil ?_
  replace hA := hA.sel [0, 1, 3, 10, 11] (e' := [(0, .slice A l.length c), (1, .int .i64 ((t : Nat) : Int)), (3, .bool wr), (10, .slice none 0 0), (11, .int .i64 ((t + n : Nat) : Int))]) rfl
  refine xt_norm ?_
  refine wp_block ?_
  replace hS := hS.nil
  replace hA := hA.rw 1 (v' := .int .i64 ((t + 0 : Nat) : Int)) rfl (vint (by omega))
  refine wp_loop_ghost (fun m a w => ∃ (j : Nat) (Au : Option Addr) (cu : Nat) (U : Chunk), m = n - j ∧ Has a 83 [(0, .slice A l.length c), (1, .int .i64 ((t + j : Nat) : Int)), (3, .bool wr), (10, .slice Au ((pa l t j).length) cu), (11, .int .i64 ((t + n : Nat) : Int))] ∧ St w0 w (U :: F) ∧ (j ≤ j0) ∧ (j = 0 ∨ j = n ∨ ∀ y ∈ l, InA y ((t + j : Nat) : Int) → ab y = ((t + j : Nat) : Int)) ∧ (Own 44 3 (.slice Au (pa l t j).length cu) (pa l t j).length (rows encPiece (pa l t j)) U)) (n - 0)
    ⟨0, none, 0, ([]), rfl, (hA.sel [0, 1, 3, 10, 11] rfl), hS, Nat.zero_le _, .inl rfl, (Own.nil 44 3)⟩ ?_
  clear hA hS; rintro m0 a w5 ⟨j, Au, cu, U, rfl, hA, hS, hj, hst, hU⟩
  refine wp_seq ?_
  refine wp_seq ?_
  refine wp_region_lit ?_
  refine st_run tbOk 3 hA (e' := (37, .bool (decide (((t + j : Nat) : Int) < ((t + n : Nat) : Int)))) :: (36, .int .i64 ((t + n : Nat) : Int)) :: (35, .int .i64 ((t + j : Nat) : Int)) :: _) rfl ?_; clear hA; intro a hA
  refine wpList_nil ?_
  replace hA := hA.sel [0, 1, 3, 10, 11, 37] (e' := [(0, .slice A l.length c), (1, .int .i64 ((t + j : Nat) : Int)), (3, .bool wr), (10, .slice Au ((pa l t j).length) cu), (11, .int .i64 ((t + n : Nat) : Int)), (37, .bool (decide (((t + j : Nat) : Int) < ((t + n : Nat) : Int))))]) rfl
  refine xt_norm ?_
  by_cases hc6 : ((t + j : Nat) : Int) < ((t + n : Nat) : Int)
  · first
    | (exfalso; omega)
    | (replace hA := hA.rw 37 (v' := .bool true) rfl (vb_true hc6)
       refine cd_cond_t hA rfl ?_
       refine wp_skip ?_
       refine xt_norm ?_
       refine wp_block ?_
       refine wp_seq ?_
       refine wp_region_lit ?_
       rcases Nat.lt_or_ge j j0 with hjj | hjj
       · obtain ⟨a, hfa, haw⟩ := hf j (by omega)
         obtain ⟨a0, a1, a2, a3, a4⟩ := a
         obtain ⟨i, hi, hin, hfirst⟩ := fnd_ix hfa
         have hks := hs _ (List.mem_of_getElem? hi); dsimp only [SOk, ab, az, ag, ao] at hks
         have hin2 := hin; dsimp only [InA, ab, az] at hin2
         refine st_run tbOk 2 hA (e' := (40, .int .i64 ((t + j : Nat) : Int)) :: (39, .slice A l.length c) :: _) rfl ?_; clear hA; intro a hA
         refine st_call0 hA rfl rfl rfl isfn15 rfl rfl (by decide) (find_hit15 hS (l := l) (fun w' h => (hr _ (h.tail 1 rfl))) hM.s ((t + j : Nat) : Int) (y := (a0, a1, a2, a3, a4)) hi hin hfirst) ?_
         clear hA hS; rintro v w7 a ⟨rfl, hS⟩ hA
         refine st_run tbOk 3 hA (e' := (43, .bool true) :: (42, .agg #[.int .i64 a0, .int .i64 a1, .int .i64 a2, .int .i64 a3, .bool a4]) :: (38, .tuple #[.agg #[.int .i64 a0, .int .i64 a1, .int .i64 a2, .int .i64 a3, .bool a4], .bool true]) :: _) rfl ?_; clear hA; intro a hA
         refine st_alloc tbOk hA hS [.int .i64 0, .int .i64 0, .int .i64 0, .int .i64 0, .bool false] rfl rfl rfl rfl rfl (by decide) ?_; clear hA hS; intro b8 w9 a hS hA
         refine st_store tbOk hA hS [.int .i64 a0, .int .i64 a1, .int .i64 a2, .int .i64 a3, .bool a4] [.int .i64 a0, .int .i64 a1, .int .i64 a2, .int .i64 a3, .bool a4] rfl rfl rfl rfl rfl rfl (by simp [Value.oneCell']) (Nat.le_of_ble_eq_true rfl) rfl rfl rfl ?_; clear hS; intro w10 hS
         refine st_run tbOk 1 hA (e' := (13, .bool true) :: _) rfl ?_; clear hA; intro a hA
         refine wpList_nil ?_
         replace hA := hA.sel [0, 1, 3, 10, 11, 12, 13] (e' := [(0, .slice A l.length c), (1, .int .i64 ((t + j : Nat) : Int)), (3, .bool wr), (10, .slice Au ((pa l t j).length) cu), (11, .int .i64 ((t + n : Nat) : Int)), (12, .pointer (some ⟨b8, 0, none⟩)), (13, .bool true)]) rfl
         refine xt_norm ?_
         refine wp_seq ?_
         refine wp_block ?_
         refine wp_seq ?_
         refine wp_region_lit ?_
         refine st_run tbOk 3 hA (e' := (44, .bool false) :: (46, .bool false) :: (45, .bool true) :: _) rfl ?_; clear hA; intro a hA
         refine wpList_nil ?_
         replace hA := hA.sel [0, 1, 3, 10, 11, 12, 44] (e' := [(0, .slice A l.length c), (1, .int .i64 ((t + j : Nat) : Int)), (3, .bool wr), (10, .slice Au ((pa l t j).length) cu), (11, .int .i64 ((t + n : Nat) : Int)), (12, .pointer (some ⟨b8, 0, none⟩)), (44, .bool false)]) rfl
         refine xt_norm ?_
         refine cd_cond_f hA rfl ?_
         refine wp_seq ?_
         refine wp_region_lit ?_
         refine st_run tbOk 2 hA (e' := (50, .bool wr) :: (49, .bool wr) :: _) rfl ?_; clear hA; intro a hA
         by_cases hc11 : wr = true
         · first
           | (exfalso; omega)
           | (replace hA := hA.rw 3 (v' := .bool true) rfl (vb_t hc11)
              replace hA := hA.rw 49 (v' := .bool true) rfl (vb_t hc11)
              replace hA := hA.rw 50 (v' := .bool true) rfl (vb_t hc11)
              refine st_run tbOk 1 hA (e' := (51, .pointer (some ⟨b8, 4, none⟩)) :: _) rfl ?_; clear hA; intro a hA
              refine st_val hA rfl rfl (by decide) (rn_load tbOk hA rfl rfl rfl rfl (cell_row (hS.heapAt 0 rfl) rfl)) ?_; clear hA; intro a hA
              have hc12 : a4 = true := haw (by first | rfl | assumption)
              replace hA := hA.rw 52 (v' := .bool true) rfl (vb_t hc12)
              refine st_run tbOk 3 hA (e' := (48, .bool false) :: (54, .bool false) :: (53, .bool false) :: _) rfl ?_; clear hA; intro a hA
              refine wpList_nil ?_
              replace hA := hA.sel [0, 1, 3, 10, 11, 12, 48] (e' := [(0, .slice A l.length c), (1, .int .i64 ((t + j : Nat) : Int)), (3, .bool true), (10, .slice Au ((pa l t j).length) cu), (11, .int .i64 ((t + n : Nat) : Int)), (12, .pointer (some ⟨b8, 0, none⟩)), (48, .bool false)]) rfl
              refine xt_norm ?_
              refine cd_cond_f hA rfl ?_
              refine wp_skip ?_
              refine xb_norm ?_
              refine xt_norm ?_
              refine wp_seq ?_
              refine wp_region_lit ?_
              refine st_run tbOk 2 hA (e' := (57, .pointer (some ⟨b8, 0, none⟩)) :: (56, .int .i64 ((t + n : Nat) : Int)) :: _) rfl ?_; clear hA; intro a hA
              refine st_val hA rfl rfl (by decide) (rn_load tbOk hA rfl rfl rfl rfl (cell_row (hS.heapAt 0 rfl) rfl)) ?_; clear hA; intro a hA
              refine st_run tbOk 1 hA (e' := (59, .pointer (some ⟨b8, 1, none⟩)) :: _) rfl ?_; clear hA; intro a hA
              refine st_val hA rfl rfl (by decide) (rn_load tbOk hA rfl rfl rfl rfl (cell_row (hS.heapAt 0 rfl) rfl)) ?_; clear hA; intro a hA
              refine st_run tbOk 1 hA (e' := (61, .int .i64 (IntKind.i64.wrap (a0 + a1))) :: _) rfl ?_; clear hA; intro a hA
              replace hA := hA.rw 61 (v' := .int .i64 (a0 + a1)) rfl (wr64 (by omega) (by omega) (by omega))
              refine st_run tbOk 1 hA (e' := (62, .int .i64 (if a0 + a1 < ((t + n : Nat) : Int) then a0 + a1 else ((t + n : Nat) : Int))) :: _) rfl ?_; clear hA; intro a hA
              obtain ⟨m, hm⟩ : ∃ m : Int, m = (if a0 + a1 < ((t + n : Nat) : Int) then a0 + a1 else ((t + n : Nat) : Int)) := ⟨_, rfl⟩
              have hm2 : (m = ((t + n : Nat) : Int) ∨ m = a0 + a1) ∧ m ≤ ((t + n : Nat) : Int) ∧ m ≤ a0 + a1 := by rw [hm]; split <;> omega
              replace hA := hA.rw 62 (v' := .int .i64 m) rfl (by rw [hm])
              refine st_run tbOk 2 hA (e' := (64, .int .i64 (IntKind.i64.wrap (m - ((t + j : Nat) : Int)))) :: (63, .int .i64 ((t + j : Nat) : Int)) :: _) rfl ?_; clear hA; intro a hA
              replace hA := hA.rw 64 (v' := .int .i64 (m - ((t + j : Nat) : Int))) rfl (wr64 (by omega) (by omega) (by omega))
              refine st_run tbOk 1 hA (e' := (14, .int .i64 (m - ((t + j : Nat) : Int))) :: _) rfl ?_; clear hA; intro a hA
              refine wpList_nil ?_
              replace hA := hA.sel [0, 1, 3, 10, 11, 12, 14] (e' := [(0, .slice A l.length c), (1, .int .i64 ((t + j : Nat) : Int)), (3, .bool true), (10, .slice Au ((pa l t j).length) cu), (11, .int .i64 ((t + n : Nat) : Int)), (12, .pointer (some ⟨b8, 0, none⟩)), (14, .int .i64 (m - ((t + j : Nat) : Int)))]) rfl
              refine xt_norm ?_
              refine wp_seq ?_
              refine wp_region_lit ?_
              obtain ⟨q, hq⟩ : ∃ q : Nat, m - ((t + j : Nat) : Int) = ((q + 1 : Nat) : Int) := ⟨(m - ((t + j : Nat) : Int) - 1).toNat, by omega⟩
              replace hA := hA.rw 14 (v' := .int .i64 ((q + 1 : Nat) : Int)) rfl (by rw [hq])
              refine st_run tbOk 2 hA (e' := (66, .pointer (some ⟨b8, 2, none⟩)) :: (65, .slice Au ((pa l t j).length) cu) :: _) rfl ?_; clear hA; intro a hA
              refine st_val hA rfl rfl (by decide) (rn_load tbOk hA rfl rfl rfl rfl (cell_row (hS.heapAt 0 rfl) rfl)) ?_; clear hA; intro a hA
              refine st_run tbOk 1 hA (e' := (68, .pointer (some ⟨b8, 3, none⟩)) :: _) rfl ?_; clear hA; intro a hA
              refine st_val hA rfl rfl (by decide) (rn_load tbOk hA rfl rfl rfl rfl (cell_row (hS.heapAt 0 rfl) rfl)) ?_; clear hA; intro a hA
              refine st_run tbOk 2 hA (e' := (71, .int .i64 (IntKind.i64.wrap (a3 + ((t + j : Nat) : Int)))) :: (70, .int .i64 ((t + j : Nat) : Int)) :: _) rfl ?_; clear hA; intro a hA
              replace hA := hA.rw 71 (v' := .int .i64 (a3 + ((t + j : Nat) : Int))) rfl (wr64 (by omega) (by omega) (by omega))
              refine st_run tbOk 1 hA (e' := (72, .pointer (some ⟨b8, 0, none⟩)) :: _) rfl ?_; clear hA; intro a hA
              refine st_val hA rfl rfl (by decide) (rn_load tbOk hA rfl rfl rfl rfl (cell_row (hS.heapAt 0 rfl) rfl)) ?_; clear hA; intro a hA
              refine st_run tbOk 1 hA (e' := (74, .int .i64 (IntKind.i64.wrap ((a3 + ((t + j : Nat) : Int)) - a0))) :: _) rfl ?_; clear hA; intro a hA
              replace hA := hA.rw 74 (v' := .int .i64 ((a3 + ((t + j : Nat) : Int)) - a0)) rfl (wr64 (by omega) (by omega) (by omega))
              refine st_run tbOk 2 hA (e' := (76, .agg #[.int .i64 a2, .int .i64 ((a3 + ((t + j : Nat) : Int)) - a0), .int .i64 ((q + 1 : Nat) : Int)]) :: (75, .int .i64 ((q + 1 : Nat) : Int)) :: _) rfl ?_; clear hA; intro a hA
              refine st_buildSlice tbOk hA hS [.int .i64 a2, .int .i64 ((a3 + ((t + j : Nat) : Int)) - a0), .int .i64 ((q + 1 : Nat) : Int)] rfl rfl rfl rfl rfl (by decide) (by kernel_rfl) rfl rfl (by decide) ?_; clear hA hS; intro b13 w14 a hS hA
              replace hS := hS.front 2 (C := U) (L' := [(b13, rowO [.int .i64 a2, .int .i64 ((a3 + ((t + j : Nat) : Int)) - a0), .int .i64 ((q + 1 : Nat) : Int)] 44)] :: [(b8, rowO [.int .i64 a0, .int .i64 a1, .int .i64 a2, .int .i64 a3, .bool a4] 24)] :: F) rfl rfl
              refine st_append tbOk hA (m := (pa l t j).length) (q := 1) (xs := rows encPiece (pa l t j)) (news := rows encPiece ([(a2, (a3 + ((t + j : Nat) : Int)) - a0, ((q + 1 : Nat) : Int))] : List (Int × Int × Int))) rfl rfl rfl rfl rfl rfl rfl rfl (by decide) hU hS (((Own.full (T := 44) (size := 3) (g := b13) (m := 1) rfl (by decide)).rd (hS.own_ 1 rfl)).x) (rows_one encPiece_ok _) (maxLen_le (by first | omega | (have h9 := pa_le l t j; omega))) (by show ((pa l t j).length + 1) * 24 ≤ 140737488355328; first | omega | (have h9 := pa_le l t j; omega)) rfl rfl (by decide) ?_
              clear hA hS; intro v15 w16 C17 a hO17 hS hA
              replace hO17 := Own.app (l := pa l t j) (l2 := ([(a2, (a3 + ((t + j : Nat) : Int)) - a0, ((q + 1 : Nat) : Int))] : List (Int × Int × Int))) hO17
              obtain ⟨A18, c19, rfl, hmc19, hxc19⟩ := hO17.open'
              refine st_run tbOk 1 hA (e' := (10, .slice A18 (((pa l t j) ++ ([(a2, (a3 + ((t + j : Nat) : Int)) - a0, ((q + 1 : Nat) : Int))] : List (Int × Int × Int))).length) c19) :: _) rfl ?_; clear hA; intro a hA
              refine wpList_nil ?_
              replace hA := hA.sel [0, 1, 3, 10, 11, 14] (e' := [(0, .slice A l.length c), (1, .int .i64 ((t + j : Nat) : Int)), (3, .bool true), (10, .slice A18 (((pa l t j) ++ ([(a2, (a3 + ((t + j : Nat) : Int)) - a0, ((q + 1 : Nat) : Int))] : List (Int × Int × Int))).length) c19), (11, .int .i64 ((t + n : Nat) : Int)), (14, .int .i64 ((q + 1 : Nat) : Int))]) rfl
              refine xt_norm ?_
              refine wp_region_lit ?_
              refine st_run tbOk 3 hA (e' := (81, .int .i64 (IntKind.i64.wrap (((t + j : Nat) : Int) + ((q + 1 : Nat) : Int)))) :: (80, .int .i64 ((q + 1 : Nat) : Int)) :: (79, .int .i64 ((t + j : Nat) : Int)) :: _) rfl ?_; clear hA; intro a hA
              replace hA := hA.rw 81 (v' := .int .i64 (((t + j) + (q + 1) : Nat) : Int)) rfl (wr64 (by omega) (by omega) (by omega))
              refine st_run tbOk 1 hA (e' := (1, .int .i64 (((t + j) + (q + 1) : Nat) : Int)) :: _) rfl ?_; clear hA; intro a hA
              refine wpList_nil ?_
              replace hA := hA.sel [0, 1, 3, 10, 11] (e' := [(0, .slice A l.length c), (1, .int .i64 (((t + j) + (q + 1) : Nat) : Int)), (3, .bool true), (10, .slice A18 (((pa l t j) ++ ([(a2, (a3 + ((t + j : Nat) : Int)) - a0, ((q + 1 : Nat) : Int))] : List (Int × Int × Int))).length) c19), (11, .int .i64 ((t + n : Nat) : Int))]) rfl
              refine xb_norm ?_
              have hjn : j + (q + 1) ≤ j0 := by
                  apply Decidable.byContradiction; intro h8
                  have h7 : fnd l ((t + j0 : Nat) : Int) = some (a0, a1, a2, a3, a4) := hM.fnd hi (by dsimp only [InA, ab, az]; omega)
                  rw [h7] at hbad; cases hbad
              replace hA := hA.rw 1 (v' := .int .i64 ((t + (j + (q + 1)) : Nat) : Int)) rfl (vint (by omega))
              replace hA := hA.rw 3 (v' := .bool wr) rfl (congrArg Value.bool (by first | exact Eq.symm (by assumption) | exact (Bool.eq_false_iff.2 (by assumption)).symm))
              have hst2 : j = 0 ∨ ab (a0, a1, a2, a3, a4) = ((t + j : Nat) : Int) := hst.elim .inl (fun h => h.elim (fun h => absurd h (by omega)) (fun h => .inr (h _ (List.mem_of_getElem? hi) hin)))
              have hl : (pa l t j) ++ ([(a2, (a3 + ((t + j : Nat) : Int)) - a0, ((q + 1 : Nat) : Int))] : List (Int × Int × Int)) = pa l t (j + (q + 1)) := (pa_step (k := j) (a := (a0, a1, a2, a3, a4)) hst2 (by dsimp only [ab]; omega) q (fun i2 hi2 => hM.fnd hi (by dsimp only [InA, ab, az]; omega))).symm
              rw [hl] at hO17; rw [hl] at hA
              have hst3 : j + (q + 1) = 0 ∨ j + (q + 1) = n ∨ ∀ y ∈ l, InA y ((t + (j + (q + 1)) : Nat) : Int) → ab y = ((t + (j + (q + 1)) : Nat) : Int) := by
                  rcases hm2.1 with h9 | h9
                  · exact .inr (.inl (by omega))
                  · exact .inr (.inr (hM.next hi (by dsimp only [ab, az]; omega)))
              replace hS := hS.front 1 (C := [(b13, rowO [.int .i64 a2, .int .i64 ((a3 + ((t + j : Nat) : Int)) - a0), .int .i64 ((q + 1 : Nat) : Int)] 44)]) (L' := C17 :: [(b8, rowO [.int .i64 a0, .int .i64 a1, .int .i64 a2, .int .i64 a3, .bool a4] 24)] :: F) rfl rfl
              replace hS := hS.drop1
              replace hS := hS.front 1 (C := [(b8, rowO [.int .i64 a0, .int .i64 a1, .int .i64 a2, .int .i64 a3, .bool a4] 24)]) (L' := C17 :: F) rfl rfl
              replace hS := hS.drop1
              exact lp_next _ (by omega) ⟨(j + (q + 1)), A18, c19, C17, rfl, (hA.sel [0, 1, 3, 10, 11] rfl), hS, by omega, hst3, hO17⟩)
         · first
           | (exfalso; omega)
           | (replace hA := hA.rw 3 (v' := .bool false) rfl (vb_f hc11)
              replace hA := hA.rw 49 (v' := .bool false) rfl (vb_f hc11)
              replace hA := hA.rw 50 (v' := .bool false) rfl (vb_f hc11)
              refine st_run tbOk 5 hA (e' := (48, .bool false) :: (54, .bool false) :: (53, undef) :: (52, undef) :: (51, undef) :: _) rfl ?_; clear hA; intro a hA
              refine wpList_nil ?_
              replace hA := hA.sel [0, 1, 3, 10, 11, 12, 48] (e' := [(0, .slice A l.length c), (1, .int .i64 ((t + j : Nat) : Int)), (3, .bool false), (10, .slice Au ((pa l t j).length) cu), (11, .int .i64 ((t + n : Nat) : Int)), (12, .pointer (some ⟨b8, 0, none⟩)), (48, .bool false)]) rfl
              refine xt_norm ?_
              refine cd_cond_f hA rfl ?_
              refine wp_skip ?_
              refine xb_norm ?_
              refine xt_norm ?_
              refine wp_seq ?_
              refine wp_region_lit ?_
              refine st_run tbOk 2 hA (e' := (57, .pointer (some ⟨b8, 0, none⟩)) :: (56, .int .i64 ((t + n : Nat) : Int)) :: _) rfl ?_; clear hA; intro a hA
              refine st_val hA rfl rfl (by decide) (rn_load tbOk hA rfl rfl rfl rfl (cell_row (hS.heapAt 0 rfl) rfl)) ?_; clear hA; intro a hA
              refine st_run tbOk 1 hA (e' := (59, .pointer (some ⟨b8, 1, none⟩)) :: _) rfl ?_; clear hA; intro a hA
              refine st_val hA rfl rfl (by decide) (rn_load tbOk hA rfl rfl rfl rfl (cell_row (hS.heapAt 0 rfl) rfl)) ?_; clear hA; intro a hA
              refine st_run tbOk 1 hA (e' := (61, .int .i64 (IntKind.i64.wrap (a0 + a1))) :: _) rfl ?_; clear hA; intro a hA
              replace hA := hA.rw 61 (v' := .int .i64 (a0 + a1)) rfl (wr64 (by omega) (by omega) (by omega))
              refine st_run tbOk 1 hA (e' := (62, .int .i64 (if a0 + a1 < ((t + n : Nat) : Int) then a0 + a1 else ((t + n : Nat) : Int))) :: _) rfl ?_; clear hA; intro a hA
              obtain ⟨m, hm⟩ : ∃ m : Int, m = (if a0 + a1 < ((t + n : Nat) : Int) then a0 + a1 else ((t + n : Nat) : Int)) := ⟨_, rfl⟩
              have hm2 : (m = ((t + n : Nat) : Int) ∨ m = a0 + a1) ∧ m ≤ ((t + n : Nat) : Int) ∧ m ≤ a0 + a1 := by rw [hm]; split <;> omega
              replace hA := hA.rw 62 (v' := .int .i64 m) rfl (by rw [hm])
              refine st_run tbOk 2 hA (e' := (64, .int .i64 (IntKind.i64.wrap (m - ((t + j : Nat) : Int)))) :: (63, .int .i64 ((t + j : Nat) : Int)) :: _) rfl ?_; clear hA; intro a hA
              replace hA := hA.rw 64 (v' := .int .i64 (m - ((t + j : Nat) : Int))) rfl (wr64 (by omega) (by omega) (by omega))
              refine st_run tbOk 1 hA (e' := (14, .int .i64 (m - ((t + j : Nat) : Int))) :: _) rfl ?_; clear hA; intro a hA
              refine wpList_nil ?_
              replace hA := hA.sel [0, 1, 3, 10, 11, 12, 14] (e' := [(0, .slice A l.length c), (1, .int .i64 ((t + j : Nat) : Int)), (3, .bool false), (10, .slice Au ((pa l t j).length) cu), (11, .int .i64 ((t + n : Nat) : Int)), (12, .pointer (some ⟨b8, 0, none⟩)), (14, .int .i64 (m - ((t + j : Nat) : Int)))]) rfl
              refine xt_norm ?_
              refine wp_seq ?_
              refine wp_region_lit ?_
              obtain ⟨q, hq⟩ : ∃ q : Nat, m - ((t + j : Nat) : Int) = ((q + 1 : Nat) : Int) := ⟨(m - ((t + j : Nat) : Int) - 1).toNat, by omega⟩
              replace hA := hA.rw 14 (v' := .int .i64 ((q + 1 : Nat) : Int)) rfl (by rw [hq])
              refine st_run tbOk 2 hA (e' := (66, .pointer (some ⟨b8, 2, none⟩)) :: (65, .slice Au ((pa l t j).length) cu) :: _) rfl ?_; clear hA; intro a hA
              refine st_val hA rfl rfl (by decide) (rn_load tbOk hA rfl rfl rfl rfl (cell_row (hS.heapAt 0 rfl) rfl)) ?_; clear hA; intro a hA
              refine st_run tbOk 1 hA (e' := (68, .pointer (some ⟨b8, 3, none⟩)) :: _) rfl ?_; clear hA; intro a hA
              refine st_val hA rfl rfl (by decide) (rn_load tbOk hA rfl rfl rfl rfl (cell_row (hS.heapAt 0 rfl) rfl)) ?_; clear hA; intro a hA
              refine st_run tbOk 2 hA (e' := (71, .int .i64 (IntKind.i64.wrap (a3 + ((t + j : Nat) : Int)))) :: (70, .int .i64 ((t + j : Nat) : Int)) :: _) rfl ?_; clear hA; intro a hA
              replace hA := hA.rw 71 (v' := .int .i64 (a3 + ((t + j : Nat) : Int))) rfl (wr64 (by omega) (by omega) (by omega))
              refine st_run tbOk 1 hA (e' := (72, .pointer (some ⟨b8, 0, none⟩)) :: _) rfl ?_; clear hA; intro a hA
              refine st_val hA rfl rfl (by decide) (rn_load tbOk hA rfl rfl rfl rfl (cell_row (hS.heapAt 0 rfl) rfl)) ?_; clear hA; intro a hA
              refine st_run tbOk 1 hA (e' := (74, .int .i64 (IntKind.i64.wrap ((a3 + ((t + j : Nat) : Int)) - a0))) :: _) rfl ?_; clear hA; intro a hA
              replace hA := hA.rw 74 (v' := .int .i64 ((a3 + ((t + j : Nat) : Int)) - a0)) rfl (wr64 (by omega) (by omega) (by omega))
              refine st_run tbOk 2 hA (e' := (76, .agg #[.int .i64 a2, .int .i64 ((a3 + ((t + j : Nat) : Int)) - a0), .int .i64 ((q + 1 : Nat) : Int)]) :: (75, .int .i64 ((q + 1 : Nat) : Int)) :: _) rfl ?_; clear hA; intro a hA
              refine st_buildSlice tbOk hA hS [.int .i64 a2, .int .i64 ((a3 + ((t + j : Nat) : Int)) - a0), .int .i64 ((q + 1 : Nat) : Int)] rfl rfl rfl rfl rfl (by decide) (by kernel_rfl) rfl rfl (by decide) ?_; clear hA hS; intro b20 w21 a hS hA
              replace hS := hS.front 2 (C := U) (L' := [(b20, rowO [.int .i64 a2, .int .i64 ((a3 + ((t + j : Nat) : Int)) - a0), .int .i64 ((q + 1 : Nat) : Int)] 44)] :: [(b8, rowO [.int .i64 a0, .int .i64 a1, .int .i64 a2, .int .i64 a3, .bool a4] 24)] :: F) rfl rfl
              refine st_append tbOk hA (m := (pa l t j).length) (q := 1) (xs := rows encPiece (pa l t j)) (news := rows encPiece ([(a2, (a3 + ((t + j : Nat) : Int)) - a0, ((q + 1 : Nat) : Int))] : List (Int × Int × Int))) rfl rfl rfl rfl rfl rfl rfl rfl (by decide) hU hS (((Own.full (T := 44) (size := 3) (g := b20) (m := 1) rfl (by decide)).rd (hS.own_ 1 rfl)).x) (rows_one encPiece_ok _) (maxLen_le (by first | omega | (have h9 := pa_le l t j; omega))) (by show ((pa l t j).length + 1) * 24 ≤ 140737488355328; first | omega | (have h9 := pa_le l t j; omega)) rfl rfl (by decide) ?_
              clear hA hS; intro v22 w23 C24 a hO24 hS hA
              replace hO24 := Own.app (l := pa l t j) (l2 := ([(a2, (a3 + ((t + j : Nat) : Int)) - a0, ((q + 1 : Nat) : Int))] : List (Int × Int × Int))) hO24
              obtain ⟨A25, c26, rfl, hmc26, hxc26⟩ := hO24.open'
              refine st_run tbOk 1 hA (e' := (10, .slice A25 (((pa l t j) ++ ([(a2, (a3 + ((t + j : Nat) : Int)) - a0, ((q + 1 : Nat) : Int))] : List (Int × Int × Int))).length) c26) :: _) rfl ?_; clear hA; intro a hA
              refine wpList_nil ?_
              replace hA := hA.sel [0, 1, 3, 10, 11, 14] (e' := [(0, .slice A l.length c), (1, .int .i64 ((t + j : Nat) : Int)), (3, .bool false), (10, .slice A25 (((pa l t j) ++ ([(a2, (a3 + ((t + j : Nat) : Int)) - a0, ((q + 1 : Nat) : Int))] : List (Int × Int × Int))).length) c26), (11, .int .i64 ((t + n : Nat) : Int)), (14, .int .i64 ((q + 1 : Nat) : Int))]) rfl
              refine xt_norm ?_
              refine wp_region_lit ?_
              refine st_run tbOk 3 hA (e' := (81, .int .i64 (IntKind.i64.wrap (((t + j : Nat) : Int) + ((q + 1 : Nat) : Int)))) :: (80, .int .i64 ((q + 1 : Nat) : Int)) :: (79, .int .i64 ((t + j : Nat) : Int)) :: _) rfl ?_; clear hA; intro a hA
              replace hA := hA.rw 81 (v' := .int .i64 (((t + j) + (q + 1) : Nat) : Int)) rfl (wr64 (by omega) (by omega) (by omega))
              refine st_run tbOk 1 hA (e' := (1, .int .i64 (((t + j) + (q + 1) : Nat) : Int)) :: _) rfl ?_; clear hA; intro a hA
              refine wpList_nil ?_
              replace hA := hA.sel [0, 1, 3, 10, 11] (e' := [(0, .slice A l.length c), (1, .int .i64 (((t + j) + (q + 1) : Nat) : Int)), (3, .bool false), (10, .slice A25 (((pa l t j) ++ ([(a2, (a3 + ((t + j : Nat) : Int)) - a0, ((q + 1 : Nat) : Int))] : List (Int × Int × Int))).length) c26), (11, .int .i64 ((t + n : Nat) : Int))]) rfl
              refine xb_norm ?_
              have hjn : j + (q + 1) ≤ j0 := by
                  apply Decidable.byContradiction; intro h8
                  have h7 : fnd l ((t + j0 : Nat) : Int) = some (a0, a1, a2, a3, a4) := hM.fnd hi (by dsimp only [InA, ab, az]; omega)
                  rw [h7] at hbad; cases hbad
              replace hA := hA.rw 1 (v' := .int .i64 ((t + (j + (q + 1)) : Nat) : Int)) rfl (vint (by omega))
              replace hA := hA.rw 3 (v' := .bool wr) rfl (congrArg Value.bool (by first | exact Eq.symm (by assumption) | exact (Bool.eq_false_iff.2 (by assumption)).symm))
              have hst2 : j = 0 ∨ ab (a0, a1, a2, a3, a4) = ((t + j : Nat) : Int) := hst.elim .inl (fun h => h.elim (fun h => absurd h (by omega)) (fun h => .inr (h _ (List.mem_of_getElem? hi) hin)))
              have hl : (pa l t j) ++ ([(a2, (a3 + ((t + j : Nat) : Int)) - a0, ((q + 1 : Nat) : Int))] : List (Int × Int × Int)) = pa l t (j + (q + 1)) := (pa_step (k := j) (a := (a0, a1, a2, a3, a4)) hst2 (by dsimp only [ab]; omega) q (fun i2 hi2 => hM.fnd hi (by dsimp only [InA, ab, az]; omega))).symm
              rw [hl] at hO24; rw [hl] at hA
              have hst3 : j + (q + 1) = 0 ∨ j + (q + 1) = n ∨ ∀ y ∈ l, InA y ((t + (j + (q + 1)) : Nat) : Int) → ab y = ((t + (j + (q + 1)) : Nat) : Int) := by
                  rcases hm2.1 with h9 | h9
                  · exact .inr (.inl (by omega))
                  · exact .inr (.inr (hM.next hi (by dsimp only [ab, az]; omega)))
              replace hS := hS.front 1 (C := [(b20, rowO [.int .i64 a2, .int .i64 ((a3 + ((t + j : Nat) : Int)) - a0), .int .i64 ((q + 1 : Nat) : Int)] 44)]) (L' := C24 :: [(b8, rowO [.int .i64 a0, .int .i64 a1, .int .i64 a2, .int .i64 a3, .bool a4] 24)] :: F) rfl rfl
              replace hS := hS.drop1
              replace hS := hS.front 1 (C := [(b8, rowO [.int .i64 a0, .int .i64 a1, .int .i64 a2, .int .i64 a3, .bool a4] 24)]) (L' := C24 :: F) rfl rfl
              replace hS := hS.drop1
              exact lp_next _ (by omega) ⟨(j + (q + 1)), A25, c26, C24, rfl, (hA.sel [0, 1, 3, 10, 11] rfl), hS, by omega, hst3, hO24⟩)
       · obtain rfl : j = j0 := by omega
         refine st_run tbOk 2 hA (e' := (40, .int .i64 ((t + j : Nat) : Int)) :: (39, .slice A l.length c) :: _) rfl ?_; clear hA; intro a hA
         refine st_call0 hA rfl rfl rfl isfn15 rfl rfl (by decide) (find_none15 hS (l := l) (fun w' h => (hr _ (h.tail 1 rfl))) hM.s ((t + j : Nat) : Int) (fnd_no hbad)) ?_
         clear hA hS; rintro v w27 a ⟨rfl, hS⟩ hA
         refine st_run tbOk 3 hA (e' := (43, .bool false) :: (42, .agg #[.int .i64 0, .int .i64 0, .int .i64 0, .int .i64 0, .bool false]) :: (38, .tuple #[.agg #[.int .i64 0, .int .i64 0, .int .i64 0, .int .i64 0, .bool false], .bool false]) :: _) rfl ?_; clear hA; intro a hA
         refine st_alloc tbOk hA hS [.int .i64 0, .int .i64 0, .int .i64 0, .int .i64 0, .bool false] rfl rfl rfl rfl rfl (by decide) ?_; clear hA hS; intro b28 w29 a hS hA
         refine st_store tbOk hA hS [.int .i64 0, .int .i64 0, .int .i64 0, .int .i64 0, .bool false] [.int .i64 0, .int .i64 0, .int .i64 0, .int .i64 0, .bool false] rfl rfl rfl rfl rfl rfl (by simp [Value.oneCell']) (Nat.le_of_ble_eq_true rfl) rfl rfl rfl ?_; clear hS; intro w30 hS
         refine st_run tbOk 1 hA (e' := (13, .bool false) :: _) rfl ?_; clear hA; intro a hA
         refine wpList_nil ?_
         replace hA := hA.sel [0, 1, 3, 10, 11, 12, 13] (e' := [(0, .slice A l.length c), (1, .int .i64 ((t + j : Nat) : Int)), (3, .bool wr), (10, .slice Au ((pa l t j).length) cu), (11, .int .i64 ((t + n : Nat) : Int)), (12, .pointer (some ⟨b28, 0, none⟩)), (13, .bool false)]) rfl
         refine xt_norm ?_
         refine wp_seq ?_
         refine wp_block ?_
         refine wp_seq ?_
         refine wp_region_lit ?_
         refine st_run tbOk 3 hA (e' := (44, .bool true) :: (46, .bool true) :: (45, .bool false) :: _) rfl ?_; clear hA; intro a hA
         refine wpList_nil ?_
         replace hA := hA.sel [0, 1, 3, 10, 11, 12, 44] (e' := [(0, .slice A l.length c), (1, .int .i64 ((t + j : Nat) : Int)), (3, .bool wr), (10, .slice Au ((pa l t j).length) cu), (11, .int .i64 ((t + n : Nat) : Int)), (12, .pointer (some ⟨b28, 0, none⟩)), (44, .bool true)]) rfl
         refine xt_norm ?_
         refine cd_cond_t hA rfl ?_
         refine wp_seq ?_
         refine wp_region_lit ?_
         refine st_run tbOk 3 hA (e' := (9, .iface 30 (.int .i64 13)) :: (8, .slice none 0 0) :: (47, .iface 30 (.int .i64 13)) :: _) rfl ?_; clear hA; intro a hA
         refine wpList_nil ?_
         replace hA := hA.sel [8, 9] (e' := [(8, .slice none 0 0), (9, .iface 30 (.int .i64 13))]) rfl
         refine xt_norm ?_
         refine wp_ret (xb_ret (xt_ret (xb_ret (xt_ret (xb_ret (xt_ret ?_))))))
         refine ret2 (fn := Tryd.f14) hA rfl rfl rfl ?_
         replace hS := hS.drop1
         replace hS := hS.drop1
         exact ⟨rfl, hS⟩)
  · first
    | (exfalso; omega)
    | (replace hA := hA.rw 37 (v' := .bool false) rfl (vb_false hc6)
       refine cd_cond_f hA rfl ?_
       refine wp_exit ?_
       refine xt_exit ?_
       refine xt_exit ?_
       refine cd_exit_eq ?_
       refine xt_norm ?_
       refine wp_seq ?_
       refine wp_region_lit ?_
       refine st_run tbOk 3 hA (e' := (9, .nilIface) :: (8, .slice Au ((pa l t j).length) cu) :: (82, .slice Au ((pa l t j).length) cu) :: _) rfl ?_; clear hA; intro a hA
       refine wpList_nil ?_
       replace hA := hA.sel [8, 9] (e' := [(8, .slice Au ((pa l t j).length) cu), (9, .nilIface)]) rfl
       refine xt_norm ?_
       refine wp_ret ?_
       refine ret2 (fn := Tryd.f14) hA rfl rfl rfl ?_
       replace hS := hS.drop1
       exact ⟨rfl, hS⟩)

theorem pieces_right14 {w0 w : World} {F : List Chunk} (hS : St w0 w F) {v : Value} {l : List Area} (hr : RdS w0 F 5 v l.length (rows encArea l)) (t n : Nat) (hM : MOk l) (ht : t ≤ 1073741824) (hn : n ≤ 1073741824 - t) {j0 : Nat} (hj0 : j0 < n) (hf : ∀ k, k < j0 → Fine l true t k) (hbad : ∃ a, fnd l ((t + j0 : Nat) : Int) = some a ∧ aw a = false) :
    Ret Tryd.prog 14 #[v, .int .i64 ((t : Nat) : Int), .int .i64 ((n : Nat) : Int), .bool true] w (fun v w' => v = .tuple #[.slice none 0 0, .iface 30 (.int .i64 2)] ∧ St w0 w' F) := by
  obtain ⟨A, c, rfl, hmc, hcx⟩ := (hr w hS).open'
  have hs := hM.s
  refine enter (vs := [.slice A l.length c, .int .i64 ((t : Nat) : Int), .int .i64 ((n : Nat) : Int), .bool true]) 83 Tryd.func14 rfl rfl (by simp) ?_; intro a hA
  refine wp_seq ?_
  refine wp_region_lit ?_
  refine st_run tbOk 2 hA (e' := (9, .nilIface) :: (8, .slice none 0 0) :: _) rfl ?_; clear hA; intro a hA
  refine wpList_nil ?_
  replace hA := hA.sel [0, 1, 2, 3] (e' := [(0, .slice A l.length c), (1, .int .i64 ((t : Nat) : Int)), (2, .int .i64 ((n : Nat) : Int)), (3, .bool true)]) rfl
  refine xt_norm ?_
  refine wp_seq ?_
  refine wp_seq ?_
  refine wp_region_lit ?_
  refine st_run tbOk 3 hA (e' := (17, .bool (decide (((n : Nat) : Int) < 0))) :: (16, .bool (decide (((n : Nat) : Int) < 0))) :: (15, .int .i64 ((n : Nat) : Int)) :: _) rfl ?_; clear hA; intro a hA
  have hc1 : ¬ (((n : Nat) : Int) < 0) := by omega
  replace hA := hA.rw 16 (v' := .bool false) rfl (vb_false hc1)
  replace hA := hA.rw 17 (v' := .bool false) rfl (vb_false hc1)
  refine st_run tbOk 4 hA (e' := (21, .bool (decide (((t : Nat) : Int) < 0))) :: (20, .bool (decide (((t : Nat) : Int) < 0))) :: (19, .bool (decide (((t : Nat) : Int) < 0))) :: (18, .int .i64 ((t : Nat) : Int)) :: _) rfl ?_; clear hA; intro a hA
  have hc2 : ¬ (((t : Nat) : Int) < 0) := by omega
  replace hA := hA.rw 19 (v' := .bool false) rfl (vb_false hc2)
  replace hA := hA.rw 20 (v' := .bool false) rfl (vb_false hc2)
  replace hA := hA.rw 21 (v' := .bool false) rfl (vb_false hc2)
  refine st_run tbOk 4 hA (e' := (25, .bool (decide (((t : Nat) : Int) > 1073741824))) :: (24, .bool (decide (((t : Nat) : Int) > 1073741824))) :: (23, .bool (decide (((t : Nat) : Int) > 1073741824))) :: (22, .int .i64 ((t : Nat) : Int)) :: _) rfl ?_; clear hA; intro a hA
  have hc3 : ¬ (((t : Nat) : Int) > 1073741824) := by omega
  replace hA := hA.rw 23 (v' := .bool false) rfl (vb_false hc3)
  replace hA := hA.rw 24 (v' := .bool false) rfl (vb_false hc3)
  replace hA := hA.rw 25 (v' := .bool false) rfl (vb_false hc3)
  refine st_run tbOk 3 hA (e' := (28, .int .i64 (IntKind.i64.wrap (1073741824 - ((t : Nat) : Int)))) :: (27, .int .i64 ((t : Nat) : Int)) :: (26, .int .i64 ((n : Nat) : Int)) :: _) rfl ?_; clear hA; intro a hA
  replace hA := hA.rw 28 (v' := .int .i64 (1073741824 - ((t : Nat) : Int))) rfl (wr64 (by omega) (by omega) (by omega))
  refine st_run tbOk 2 hA (e' := (30, .bool (decide (((n : Nat) : Int) > 1073741824 - ((t : Nat) : Int)))) :: (29, .bool (decide (((n : Nat) : Int) > 1073741824 - ((t : Nat) : Int)))) :: _) rfl ?_; clear hA; intro a hA
  refine wpList_nil ?_
  replace hA := hA.sel [0, 1, 2, 3, 30] (e' := [(0, .slice A l.length c), (1, .int .i64 ((t : Nat) : Int)), (2, .int .i64 ((n : Nat) : Int)), (3, .bool true), (30, .bool (decide (((n : Nat) : Int) > 1073741824 - ((t : Nat) : Int))))]) rfl
  refine xt_norm ?_
  have hc4 : ¬ (((n : Nat) : Int) > 1073741824 - ((t : Nat) : Int)) := by omega
  replace hA := hA.rw 30 (v' := .bool false) rfl (vb_false hc4)
  refine cd_cond_f hA rfl ?_
  refine wp_skip ?_
  refine xt_norm ?_
  refine wp_seq ?_
  refine wp_region_lit ?_
  refine st_run tbOk 1 hA (e' := (10, .slice none 0 0) :: _) rfl ?_; clear hA; intro a hA
  refine wpList_nil ?_
  replace hA := hA.sel [0, 1, 2, 3, 10] (e' := [(0, .slice A l.length c), (1, .int .i64 ((t : Nat) : Int)), (2, .int .i64 ((n : Nat) : Int)), (3, .bool true), (10, .slice none 0 0)]) rfl
  refine xt_norm ?_
  refine wp_seq ?_
  refine wp_seq ?_
  refine wp_region_lit ?_
  refine st_run tbOk 3 hA (e' := (34, .int .i64 (IntKind.i64.wrap (((t : Nat) : Int) + ((n : Nat) : Int)))) :: (33, .int .i64 ((n : Nat) : Int)) :: (32, .int .i64 ((t : Nat) : Int)) :: _) rfl ?_; clear hA; intro a hA
  replace hA := hA.rw 34 (v' := .int .i64 ((t + n : Nat) : Int)) rfl (wr64 (by omega) (by omega) (by omega))
  refine st_run tbOk 1 hA (e' := (11, .int .i64 ((t + n : Nat) : Int)) :: _) rfl ?_; clear hA; intro a hA
  refine wpList_nil ?_
  replace hA := hA.sel [0, 1, 3, 10, 11] (e' := [(0, .slice A l.length c), (1, .int .i64 ((t : Nat) : Int)), (3, .bool true), (10, .slice none 0 0), (11, .int .i64 ((t + n : Nat) : Int))]) rfl
  refine xt_norm ?_
  refine wp_block ?_
  replace hS := hS.nil
  replace hA := hA.rw 1 (v' := .int .i64 ((t + 0 : Nat) : Int)) rfl (vint (by omega))
  refine wp_loop_ghost (fun m a w => ∃ (j : Nat) (Au : Option Addr) (cu : Nat) (U : Chunk), m = n - j ∧ Has a 83 [(0, .slice A l.length c), (1, .int .i64 ((t + j : Nat) : Int)), (3, .bool true), (10, .slice Au ((pa l t j).length) cu), (11, .int .i64 ((t + n : Nat) : Int))] ∧ St w0 w (U :: F) ∧ (j ≤ j0) ∧ (j = 0 ∨ j = n ∨ ∀ y ∈ l, InA y ((t + j : Nat) : Int) → ab y = ((t + j : Nat) : Int)) ∧ (Own 44 3 (.slice Au (pa l t j).length cu) (pa l t j).length (rows encPiece (pa l t j)) U)) (n - 0)
    ⟨0, none, 0, ([]), rfl, (hA.sel [0, 1, 3, 10, 11] rfl), hS, Nat.zero_le _, .inl rfl, (Own.nil 44 3)⟩ ?_
  clear hA hS; rintro m0 a w5 ⟨j, Au, cu, U, rfl, hA, hS, hj, hst, hU⟩
  refine wp_seq ?_
  refine wp_seq ?_
  refine wp_region_lit ?_
  refine st_run tbOk 3 hA (e' := (37, .bool (decide (((t + j : Nat) : Int) < ((t + n : Nat) : Int)))) :: (36, .int .i64 ((t + n : Nat) : Int)) :: (35, .int .i64 ((t + j : Nat) : Int)) :: _) rfl ?_; clear hA; intro a hA
  refine wpList_nil ?_
  replace hA := hA.sel [0, 1, 3, 10, 11, 37] (e' := [(0, .slice A l.length c), (1, .int .i64 ((t + j : Nat) : Int)), (3, .bool true), (10, .slice Au ((pa l t j).length) cu), (11, .int .i64 ((t + n : Nat) : Int)), (37, .bool (decide (((t + j : Nat) : Int) < ((t + n : Nat) : Int))))]) rfl
  refine xt_norm ?_
  by_cases hc6 : ((t + j : Nat) : Int) < ((t + n : Nat) : Int)
  · first
    | (exfalso; omega)
    | (replace hA := hA.rw 37 (v' := .bool true) rfl (vb_true hc6)
       refine cd_cond_t hA rfl ?_
       refine wp_skip ?_
       refine xt_norm ?_
       refine wp_block ?_
       refine wp_seq ?_
       refine wp_region_lit ?_
       rcases Nat.lt_or_ge j j0 with hjj | hjj
       · obtain ⟨a, hfa, haw⟩ := hf j (by omega)
         obtain ⟨a0, a1, a2, a3, a4⟩ := a
         obtain ⟨i, hi, hin, hfirst⟩ := fnd_ix hfa
         have hks := hs _ (List.mem_of_getElem? hi); dsimp only [SOk, ab, az, ag, ao] at hks
         have hin2 := hin; dsimp only [InA, ab, az] at hin2
         refine st_run tbOk 2 hA (e' := (40, .int .i64 ((t + j : Nat) : Int)) :: (39, .slice A l.length c) :: _) rfl ?_; clear hA; intro a hA
         refine st_call0 hA rfl rfl rfl isfn15 rfl rfl (by decide) (find_hit15 hS (l := l) (fun w' h => (hr _ (h.tail 1 rfl))) hM.s ((t + j : Nat) : Int) (y := (a0, a1, a2, a3, a4)) hi hin hfirst) ?_
         clear hA hS; rintro v w7 a ⟨rfl, hS⟩ hA
         refine st_run tbOk 3 hA (e' := (43, .bool true) :: (42, .agg #[.int .i64 a0, .int .i64 a1, .int .i64 a2, .int .i64 a3, .bool a4]) :: (38, .tuple #[.agg #[.int .i64 a0, .int .i64 a1, .int .i64 a2, .int .i64 a3, .bool a4], .bool true]) :: _) rfl ?_; clear hA; intro a hA
         refine st_alloc tbOk hA hS [.int .i64 0, .int .i64 0, .int .i64 0, .int .i64 0, .bool false] rfl rfl rfl rfl rfl (by decide) ?_; clear hA hS; intro b8 w9 a hS hA
         refine st_store tbOk hA hS [.int .i64 a0, .int .i64 a1, .int .i64 a2, .int .i64 a3, .bool a4] [.int .i64 a0, .int .i64 a1, .int .i64 a2, .int .i64 a3, .bool a4] rfl rfl rfl rfl rfl rfl (by simp [Value.oneCell']) (Nat.le_of_ble_eq_true rfl) rfl rfl rfl ?_; clear hS; intro w10 hS
         refine st_run tbOk 1 hA (e' := (13, .bool true) :: _) rfl ?_; clear hA; intro a hA
         refine wpList_nil ?_
         replace hA := hA.sel [0, 1, 3, 10, 11, 12, 13] (e' := [(0, .slice A l.length c), (1, .int .i64 ((t + j : Nat) : Int)), (3, .bool true), (10, .slice Au ((pa l t j).length) cu), (11, .int .i64 ((t + n : Nat) : Int)), (12, .pointer (some ⟨b8, 0, none⟩)), (13, .bool true)]) rfl
         refine xt_norm ?_
         refine wp_seq ?_
         refine wp_block ?_
         refine wp_seq ?_
         refine wp_region_lit ?_
         refine st_run tbOk 3 hA (e' := (44, .bool false) :: (46, .bool false) :: (45, .bool true) :: _) rfl ?_; clear hA; intro a hA
         refine wpList_nil ?_
         replace hA := hA.sel [0, 1, 3, 10, 11, 12, 44] (e' := [(0, .slice A l.length c), (1, .int .i64 ((t + j : Nat) : Int)), (3, .bool true), (10, .slice Au ((pa l t j).length) cu), (11, .int .i64 ((t + n : Nat) : Int)), (12, .pointer (some ⟨b8, 0, none⟩)), (44, .bool false)]) rfl
         refine xt_norm ?_
         refine cd_cond_f hA rfl ?_
         refine wp_seq ?_
         refine wp_region_lit ?_
         refine st_run tbOk 3 hA (e' := (51, .pointer (some ⟨b8, 4, none⟩)) :: (50, .bool true) :: (49, .bool true) :: _) rfl ?_; clear hA; intro a hA
         refine st_val hA rfl rfl (by decide) (rn_load tbOk hA rfl rfl rfl rfl (cell_row (hS.heapAt 0 rfl) rfl)) ?_; clear hA; intro a hA
         have hc11 : a4 = true := haw (by first | rfl | assumption)
         replace hA := hA.rw 52 (v' := .bool true) rfl (vb_t hc11)
         refine st_run tbOk 3 hA (e' := (48, .bool false) :: (54, .bool false) :: (53, .bool false) :: _) rfl ?_; clear hA; intro a hA
         refine wpList_nil ?_
         replace hA := hA.sel [0, 1, 3, 10, 11, 12, 48] (e' := [(0, .slice A l.length c), (1, .int .i64 ((t + j : Nat) : Int)), (3, .bool true), (10, .slice Au ((pa l t j).length) cu), (11, .int .i64 ((t + n : Nat) : Int)), (12, .pointer (some ⟨b8, 0, none⟩)), (48, .bool false)]) rfl
         refine xt_norm ?_
         refine cd_cond_f hA rfl ?_
         refine wp_skip ?_
         refine xb_norm ?_
         refine xt_norm ?_
         refine wp_seq ?_
         refine wp_region_lit ?_
         refine st_run tbOk 2 hA (e' := (57, .pointer (some ⟨b8, 0, none⟩)) :: (56, .int .i64 ((t + n : Nat) : Int)) :: _) rfl ?_; clear hA; intro a hA
         refine st_val hA rfl rfl (by decide) (rn_load tbOk hA rfl rfl rfl rfl (cell_row (hS.heapAt 0 rfl) rfl)) ?_; clear hA; intro a hA
         refine st_run tbOk 1 hA (e' := (59, .pointer (some ⟨b8, 1, none⟩)) :: _) rfl ?_; clear hA; intro a hA
         refine st_val hA rfl rfl (by decide) (rn_load tbOk hA rfl rfl rfl rfl (cell_row (hS.heapAt 0 rfl) rfl)) ?_; clear hA; intro a hA
         refine st_run tbOk 1 hA (e' := (61, .int .i64 (IntKind.i64.wrap (a0 + a1))) :: _) rfl ?_; clear hA; intro a hA
         replace hA := hA.rw 61 (v' := .int .i64 (a0 + a1)) rfl (wr64 (by omega) (by omega) (by omega))
         refine st_run tbOk 1 hA (e' := (62, .int .i64 (if a0 + a1 < ((t + n : Nat) : Int) then a0 + a1 else ((t + n : Nat) : Int))) :: _) rfl ?_; clear hA; intro a hA
         obtain ⟨m, hm⟩ : ∃ m : Int, m = (if a0 + a1 < ((t + n : Nat) : Int) then a0 + a1 else ((t + n : Nat) : Int)) := ⟨_, rfl⟩
         have hm2 : (m = ((t + n : Nat) : Int) ∨ m = a0 + a1) ∧ m ≤ ((t + n : Nat) : Int) ∧ m ≤ a0 + a1 := by rw [hm]; split <;> omega
         replace hA := hA.rw 62 (v' := .int .i64 m) rfl (by rw [hm])
         refine st_run tbOk 2 hA (e' := (64, .int .i64 (IntKind.i64.wrap (m - ((t + j : Nat) : Int)))) :: (63, .int .i64 ((t + j : Nat) : Int)) :: _) rfl ?_; clear hA; intro a hA
         replace hA := hA.rw 64 (v' := .int .i64 (m - ((t + j : Nat) : Int))) rfl (wr64 (by omega) (by omega) (by omega))
         refine st_run tbOk 1 hA (e' := (14, .int .i64 (m - ((t + j : Nat) : Int))) :: _) rfl ?_; clear hA; intro a hA
         refine wpList_nil ?_
         replace hA := hA.sel [0, 1, 3, 10, 11, 12, 14] (e' := [(0, .slice A l.length c), (1, .int .i64 ((t + j : Nat) : Int)), (3, .bool true), (10, .slice Au ((pa l t j).length) cu), (11, .int .i64 ((t + n : Nat) : Int)), (12, .pointer (some ⟨b8, 0, none⟩)), (14, .int .i64 (m - ((t + j : Nat) : Int)))]) rfl
         refine xt_norm ?_
         refine wp_seq ?_
         refine wp_region_lit ?_
         obtain ⟨q, hq⟩ : ∃ q : Nat, m - ((t + j : Nat) : Int) = ((q + 1 : Nat) : Int) := ⟨(m - ((t + j : Nat) : Int) - 1).toNat, by omega⟩
         replace hA := hA.rw 14 (v' := .int .i64 ((q + 1 : Nat) : Int)) rfl (by rw [hq])
         refine st_run tbOk 2 hA (e' := (66, .pointer (some ⟨b8, 2, none⟩)) :: (65, .slice Au ((pa l t j).length) cu) :: _) rfl ?_; clear hA; intro a hA
         refine st_val hA rfl rfl (by decide) (rn_load tbOk hA rfl rfl rfl rfl (cell_row (hS.heapAt 0 rfl) rfl)) ?_; clear hA; intro a hA
         refine st_run tbOk 1 hA (e' := (68, .pointer (some ⟨b8, 3, none⟩)) :: _) rfl ?_; clear hA; intro a hA
         refine st_val hA rfl rfl (by decide) (rn_load tbOk hA rfl rfl rfl rfl (cell_row (hS.heapAt 0 rfl) rfl)) ?_; clear hA; intro a hA
         refine st_run tbOk 2 hA (e' := (71, .int .i64 (IntKind.i64.wrap (a3 + ((t + j : Nat) : Int)))) :: (70, .int .i64 ((t + j : Nat) : Int)) :: _) rfl ?_; clear hA; intro a hA
         replace hA := hA.rw 71 (v' := .int .i64 (a3 + ((t + j : Nat) : Int))) rfl (wr64 (by omega) (by omega) (by omega))
         refine st_run tbOk 1 hA (e' := (72, .pointer (some ⟨b8, 0, none⟩)) :: _) rfl ?_; clear hA; intro a hA
         refine st_val hA rfl rfl (by decide) (rn_load tbOk hA rfl rfl rfl rfl (cell_row (hS.heapAt 0 rfl) rfl)) ?_; clear hA; intro a hA
         refine st_run tbOk 1 hA (e' := (74, .int .i64 (IntKind.i64.wrap ((a3 + ((t + j : Nat) : Int)) - a0))) :: _) rfl ?_; clear hA; intro a hA
         replace hA := hA.rw 74 (v' := .int .i64 ((a3 + ((t + j : Nat) : Int)) - a0)) rfl (wr64 (by omega) (by omega) (by omega))
         refine st_run tbOk 2 hA (e' := (76, .agg #[.int .i64 a2, .int .i64 ((a3 + ((t + j : Nat) : Int)) - a0), .int .i64 ((q + 1 : Nat) : Int)]) :: (75, .int .i64 ((q + 1 : Nat) : Int)) :: _) rfl ?_; clear hA; intro a hA
         refine st_buildSlice tbOk hA hS [.int .i64 a2, .int .i64 ((a3 + ((t + j : Nat) : Int)) - a0), .int .i64 ((q + 1 : Nat) : Int)] rfl rfl rfl rfl rfl (by decide) (by kernel_rfl) rfl rfl (by decide) ?_; clear hA hS; intro b12 w13 a hS hA
         replace hS := hS.front 2 (C := U) (L' := [(b12, rowO [.int .i64 a2, .int .i64 ((a3 + ((t + j : Nat) : Int)) - a0), .int .i64 ((q + 1 : Nat) : Int)] 44)] :: [(b8, rowO [.int .i64 a0, .int .i64 a1, .int .i64 a2, .int .i64 a3, .bool a4] 24)] :: F) rfl rfl
         refine st_append tbOk hA (m := (pa l t j).length) (q := 1) (xs := rows encPiece (pa l t j)) (news := rows encPiece ([(a2, (a3 + ((t + j : Nat) : Int)) - a0, ((q + 1 : Nat) : Int))] : List (Int × Int × Int))) rfl rfl rfl rfl rfl rfl rfl rfl (by decide) hU hS (((Own.full (T := 44) (size := 3) (g := b12) (m := 1) rfl (by decide)).rd (hS.own_ 1 rfl)).x) (rows_one encPiece_ok _) (maxLen_le (by first | omega | (have h9 := pa_le l t j; omega))) (by show ((pa l t j).length + 1) * 24 ≤ 140737488355328; first | omega | (have h9 := pa_le l t j; omega)) rfl rfl (by decide) ?_
         clear hA hS; intro v14 w15 C16 a hO16 hS hA
         replace hO16 := Own.app (l := pa l t j) (l2 := ([(a2, (a3 + ((t + j : Nat) : Int)) - a0, ((q + 1 : Nat) : Int))] : List (Int × Int × Int))) hO16
         obtain ⟨A17, c18, rfl, hmc18, hxc18⟩ := hO16.open'
         refine st_run tbOk 1 hA (e' := (10, .slice A17 (((pa l t j) ++ ([(a2, (a3 + ((t + j : Nat) : Int)) - a0, ((q + 1 : Nat) : Int))] : List (Int × Int × Int))).length) c18) :: _) rfl ?_; clear hA; intro a hA
         refine wpList_nil ?_
         replace hA := hA.sel [0, 1, 3, 10, 11, 14] (e' := [(0, .slice A l.length c), (1, .int .i64 ((t + j : Nat) : Int)), (3, .bool true), (10, .slice A17 (((pa l t j) ++ ([(a2, (a3 + ((t + j : Nat) : Int)) - a0, ((q + 1 : Nat) : Int))] : List (Int × Int × Int))).length) c18), (11, .int .i64 ((t + n : Nat) : Int)), (14, .int .i64 ((q + 1 : Nat) : Int))]) rfl
         refine xt_norm ?_
         refine wp_region_lit ?_
         refine st_run tbOk 3 hA (e' := (81, .int .i64 (IntKind.i64.wrap (((t + j : Nat) : Int) + ((q + 1 : Nat) : Int)))) :: (80, .int .i64 ((q + 1 : Nat) : Int)) :: (79, .int .i64 ((t + j : Nat) : Int)) :: _) rfl ?_; clear hA; intro a hA
         replace hA := hA.rw 81 (v' := .int .i64 (((t + j) + (q + 1) : Nat) : Int)) rfl (wr64 (by omega) (by omega) (by omega))
         refine st_run tbOk 1 hA (e' := (1, .int .i64 (((t + j) + (q + 1) : Nat) : Int)) :: _) rfl ?_; clear hA; intro a hA
         refine wpList_nil ?_
         replace hA := hA.sel [0, 1, 3, 10, 11] (e' := [(0, .slice A l.length c), (1, .int .i64 (((t + j) + (q + 1) : Nat) : Int)), (3, .bool true), (10, .slice A17 (((pa l t j) ++ ([(a2, (a3 + ((t + j : Nat) : Int)) - a0, ((q + 1 : Nat) : Int))] : List (Int × Int × Int))).length) c18), (11, .int .i64 ((t + n : Nat) : Int))]) rfl
         refine xb_norm ?_
         have hjn : j + (q + 1) ≤ j0 := by
             apply Decidable.byContradiction; intro h8
             have h7 : fnd l ((t + j0 : Nat) : Int) = some (a0, a1, a2, a3, a4) := hM.fnd hi (by dsimp only [InA, ab, az]; omega)
             obtain ⟨b, hb1, hb2⟩ := hbad; rw [h7] at hb1; injection hb1 with hb1; subst hb1; rw [haw rfl] at hb2; cases hb2
         replace hA := hA.rw 1 (v' := .int .i64 ((t + (j + (q + 1)) : Nat) : Int)) rfl (vint (by omega))
         have hst2 : j = 0 ∨ ab (a0, a1, a2, a3, a4) = ((t + j : Nat) : Int) := hst.elim .inl (fun h => h.elim (fun h => absurd h (by omega)) (fun h => .inr (h _ (List.mem_of_getElem? hi) hin)))
         have hl : (pa l t j) ++ ([(a2, (a3 + ((t + j : Nat) : Int)) - a0, ((q + 1 : Nat) : Int))] : List (Int × Int × Int)) = pa l t (j + (q + 1)) := (pa_step (k := j) (a := (a0, a1, a2, a3, a4)) hst2 (by dsimp only [ab]; omega) q (fun i2 hi2 => hM.fnd hi (by dsimp only [InA, ab, az]; omega))).symm
         rw [hl] at hO16; rw [hl] at hA
         have hst3 : j + (q + 1) = 0 ∨ j + (q + 1) = n ∨ ∀ y ∈ l, InA y ((t + (j + (q + 1)) : Nat) : Int) → ab y = ((t + (j + (q + 1)) : Nat) : Int) := by
             rcases hm2.1 with h9 | h9
             · exact .inr (.inl (by omega))
             · exact .inr (.inr (hM.next hi (by dsimp only [ab, az]; omega)))
         replace hS := hS.front 1 (C := [(b12, rowO [.int .i64 a2, .int .i64 ((a3 + ((t + j : Nat) : Int)) - a0), .int .i64 ((q + 1 : Nat) : Int)] 44)]) (L' := C16 :: [(b8, rowO [.int .i64 a0, .int .i64 a1, .int .i64 a2, .int .i64 a3, .bool a4] 24)] :: F) rfl rfl
         replace hS := hS.drop1
         replace hS := hS.front 1 (C := [(b8, rowO [.int .i64 a0, .int .i64 a1, .int .i64 a2, .int .i64 a3, .bool a4] 24)]) (L' := C16 :: F) rfl rfl
         replace hS := hS.drop1
         exact lp_next _ (by omega) ⟨(j + (q + 1)), A17, c18, C16, rfl, (hA.sel [0, 1, 3, 10, 11] rfl), hS, by omega, hst3, hO16⟩
       · obtain rfl : j = j0 := by omega
         obtain ⟨a, hfa, ha4⟩ := hbad
         obtain ⟨a0, a1, a2, a3, a4⟩ := a
         obtain ⟨i, hi, hin, hfirst⟩ := fnd_ix hfa
         have hks := hs _ (List.mem_of_getElem? hi); dsimp only [SOk, ab, az, ag, ao] at hks
         have hin2 := hin; dsimp only [InA, ab, az] at hin2
         dsimp only [aw] at ha4
         subst ha4
         refine st_run tbOk 2 hA (e' := (40, .int .i64 ((t + j : Nat) : Int)) :: (39, .slice A l.length c) :: _) rfl ?_; clear hA; intro a hA
         refine st_call0 hA rfl rfl rfl isfn15 rfl rfl (by decide) (find_hit15 hS (l := l) (fun w' h => (hr _ (h.tail 1 rfl))) hM.s ((t + j : Nat) : Int) (y := (a0, a1, a2, a3, false)) hi hin hfirst) ?_
         clear hA hS; rintro v w19 a ⟨rfl, hS⟩ hA
         refine st_run tbOk 3 hA (e' := (43, .bool true) :: (42, .agg #[.int .i64 a0, .int .i64 a1, .int .i64 a2, .int .i64 a3, .bool false]) :: (38, .tuple #[.agg #[.int .i64 a0, .int .i64 a1, .int .i64 a2, .int .i64 a3, .bool false], .bool true]) :: _) rfl ?_; clear hA; intro a hA
         refine st_alloc tbOk hA hS [.int .i64 0, .int .i64 0, .int .i64 0, .int .i64 0, .bool false] rfl rfl rfl rfl rfl (by decide) ?_; clear hA hS; intro b20 w21 a hS hA
         refine st_store tbOk hA hS [.int .i64 a0, .int .i64 a1, .int .i64 a2, .int .i64 a3, .bool false] [.int .i64 a0, .int .i64 a1, .int .i64 a2, .int .i64 a3, .bool false] rfl rfl rfl rfl rfl rfl (by simp [Value.oneCell']) (Nat.le_of_ble_eq_true rfl) rfl rfl rfl ?_; clear hS; intro w22 hS
         refine st_run tbOk 1 hA (e' := (13, .bool true) :: _) rfl ?_; clear hA; intro a hA
         refine wpList_nil ?_
         replace hA := hA.sel [0, 1, 3, 10, 11, 12, 13] (e' := [(0, .slice A l.length c), (1, .int .i64 ((t + j : Nat) : Int)), (3, .bool true), (10, .slice Au ((pa l t j).length) cu), (11, .int .i64 ((t + n : Nat) : Int)), (12, .pointer (some ⟨b20, 0, none⟩)), (13, .bool true)]) rfl
         refine xt_norm ?_
         refine wp_seq ?_
         refine wp_block ?_
         refine wp_seq ?_
         refine wp_region_lit ?_
         refine st_run tbOk 3 hA (e' := (44, .bool false) :: (46, .bool false) :: (45, .bool true) :: _) rfl ?_; clear hA; intro a hA
         refine wpList_nil ?_
         replace hA := hA.sel [0, 1, 3, 10, 11, 12, 44] (e' := [(0, .slice A l.length c), (1, .int .i64 ((t + j : Nat) : Int)), (3, .bool true), (10, .slice Au ((pa l t j).length) cu), (11, .int .i64 ((t + n : Nat) : Int)), (12, .pointer (some ⟨b20, 0, none⟩)), (44, .bool false)]) rfl
         refine xt_norm ?_
         refine cd_cond_f hA rfl ?_
         refine wp_seq ?_
         refine wp_region_lit ?_
         refine st_run tbOk 3 hA (e' := (51, .pointer (some ⟨b20, 4, none⟩)) :: (50, .bool true) :: (49, .bool true) :: _) rfl ?_; clear hA; intro a hA
         refine st_val hA rfl rfl (by decide) (rn_load tbOk hA rfl rfl rfl rfl (cell_row (hS.heapAt 0 rfl) rfl)) ?_; clear hA; intro a hA
         refine st_run tbOk 3 hA (e' := (48, .bool true) :: (54, .bool true) :: (53, .bool true) :: _) rfl ?_; clear hA; intro a hA
         refine wpList_nil ?_
         replace hA := hA.sel [0, 1, 3, 10, 11, 12, 48] (e' := [(0, .slice A l.length c), (1, .int .i64 ((t + j : Nat) : Int)), (3, .bool true), (10, .slice Au ((pa l t j).length) cu), (11, .int .i64 ((t + n : Nat) : Int)), (12, .pointer (some ⟨b20, 0, none⟩)), (48, .bool true)]) rfl
         refine xt_norm ?_
         refine cd_cond_t hA rfl ?_
         refine wp_seq ?_
         refine wp_region_lit ?_
         refine st_run tbOk 3 hA (e' := (9, .iface 30 (.int .i64 2)) :: (8, .slice none 0 0) :: (55, .iface 30 (.int .i64 2)) :: _) rfl ?_; clear hA; intro a hA
         refine wpList_nil ?_
         replace hA := hA.sel [8, 9] (e' := [(8, .slice none 0 0), (9, .iface 30 (.int .i64 2))]) rfl
         refine xt_norm ?_
         refine wp_ret (xb_ret (xt_ret (xb_ret (xt_ret (xb_ret (xt_ret ?_))))))
         refine ret2 (fn := Tryd.f14) hA rfl rfl rfl ?_
         replace hS := hS.drop1
         replace hS := hS.drop1
         exact ⟨rfl, hS⟩)
  · first
    | (exfalso; omega)
    | (replace hA := hA.rw 37 (v' := .bool false) rfl (vb_false hc6)
       refine cd_cond_f hA rfl ?_
       refine wp_exit ?_
       refine xt_exit ?_
       refine xt_exit ?_
       refine cd_exit_eq ?_
       refine xt_norm ?_
       refine wp_seq ?_
       refine wp_region_lit ?_
       refine st_run tbOk 3 hA (e' := (9, .nilIface) :: (8, .slice Au ((pa l t j).length) cu) :: (82, .slice Au ((pa l t j).length) cu) :: _) rfl ?_; clear hA; intro a hA
       refine wpList_nil ?_
       replace hA := hA.sel [8, 9] (e' := [(8, .slice Au ((pa l t j).length) cu), (9, .nilIface)]) rfl
       refine xt_norm ?_
       refine wp_ret ?_
       refine ret2 (fn := Tryd.f14) hA rfl rfl rfl ?_
       replace hS := hS.drop1
       exact ⟨rfl, hS⟩)

theorem rest16 {w0 w : World} {F : List Chunk} (hS : St w0 w F) (n b : Int) (hb : 0 < b ∧ b ≤ 1073741824) :
    Ret Tryd.prog 16 #[.int .i64 n, .int .i64 b] w (fun v w' => ∃ r, 0 ≤ r ∧ r < b ∧ v = .int .i64 r ∧ St w0 w' F) := by
  refine enter (vs := [.int .i64 n, .int .i64 b]) 12 Tryd.func16 rfl rfl (by simp) ?_; intro a hA
  refine wp_seq ?_
  refine wp_region_lit ?_
  refine st_run tbOk 1 hA (e' := (4, .int .i64 0) :: _) rfl ?_; clear hA; intro a hA
  refine wpList_nil ?_
  replace hA := hA.sel [0, 1] (e' := [(0, .int .i64 n), (1, .int .i64 b)]) rfl
  refine xt_norm ?_
  refine wp_seq ?_
  refine wp_region_lit ?_
  refine st_run tbOk 2 hA (e' := (6, .int .i64 b) :: (5, .int .i64 n) :: _) rfl ?_; clear hA; intro a hA
  refine st_val hA rfl rfl (by decide) (rn_rem hA rfl rfl rfl (by omega)) ?_; clear hA; intro a hA
  obtain ⟨u, hu⟩ : ∃ u, u = n.tmod b := ⟨_, rfl⟩
  have h1 := Int.tmod_lt_of_pos n (show 0 < b by omega); have h2 := Int.lt_tmod_of_pos n (show 0 < b by omega); rw [← hu] at h1 h2
  replace hA := hA.rw 7 (v' := .int .i64 u) rfl (by rw [hu])
  refine st_run tbOk 2 hA (e' := (9, .int .i64 (IntKind.i64.wrap (u + b))) :: (8, .int .i64 b) :: _) rfl ?_; clear hA; intro a hA
  replace hA := hA.rw 9 (v' := .int .i64 (u + b)) rfl (wr64 (by omega) (by omega) (by omega))
  refine st_run tbOk 1 hA (e' := (10, .int .i64 b) :: _) rfl ?_; clear hA; intro a hA
  refine st_val hA rfl rfl (by decide) (rn_rem hA rfl rfl rfl (by omega)) ?_; clear hA; intro a hA
  refine st_run tbOk 1 hA (e' := (4, .int .i64 ((u + b).tmod b)) :: _) rfl ?_; clear hA; intro a hA
  refine wpList_nil ?_
  replace hA := hA.sel [4] (e' := [(4, .int .i64 ((u + b).tmod b))]) rfl
  refine xt_norm ?_
  refine wp_ret ?_
  refine ret1 (fn := Tryd.f16) hA rfl rfl ?_
  exact ⟨_, Int.tmod_nonneg _ (by omega), Int.tmod_lt_of_pos _ (by omega), rfl, hS⟩

theorem small10 {w0 w : World} {F : List Chunk} (hS : St w0 w F) (x : Area) :
    Ret Tryd.prog 10 #[.agg #[.int .i64 x.1, .int .i64 x.2.1, .int .i64 x.2.2.1, .int .i64 x.2.2.2.1, .bool x.2.2.2.2]] w (fun v w' => ∃ y : Area, SOk y ∧ v = .agg #[.int .i64 y.1, .int .i64 y.2.1, .int .i64 y.2.2.1, .int .i64 y.2.2.2.1, .bool y.2.2.2.2] ∧ St w0 w' F) := by
  obtain ⟨a0, a1, a2, a3, a4⟩ := x
  refine enter (vs := [.agg #[.int .i64 a0, .int .i64 a1, .int .i64 a2, .int .i64 a3, .bool a4]]) 19 Tryd.func10 rfl rfl (by simp) ?_; intro a hA
  refine wp_seq ?_
  refine wp_region_lit ?_
  refine st_box hA hS [.int .i64 a0, .int .i64 a1, .int .i64 a2, .int .i64 a3, .bool a4] rfl rfl rfl rfl rfl (by decide) ?_; clear hA hS; intro b1 w2 a hS hA
  refine st_alloc tbOk hA hS [.int .i64 0, .int .i64 0, .int .i64 0, .int .i64 0, .bool false] rfl rfl rfl rfl rfl (by decide) ?_; clear hA hS; intro b3 w4 a hS hA
  refine wpList_nil ?_
  replace hA := hA.sel [1, 2] (e' := [(1, .pointer (some ⟨b1, 0, none⟩)), (2, .pointer (some ⟨b3, 0, none⟩))]) rfl
  refine xt_norm ?_
  refine wp_seq ?_
  refine wp_draw (fun w' => St w0 w' ([(b3, rowO [.int .i64 0, .int .i64 0, .int .i64 0, .int .i64 0, .bool false] 24)] :: [(b1, rowO [.int .i64 a0, .int .i64 a1, .int .i64 a2, .int .i64 a3, .bool a4] 24)] :: F)) [16] [(0, true), (1, true), (3, true), (4, true), (7, true), (8, true), (10, true), (11, true), (13, true), (14, true), (2, false), (5, false), (6, true), (9, false), (12, false), (15, true), (16, false)] mixed (by kernel_rfl) (by rintro c a w ⟨_, _, h, _⟩; cases h) (by rfl) (by kernel_rfl) ?_
  replace hS := hS.drew
  refine dr_run tbOk 1 hA hS (e' := (3, .pointer (some ⟨b1, 0, none⟩)) :: _) rfl ?_; clear hA; intro a hA
  refine dr_y hA rfl rfl rfl (by decide) hS (fun w' hS' => rn_load tbOk hA rfl rfl rfl rfl (cell_row (hS'.heapAt 1 rfl) rfl)) ?_; clear hA; intro a hA
  refine dr_run tbOk 1 hA hS (e' := (6, .pointer (some ⟨b1, 1, none⟩)) :: _) rfl ?_; clear hA; intro a hA
  refine dr_y hA rfl rfl rfl (by decide) hS (fun w' hS' => rn_load tbOk hA rfl rfl rfl rfl (cell_row (hS'.heapAt 1 rfl) rfl)) ?_; clear hA; intro a hA
  refine dr_run tbOk 1 hA hS (e' := (10, .pointer (some ⟨b1, 2, none⟩)) :: _) rfl ?_; clear hA; intro a hA
  refine dr_y hA rfl rfl rfl (by decide) hS (fun w' hS' => rn_load tbOk hA rfl rfl rfl rfl (cell_row (hS'.heapAt 1 rfl) rfl)) ?_; clear hA; intro a hA
  refine dr_run tbOk 1 hA hS (e' := (13, .pointer (some ⟨b1, 3, none⟩)) :: _) rfl ?_; clear hA; intro a hA
  refine dr_y hA rfl rfl rfl (by decide) hS (fun w' hS' => rn_load tbOk hA rfl rfl rfl rfl (cell_row (hS'.heapAt 1 rfl) rfl)) ?_; clear hA; intro a hA
  refine dr_run tbOk 1 hA hS (e' := (16, .pointer (some ⟨b1, 4, none⟩)) :: _) rfl ?_; clear hA; intro a hA
  refine dr_y hA rfl rfl rfl (by decide) hS (fun w' hS' => rn_load tbOk hA rfl rfl rfl rfl (cell_row (hS'.heapAt 1 rfl) rfl)) ?_; clear hA; intro a hA
  refine dr_b (o := _) rfl ?_
  refine st_call0 hA rfl rfl rfl isfn16 rfl rfl (by decide) (rest16 hS a0 200 (by decide)) ?_
  clear hA hS; rintro _ w5 a ⟨r6, hrr6, hsr6, rfl, hS⟩ hA
  refine dr_nil (.inr hS) ?_
  refine dr_b (o := _) rfl ?_
  refine st_call0 hA rfl rfl rfl isfn16 rfl rfl (by decide) (rest16 hS a1 30 (by decide)) ?_
  clear hA hS; rintro _ w7 a ⟨r8, hrr8, hsr8, rfl, hS⟩ hA
  refine dr_nil (.inr hS) ?_
  refine dr_run tbOk 1 hA hS (e' := (9, .int .i64 (IntKind.i64.wrap (1 + r8))) :: _) rfl ?_; clear hA; intro a hA
  replace hA := hA.rw 9 (v' := .int .i64 (1 + r8)) rfl (wr64 (by omega) (by omega) (by omega))
  refine dr_b (o := _) rfl ?_
  refine st_call0 hA rfl rfl rfl isfn16 rfl rfl (by decide) (rest16 hS a2 5 (by decide)) ?_
  clear hA hS; rintro _ w9 a ⟨r10, hrr10, hsr10, rfl, hS⟩ hA
  refine dr_nil (.inr hS) ?_
  refine dr_b (o := _) rfl ?_
  refine st_call0 hA rfl rfl rfl isfn16 rfl rfl (by decide) (rest16 hS a3 100 (by decide)) ?_
  clear hA hS; rintro _ w11 a ⟨r12, hrr12, hsr12, rfl, hS⟩ hA
  refine dr_nil (.inr hS) ?_
  refine dr_y hA rfl rfl rfl (by decide) hS (fun w' hS' => rn_build tbOk hA rfl rfl rfl rfl rfl rfl rfl) ?_; clear hA; intro a hA
  refine dr_b (o := _) rfl ?_
  refine st_store tbOk hA hS [.int .i64 r6, .int .i64 (1 + r8), .int .i64 r10, .int .i64 r12, .bool a4] [.int .i64 r6, .int .i64 (1 + r8), .int .i64 r10, .int .i64 r12, .bool a4] rfl rfl rfl rfl rfl rfl (by simp [Value.oneCell']) (Nat.le_of_ble_eq_true rfl) rfl rfl rfl ?_; clear hS; intro w13 hS
  refine dr_nil (.inl (by decide)) ?_
  refine dr_end ?_
  replace hA := hA.sel [2] (e' := [(2, .pointer (some ⟨b3, 0, none⟩))]) rfl
  refine xt_norm ?_
  refine wp_ret ?_
  refine retc1 tbOk (fn := Tryd.f10) (cs := [.int .i64 r6, .int .i64 (1 + r8), .int .i64 r10, .int .i64 r12, .bool a4]) hA rfl rfl rfl rfl rfl (cells_row (hS.heapAt 0 rfl) rfl) ?_
  replace hS := hS.drop1
  replace hS := hS.drop1
  exact ⟨(r6, 1 + r8, r10, r12, a4), (by dsimp only [SOk, ab, az, ag, ao]; omega), rfl, hS⟩

theorem has_ok11 {w0 w : World} {F : List Chunk} (hS : St w0 w F) (x : Area) (t : Int) (h0 : 0 ≤ ab x) (ht : t < 9223372036854775808) :
    Ret Tryd.prog 11 #[.agg #[.int .i64 x.1, .int .i64 x.2.1, .int .i64 x.2.2.1, .int .i64 x.2.2.2.1, .bool x.2.2.2.2], .int .i64 t] w (fun v w' => v = .bool (decide (ab x ≤ t ∧ t < ab x + az x)) ∧ St w0 w' F) := by
  obtain ⟨a0, a1, a2, a3, a4⟩ := x
  dsimp only [ab] at h0
  refine enter (vs := [.agg #[.int .i64 a0, .int .i64 a1, .int .i64 a2, .int .i64 a3, .bool a4], .int .i64 t]) 18 Tryd.func11 rfl rfl (by simp) ?_; intro a hA
  refine wp_seq ?_
  refine wp_region_lit ?_
  refine st_box hA hS [.int .i64 a0, .int .i64 a1, .int .i64 a2, .int .i64 a3, .bool a4] rfl rfl rfl rfl rfl (by decide) ?_; clear hA hS; intro b1 w2 a hS hA
  refine st_run tbOk 1 hA (e' := (4, .bool false) :: _) rfl ?_; clear hA; intro a hA
  refine wpList_nil ?_
  replace hA := hA.sel [1, 2] (e' := [(1, .int .i64 t), (2, .pointer (some ⟨b1, 0, none⟩))]) rfl
  refine xt_norm ?_
  refine wp_seq ?_
  refine wp_region_lit ?_
  refine st_run tbOk 2 hA (e' := (6, .pointer (some ⟨b1, 0, none⟩)) :: (5, .int .i64 t) :: _) rfl ?_; clear hA; intro a hA
  refine st_val hA rfl rfl (by decide) (rn_load tbOk hA rfl rfl rfl rfl (cell_row (hS.heapAt 0 rfl) rfl)) ?_; clear hA; intro a hA
  refine st_run tbOk 2 hA (e' := (9, .bool (decide (t ≥ a0))) :: (8, .bool (decide (t ≥ a0))) :: _) rfl ?_; clear hA; intro a hA
  by_cases hc3 : t ≥ a0
  · replace hA := hA.rw 8 (v' := .bool true) rfl (vb_true hc3)
    replace hA := hA.rw 9 (v' := .bool true) rfl (vb_true hc3)
    refine st_run tbOk 2 hA (e' := (11, .pointer (some ⟨b1, 0, none⟩)) :: (10, .int .i64 t) :: _) rfl ?_; clear hA; intro a hA
    refine st_val hA rfl rfl (by decide) (rn_load tbOk hA rfl rfl rfl rfl (cell_row (hS.heapAt 0 rfl) rfl)) ?_; clear hA; intro a hA
    refine st_run tbOk 1 hA (e' := (13, .int .i64 (IntKind.i64.wrap (t - a0))) :: _) rfl ?_; clear hA; intro a hA
    replace hA := hA.rw 13 (v' := .int .i64 (t - a0)) rfl (wr64 (by omega) (by omega) (by omega))
    refine st_run tbOk 1 hA (e' := (14, .pointer (some ⟨b1, 1, none⟩)) :: _) rfl ?_; clear hA; intro a hA
    refine st_val hA rfl rfl (by decide) (rn_load tbOk hA rfl rfl rfl rfl (cell_row (hS.heapAt 0 rfl) rfl)) ?_; clear hA; intro a hA
    refine st_run tbOk 3 hA (e' := (4, .bool (decide (t - a0 < a1))) :: (17, .bool (decide (t - a0 < a1))) :: (16, .bool (decide (t - a0 < a1))) :: _) rfl ?_; clear hA; intro a hA
    refine wpList_nil ?_
    replace hA := hA.sel [4] (e' := [(4, .bool (decide (t - a0 < a1)))]) rfl
    refine xt_norm ?_
    refine wp_ret ?_
    refine ret1 (fn := Tryd.f11) hA rfl rfl ?_
    replace hS := hS.drop1
    exact ⟨congrArg Value.bool (decide_eq_decide.2 ⟨fun h => (by dsimp only [ab, az]; omega), fun h => (by dsimp only [ab, az] at h; omega)⟩), hS⟩
  · replace hA := hA.rw 8 (v' := .bool false) rfl (vb_false hc3)
    replace hA := hA.rw 9 (v' := .bool false) rfl (vb_false hc3)
    refine st_run tbOk 9 hA (e' := (4, .bool false) :: (17, .bool false) :: (16, undef) :: (15, undef) :: (14, undef) :: (13, undef) :: (12, undef) :: (11, undef) :: (10, undef) :: _) rfl ?_; clear hA; intro a hA
    refine wpList_nil ?_
    replace hA := hA.sel [4] (e' := [(4, .bool false)]) rfl
    refine xt_norm ?_
    refine wp_ret ?_
    refine ret1 (fn := Tryd.f11) hA rfl rfl ?_
    replace hS := hS.drop1
    exact ⟨congrArg Value.bool (decide_eq_false (by dsimp only [ab, az]; omega)).symm, hS⟩

theorem has_any11 {w0 w : World} {F : List Chunk} (hS : St w0 w F) (x : Area) (t : Int) :
    Ret Tryd.prog 11 #[.agg #[.int .i64 x.1, .int .i64 x.2.1, .int .i64 x.2.2.1, .int .i64 x.2.2.2.1, .bool x.2.2.2.2], .int .i64 t] w (fun v w' => ∃ b, v = .bool b ∧ St w0 w' F) := by
  obtain ⟨a0, a1, a2, a3, a4⟩ := x
  refine enter (vs := [.agg #[.int .i64 a0, .int .i64 a1, .int .i64 a2, .int .i64 a3, .bool a4], .int .i64 t]) 18 Tryd.func11 rfl rfl (by simp) ?_; intro a hA
  refine wp_seq ?_
  refine wp_region_lit ?_
  refine st_box hA hS [.int .i64 a0, .int .i64 a1, .int .i64 a2, .int .i64 a3, .bool a4] rfl rfl rfl rfl rfl (by decide) ?_; clear hA hS; intro b1 w2 a hS hA
  refine st_run tbOk 1 hA (e' := (4, .bool false) :: _) rfl ?_; clear hA; intro a hA
  refine wpList_nil ?_
  replace hA := hA.sel [1, 2] (e' := [(1, .int .i64 t), (2, .pointer (some ⟨b1, 0, none⟩))]) rfl
  refine xt_norm ?_
  refine wp_seq ?_
  refine wp_region_lit ?_
  refine st_run tbOk 2 hA (e' := (6, .pointer (some ⟨b1, 0, none⟩)) :: (5, .int .i64 t) :: _) rfl ?_; clear hA; intro a hA
  refine st_val hA rfl rfl (by decide) (rn_load tbOk hA rfl rfl rfl rfl (cell_row (hS.heapAt 0 rfl) rfl)) ?_; clear hA; intro a hA
  refine st_run tbOk 2 hA (e' := (9, .bool (decide (t ≥ a0))) :: (8, .bool (decide (t ≥ a0))) :: _) rfl ?_; clear hA; intro a hA
  by_cases hc3 : t ≥ a0
  · replace hA := hA.rw 8 (v' := .bool true) rfl (vb_true hc3)
    replace hA := hA.rw 9 (v' := .bool true) rfl (vb_true hc3)
    refine st_run tbOk 2 hA (e' := (11, .pointer (some ⟨b1, 0, none⟩)) :: (10, .int .i64 t) :: _) rfl ?_; clear hA; intro a hA
    refine st_val hA rfl rfl (by decide) (rn_load tbOk hA rfl rfl rfl rfl (cell_row (hS.heapAt 0 rfl) rfl)) ?_; clear hA; intro a hA
    refine st_run tbOk 1 hA (e' := (13, .int .i64 (IntKind.i64.wrap (t - a0))) :: _) rfl ?_; clear hA; intro a hA
    refine st_run tbOk 1 hA (e' := (14, .pointer (some ⟨b1, 1, none⟩)) :: _) rfl ?_; clear hA; intro a hA
    refine st_val hA rfl rfl (by decide) (rn_load tbOk hA rfl rfl rfl rfl (cell_row (hS.heapAt 0 rfl) rfl)) ?_; clear hA; intro a hA
    refine st_run tbOk 3 hA (e' := (4, .bool (decide (IntKind.i64.wrap (t - a0) < a1))) :: (17, .bool (decide (IntKind.i64.wrap (t - a0) < a1))) :: (16, .bool (decide (IntKind.i64.wrap (t - a0) < a1))) :: _) rfl ?_; clear hA; intro a hA
    refine wpList_nil ?_
    replace hA := hA.sel [4] (e' := [(4, .bool (decide (IntKind.i64.wrap (t - a0) < a1)))]) rfl
    refine xt_norm ?_
    refine wp_ret ?_
    refine ret1 (fn := Tryd.f11) hA rfl rfl ?_
    replace hS := hS.drop1
    exact ⟨_, rfl, hS⟩
  · replace hA := hA.rw 8 (v' := .bool false) rfl (vb_false hc3)
    replace hA := hA.rw 9 (v' := .bool false) rfl (vb_false hc3)
    refine st_run tbOk 9 hA (e' := (4, .bool false) :: (17, .bool false) :: (16, undef) :: (15, undef) :: (14, undef) :: (13, undef) :: (12, undef) :: (11, undef) :: (10, undef) :: _) rfl ?_; clear hA; intro a hA
    refine wpList_nil ?_
    replace hA := hA.sel [4] (e' := [(4, .bool false)]) rfl
    refine xt_norm ?_
    refine wp_ret ?_
    refine ret1 (fn := Tryd.f11) hA rfl rfl ?_
    replace hS := hS.drop1
    exact ⟨_, rfl, hS⟩

theorem add_cases {l : List Area} (h : MOk l) (a : Area) : (∃ (j : Nat) (y : Area), l[j]? = some y ∧ Ovl a y) ∨ ((∀ y ∈ l, ¬ Ovl a y) ∧ 64 ≤ l.length) ∨ ((∀ y ∈ l, ¬ Ovl a y) ∧ l.length < 64 ∧ ∃ i, Pl l a i) := by
  rcases ovl_at (l := l) (a := a) with hn | hov
  · rcases Nat.lt_or_ge l.length 64 with hl | hl
    · exact .inr (.inr ⟨hn, hl, h.place a⟩)
    · exact .inr (.inl ⟨hn, hl⟩)
  · exact .inl hov
theorem SOk.v2 {x : Area} (h : SOk x) : 0 ≤ ao x ∧ 0 ≤ ag x := by unfold SOk at h; omega
theorem make9 {w0 w : World} {F : List Chunk} (hS : St w0 w F) {v : Value} {l : List Area} (hr : RdS w0 F 5 v l.length (rows encArea l)) :
    Ret Tryd.prog 9 #[v] w (fun v w' => ∃ ms C, MOk ms ∧ Own 24 5 v ms.length (rows encArea ms) C ∧ St w0 w' (C :: F)) := by
  obtain ⟨A, c, rfl, hmc, hcx⟩ := (hr w hS).open'
  refine enter (vs := [.slice A l.length c]) 26 Tryd.func9 rfl rfl (by simp) ?_; intro a hA
  refine wp_seq ?_
  refine wp_region_lit ?_
  refine st_run tbOk 1 hA (e' := (2, .slice none 0 0) :: _) rfl ?_; clear hA; intro a hA
  refine wpList_nil ?_
  replace hA := hA.sel [0] (e' := [(0, .slice A l.length c)]) rfl
  refine xt_norm ?_
  refine wp_seq ?_
  refine wp_region_lit ?_
  refine st_run tbOk 1 hA (e' := (3, .slice none 0 0) :: _) rfl ?_; clear hA; intro a hA
  refine wpList_nil ?_
  refine xt_norm ?_
  refine wp_seq ?_
  refine wp_seq ?_
  refine wp_region_lit ?_
  refine st_run tbOk 3 hA (e' := (10, .int .i64 0) :: (9, .int .i64 ((l.length : Nat) : Int)) :: (8, .slice A l.length c) :: _) rfl ?_; clear hA; intro a hA
  refine wpList_nil ?_
  replace hA := hA.sel [3, 8, 9, 10] (e' := [(3, .slice none 0 0), (8, .slice A l.length c), (9, .int .i64 ((l.length : Nat) : Int)), (10, .int .i64 0)]) rfl
  refine xt_norm ?_
  refine wp_block ?_
  replace hS := hS.nil
  refine wp_loop_ghost (fun m a w => ∃ (k : Nat) (ms : List Area) (Am : Option Addr) (cm : Nat) (Cm : Chunk), m = l.length - k ∧ Has a 26 [(3, .slice Am ms.length cm), (8, .slice A l.length c), (9, .int .i64 ((l.length : Nat) : Int)), (10, .int .i64 ((k : Nat) : Int))] ∧ St w0 w (Cm :: F) ∧ (k ≤ l.length) ∧ (MOk ms) ∧ (Own 24 5 (.slice Am ms.length cm) ms.length (rows encArea ms) Cm)) (l.length - 0)
    ⟨0, ([]), none, 0, ([]), rfl, (hA.sel [3, 8, 9, 10] rfl), hS, Nat.zero_le _, MOk.nil, (Own.nil 24 5)⟩ ?_
  clear hA hS; rintro m0 a w1 ⟨k, ms, Am, cm, Cm, rfl, hA, hS, hk, hM, hO⟩
  have hml := hM.n
  refine wp_seq ?_
  refine wp_region_lit ?_
  refine st_run tbOk 1 hA (e' := (11, .bool (decide (((k : Nat) : Int) < ((l.length : Nat) : Int)))) :: _) rfl ?_; clear hA; intro a hA
  refine wpList_nil ?_
  refine xt_norm ?_
  refine wp_seq ?_
  by_cases hc2 : ((k : Nat) : Int) < ((l.length : Nat) : Int)
  · first
    | (exfalso; omega)
    | (replace hA := hA.rw 11 (v' := .bool true) rfl (vb_true hc2)
       refine cd_cond_t hA rfl ?_
       refine wp_skip ?_
       refine xt_norm ?_
       refine wp_seq ?_
       refine wp_block ?_
       refine wp_seq ?_
       refine wp_region_lit ?_
       obtain ⟨b3, o4, rfl⟩ := (hr _ (hS.tail 1 rfl)).isSome (k := k) (by omega)
       refine st_val hA rfl rfl (by decide) (rn_indexAddr tbOk hA k (o4 + (k * 5)) rfl rfl rfl rfl rfl rfl (by rfl) (by omega) (by first | rfl | simp [Nat.mul_one, Nat.zero_add] | omega)) ?_; clear hA; intro a hA
       obtain ⟨x5, hx5⟩ := get_ex (l := l) (k := k) (by omega)
       obtain ⟨x5f0, x5f1, x5f2, x5f3, x5f4⟩ := x5
       refine st_val hA rfl rfl (by decide) (rn_loadA tbOk hA ([.int .i64 x5f0, .int .i64 x5f1, .int .i64 x5f2, .int .i64 x5f3, .bool x5f4]) rfl rfl rfl rfl (by rfl) ((hr _ (hS.tail 1 rfl)).elem (k := k) encArea_ok hx5)) ?_; clear hA; intro a hA
       refine st_alloc tbOk hA hS [.int .i64 0, .int .i64 0, .int .i64 0, .int .i64 0, .bool false] rfl rfl rfl rfl rfl (by decide) ?_; clear hA hS; intro b6 w7 a hS hA
       refine st_store tbOk hA hS [.int .i64 x5f0, .int .i64 x5f1, .int .i64 x5f2, .int .i64 x5f3, .bool x5f4] [.int .i64 x5f0, .int .i64 x5f1, .int .i64 x5f2, .int .i64 x5f3, .bool x5f4] rfl rfl rfl rfl rfl rfl (by simp [Value.oneCell']) (Nat.le_of_ble_eq_true rfl) rfl rfl rfl ?_; clear hS; intro w8 hS
       refine wpList_nil ?_
       replace hA := hA.sel [3, 5, 8, 9, 10] (e' := [(3, .slice Am ms.length cm), (5, .pointer (some ⟨b6, 0, none⟩)), (8, .slice (some ⟨b3, o4, none⟩) l.length c), (9, .int .i64 ((l.length : Nat) : Int)), (10, .int .i64 ((k : Nat) : Int))]) rfl
       refine xt_norm ?_
       refine wp_seq ?_
       refine wp_region_lit ?_
       refine st_run tbOk 1 hA (e' := (15, .slice Am ms.length cm) :: _) rfl ?_; clear hA; intro a hA
       refine st_val hA rfl rfl (by decide) (rn_loadA tbOk hA [.int .i64 x5f0, .int .i64 x5f1, .int .i64 x5f2, .int .i64 x5f3, .bool x5f4] rfl rfl rfl rfl rfl (cells_row (hS.heapAt 0 rfl) rfl)) ?_; clear hA; intro a hA
       refine st_call0 hA rfl rfl rfl isfn10 rfl rfl (by decide) (small10 hS (x5f0, x5f1, x5f2, x5f3, x5f4)) ?_
       clear hA hS; rintro _ w10 a ⟨⟨y9n0, y9n1, y9n2, y9n3, y9n4⟩, hy9, rfl, hS⟩ hA
       have h2y9 := hy9; dsimp only [SOk, ab, az, ag, ao] at h2y9
       rcases add_cases hM (y9n0, y9n1, y9n2, y9n3, y9n4) with ⟨j, yo, hy, hov⟩ | ⟨hn, hl⟩ | ⟨hn, hl, i, hp⟩
       · refine st_call0 hA rfl rfl rfl isfn12 rfl rfl (by decide) (add_ovl12 hS (l := ms) (RdS.own hO 1 rfl) (y9n0, y9n1, y9n2, y9n3, y9n4) hy9.val hy9.v2 hM.s hy hov) ?_
         clear hA hS; rintro v w11 a ⟨rfl, hS⟩ hA
         refine st_run tbOk 5 hA (e' := (7, .iface 30 (.int .i64 14)) :: (6, .slice none 0 0) :: (20, .iface 30 (.int .i64 14)) :: (19, .slice none 0 0) :: (14, .tuple #[.slice none 0 0, .iface 30 (.int .i64 14)]) :: _) rfl ?_; clear hA; intro a hA
         refine wpList_nil ?_
         replace hA := hA.sel [3, 6, 7, 8, 9, 10] (e' := [(3, .slice Am ms.length cm), (6, .slice none 0 0), (7, .iface 30 (.int .i64 14)), (8, .slice (some ⟨b3, o4, none⟩) l.length c), (9, .int .i64 ((l.length : Nat) : Int)), (10, .int .i64 ((k : Nat) : Int))]) rfl
         refine xt_norm ?_
         refine wp_seq ?_
         refine wp_region_lit ?_
         refine st_run tbOk 2 hA (e' := (22, .bool false) :: (21, .iface 30 (.int .i64 14)) :: _) rfl ?_; clear hA; intro a hA
         refine wpList_nil ?_
         replace hA := hA.sel [3, 6, 8, 9, 10, 22] (e' := [(3, .slice Am ms.length cm), (6, .slice none 0 0), (8, .slice (some ⟨b3, o4, none⟩) l.length c), (9, .int .i64 ((l.length : Nat) : Int)), (10, .int .i64 ((k : Nat) : Int)), (22, .bool false)]) rfl
         refine xt_norm ?_
         refine cd_cond_f hA rfl ?_
         refine wp_skip ?_
         refine xb_norm ?_
         refine xt_norm ?_
         refine wp_region_lit ?_
         refine st_run tbOk 1 hA (e' := (24, .int .i64 (IntKind.i64.wrap (((k : Nat) : Int) + 1))) :: _) rfl ?_; clear hA; intro a hA
         replace hA := hA.rw 24 (v' := .int .i64 ((k + 1 : Nat) : Int)) rfl (wr64 (by omega) (by omega) (by omega))
         refine st_run tbOk 1 hA (e' := (10, .int .i64 ((k + 1 : Nat) : Int)) :: _) rfl ?_; clear hA; intro a hA
         refine wpList_nil ?_
         replace hA := hA.sel [3, 8, 9, 10] (e' := [(3, .slice Am ms.length cm), (8, .slice (some ⟨b3, o4, none⟩) l.length c), (9, .int .i64 ((l.length : Nat) : Int)), (10, .int .i64 ((k + 1 : Nat) : Int))]) rfl
         replace hS := hS.drop1
         exact lp_next _ (by omega) ⟨(k + 1), ms, Am, cm, Cm, rfl, (hA.sel [3, 8, 9, 10] rfl), hS, by omega, hM, hO⟩
       · refine st_call0 hA rfl rfl rfl isfn12 rfl rfl (by decide) (add_full12 hS (l := ms) (RdS.own hO 1 rfl) (y9n0, y9n1, y9n2, y9n3, y9n4) hy9.val hy9.v2 hM.s hn hl) ?_
         clear hA hS; rintro v w12 a ⟨rfl, hS⟩ hA
         refine st_run tbOk 5 hA (e' := (7, .iface 30 (.int .i64 5)) :: (6, .slice none 0 0) :: (20, .iface 30 (.int .i64 5)) :: (19, .slice none 0 0) :: (14, .tuple #[.slice none 0 0, .iface 30 (.int .i64 5)]) :: _) rfl ?_; clear hA; intro a hA
         refine wpList_nil ?_
         replace hA := hA.sel [3, 6, 7, 8, 9, 10] (e' := [(3, .slice Am ms.length cm), (6, .slice none 0 0), (7, .iface 30 (.int .i64 5)), (8, .slice (some ⟨b3, o4, none⟩) l.length c), (9, .int .i64 ((l.length : Nat) : Int)), (10, .int .i64 ((k : Nat) : Int))]) rfl
         refine xt_norm ?_
         refine wp_seq ?_
         refine wp_region_lit ?_
         refine st_run tbOk 2 hA (e' := (22, .bool false) :: (21, .iface 30 (.int .i64 5)) :: _) rfl ?_; clear hA; intro a hA
         refine wpList_nil ?_
         replace hA := hA.sel [3, 6, 8, 9, 10, 22] (e' := [(3, .slice Am ms.length cm), (6, .slice none 0 0), (8, .slice (some ⟨b3, o4, none⟩) l.length c), (9, .int .i64 ((l.length : Nat) : Int)), (10, .int .i64 ((k : Nat) : Int)), (22, .bool false)]) rfl
         refine xt_norm ?_
         refine cd_cond_f hA rfl ?_
         refine wp_skip ?_
         refine xb_norm ?_
         refine xt_norm ?_
         refine wp_region_lit ?_
         refine st_run tbOk 1 hA (e' := (24, .int .i64 (IntKind.i64.wrap (((k : Nat) : Int) + 1))) :: _) rfl ?_; clear hA; intro a hA
         replace hA := hA.rw 24 (v' := .int .i64 ((k + 1 : Nat) : Int)) rfl (wr64 (by omega) (by omega) (by omega))
         refine st_run tbOk 1 hA (e' := (10, .int .i64 ((k + 1 : Nat) : Int)) :: _) rfl ?_; clear hA; intro a hA
         refine wpList_nil ?_
         replace hA := hA.sel [3, 8, 9, 10] (e' := [(3, .slice Am ms.length cm), (8, .slice (some ⟨b3, o4, none⟩) l.length c), (9, .int .i64 ((l.length : Nat) : Int)), (10, .int .i64 ((k + 1 : Nat) : Int))]) rfl
         replace hS := hS.drop1
         exact lp_next _ (by omega) ⟨(k + 1), ms, Am, cm, Cm, rfl, (hA.sel [3, 8, 9, 10] rfl), hS, by omega, hM, hO⟩
       · refine st_call0 hA rfl rfl rfl isfn12 rfl rfl (by decide) (add_ok12 hS (l := ms) (RdS.own hO 1 rfl) (y9n0, y9n1, y9n2, y9n3, y9n4) hy9.val hy9.v2 hM.s hn hl hp) ?_
         clear hA hS; rintro _ w13 a ⟨v14, C15, hO15, rfl, hS⟩ hA
         obtain ⟨A16, c17, rfl, hmc17, hxc17⟩ := hO15.open'
         refine st_run tbOk 5 hA (e' := (7, .nilIface) :: (6, .slice A16 ((ms.take i ++ ((y9n0, y9n1, y9n2, y9n3, y9n4) :: ms.drop i)).length) c17) :: (20, .nilIface) :: (19, .slice A16 ((ms.take i ++ ((y9n0, y9n1, y9n2, y9n3, y9n4) :: ms.drop i)).length) c17) :: (14, .tuple #[.slice A16 ((ms.take i ++ ((y9n0, y9n1, y9n2, y9n3, y9n4) :: ms.drop i)).length) c17, .nilIface]) :: _) rfl ?_; clear hA; intro a hA
         refine wpList_nil ?_
         replace hA := hA.sel [3, 6, 7, 8, 9, 10] (e' := [(3, .slice Am ms.length cm), (6, .slice A16 ((ms.take i ++ ((y9n0, y9n1, y9n2, y9n3, y9n4) :: ms.drop i)).length) c17), (7, .nilIface), (8, .slice (some ⟨b3, o4, none⟩) l.length c), (9, .int .i64 ((l.length : Nat) : Int)), (10, .int .i64 ((k : Nat) : Int))]) rfl
         refine xt_norm ?_
         refine wp_seq ?_
         refine wp_region_lit ?_
         refine st_run tbOk 2 hA (e' := (22, .bool true) :: (21, .nilIface) :: _) rfl ?_; clear hA; intro a hA
         refine wpList_nil ?_
         replace hA := hA.sel [3, 6, 8, 9, 10, 22] (e' := [(3, .slice Am ms.length cm), (6, .slice A16 ((ms.take i ++ ((y9n0, y9n1, y9n2, y9n3, y9n4) :: ms.drop i)).length) c17), (8, .slice (some ⟨b3, o4, none⟩) l.length c), (9, .int .i64 ((l.length : Nat) : Int)), (10, .int .i64 ((k : Nat) : Int)), (22, .bool true)]) rfl
         refine xt_norm ?_
         refine cd_cond_t hA rfl ?_
         refine wp_region_lit ?_
         refine st_run tbOk 2 hA (e' := (3, .slice A16 ((ms.take i ++ ((y9n0, y9n1, y9n2, y9n3, y9n4) :: ms.drop i)).length) c17) :: (23, .slice A16 ((ms.take i ++ ((y9n0, y9n1, y9n2, y9n3, y9n4) :: ms.drop i)).length) c17) :: _) rfl ?_; clear hA; intro a hA
         refine wpList_nil ?_
         replace hA := hA.sel [3, 8, 9, 10] (e' := [(3, .slice A16 ((ms.take i ++ ((y9n0, y9n1, y9n2, y9n3, y9n4) :: ms.drop i)).length) c17), (8, .slice (some ⟨b3, o4, none⟩) l.length c), (9, .int .i64 ((l.length : Nat) : Int)), (10, .int .i64 ((k : Nat) : Int))]) rfl
         refine xb_norm ?_
         refine xt_norm ?_
         refine wp_region_lit ?_
         refine st_run tbOk 1 hA (e' := (24, .int .i64 (IntKind.i64.wrap (((k : Nat) : Int) + 1))) :: _) rfl ?_; clear hA; intro a hA
         replace hA := hA.rw 24 (v' := .int .i64 ((k + 1 : Nat) : Int)) rfl (wr64 (by omega) (by omega) (by omega))
         refine st_run tbOk 1 hA (e' := (10, .int .i64 ((k + 1 : Nat) : Int)) :: _) rfl ?_; clear hA; intro a hA
         refine wpList_nil ?_
         replace hA := hA.sel [3, 8, 9, 10] (e' := [(3, .slice A16 ((ms.take i ++ ((y9n0, y9n1, y9n2, y9n3, y9n4) :: ms.drop i)).length) c17), (8, .slice (some ⟨b3, o4, none⟩) l.length c), (9, .int .i64 ((l.length : Nat) : Int)), (10, .int .i64 ((k + 1 : Nat) : Int))]) rfl
         replace hS := hS.front 1 (C := [(b6, rowO [.int .i64 x5f0, .int .i64 x5f1, .int .i64 x5f2, .int .i64 x5f3, .bool x5f4] 24)]) (L' := C15 :: Cm :: F) rfl rfl
         replace hS := hS.drop1
         replace hS := hS.front 1 (C := Cm) (L' := C15 :: F) rfl rfl
         replace hS := hS.drop1
         exact lp_next _ (by omega) ⟨(k + 1), (ms.take i ++ ((y9n0, y9n1, y9n2, y9n3, y9n4) :: ms.drop i)), A16, c17, C15, rfl, (hA.sel [3, 8, 9, 10] rfl), hS, by omega, hM.ins hy9 hn hp hl, hO15⟩)
  · first
    | (exfalso; omega)
    | (replace hA := hA.rw 11 (v' := .bool false) rfl (vb_false hc2)
       refine cd_cond_f hA rfl ?_
       refine wp_exit ?_
       refine xt_exit ?_
       refine xt_exit ?_
       refine cd_exit_eq ?_
       refine xt_norm ?_
       refine wp_seq ?_
       refine wp_region_lit ?_
       refine st_run tbOk 2 hA (e' := (2, .slice Am ms.length cm) :: (25, .slice Am ms.length cm) :: _) rfl ?_; clear hA; intro a hA
       refine wpList_nil ?_
       replace hA := hA.sel [2] (e' := [(2, .slice Am ms.length cm)]) rfl
       refine xt_norm ?_
       refine wp_ret ?_
       refine ret1 (fn := Tryd.f9) hA rfl rfl ?_
       exact ⟨ms, Cm, hM, hO, hS⟩)

end Go.Proofs.YtplhgbfibiinaaaDoor
