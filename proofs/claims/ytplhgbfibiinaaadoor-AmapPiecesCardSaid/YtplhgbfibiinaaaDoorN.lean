import Derived.Test.YtplhgbfibiinaaaDoorJ
set_option linter.unusedVariables false
set_option linter.unusedSimpArgs false
set_option maxRecDepth 4000
namespace Go.Proofs.YtplhgbfibiinaaaDoor
open Go Go.SK
theorem pieces4 {w0 w : World} {F : List Chunk} (hg : HG w0) (hS : St w0 w F) {v : Value} {l : List Area} (hr : RdS w0 F 5 v l.length (rows encArea l)) (b1 b2 : Int) (wr : Bool) (h1 : 0 ≤ b1 ∧ b1 < 65536) (h2 : 0 ≤ b2 ∧ b2 < 256) :
    Ret Tryd.prog 4 #[v, .int .u16 b1, .int .u8 b2, .bool wr] w (fun v w' => v = .bool true ∧ St w0 w' F) := by
  obtain ⟨A, c, rfl, hmc, hcx⟩ := (hr w hS).open'
  obtain ⟨g, rfl⟩ := Int.eq_ofNat_of_zero_le h1.1
  obtain ⟨n, rfl⟩ := Int.eq_ofNat_of_zero_le h2.1
  refine enter (vs := [.slice A l.length c, .int .u16 ((g : Nat) : Int), .int .u8 ((n : Nat) : Int), .bool wr]) 132 Tryd.func4 rfl rfl (by simp) ?_; intro a hA
  refine wp_seq ?_
  refine wp_region_lit ?_
  refine st_run tbOk 1 hA (e' := (8, .bool false) :: _) rfl ?_; clear hA; intro a hA
  refine wpList_nil ?_
  replace hA := hA.sel [0, 1, 2, 3] (e' := [(0, .slice A l.length c), (1, .int .u16 ((g : Nat) : Int)), (2, .int .u8 ((n : Nat) : Int)), (3, .bool wr)]) rfl
  refine xt_norm ?_
  refine wp_seq ?_
  refine wp_seq ?_
  refine wp_region_lit ?_
  refine st_call0 hA rfl rfl rfl isfn8 rfl rfl (by decide) (awake8 hS hg) ?_
  clear hA hS; rintro v w1 a ⟨rfl, hS⟩ hA
  refine st_run tbOk 1 hA (e' := (20, .bool false) :: _) rfl ?_; clear hA; intro a hA
  refine wpList_nil ?_
  replace hA := hA.sel [0, 1, 2, 3, 20] (e' := [(0, .slice A l.length c), (1, .int .u16 ((g : Nat) : Int)), (2, .int .u8 ((n : Nat) : Int)), (3, .bool wr), (20, .bool false)]) rfl
  refine xt_norm ?_
  refine cd_cond_f hA rfl ?_
  refine wp_skip ?_
  refine xt_norm ?_
  refine wp_seq ?_
  refine wp_region_lit ?_
  refine st_run tbOk 1 hA (e' := (21, .slice A l.length c) :: _) rfl ?_; clear hA; intro a hA
  refine st_call0 hA rfl rfl rfl isfn9 rfl rfl (by decide) (make9 hS (l := l) (fun w' h => (hr _ h))) ?_
  clear hA hS; rintro v3 w2 a ⟨ms, C4, hM, hO4, hS⟩ hA
  obtain ⟨A5, c6, rfl, hmc6, hxc6⟩ := hO4.open'
  have hml := hM.n
  refine st_run tbOk 1 hA (e' := (9, .slice A5 ms.length c6) :: _) rfl ?_; clear hA; intro a hA
  refine wpList_nil ?_
  replace hA := hA.sel [1, 2, 3, 9] (e' := [(1, .int .u16 ((g : Nat) : Int)), (2, .int .u8 ((n : Nat) : Int)), (3, .bool wr), (9, .slice A5 ms.length c6)]) rfl
  refine xt_norm ?_
  refine wp_seq ?_
  refine wp_region_lit ?_
  refine st_run tbOk 2 hA (e' := (24, .int .u16 (((g : Nat) : Int).tmod 300)) :: (23, .int .u16 ((g : Nat) : Int)) :: _) rfl ?_; clear hA; intro a hA
  replace hA := hA.rw 24 (v' := .int .u16 ((g % 300 : Nat) : Int)) rfl (vint (Int.ofNat_tmod _ _).symm)
  refine st_run tbOk 1 hA (e' := (25, .int .i64 (IntKind.i64.wrap ((g % 300 : Nat) : Int))) :: _) rfl ?_; clear hA; intro a hA
  replace hA := hA.rw 25 (v' := .int .i64 ((g % 300 : Nat) : Int)) rfl (wr64 (by rfl) (by omega) (by omega))
  refine st_run tbOk 2 hA (e' := (27, .int .i64 (IntKind.i64.wrap ((n : Nat) : Int))) :: (26, .int .u8 ((n : Nat) : Int)) :: _) rfl ?_; clear hA; intro a hA
  replace hA := hA.rw 27 (v' := .int .i64 ((n : Nat) : Int)) rfl (wr64 (by rfl) (by omega) (by omega))
  refine st_run tbOk 2 hA (e' := (11, .int .i64 ((n : Nat) : Int)) :: (10, .int .i64 ((g % 300 : Nat) : Int)) :: _) rfl ?_; clear hA; intro a hA
  refine wpList_nil ?_
  replace hA := hA.sel [3, 9, 10, 11] (e' := [(3, .bool wr), (9, .slice A5 ms.length c6), (10, .int .i64 ((g % 300 : Nat) : Int)), (11, .int .i64 ((n : Nat) : Int))]) rfl
  refine xt_norm ?_
  refine wp_seq ?_
  refine wp_region_lit ?_
  obtain ⟨t, ht⟩ : ∃ t, t = g % 300 := ⟨_, rfl⟩
  replace hA := hA.rw 10 (v' := .int .i64 ((t : Nat) : Int)) rfl (by rw [ht])
  refine st_run tbOk 4 hA (e' := (32, .bool wr) :: (31, .int .i64 ((n : Nat) : Int)) :: (30, .int .i64 ((t : Nat) : Int)) :: (29, .slice A5 ms.length c6) :: _) rfl ?_; clear hA; intro a hA
  rcases bad_ex ms wr t n with hf | ⟨j0, hj0, hf, hbad | ⟨b, hb1, hb2, hb3⟩⟩
  · have hfx : ∀ i : Nat, i < n → ∃ a, fnd ms ((t + i : Nat) : Int) = some a := fun i hi => (hf i hi).ex
    have hpl := pa_le ms t n
    refine st_call0 hA rfl rfl rfl isfn14 rfl rfl (by decide) (pieces_ok14 hS (l := ms) (RdS.own hO4 0 rfl) t n wr hM (by omega) (by omega) hf) ?_
    clear hA hS; rintro _ w7 a ⟨v8, C9, hO9, rfl, hS⟩ hA
    obtain ⟨A10, c11, rfl, hmc11, hxc11⟩ := hO9.open'
    refine st_run tbOk 5 hA (e' := (13, .nilIface) :: (12, .slice A10 ((pa ms t n).length) c11) :: (35, .nilIface) :: (34, .slice A10 ((pa ms t n).length) c11) :: (28, .tuple #[.slice A10 ((pa ms t n).length) c11, .nilIface]) :: _) rfl ?_; clear hA; intro a hA
    refine wpList_nil ?_
    replace hA := hA.sel [3, 9, 10, 11, 12, 13] (e' := [(3, .bool wr), (9, .slice A5 ms.length c6), (10, .int .i64 ((t : Nat) : Int)), (11, .int .i64 ((n : Nat) : Int)), (12, .slice A10 ((pa ms t n).length) c11), (13, .nilIface)]) rfl
    refine xt_norm ?_
    refine wp_seq ?_
    refine wp_region_lit ?_
    refine st_run tbOk 1 hA (e' := (14, .int .i64 0) :: _) rfl ?_; clear hA; intro a hA
    refine wpList_nil ?_
    refine xt_norm ?_
    refine wp_seq ?_
    refine wp_region_lit ?_
    refine st_run tbOk 1 hA (e' := (15, .slice none 0 0) :: _) rfl ?_; clear hA; intro a hA
    refine wpList_nil ?_
    refine xt_norm ?_
    refine wp_seq ?_
    refine wp_block ?_
    replace hS := hS.nil
    replace hS := hS.front 2 (C := C4) (L' := [] :: C9 :: F) rfl rfl
    replace hS := hS.front 2 (C := C9) (L' := C4 :: [] :: F) rfl rfl
    replace hS := hS.front 2 (C := []) (L' := C9 :: C4 :: F) rfl rfl
    refine wp_loop_ghost (fun m a w => ∃ (k : Nat) (Au : Option Addr) (cu : Nat) (U : Chunk), m = n - k ∧ Has a 132 [(3, .bool wr), (9, .slice A5 ms.length c6), (10, .int .i64 ((t : Nat) : Int)), (11, .int .i64 ((n : Nat) : Int)), (12, .slice A10 ((pa ms t n).length) c11), (13, .nilIface), (14, .int .i64 ((k : Nat) : Int)), (15, .slice Au ((pa ms t k).length) cu)] ∧ St w0 w (U :: C9 :: C4 :: F) ∧ (k ≤ n) ∧ (Own 44 3 (.slice Au (pa ms t k).length cu) (pa ms t k).length (rows encPiece (pa ms t k)) U)) (n - 0)
      ⟨0, none, 0, ([]), rfl, (hA.sel [3, 9, 10, 11, 12, 13, 14, 15] rfl), hS, Nat.zero_le _, (Own.nil 44 3)⟩ ?_
    clear hA hS; rintro m0 a w12 ⟨k, Au, cu, U, rfl, hA, hS, hk, hU⟩
    have hpk := pa_le ms t k
    refine wp_seq ?_
    refine wp_seq ?_
    refine wp_region_lit ?_
    refine st_run tbOk 3 hA (e' := (38, .bool (decide (((k : Nat) : Int) < ((n : Nat) : Int)))) :: (37, .int .i64 ((n : Nat) : Int)) :: (36, .int .i64 ((k : Nat) : Int)) :: _) rfl ?_; clear hA; intro a hA
    refine wpList_nil ?_
    replace hA := hA.sel [3, 9, 10, 11, 12, 13, 14, 15, 38] (e' := [(3, .bool wr), (9, .slice A5 ms.length c6), (10, .int .i64 ((t : Nat) : Int)), (11, .int .i64 ((n : Nat) : Int)), (12, .slice A10 ((pa ms t n).length) c11), (13, .nilIface), (14, .int .i64 ((k : Nat) : Int)), (15, .slice Au ((pa ms t k).length) cu), (38, .bool (decide (((k : Nat) : Int) < ((n : Nat) : Int))))]) rfl
    refine xt_norm ?_
    by_cases hc13 : ((k : Nat) : Int) < ((n : Nat) : Int)
    · first
      | (exfalso; omega)
      | (replace hA := hA.rw 38 (v' := .bool true) rfl (vb_true hc13)
         refine cd_cond_t hA rfl ?_
         refine wp_skip ?_
         refine xt_norm ?_
         refine wp_seq ?_
         refine wp_block ?_
         refine wp_seq ?_
         refine wp_region_lit ?_
         refine st_run tbOk 4 hA (e' := (45, .int .i64 (IntKind.i64.wrap (((t : Nat) : Int) + ((k : Nat) : Int)))) :: (44, .int .i64 ((k : Nat) : Int)) :: (43, .int .i64 ((t : Nat) : Int)) :: (42, .slice A5 ms.length c6) :: _) rfl ?_; clear hA; intro a hA
         replace hA := hA.rw 45 (v' := .int .i64 ((t + k : Nat) : Int)) rfl (wr64 (by omega) (by omega) (by omega))
         obtain ⟨a, hfa, haw⟩ := hf k (by omega)
         obtain ⟨a0, a1, a2, a3, a4⟩ := a
         obtain ⟨i, hi, hin, hfirst⟩ := fnd_ix hfa
         have hks := hM.s _ (List.mem_of_getElem? hi); dsimp only [SOk, ab, az, ag, ao] at hks
         have hin2 := hin; dsimp only [InA, ab, az] at hin2
         refine st_call0 hA rfl rfl rfl isfn15 rfl rfl (by decide) (find_hit15 hS (l := ms) (RdS.own hO4 2 rfl) hM.s ((t + k : Nat) : Int) (y := (a0, a1, a2, a3, a4)) hi hin hfirst) ?_
         clear hA hS; rintro v w14 a ⟨rfl, hS⟩ hA
         refine st_run tbOk 3 hA (e' := (48, .bool true) :: (47, .agg #[.int .i64 a0, .int .i64 a1, .int .i64 a2, .int .i64 a3, .bool a4]) :: (41, .tuple #[.agg #[.int .i64 a0, .int .i64 a1, .int .i64 a2, .int .i64 a3, .bool a4], .bool true]) :: _) rfl ?_; clear hA; intro a hA
         refine st_alloc tbOk hA hS [.int .i64 0, .int .i64 0, .int .i64 0, .int .i64 0, .bool false] rfl rfl rfl rfl rfl (by decide) ?_; clear hA hS; intro b15 w16 a hS hA
         refine st_store tbOk hA hS [.int .i64 a0, .int .i64 a1, .int .i64 a2, .int .i64 a3, .bool a4] [.int .i64 a0, .int .i64 a1, .int .i64 a2, .int .i64 a3, .bool a4] rfl rfl rfl rfl rfl rfl (by simp [Value.oneCell']) (Nat.le_of_ble_eq_true rfl) rfl rfl rfl ?_; clear hS; intro w17 hS
         refine st_run tbOk 1 hA (e' := (17, .bool true) :: _) rfl ?_; clear hA; intro a hA
         refine wpList_nil ?_
         replace hA := hA.sel [3, 9, 10, 11, 12, 13, 14, 15, 16, 17] (e' := [(3, .bool wr), (9, .slice A5 ms.length c6), (10, .int .i64 ((t : Nat) : Int)), (11, .int .i64 ((n : Nat) : Int)), (12, .slice A10 ((pa ms t n).length) c11), (13, .nilIface), (14, .int .i64 ((k : Nat) : Int)), (15, .slice Au ((pa ms t k).length) cu), (16, .pointer (some ⟨b15, 0, none⟩)), (17, .bool true)]) rfl
         refine xt_norm ?_
         refine wp_seq ?_
         refine wp_seq ?_
         refine wp_region_lit ?_
         refine st_run tbOk 2 hA (e' := (50, .bool false) :: (49, .bool true) :: _) rfl ?_; clear hA; intro a hA
         refine wpList_nil ?_
         replace hA := hA.sel [3, 9, 10, 11, 12, 13, 14, 15, 16, 50] (e' := [(3, .bool wr), (9, .slice A5 ms.length c6), (10, .int .i64 ((t : Nat) : Int)), (11, .int .i64 ((n : Nat) : Int)), (12, .slice A10 ((pa ms t n).length) c11), (13, .nilIface), (14, .int .i64 ((k : Nat) : Int)), (15, .slice Au ((pa ms t k).length) cu), (16, .pointer (some ⟨b15, 0, none⟩)), (50, .bool false)]) rfl
         refine xt_norm ?_
         refine cd_cond_f hA rfl ?_
         refine wp_skip ?_
         refine xt_norm ?_
         refine wp_seq ?_
         refine wp_seq ?_
         refine wp_region_lit ?_
         refine st_run tbOk 2 hA (e' := (60, .bool wr) :: (59, .bool wr) :: _) rfl ?_; clear hA; intro a hA
         by_cases hc18 : wr = true
         · first
           | (exfalso; omega)
           | (replace hA := hA.rw 3 (v' := .bool true) rfl (vb_t hc18)
              replace hA := hA.rw 59 (v' := .bool true) rfl (vb_t hc18)
              replace hA := hA.rw 60 (v' := .bool true) rfl (vb_t hc18)
              refine st_run tbOk 1 hA (e' := (61, .pointer (some ⟨b15, 4, none⟩)) :: _) rfl ?_; clear hA; intro a hA
              refine st_val hA rfl rfl (by decide) (rn_load tbOk hA rfl rfl rfl rfl (cell_row (hS.heapAt 0 rfl) rfl)) ?_; clear hA; intro a hA
              have hc19 : a4 = true := haw (by first | rfl | assumption)
              replace hA := hA.rw 62 (v' := .bool true) rfl (vb_t hc19)
              refine st_run tbOk 2 hA (e' := (64, .bool false) :: (63, .bool false) :: _) rfl ?_; clear hA; intro a hA
              refine wpList_nil ?_
              replace hA := hA.sel [3, 9, 10, 11, 12, 13, 14, 15, 16, 64] (e' := [(3, .bool true), (9, .slice A5 ms.length c6), (10, .int .i64 ((t : Nat) : Int)), (11, .int .i64 ((n : Nat) : Int)), (12, .slice A10 ((pa ms t n).length) c11), (13, .nilIface), (14, .int .i64 ((k : Nat) : Int)), (15, .slice Au ((pa ms t k).length) cu), (16, .pointer (some ⟨b15, 0, none⟩)), (64, .bool false)]) rfl
              refine xt_norm ?_
              refine cd_cond_f hA rfl ?_
              refine wp_skip ?_
              refine xt_norm ?_
              refine wp_seq ?_
              refine wp_seq ?_
              refine wp_region_lit ?_
              refine st_run tbOk 3 hA (e' := (75, .bool (((k : Nat) : Int) == 0)) :: (74, .bool (((k : Nat) : Int) == 0)) :: (73, .int .i64 ((k : Nat) : Int)) :: _) rfl ?_; clear hA; intro a hA
              by_cases hc20 : ((k : Nat) : Int) = 0
              · first
                | (exfalso; omega)
                | (replace hA := hA.rw 74 (v' := .bool true) rfl (vb_eq_t hc20)
                   replace hA := hA.rw 75 (v' := .bool true) rfl (vb_eq_t hc20)
                   refine st_run tbOk 7 hA (e' := (82, .bool true) :: (81, undef) :: (80, undef) :: (79, undef) :: (78, undef) :: (77, undef) :: (76, undef) :: _) rfl ?_; clear hA; intro a hA
                   refine wpList_nil ?_
                   replace hA := hA.sel [3, 9, 10, 11, 12, 13, 14, 15, 16, 82] (e' := [(3, .bool true), (9, .slice A5 ms.length c6), (10, .int .i64 ((t : Nat) : Int)), (11, .int .i64 ((n : Nat) : Int)), (12, .slice A10 ((pa ms t n).length) c11), (13, .nilIface), (14, .int .i64 ((k : Nat) : Int)), (15, .slice Au ((pa ms t k).length) cu), (16, .pointer (some ⟨b15, 0, none⟩)), (82, .bool true)]) rfl
                   refine xt_norm ?_
                   refine cd_cond_t hA rfl ?_
                   refine wp_region_lit ?_
                   refine st_run tbOk 2 hA (e' := (84, .pointer (some ⟨b15, 2, none⟩)) :: (83, .slice Au ((pa ms t k).length) cu) :: _) rfl ?_; clear hA; intro a hA
                   refine st_val hA rfl rfl (by decide) (rn_load tbOk hA rfl rfl rfl rfl (cell_row (hS.heapAt 0 rfl) rfl)) ?_; clear hA; intro a hA
                   refine st_run tbOk 1 hA (e' := (86, .pointer (some ⟨b15, 3, none⟩)) :: _) rfl ?_; clear hA; intro a hA
                   refine st_val hA rfl rfl (by decide) (rn_load tbOk hA rfl rfl rfl rfl (cell_row (hS.heapAt 0 rfl) rfl)) ?_; clear hA; intro a hA
                   refine st_run tbOk 2 hA (e' := (89, .int .i64 (IntKind.i64.wrap (a3 + ((t : Nat) : Int)))) :: (88, .int .i64 ((t : Nat) : Int)) :: _) rfl ?_; clear hA; intro a hA
                   replace hA := hA.rw 89 (v' := .int .i64 (a3 + ((t : Nat) : Int))) rfl (wr64 (by omega) (by omega) (by omega))
                   refine st_run tbOk 2 hA (e' := (91, .int .i64 (IntKind.i64.wrap ((a3 + ((t : Nat) : Int)) + ((k : Nat) : Int)))) :: (90, .int .i64 ((k : Nat) : Int)) :: _) rfl ?_; clear hA; intro a hA
                   replace hA := hA.rw 91 (v' := .int .i64 ((a3 + ((t : Nat) : Int)) + ((k : Nat) : Int))) rfl (wr64 (by omega) (by omega) (by omega))
                   refine st_run tbOk 1 hA (e' := (92, .pointer (some ⟨b15, 0, none⟩)) :: _) rfl ?_; clear hA; intro a hA
                   refine st_val hA rfl rfl (by decide) (rn_load tbOk hA rfl rfl rfl rfl (cell_row (hS.heapAt 0 rfl) rfl)) ?_; clear hA; intro a hA
                   refine st_run tbOk 1 hA (e' := (94, .int .i64 (IntKind.i64.wrap (((a3 + ((t : Nat) : Int)) + ((k : Nat) : Int)) - a0))) :: _) rfl ?_; clear hA; intro a hA
                   replace hA := hA.rw 94 (v' := .int .i64 (((a3 + ((t : Nat) : Int)) + ((k : Nat) : Int)) - a0)) rfl (wr64 (by omega) (by omega) (by omega))
                   replace hA := hA.rw 94 (v' := .int .i64 (a3 + ((t + k : Nat) : Int) - a0)) rfl (vint (by omega))
                   refine st_run tbOk 1 hA (e' := (95, .agg #[.int .i64 a2, .int .i64 (a3 + ((t + k : Nat) : Int) - a0), .int .i64 0]) :: _) rfl ?_; clear hA; intro a hA
                   refine st_buildSlice tbOk hA hS [.int .i64 a2, .int .i64 (a3 + ((t + k : Nat) : Int) - a0), .int .i64 0] rfl rfl rfl rfl rfl (by decide) (by kernel_rfl) rfl rfl (by decide) ?_; clear hA hS; intro b21 w22 a hS hA
                   replace hS := hS.front 2 (C := U) (L' := [(b21, rowO [.int .i64 a2, .int .i64 (a3 + ((t + k : Nat) : Int) - a0), .int .i64 0] 44)] :: [(b15, rowO [.int .i64 a0, .int .i64 a1, .int .i64 a2, .int .i64 a3, .bool a4] 24)] :: C9 :: C4 :: F) rfl rfl
                   refine st_append tbOk hA (m := (pa ms t k).length) (q := 1) (xs := rows encPiece (pa ms t k)) (news := rows encPiece ([(a2, a3 + ((t + k : Nat) : Int) - a0, 0)] : List (Int × Int × Int))) rfl rfl rfl rfl rfl rfl rfl rfl (by decide) hU hS (((Own.full (T := 44) (size := 3) (g := b21) (m := 1) rfl (by decide)).rd (hS.own_ 1 rfl)).x) (rows_one encPiece_ok _) (maxLen_le (by first | omega | (have h9 := pa_le ms t k; omega))) (by show ((pa ms t k).length + 1) * 24 ≤ 140737488355328; first | omega | (have h9 := pa_le ms t k; omega)) rfl rfl (by decide) ?_
                   clear hA hS; intro v23 w24 C25 a hO25 hS hA
                   replace hO25 := Own.app (l := pa ms t k) (l2 := ([(a2, a3 + ((t + k : Nat) : Int) - a0, 0)] : List (Int × Int × Int))) hO25
                   obtain ⟨A26, c27, rfl, hmc27, hxc27⟩ := hO25.open'
                   refine st_run tbOk 1 hA (e' := (15, .slice A26 (((pa ms t k) ++ ([(a2, a3 + ((t + k : Nat) : Int) - a0, 0)] : List (Int × Int × Int))).length) c27) :: _) rfl ?_; clear hA; intro a hA
                   refine wpList_nil ?_
                   replace hA := hA.sel [3, 9, 10, 11, 12, 13, 14, 15] (e' := [(3, .bool true), (9, .slice A5 ms.length c6), (10, .int .i64 ((t : Nat) : Int)), (11, .int .i64 ((n : Nat) : Int)), (12, .slice A10 ((pa ms t n).length) c11), (13, .nilIface), (14, .int .i64 ((k : Nat) : Int)), (15, .slice A26 (((pa ms t k) ++ ([(a2, a3 + ((t + k : Nat) : Int) - a0, 0)] : List (Int × Int × Int))).length) c27)]) rfl
                   refine xt_norm ?_
                   refine wp_region_lit ?_
                   refine st_run tbOk 4 hA (e' := (101, .int .i64 (IntKind.i64.wrap (((((pa ms t k) ++ ([(a2, a3 + ((t + k : Nat) : Int) - a0, 0)] : List (Int × Int × Int))).length : Nat) : Int) - 1))) :: (100, .int .i64 ((((pa ms t k) ++ ([(a2, a3 + ((t + k : Nat) : Int) - a0, 0)] : List (Int × Int × Int))).length : Nat) : Int)) :: (99, .slice A26 (((pa ms t k) ++ ([(a2, a3 + ((t + k : Nat) : Int) - a0, 0)] : List (Int × Int × Int))).length) c27) :: (98, .slice A26 (((pa ms t k) ++ ([(a2, a3 + ((t + k : Nat) : Int) - a0, 0)] : List (Int × Int × Int))).length) c27) :: _) rfl ?_; clear hA; intro a hA
                   replace hA := hA.rw 101 (v' := .int .i64 (((((pa ms t k) ++ ([(a2, a3 + ((t + k : Nat) : Int) - a0, 0)] : List (Int × Int × Int))).length : Nat) : Int) - 1)) rfl (wr64 (by omega) (by omega) (by omega))
                   have hne : 0 < ((pa ms t k) ++ ([(a2, a3 + ((t + k : Nat) : Int) - a0, 0)] : List (Int × Int × Int))).length := by rw [List.length_append]; show 0 < _ + 1; omega
                   have hxl : ((pa ms t k) ++ ([(a2, a3 + ((t + k : Nat) : Int) - a0, 0)] : List (Int × Int × Int)))[((pa ms t k) ++ ([(a2, a3 + ((t + k : Nat) : Int) - a0, 0)] : List (Int × Int × Int))).length - 1]? = some (a2, a3 + ((t + k : Nat) : Int) - a0, 0) := last_at1 _ _
                   replace hA := hA.rw 101 (v' := .int .i64 ((((pa ms t k) ++ ([(a2, a3 + ((t + k : Nat) : Int) - a0, 0)] : List (Int × Int × Int))).length - 1 : Nat) : Int)) rfl (vint (by omega))
                   obtain ⟨b28, o29, rfl⟩ := hO25.isSome (k := (((pa ms t k) ++ ([(a2, a3 + ((t + k : Nat) : Int) - a0, 0)] : List (Int × Int × Int))).length - 1)) (by omega)
                   refine st_val hA rfl rfl (by decide) (rn_indexAddr tbOk hA (((pa ms t k) ++ ([(a2, a3 + ((t + k : Nat) : Int) - a0, 0)] : List (Int × Int × Int))).length - 1) (o29 + ((((pa ms t k) ++ ([(a2, a3 + ((t + k : Nat) : Int) - a0, 0)] : List (Int × Int × Int))).length - 1) * 3)) rfl rfl rfl rfl rfl rfl (by rfl) (by omega) (by first | rfl | simp [Nat.mul_one, Nat.zero_add] | omega)) ?_; clear hA; intro a hA
                   refine st_run tbOk 1 hA (e' := (103, .pointer (some ⟨b28, o29 + ((((pa ms t k) ++ ([(a2, a3 + ((t + k : Nat) : Int) - a0, 0)] : List (Int × Int × Int))).length - 1) * 3) + 2, none⟩)) :: _) rfl ?_; clear hA; intro a hA
                   refine st_val hA rfl rfl (by decide) (rn_load tbOk hA rfl rfl rfl rfl ((hO25.rd (hS.own_ 0 rfl)).elemf (k := ((pa ms t k) ++ ([(a2, a3 + ((t + k : Nat) : Int) - a0, 0)] : List (Int × Int × Int))).length - 1) encPiece_ok hxl (j := 2) rfl)) ?_; clear hA; intro a hA
                   refine st_run tbOk 1 hA (e' := (105, .int .i64 (IntKind.i64.wrap (0 + 1))) :: _) rfl ?_; clear hA; intro a hA
                   replace hA := hA.rw 105 (v' := .int .i64 1) rfl (wr64 (by omega) (by omega) (by omega))
                   refine st_val hA rfl rfl (by decide) (rn_indexAddr tbOk hA (((pa ms t k) ++ ([(a2, a3 + ((t + k : Nat) : Int) - a0, 0)] : List (Int × Int × Int))).length - 1) (o29 + ((((pa ms t k) ++ ([(a2, a3 + ((t + k : Nat) : Int) - a0, 0)] : List (Int × Int × Int))).length - 1) * 3)) rfl rfl rfl rfl rfl rfl (by rfl) (by omega) (by first | rfl | simp [Nat.mul_one, Nat.zero_add] | omega)) ?_; clear hA; intro a hA
                   refine st_run tbOk 1 hA (e' := (107, .pointer (some ⟨b28, o29 + ((((pa ms t k) ++ ([(a2, a3 + ((t + k : Nat) : Int) - a0, 0)] : List (Int × Int × Int))).length - 1) * 3) + 2, none⟩)) :: _) rfl ?_; clear hA; intro a hA
                   refine st_store_own tbOk hA hO25 hS (((((pa ms t k) ++ ([(a2, a3 + ((t + k : Nat) : Int) - a0, 0)] : List (Int × Int × Int))).length - 1) * 3) + 2) (o29 + ((((pa ms t k) ++ ([(a2, a3 + ((t + k : Nat) : Int) - a0, 0)] : List (Int × Int × Int))).length - 1) * 3) + 2) [.int .i64 1] (rows encPiece (((pa ms t k) ++ ([(a2, a3 + ((t + k : Nat) : Int) - a0, 0)] : List (Int × Int × Int))).set (((pa ms t k) ++ ([(a2, a3 + ((t + k : Nat) : Int) - a0, 0)] : List (Int × Int × Int))).length - 1) (a2, a3 + ((t + k : Nat) : Int) - a0, 1))) rfl rfl rfl rfl (by rfl) rfl rfl (by intro u hu; rw [List.mem_singleton.1 hu]; rfl) (by simp only [rows_length encPiece_ok, List.length_cons, List.length_nil]; omega) (rows_setf encPiece_ok (a2, a3 + ((t + k : Nat) : Int) - a0, 1) hxl 2 [.int .i64 1] (Nat.le_of_ble_eq_true rfl) rfl) rfl rfl ?_; clear hS; intro w30 C31 hO31 hS
                   refine wpList_nil ?_
                   replace hA := hA.sel [3, 9, 10, 11, 12, 13, 14, 15] (e' := [(3, .bool true), (9, .slice A5 ms.length c6), (10, .int .i64 ((t : Nat) : Int)), (11, .int .i64 ((n : Nat) : Int)), (12, .slice A10 ((pa ms t n).length) c11), (13, .nilIface), (14, .int .i64 ((k : Nat) : Int)), (15, .slice (some ⟨b28, o29, none⟩) (((pa ms t k) ++ ([(a2, a3 + ((t + k : Nat) : Int) - a0, 0)] : List (Int × Int × Int))).length) c27)]) rfl
                   refine xb_norm ?_
                   refine xt_norm ?_
                   refine wp_region_lit ?_
                   have hss : ((pa ms t k) ++ ([(a2, a3 + ((t + k : Nat) : Int) - a0, 0)] : List (Int × Int × Int))).set (((pa ms t k) ++ ([(a2, a3 + ((t + k : Nat) : Int) - a0, 0)] : List (Int × Int × Int))).length - 1) (a2, a3 + ((t + k : Nat) : Int) - a0, 1) = pa ms t (k + 1) := (bump_set hxl).symm.trans (pa_new hfa (by dsimp only [ab]; omega)).symm
                   have hR9 : Own 44 3 (.slice (some ⟨b28, o29, none⟩) (pa ms t (k + 1)).length c27) (pa ms t (k + 1)).length (rows encPiece (pa ms t (k + 1))) C31 := by rw [← hss, List.length_set]; exact hO31
                   replace hA := hA.rw 15 (v' := .slice (some ⟨b28, o29, none⟩) ((pa ms t (k + 1)).length) c27) rfl (by rw [← hss, List.length_set])
                   refine st_run tbOk 2 hA (e' := (40, .int .i64 (IntKind.i64.wrap (((k : Nat) : Int) + 1))) :: (39, .int .i64 ((k : Nat) : Int)) :: _) rfl ?_; clear hA; intro a hA
                   replace hA := hA.rw 40 (v' := .int .i64 ((k + 1 : Nat) : Int)) rfl (wr64 (by omega) (by omega) (by omega))
                   refine st_run tbOk 1 hA (e' := (14, .int .i64 ((k + 1 : Nat) : Int)) :: _) rfl ?_; clear hA; intro a hA
                   refine wpList_nil ?_
                   replace hA := hA.sel [3, 9, 10, 11, 12, 13, 14, 15] (e' := [(3, .bool true), (9, .slice A5 ms.length c6), (10, .int .i64 ((t : Nat) : Int)), (11, .int .i64 ((n : Nat) : Int)), (12, .slice A10 ((pa ms t n).length) c11), (13, .nilIface), (14, .int .i64 ((k + 1 : Nat) : Int)), (15, .slice (some ⟨b28, o29, none⟩) ((pa ms t (k + 1)).length) c27)]) rfl
                   replace hS := hS.front 1 (C := [(b21, rowO [.int .i64 a2, .int .i64 (a3 + ((t + k : Nat) : Int) - a0), .int .i64 0] 44)]) (L' := C31 :: [(b15, rowO [.int .i64 a0, .int .i64 a1, .int .i64 a2, .int .i64 a3, .bool a4] 24)] :: C9 :: C4 :: F) rfl rfl
                   replace hS := hS.drop1
                   replace hS := hS.front 1 (C := [(b15, rowO [.int .i64 a0, .int .i64 a1, .int .i64 a2, .int .i64 a3, .bool a4] 24)]) (L' := C31 :: C9 :: C4 :: F) rfl rfl
                   replace hS := hS.drop1
                   replace hS := hS.front 2 (C := C4) (L' := C31 :: C9 :: F) rfl rfl
                   replace hS := hS.front 2 (C := C9) (L' := C4 :: C31 :: F) rfl rfl
                   replace hS := hS.front 2 (C := C31) (L' := C9 :: C4 :: F) rfl rfl
                   replace hA := hA.rw 3 (v' := .bool wr) rfl (congrArg Value.bool (by first | exact Eq.symm (by assumption) | exact (Bool.eq_false_iff.2 (by assumption)).symm))
                   exact lp_next _ (by omega) ⟨(k + 1), (some ⟨b28, o29, none⟩), c27, C31, rfl, (hA.sel [3, 9, 10, 11, 12, 13, 14, 15] rfl), hS, by omega, hR9⟩)
              · first
                | (exfalso; omega)
                | (replace hA := hA.rw 74 (v' := .bool false) rfl (vb_eq_f hc20)
                   replace hA := hA.rw 75 (v' := .bool false) rfl (vb_eq_f hc20)
                   refine st_run tbOk 1 hA (e' := (76, .pointer (some ⟨b15, 0, none⟩)) :: _) rfl ?_; clear hA; intro a hA
                   refine st_val hA rfl rfl (by decide) (rn_load tbOk hA rfl rfl rfl rfl (cell_row (hS.heapAt 0 rfl) rfl)) ?_; clear hA; intro a hA
                   refine st_run tbOk 3 hA (e' := (80, .int .i64 (IntKind.i64.wrap (((t : Nat) : Int) + ((k : Nat) : Int)))) :: (79, .int .i64 ((k : Nat) : Int)) :: (78, .int .i64 ((t : Nat) : Int)) :: _) rfl ?_; clear hA; intro a hA
                   replace hA := hA.rw 80 (v' := .int .i64 ((t + k : Nat) : Int)) rfl (wr64 (by omega) (by omega) (by omega))
                   refine st_run tbOk 2 hA (e' := (82, .bool (a0 == ((t + k : Nat) : Int))) :: (81, .bool (a0 == ((t + k : Nat) : Int))) :: _) rfl ?_; clear hA; intro a hA
                   refine wpList_nil ?_
                   replace hA := hA.sel [3, 9, 10, 11, 12, 13, 14, 15, 16, 82] (e' := [(3, .bool true), (9, .slice A5 ms.length c6), (10, .int .i64 ((t : Nat) : Int)), (11, .int .i64 ((n : Nat) : Int)), (12, .slice A10 ((pa ms t n).length) c11), (13, .nilIface), (14, .int .i64 ((k : Nat) : Int)), (15, .slice Au ((pa ms t k).length) cu), (16, .pointer (some ⟨b15, 0, none⟩)), (82, .bool (a0 == ((t + k : Nat) : Int)))]) rfl
                   refine xt_norm ?_
                   by_cases hc32 : a0 = ((t + k : Nat) : Int)
                   · first
                     | (exfalso; omega)
                     | (replace hA := hA.rw 82 (v' := .bool true) rfl (vb_eq_t hc32)
                        refine cd_cond_t hA rfl ?_
                        refine wp_region_lit ?_
                        refine st_run tbOk 2 hA (e' := (84, .pointer (some ⟨b15, 2, none⟩)) :: (83, .slice Au ((pa ms t k).length) cu) :: _) rfl ?_; clear hA; intro a hA
                        refine st_val hA rfl rfl (by decide) (rn_load tbOk hA rfl rfl rfl rfl (cell_row (hS.heapAt 0 rfl) rfl)) ?_; clear hA; intro a hA
                        refine st_run tbOk 1 hA (e' := (86, .pointer (some ⟨b15, 3, none⟩)) :: _) rfl ?_; clear hA; intro a hA
                        refine st_val hA rfl rfl (by decide) (rn_load tbOk hA rfl rfl rfl rfl (cell_row (hS.heapAt 0 rfl) rfl)) ?_; clear hA; intro a hA
                        refine st_run tbOk 2 hA (e' := (89, .int .i64 (IntKind.i64.wrap (a3 + ((t : Nat) : Int)))) :: (88, .int .i64 ((t : Nat) : Int)) :: _) rfl ?_; clear hA; intro a hA
                        replace hA := hA.rw 89 (v' := .int .i64 (a3 + ((t : Nat) : Int))) rfl (wr64 (by omega) (by omega) (by omega))
                        refine st_run tbOk 2 hA (e' := (91, .int .i64 (IntKind.i64.wrap ((a3 + ((t : Nat) : Int)) + ((k : Nat) : Int)))) :: (90, .int .i64 ((k : Nat) : Int)) :: _) rfl ?_; clear hA; intro a hA
                        replace hA := hA.rw 91 (v' := .int .i64 ((a3 + ((t : Nat) : Int)) + ((k : Nat) : Int))) rfl (wr64 (by omega) (by omega) (by omega))
                        refine st_run tbOk 1 hA (e' := (92, .pointer (some ⟨b15, 0, none⟩)) :: _) rfl ?_; clear hA; intro a hA
                        refine st_val hA rfl rfl (by decide) (rn_load tbOk hA rfl rfl rfl rfl (cell_row (hS.heapAt 0 rfl) rfl)) ?_; clear hA; intro a hA
                        refine st_run tbOk 1 hA (e' := (94, .int .i64 (IntKind.i64.wrap (((a3 + ((t : Nat) : Int)) + ((k : Nat) : Int)) - a0))) :: _) rfl ?_; clear hA; intro a hA
                        replace hA := hA.rw 94 (v' := .int .i64 (((a3 + ((t : Nat) : Int)) + ((k : Nat) : Int)) - a0)) rfl (wr64 (by omega) (by omega) (by omega))
                        replace hA := hA.rw 94 (v' := .int .i64 (a3 + ((t + k : Nat) : Int) - a0)) rfl (vint (by omega))
                        refine st_run tbOk 1 hA (e' := (95, .agg #[.int .i64 a2, .int .i64 (a3 + ((t + k : Nat) : Int) - a0), .int .i64 0]) :: _) rfl ?_; clear hA; intro a hA
                        refine st_buildSlice tbOk hA hS [.int .i64 a2, .int .i64 (a3 + ((t + k : Nat) : Int) - a0), .int .i64 0] rfl rfl rfl rfl rfl (by decide) (by kernel_rfl) rfl rfl (by decide) ?_; clear hA hS; intro b33 w34 a hS hA
                        replace hS := hS.front 2 (C := U) (L' := [(b33, rowO [.int .i64 a2, .int .i64 (a3 + ((t + k : Nat) : Int) - a0), .int .i64 0] 44)] :: [(b15, rowO [.int .i64 a0, .int .i64 a1, .int .i64 a2, .int .i64 a3, .bool a4] 24)] :: C9 :: C4 :: F) rfl rfl
                        refine st_append tbOk hA (m := (pa ms t k).length) (q := 1) (xs := rows encPiece (pa ms t k)) (news := rows encPiece ([(a2, a3 + ((t + k : Nat) : Int) - a0, 0)] : List (Int × Int × Int))) rfl rfl rfl rfl rfl rfl rfl rfl (by decide) hU hS (((Own.full (T := 44) (size := 3) (g := b33) (m := 1) rfl (by decide)).rd (hS.own_ 1 rfl)).x) (rows_one encPiece_ok _) (maxLen_le (by first | omega | (have h9 := pa_le ms t k; omega))) (by show ((pa ms t k).length + 1) * 24 ≤ 140737488355328; first | omega | (have h9 := pa_le ms t k; omega)) rfl rfl (by decide) ?_
                        clear hA hS; intro v35 w36 C37 a hO37 hS hA
                        replace hO37 := Own.app (l := pa ms t k) (l2 := ([(a2, a3 + ((t + k : Nat) : Int) - a0, 0)] : List (Int × Int × Int))) hO37
                        obtain ⟨A38, c39, rfl, hmc39, hxc39⟩ := hO37.open'
                        refine st_run tbOk 1 hA (e' := (15, .slice A38 (((pa ms t k) ++ ([(a2, a3 + ((t + k : Nat) : Int) - a0, 0)] : List (Int × Int × Int))).length) c39) :: _) rfl ?_; clear hA; intro a hA
                        refine wpList_nil ?_
                        replace hA := hA.sel [3, 9, 10, 11, 12, 13, 14, 15] (e' := [(3, .bool true), (9, .slice A5 ms.length c6), (10, .int .i64 ((t : Nat) : Int)), (11, .int .i64 ((n : Nat) : Int)), (12, .slice A10 ((pa ms t n).length) c11), (13, .nilIface), (14, .int .i64 ((k : Nat) : Int)), (15, .slice A38 (((pa ms t k) ++ ([(a2, a3 + ((t + k : Nat) : Int) - a0, 0)] : List (Int × Int × Int))).length) c39)]) rfl
                        refine xt_norm ?_
                        refine wp_region_lit ?_
                        refine st_run tbOk 4 hA (e' := (101, .int .i64 (IntKind.i64.wrap (((((pa ms t k) ++ ([(a2, a3 + ((t + k : Nat) : Int) - a0, 0)] : List (Int × Int × Int))).length : Nat) : Int) - 1))) :: (100, .int .i64 ((((pa ms t k) ++ ([(a2, a3 + ((t + k : Nat) : Int) - a0, 0)] : List (Int × Int × Int))).length : Nat) : Int)) :: (99, .slice A38 (((pa ms t k) ++ ([(a2, a3 + ((t + k : Nat) : Int) - a0, 0)] : List (Int × Int × Int))).length) c39) :: (98, .slice A38 (((pa ms t k) ++ ([(a2, a3 + ((t + k : Nat) : Int) - a0, 0)] : List (Int × Int × Int))).length) c39) :: _) rfl ?_; clear hA; intro a hA
                        replace hA := hA.rw 101 (v' := .int .i64 (((((pa ms t k) ++ ([(a2, a3 + ((t + k : Nat) : Int) - a0, 0)] : List (Int × Int × Int))).length : Nat) : Int) - 1)) rfl (wr64 (by omega) (by omega) (by omega))
                        have hne : 0 < ((pa ms t k) ++ ([(a2, a3 + ((t + k : Nat) : Int) - a0, 0)] : List (Int × Int × Int))).length := by rw [List.length_append]; show 0 < _ + 1; omega
                        have hxl : ((pa ms t k) ++ ([(a2, a3 + ((t + k : Nat) : Int) - a0, 0)] : List (Int × Int × Int)))[((pa ms t k) ++ ([(a2, a3 + ((t + k : Nat) : Int) - a0, 0)] : List (Int × Int × Int))).length - 1]? = some (a2, a3 + ((t + k : Nat) : Int) - a0, 0) := last_at1 _ _
                        replace hA := hA.rw 101 (v' := .int .i64 ((((pa ms t k) ++ ([(a2, a3 + ((t + k : Nat) : Int) - a0, 0)] : List (Int × Int × Int))).length - 1 : Nat) : Int)) rfl (vint (by omega))
                        obtain ⟨b40, o41, rfl⟩ := hO37.isSome (k := (((pa ms t k) ++ ([(a2, a3 + ((t + k : Nat) : Int) - a0, 0)] : List (Int × Int × Int))).length - 1)) (by omega)
                        refine st_val hA rfl rfl (by decide) (rn_indexAddr tbOk hA (((pa ms t k) ++ ([(a2, a3 + ((t + k : Nat) : Int) - a0, 0)] : List (Int × Int × Int))).length - 1) (o41 + ((((pa ms t k) ++ ([(a2, a3 + ((t + k : Nat) : Int) - a0, 0)] : List (Int × Int × Int))).length - 1) * 3)) rfl rfl rfl rfl rfl rfl (by rfl) (by omega) (by first | rfl | simp [Nat.mul_one, Nat.zero_add] | omega)) ?_; clear hA; intro a hA
                        refine st_run tbOk 1 hA (e' := (103, .pointer (some ⟨b40, o41 + ((((pa ms t k) ++ ([(a2, a3 + ((t + k : Nat) : Int) - a0, 0)] : List (Int × Int × Int))).length - 1) * 3) + 2, none⟩)) :: _) rfl ?_; clear hA; intro a hA
                        refine st_val hA rfl rfl (by decide) (rn_load tbOk hA rfl rfl rfl rfl ((hO37.rd (hS.own_ 0 rfl)).elemf (k := ((pa ms t k) ++ ([(a2, a3 + ((t + k : Nat) : Int) - a0, 0)] : List (Int × Int × Int))).length - 1) encPiece_ok hxl (j := 2) rfl)) ?_; clear hA; intro a hA
                        refine st_run tbOk 1 hA (e' := (105, .int .i64 (IntKind.i64.wrap (0 + 1))) :: _) rfl ?_; clear hA; intro a hA
                        replace hA := hA.rw 105 (v' := .int .i64 1) rfl (wr64 (by omega) (by omega) (by omega))
                        refine st_val hA rfl rfl (by decide) (rn_indexAddr tbOk hA (((pa ms t k) ++ ([(a2, a3 + ((t + k : Nat) : Int) - a0, 0)] : List (Int × Int × Int))).length - 1) (o41 + ((((pa ms t k) ++ ([(a2, a3 + ((t + k : Nat) : Int) - a0, 0)] : List (Int × Int × Int))).length - 1) * 3)) rfl rfl rfl rfl rfl rfl (by rfl) (by omega) (by first | rfl | simp [Nat.mul_one, Nat.zero_add] | omega)) ?_; clear hA; intro a hA
                        refine st_run tbOk 1 hA (e' := (107, .pointer (some ⟨b40, o41 + ((((pa ms t k) ++ ([(a2, a3 + ((t + k : Nat) : Int) - a0, 0)] : List (Int × Int × Int))).length - 1) * 3) + 2, none⟩)) :: _) rfl ?_; clear hA; intro a hA
                        refine st_store_own tbOk hA hO37 hS (((((pa ms t k) ++ ([(a2, a3 + ((t + k : Nat) : Int) - a0, 0)] : List (Int × Int × Int))).length - 1) * 3) + 2) (o41 + ((((pa ms t k) ++ ([(a2, a3 + ((t + k : Nat) : Int) - a0, 0)] : List (Int × Int × Int))).length - 1) * 3) + 2) [.int .i64 1] (rows encPiece (((pa ms t k) ++ ([(a2, a3 + ((t + k : Nat) : Int) - a0, 0)] : List (Int × Int × Int))).set (((pa ms t k) ++ ([(a2, a3 + ((t + k : Nat) : Int) - a0, 0)] : List (Int × Int × Int))).length - 1) (a2, a3 + ((t + k : Nat) : Int) - a0, 1))) rfl rfl rfl rfl (by rfl) rfl rfl (by intro u hu; rw [List.mem_singleton.1 hu]; rfl) (by simp only [rows_length encPiece_ok, List.length_cons, List.length_nil]; omega) (rows_setf encPiece_ok (a2, a3 + ((t + k : Nat) : Int) - a0, 1) hxl 2 [.int .i64 1] (Nat.le_of_ble_eq_true rfl) rfl) rfl rfl ?_; clear hS; intro w42 C43 hO43 hS
                        refine wpList_nil ?_
                        replace hA := hA.sel [3, 9, 10, 11, 12, 13, 14, 15] (e' := [(3, .bool true), (9, .slice A5 ms.length c6), (10, .int .i64 ((t : Nat) : Int)), (11, .int .i64 ((n : Nat) : Int)), (12, .slice A10 ((pa ms t n).length) c11), (13, .nilIface), (14, .int .i64 ((k : Nat) : Int)), (15, .slice (some ⟨b40, o41, none⟩) (((pa ms t k) ++ ([(a2, a3 + ((t + k : Nat) : Int) - a0, 0)] : List (Int × Int × Int))).length) c39)]) rfl
                        refine xb_norm ?_
                        refine xt_norm ?_
                        refine wp_region_lit ?_
                        have hss : ((pa ms t k) ++ ([(a2, a3 + ((t + k : Nat) : Int) - a0, 0)] : List (Int × Int × Int))).set (((pa ms t k) ++ ([(a2, a3 + ((t + k : Nat) : Int) - a0, 0)] : List (Int × Int × Int))).length - 1) (a2, a3 + ((t + k : Nat) : Int) - a0, 1) = pa ms t (k + 1) := (bump_set hxl).symm.trans (pa_new hfa (by dsimp only [ab]; omega)).symm
                        have hR9 : Own 44 3 (.slice (some ⟨b40, o41, none⟩) (pa ms t (k + 1)).length c39) (pa ms t (k + 1)).length (rows encPiece (pa ms t (k + 1))) C43 := by rw [← hss, List.length_set]; exact hO43
                        replace hA := hA.rw 15 (v' := .slice (some ⟨b40, o41, none⟩) ((pa ms t (k + 1)).length) c39) rfl (by rw [← hss, List.length_set])
                        refine st_run tbOk 2 hA (e' := (40, .int .i64 (IntKind.i64.wrap (((k : Nat) : Int) + 1))) :: (39, .int .i64 ((k : Nat) : Int)) :: _) rfl ?_; clear hA; intro a hA
                        replace hA := hA.rw 40 (v' := .int .i64 ((k + 1 : Nat) : Int)) rfl (wr64 (by omega) (by omega) (by omega))
                        refine st_run tbOk 1 hA (e' := (14, .int .i64 ((k + 1 : Nat) : Int)) :: _) rfl ?_; clear hA; intro a hA
                        refine wpList_nil ?_
                        replace hA := hA.sel [3, 9, 10, 11, 12, 13, 14, 15] (e' := [(3, .bool true), (9, .slice A5 ms.length c6), (10, .int .i64 ((t : Nat) : Int)), (11, .int .i64 ((n : Nat) : Int)), (12, .slice A10 ((pa ms t n).length) c11), (13, .nilIface), (14, .int .i64 ((k + 1 : Nat) : Int)), (15, .slice (some ⟨b40, o41, none⟩) ((pa ms t (k + 1)).length) c39)]) rfl
                        replace hS := hS.front 1 (C := [(b33, rowO [.int .i64 a2, .int .i64 (a3 + ((t + k : Nat) : Int) - a0), .int .i64 0] 44)]) (L' := C43 :: [(b15, rowO [.int .i64 a0, .int .i64 a1, .int .i64 a2, .int .i64 a3, .bool a4] 24)] :: C9 :: C4 :: F) rfl rfl
                        replace hS := hS.drop1
                        replace hS := hS.front 1 (C := [(b15, rowO [.int .i64 a0, .int .i64 a1, .int .i64 a2, .int .i64 a3, .bool a4] 24)]) (L' := C43 :: C9 :: C4 :: F) rfl rfl
                        replace hS := hS.drop1
                        replace hS := hS.front 2 (C := C4) (L' := C43 :: C9 :: F) rfl rfl
                        replace hS := hS.front 2 (C := C9) (L' := C4 :: C43 :: F) rfl rfl
                        replace hS := hS.front 2 (C := C43) (L' := C9 :: C4 :: F) rfl rfl
                        replace hA := hA.rw 3 (v' := .bool wr) rfl (congrArg Value.bool (by first | exact Eq.symm (by assumption) | exact (Bool.eq_false_iff.2 (by assumption)).symm))
                        exact lp_next _ (by omega) ⟨(k + 1), (some ⟨b40, o41, none⟩), c39, C43, rfl, (hA.sel [3, 9, 10, 11, 12, 13, 14, 15] rfl), hS, by omega, hR9⟩)
                   · first
                     | (exfalso; omega)
                     | (replace hA := hA.rw 82 (v' := .bool false) rfl (vb_eq_f hc32)
                        refine cd_cond_f hA rfl ?_
                        refine wp_skip ?_
                        refine xt_norm ?_
                        refine wp_region_lit ?_
                        refine st_run tbOk 4 hA (e' := (101, .int .i64 (IntKind.i64.wrap ((((pa ms t k).length : Nat) : Int) - 1))) :: (100, .int .i64 (((pa ms t k).length : Nat) : Int)) :: (99, .slice Au ((pa ms t k).length) cu) :: (98, .slice Au ((pa ms t k).length) cu) :: _) rfl ?_; clear hA; intro a hA
                        replace hA := hA.rw 101 (v' := .int .i64 ((((pa ms t k).length : Nat) : Int) - 1)) rfl (wr64 (by omega) (by omega) (by omega))
                        have hne : 0 < (pa ms t k).length := pa_ne (fun i hi => (hf i (by omega)).ex) (by omega)
                        obtain ⟨⟨x0, x1, x2⟩, hxl⟩ := get_ex (l := pa ms t k) (k := (pa ms t k).length - 1) (by omega)
                        have hxb := pa_pos (l := ms) (t0 := t) (n := k) (fun i hi => (hf i (by omega)).ex) _ (List.mem_of_getElem? hxl); dsimp only at hxb
                        replace hA := hA.rw 101 (v' := .int .i64 (((pa ms t k).length - 1 : Nat) : Int)) rfl (vint (by omega))
                        obtain ⟨b44, o45, rfl⟩ := hU.isSome (k := ((pa ms t k).length - 1)) (by omega)
                        refine st_val hA rfl rfl (by decide) (rn_indexAddr tbOk hA ((pa ms t k).length - 1) (o45 + (((pa ms t k).length - 1) * 3)) rfl rfl rfl rfl rfl rfl (by rfl) (by omega) (by first | rfl | simp [Nat.mul_one, Nat.zero_add] | omega)) ?_; clear hA; intro a hA
                        refine st_run tbOk 1 hA (e' := (103, .pointer (some ⟨b44, o45 + (((pa ms t k).length - 1) * 3) + 2, none⟩)) :: _) rfl ?_; clear hA; intro a hA
                        refine st_val hA rfl rfl (by decide) (rn_load tbOk hA rfl rfl rfl rfl ((hU.rd (hS.own_ 1 rfl)).elemf (k := (pa ms t k).length - 1) encPiece_ok hxl (j := 2) rfl)) ?_; clear hA; intro a hA
                        refine st_run tbOk 1 hA (e' := (105, .int .i64 (IntKind.i64.wrap (x2 + 1))) :: _) rfl ?_; clear hA; intro a hA
                        replace hA := hA.rw 105 (v' := .int .i64 (x2 + 1)) rfl (wr64 (by omega) (by omega) (by omega))
                        refine st_val hA rfl rfl (by decide) (rn_indexAddr tbOk hA ((pa ms t k).length - 1) (o45 + (((pa ms t k).length - 1) * 3)) rfl rfl rfl rfl rfl rfl (by rfl) (by omega) (by first | rfl | simp [Nat.mul_one, Nat.zero_add] | omega)) ?_; clear hA; intro a hA
                        refine st_run tbOk 1 hA (e' := (107, .pointer (some ⟨b44, o45 + (((pa ms t k).length - 1) * 3) + 2, none⟩)) :: _) rfl ?_; clear hA; intro a hA
                        replace hS := hS.front 1 (C := U) (L' := [(b15, rowO [.int .i64 a0, .int .i64 a1, .int .i64 a2, .int .i64 a3, .bool a4] 24)] :: C9 :: C4 :: F) rfl rfl
                        refine st_store_own tbOk hA hU hS ((((pa ms t k).length - 1) * 3) + 2) (o45 + (((pa ms t k).length - 1) * 3) + 2) [.int .i64 (x2 + 1)] (rows encPiece ((pa ms t k).set ((pa ms t k).length - 1) (x0, x1, x2 + 1))) rfl rfl rfl rfl (by rfl) rfl rfl (by intro u hu; rw [List.mem_singleton.1 hu]; rfl) (by simp only [rows_length encPiece_ok, List.length_cons, List.length_nil]; omega) (rows_setf encPiece_ok (x0, x1, x2 + 1) hxl 2 [.int .i64 (x2 + 1)] (Nat.le_of_ble_eq_true rfl) rfl) rfl rfl ?_; clear hS; intro w46 C47 hO47 hS
                        refine wpList_nil ?_
                        replace hA := hA.sel [3, 9, 10, 11, 12, 13, 14, 15] (e' := [(3, .bool true), (9, .slice A5 ms.length c6), (10, .int .i64 ((t : Nat) : Int)), (11, .int .i64 ((n : Nat) : Int)), (12, .slice A10 ((pa ms t n).length) c11), (13, .nilIface), (14, .int .i64 ((k : Nat) : Int)), (15, .slice (some ⟨b44, o45, none⟩) ((pa ms t k).length) cu)]) rfl
                        refine xb_norm ?_
                        refine xt_norm ?_
                        refine wp_region_lit ?_
                        have hss : (pa ms t k).set ((pa ms t k).length - 1) (x0, x1, x2 + 1) = pa ms t (k + 1) := (bump_set hxl).symm.trans (pa_old hfa (by dsimp only [ab]; omega)).symm
                        have hR9 : Own 44 3 (.slice (some ⟨b44, o45, none⟩) (pa ms t (k + 1)).length cu) (pa ms t (k + 1)).length (rows encPiece (pa ms t (k + 1))) C47 := by rw [← hss, List.length_set]; exact hO47
                        replace hA := hA.rw 15 (v' := .slice (some ⟨b44, o45, none⟩) ((pa ms t (k + 1)).length) cu) rfl (by rw [← hss, List.length_set])
                        refine st_run tbOk 2 hA (e' := (40, .int .i64 (IntKind.i64.wrap (((k : Nat) : Int) + 1))) :: (39, .int .i64 ((k : Nat) : Int)) :: _) rfl ?_; clear hA; intro a hA
                        replace hA := hA.rw 40 (v' := .int .i64 ((k + 1 : Nat) : Int)) rfl (wr64 (by omega) (by omega) (by omega))
                        refine st_run tbOk 1 hA (e' := (14, .int .i64 ((k + 1 : Nat) : Int)) :: _) rfl ?_; clear hA; intro a hA
                        refine wpList_nil ?_
                        replace hA := hA.sel [3, 9, 10, 11, 12, 13, 14, 15] (e' := [(3, .bool true), (9, .slice A5 ms.length c6), (10, .int .i64 ((t : Nat) : Int)), (11, .int .i64 ((n : Nat) : Int)), (12, .slice A10 ((pa ms t n).length) c11), (13, .nilIface), (14, .int .i64 ((k + 1 : Nat) : Int)), (15, .slice (some ⟨b44, o45, none⟩) ((pa ms t (k + 1)).length) cu)]) rfl
                        replace hS := hS.front 1 (C := [(b15, rowO [.int .i64 a0, .int .i64 a1, .int .i64 a2, .int .i64 a3, .bool a4] 24)]) (L' := C47 :: C9 :: C4 :: F) rfl rfl
                        replace hS := hS.drop1
                        replace hS := hS.front 2 (C := C4) (L' := C47 :: C9 :: F) rfl rfl
                        replace hS := hS.front 2 (C := C9) (L' := C4 :: C47 :: F) rfl rfl
                        replace hS := hS.front 2 (C := C47) (L' := C9 :: C4 :: F) rfl rfl
                        replace hA := hA.rw 3 (v' := .bool wr) rfl (congrArg Value.bool (by first | exact Eq.symm (by assumption) | exact (Bool.eq_false_iff.2 (by assumption)).symm))
                        exact lp_next _ (by omega) ⟨(k + 1), (some ⟨b44, o45, none⟩), cu, C47, rfl, (hA.sel [3, 9, 10, 11, 12, 13, 14, 15] rfl), hS, by omega, hR9⟩)))
         · first
           | (exfalso; omega)
           | (replace hA := hA.rw 3 (v' := .bool false) rfl (vb_f hc18)
              replace hA := hA.rw 59 (v' := .bool false) rfl (vb_f hc18)
              replace hA := hA.rw 60 (v' := .bool false) rfl (vb_f hc18)
              refine st_run tbOk 4 hA (e' := (64, .bool false) :: (63, undef) :: (62, undef) :: (61, undef) :: _) rfl ?_; clear hA; intro a hA
              refine wpList_nil ?_
              replace hA := hA.sel [3, 9, 10, 11, 12, 13, 14, 15, 16, 64] (e' := [(3, .bool false), (9, .slice A5 ms.length c6), (10, .int .i64 ((t : Nat) : Int)), (11, .int .i64 ((n : Nat) : Int)), (12, .slice A10 ((pa ms t n).length) c11), (13, .nilIface), (14, .int .i64 ((k : Nat) : Int)), (15, .slice Au ((pa ms t k).length) cu), (16, .pointer (some ⟨b15, 0, none⟩)), (64, .bool false)]) rfl
              refine xt_norm ?_
              refine cd_cond_f hA rfl ?_
              refine wp_skip ?_
              refine xt_norm ?_
              refine wp_seq ?_
              refine wp_seq ?_
              refine wp_region_lit ?_
              refine st_run tbOk 3 hA (e' := (75, .bool (((k : Nat) : Int) == 0)) :: (74, .bool (((k : Nat) : Int) == 0)) :: (73, .int .i64 ((k : Nat) : Int)) :: _) rfl ?_; clear hA; intro a hA
              by_cases hc48 : ((k : Nat) : Int) = 0
              · first
                | (exfalso; omega)
                | (replace hA := hA.rw 74 (v' := .bool true) rfl (vb_eq_t hc48)
                   replace hA := hA.rw 75 (v' := .bool true) rfl (vb_eq_t hc48)
                   refine st_run tbOk 7 hA (e' := (82, .bool true) :: (81, undef) :: (80, undef) :: (79, undef) :: (78, undef) :: (77, undef) :: (76, undef) :: _) rfl ?_; clear hA; intro a hA
                   refine wpList_nil ?_
                   replace hA := hA.sel [3, 9, 10, 11, 12, 13, 14, 15, 16, 82] (e' := [(3, .bool false), (9, .slice A5 ms.length c6), (10, .int .i64 ((t : Nat) : Int)), (11, .int .i64 ((n : Nat) : Int)), (12, .slice A10 ((pa ms t n).length) c11), (13, .nilIface), (14, .int .i64 ((k : Nat) : Int)), (15, .slice Au ((pa ms t k).length) cu), (16, .pointer (some ⟨b15, 0, none⟩)), (82, .bool true)]) rfl
                   refine xt_norm ?_
                   refine cd_cond_t hA rfl ?_
                   refine wp_region_lit ?_
                   refine st_run tbOk 2 hA (e' := (84, .pointer (some ⟨b15, 2, none⟩)) :: (83, .slice Au ((pa ms t k).length) cu) :: _) rfl ?_; clear hA; intro a hA
                   refine st_val hA rfl rfl (by decide) (rn_load tbOk hA rfl rfl rfl rfl (cell_row (hS.heapAt 0 rfl) rfl)) ?_; clear hA; intro a hA
                   refine st_run tbOk 1 hA (e' := (86, .pointer (some ⟨b15, 3, none⟩)) :: _) rfl ?_; clear hA; intro a hA
                   refine st_val hA rfl rfl (by decide) (rn_load tbOk hA rfl rfl rfl rfl (cell_row (hS.heapAt 0 rfl) rfl)) ?_; clear hA; intro a hA
                   refine st_run tbOk 2 hA (e' := (89, .int .i64 (IntKind.i64.wrap (a3 + ((t : Nat) : Int)))) :: (88, .int .i64 ((t : Nat) : Int)) :: _) rfl ?_; clear hA; intro a hA
                   replace hA := hA.rw 89 (v' := .int .i64 (a3 + ((t : Nat) : Int))) rfl (wr64 (by omega) (by omega) (by omega))
                   refine st_run tbOk 2 hA (e' := (91, .int .i64 (IntKind.i64.wrap ((a3 + ((t : Nat) : Int)) + ((k : Nat) : Int)))) :: (90, .int .i64 ((k : Nat) : Int)) :: _) rfl ?_; clear hA; intro a hA
                   replace hA := hA.rw 91 (v' := .int .i64 ((a3 + ((t : Nat) : Int)) + ((k : Nat) : Int))) rfl (wr64 (by omega) (by omega) (by omega))
                   refine st_run tbOk 1 hA (e' := (92, .pointer (some ⟨b15, 0, none⟩)) :: _) rfl ?_; clear hA; intro a hA
                   refine st_val hA rfl rfl (by decide) (rn_load tbOk hA rfl rfl rfl rfl (cell_row (hS.heapAt 0 rfl) rfl)) ?_; clear hA; intro a hA
                   refine st_run tbOk 1 hA (e' := (94, .int .i64 (IntKind.i64.wrap (((a3 + ((t : Nat) : Int)) + ((k : Nat) : Int)) - a0))) :: _) rfl ?_; clear hA; intro a hA
                   replace hA := hA.rw 94 (v' := .int .i64 (((a3 + ((t : Nat) : Int)) + ((k : Nat) : Int)) - a0)) rfl (wr64 (by omega) (by omega) (by omega))
                   replace hA := hA.rw 94 (v' := .int .i64 (a3 + ((t + k : Nat) : Int) - a0)) rfl (vint (by omega))
                   refine st_run tbOk 1 hA (e' := (95, .agg #[.int .i64 a2, .int .i64 (a3 + ((t + k : Nat) : Int) - a0), .int .i64 0]) :: _) rfl ?_; clear hA; intro a hA
                   refine st_buildSlice tbOk hA hS [.int .i64 a2, .int .i64 (a3 + ((t + k : Nat) : Int) - a0), .int .i64 0] rfl rfl rfl rfl rfl (by decide) (by kernel_rfl) rfl rfl (by decide) ?_; clear hA hS; intro b49 w50 a hS hA
                   replace hS := hS.front 2 (C := U) (L' := [(b49, rowO [.int .i64 a2, .int .i64 (a3 + ((t + k : Nat) : Int) - a0), .int .i64 0] 44)] :: [(b15, rowO [.int .i64 a0, .int .i64 a1, .int .i64 a2, .int .i64 a3, .bool a4] 24)] :: C9 :: C4 :: F) rfl rfl
                   refine st_append tbOk hA (m := (pa ms t k).length) (q := 1) (xs := rows encPiece (pa ms t k)) (news := rows encPiece ([(a2, a3 + ((t + k : Nat) : Int) - a0, 0)] : List (Int × Int × Int))) rfl rfl rfl rfl rfl rfl rfl rfl (by decide) hU hS (((Own.full (T := 44) (size := 3) (g := b49) (m := 1) rfl (by decide)).rd (hS.own_ 1 rfl)).x) (rows_one encPiece_ok _) (maxLen_le (by first | omega | (have h9 := pa_le ms t k; omega))) (by show ((pa ms t k).length + 1) * 24 ≤ 140737488355328; first | omega | (have h9 := pa_le ms t k; omega)) rfl rfl (by decide) ?_
                   clear hA hS; intro v51 w52 C53 a hO53 hS hA
                   replace hO53 := Own.app (l := pa ms t k) (l2 := ([(a2, a3 + ((t + k : Nat) : Int) - a0, 0)] : List (Int × Int × Int))) hO53
                   obtain ⟨A54, c55, rfl, hmc55, hxc55⟩ := hO53.open'
                   refine st_run tbOk 1 hA (e' := (15, .slice A54 (((pa ms t k) ++ ([(a2, a3 + ((t + k : Nat) : Int) - a0, 0)] : List (Int × Int × Int))).length) c55) :: _) rfl ?_; clear hA; intro a hA
                   refine wpList_nil ?_
                   replace hA := hA.sel [3, 9, 10, 11, 12, 13, 14, 15] (e' := [(3, .bool false), (9, .slice A5 ms.length c6), (10, .int .i64 ((t : Nat) : Int)), (11, .int .i64 ((n : Nat) : Int)), (12, .slice A10 ((pa ms t n).length) c11), (13, .nilIface), (14, .int .i64 ((k : Nat) : Int)), (15, .slice A54 (((pa ms t k) ++ ([(a2, a3 + ((t + k : Nat) : Int) - a0, 0)] : List (Int × Int × Int))).length) c55)]) rfl
                   refine xt_norm ?_
                   refine wp_region_lit ?_
                   refine st_run tbOk 4 hA (e' := (101, .int .i64 (IntKind.i64.wrap (((((pa ms t k) ++ ([(a2, a3 + ((t + k : Nat) : Int) - a0, 0)] : List (Int × Int × Int))).length : Nat) : Int) - 1))) :: (100, .int .i64 ((((pa ms t k) ++ ([(a2, a3 + ((t + k : Nat) : Int) - a0, 0)] : List (Int × Int × Int))).length : Nat) : Int)) :: (99, .slice A54 (((pa ms t k) ++ ([(a2, a3 + ((t + k : Nat) : Int) - a0, 0)] : List (Int × Int × Int))).length) c55) :: (98, .slice A54 (((pa ms t k) ++ ([(a2, a3 + ((t + k : Nat) : Int) - a0, 0)] : List (Int × Int × Int))).length) c55) :: _) rfl ?_; clear hA; intro a hA
                   replace hA := hA.rw 101 (v' := .int .i64 (((((pa ms t k) ++ ([(a2, a3 + ((t + k : Nat) : Int) - a0, 0)] : List (Int × Int × Int))).length : Nat) : Int) - 1)) rfl (wr64 (by omega) (by omega) (by omega))
                   have hne : 0 < ((pa ms t k) ++ ([(a2, a3 + ((t + k : Nat) : Int) - a0, 0)] : List (Int × Int × Int))).length := by rw [List.length_append]; show 0 < _ + 1; omega
                   have hxl : ((pa ms t k) ++ ([(a2, a3 + ((t + k : Nat) : Int) - a0, 0)] : List (Int × Int × Int)))[((pa ms t k) ++ ([(a2, a3 + ((t + k : Nat) : Int) - a0, 0)] : List (Int × Int × Int))).length - 1]? = some (a2, a3 + ((t + k : Nat) : Int) - a0, 0) := last_at1 _ _
                   replace hA := hA.rw 101 (v' := .int .i64 ((((pa ms t k) ++ ([(a2, a3 + ((t + k : Nat) : Int) - a0, 0)] : List (Int × Int × Int))).length - 1 : Nat) : Int)) rfl (vint (by omega))
                   obtain ⟨b56, o57, rfl⟩ := hO53.isSome (k := (((pa ms t k) ++ ([(a2, a3 + ((t + k : Nat) : Int) - a0, 0)] : List (Int × Int × Int))).length - 1)) (by omega)
                   refine st_val hA rfl rfl (by decide) (rn_indexAddr tbOk hA (((pa ms t k) ++ ([(a2, a3 + ((t + k : Nat) : Int) - a0, 0)] : List (Int × Int × Int))).length - 1) (o57 + ((((pa ms t k) ++ ([(a2, a3 + ((t + k : Nat) : Int) - a0, 0)] : List (Int × Int × Int))).length - 1) * 3)) rfl rfl rfl rfl rfl rfl (by rfl) (by omega) (by first | rfl | simp [Nat.mul_one, Nat.zero_add] | omega)) ?_; clear hA; intro a hA
                   refine st_run tbOk 1 hA (e' := (103, .pointer (some ⟨b56, o57 + ((((pa ms t k) ++ ([(a2, a3 + ((t + k : Nat) : Int) - a0, 0)] : List (Int × Int × Int))).length - 1) * 3) + 2, none⟩)) :: _) rfl ?_; clear hA; intro a hA
                   refine st_val hA rfl rfl (by decide) (rn_load tbOk hA rfl rfl rfl rfl ((hO53.rd (hS.own_ 0 rfl)).elemf (k := ((pa ms t k) ++ ([(a2, a3 + ((t + k : Nat) : Int) - a0, 0)] : List (Int × Int × Int))).length - 1) encPiece_ok hxl (j := 2) rfl)) ?_; clear hA; intro a hA
                   refine st_run tbOk 1 hA (e' := (105, .int .i64 (IntKind.i64.wrap (0 + 1))) :: _) rfl ?_; clear hA; intro a hA
                   replace hA := hA.rw 105 (v' := .int .i64 1) rfl (wr64 (by omega) (by omega) (by omega))
                   refine st_val hA rfl rfl (by decide) (rn_indexAddr tbOk hA (((pa ms t k) ++ ([(a2, a3 + ((t + k : Nat) : Int) - a0, 0)] : List (Int × Int × Int))).length - 1) (o57 + ((((pa ms t k) ++ ([(a2, a3 + ((t + k : Nat) : Int) - a0, 0)] : List (Int × Int × Int))).length - 1) * 3)) rfl rfl rfl rfl rfl rfl (by rfl) (by omega) (by first | rfl | simp [Nat.mul_one, Nat.zero_add] | omega)) ?_; clear hA; intro a hA
                   refine st_run tbOk 1 hA (e' := (107, .pointer (some ⟨b56, o57 + ((((pa ms t k) ++ ([(a2, a3 + ((t + k : Nat) : Int) - a0, 0)] : List (Int × Int × Int))).length - 1) * 3) + 2, none⟩)) :: _) rfl ?_; clear hA; intro a hA
                   refine st_store_own tbOk hA hO53 hS (((((pa ms t k) ++ ([(a2, a3 + ((t + k : Nat) : Int) - a0, 0)] : List (Int × Int × Int))).length - 1) * 3) + 2) (o57 + ((((pa ms t k) ++ ([(a2, a3 + ((t + k : Nat) : Int) - a0, 0)] : List (Int × Int × Int))).length - 1) * 3) + 2) [.int .i64 1] (rows encPiece (((pa ms t k) ++ ([(a2, a3 + ((t + k : Nat) : Int) - a0, 0)] : List (Int × Int × Int))).set (((pa ms t k) ++ ([(a2, a3 + ((t + k : Nat) : Int) - a0, 0)] : List (Int × Int × Int))).length - 1) (a2, a3 + ((t + k : Nat) : Int) - a0, 1))) rfl rfl rfl rfl (by rfl) rfl rfl (by intro u hu; rw [List.mem_singleton.1 hu]; rfl) (by simp only [rows_length encPiece_ok, List.length_cons, List.length_nil]; omega) (rows_setf encPiece_ok (a2, a3 + ((t + k : Nat) : Int) - a0, 1) hxl 2 [.int .i64 1] (Nat.le_of_ble_eq_true rfl) rfl) rfl rfl ?_; clear hS; intro w58 C59 hO59 hS
                   refine wpList_nil ?_
                   replace hA := hA.sel [3, 9, 10, 11, 12, 13, 14, 15] (e' := [(3, .bool false), (9, .slice A5 ms.length c6), (10, .int .i64 ((t : Nat) : Int)), (11, .int .i64 ((n : Nat) : Int)), (12, .slice A10 ((pa ms t n).length) c11), (13, .nilIface), (14, .int .i64 ((k : Nat) : Int)), (15, .slice (some ⟨b56, o57, none⟩) (((pa ms t k) ++ ([(a2, a3 + ((t + k : Nat) : Int) - a0, 0)] : List (Int × Int × Int))).length) c55)]) rfl
                   refine xb_norm ?_
                   refine xt_norm ?_
                   refine wp_region_lit ?_
                   have hss : ((pa ms t k) ++ ([(a2, a3 + ((t + k : Nat) : Int) - a0, 0)] : List (Int × Int × Int))).set (((pa ms t k) ++ ([(a2, a3 + ((t + k : Nat) : Int) - a0, 0)] : List (Int × Int × Int))).length - 1) (a2, a3 + ((t + k : Nat) : Int) - a0, 1) = pa ms t (k + 1) := (bump_set hxl).symm.trans (pa_new hfa (by dsimp only [ab]; omega)).symm
                   have hR9 : Own 44 3 (.slice (some ⟨b56, o57, none⟩) (pa ms t (k + 1)).length c55) (pa ms t (k + 1)).length (rows encPiece (pa ms t (k + 1))) C59 := by rw [← hss, List.length_set]; exact hO59
                   replace hA := hA.rw 15 (v' := .slice (some ⟨b56, o57, none⟩) ((pa ms t (k + 1)).length) c55) rfl (by rw [← hss, List.length_set])
                   refine st_run tbOk 2 hA (e' := (40, .int .i64 (IntKind.i64.wrap (((k : Nat) : Int) + 1))) :: (39, .int .i64 ((k : Nat) : Int)) :: _) rfl ?_; clear hA; intro a hA
                   replace hA := hA.rw 40 (v' := .int .i64 ((k + 1 : Nat) : Int)) rfl (wr64 (by omega) (by omega) (by omega))
                   refine st_run tbOk 1 hA (e' := (14, .int .i64 ((k + 1 : Nat) : Int)) :: _) rfl ?_; clear hA; intro a hA
                   refine wpList_nil ?_
                   replace hA := hA.sel [3, 9, 10, 11, 12, 13, 14, 15] (e' := [(3, .bool false), (9, .slice A5 ms.length c6), (10, .int .i64 ((t : Nat) : Int)), (11, .int .i64 ((n : Nat) : Int)), (12, .slice A10 ((pa ms t n).length) c11), (13, .nilIface), (14, .int .i64 ((k + 1 : Nat) : Int)), (15, .slice (some ⟨b56, o57, none⟩) ((pa ms t (k + 1)).length) c55)]) rfl
                   replace hS := hS.front 1 (C := [(b49, rowO [.int .i64 a2, .int .i64 (a3 + ((t + k : Nat) : Int) - a0), .int .i64 0] 44)]) (L' := C59 :: [(b15, rowO [.int .i64 a0, .int .i64 a1, .int .i64 a2, .int .i64 a3, .bool a4] 24)] :: C9 :: C4 :: F) rfl rfl
                   replace hS := hS.drop1
                   replace hS := hS.front 1 (C := [(b15, rowO [.int .i64 a0, .int .i64 a1, .int .i64 a2, .int .i64 a3, .bool a4] 24)]) (L' := C59 :: C9 :: C4 :: F) rfl rfl
                   replace hS := hS.drop1
                   replace hS := hS.front 2 (C := C4) (L' := C59 :: C9 :: F) rfl rfl
                   replace hS := hS.front 2 (C := C9) (L' := C4 :: C59 :: F) rfl rfl
                   replace hS := hS.front 2 (C := C59) (L' := C9 :: C4 :: F) rfl rfl
                   replace hA := hA.rw 3 (v' := .bool wr) rfl (congrArg Value.bool (by first | exact Eq.symm (by assumption) | exact (Bool.eq_false_iff.2 (by assumption)).symm))
                   exact lp_next _ (by omega) ⟨(k + 1), (some ⟨b56, o57, none⟩), c55, C59, rfl, (hA.sel [3, 9, 10, 11, 12, 13, 14, 15] rfl), hS, by omega, hR9⟩)
              · first
                | (exfalso; omega)
                | (replace hA := hA.rw 74 (v' := .bool false) rfl (vb_eq_f hc48)
                   replace hA := hA.rw 75 (v' := .bool false) rfl (vb_eq_f hc48)
                   refine st_run tbOk 1 hA (e' := (76, .pointer (some ⟨b15, 0, none⟩)) :: _) rfl ?_; clear hA; intro a hA
                   refine st_val hA rfl rfl (by decide) (rn_load tbOk hA rfl rfl rfl rfl (cell_row (hS.heapAt 0 rfl) rfl)) ?_; clear hA; intro a hA
                   refine st_run tbOk 3 hA (e' := (80, .int .i64 (IntKind.i64.wrap (((t : Nat) : Int) + ((k : Nat) : Int)))) :: (79, .int .i64 ((k : Nat) : Int)) :: (78, .int .i64 ((t : Nat) : Int)) :: _) rfl ?_; clear hA; intro a hA
                   replace hA := hA.rw 80 (v' := .int .i64 ((t + k : Nat) : Int)) rfl (wr64 (by omega) (by omega) (by omega))
                   refine st_run tbOk 2 hA (e' := (82, .bool (a0 == ((t + k : Nat) : Int))) :: (81, .bool (a0 == ((t + k : Nat) : Int))) :: _) rfl ?_; clear hA; intro a hA
                   refine wpList_nil ?_
                   replace hA := hA.sel [3, 9, 10, 11, 12, 13, 14, 15, 16, 82] (e' := [(3, .bool false), (9, .slice A5 ms.length c6), (10, .int .i64 ((t : Nat) : Int)), (11, .int .i64 ((n : Nat) : Int)), (12, .slice A10 ((pa ms t n).length) c11), (13, .nilIface), (14, .int .i64 ((k : Nat) : Int)), (15, .slice Au ((pa ms t k).length) cu), (16, .pointer (some ⟨b15, 0, none⟩)), (82, .bool (a0 == ((t + k : Nat) : Int)))]) rfl
                   refine xt_norm ?_
                   by_cases hc60 : a0 = ((t + k : Nat) : Int)
                   · first
                     | (exfalso; omega)
                     | (replace hA := hA.rw 82 (v' := .bool true) rfl (vb_eq_t hc60)
                        refine cd_cond_t hA rfl ?_
                        refine wp_region_lit ?_
                        refine st_run tbOk 2 hA (e' := (84, .pointer (some ⟨b15, 2, none⟩)) :: (83, .slice Au ((pa ms t k).length) cu) :: _) rfl ?_; clear hA; intro a hA
                        refine st_val hA rfl rfl (by decide) (rn_load tbOk hA rfl rfl rfl rfl (cell_row (hS.heapAt 0 rfl) rfl)) ?_; clear hA; intro a hA
                        refine st_run tbOk 1 hA (e' := (86, .pointer (some ⟨b15, 3, none⟩)) :: _) rfl ?_; clear hA; intro a hA
                        refine st_val hA rfl rfl (by decide) (rn_load tbOk hA rfl rfl rfl rfl (cell_row (hS.heapAt 0 rfl) rfl)) ?_; clear hA; intro a hA
                        refine st_run tbOk 2 hA (e' := (89, .int .i64 (IntKind.i64.wrap (a3 + ((t : Nat) : Int)))) :: (88, .int .i64 ((t : Nat) : Int)) :: _) rfl ?_; clear hA; intro a hA
                        replace hA := hA.rw 89 (v' := .int .i64 (a3 + ((t : Nat) : Int))) rfl (wr64 (by omega) (by omega) (by omega))
                        refine st_run tbOk 2 hA (e' := (91, .int .i64 (IntKind.i64.wrap ((a3 + ((t : Nat) : Int)) + ((k : Nat) : Int)))) :: (90, .int .i64 ((k : Nat) : Int)) :: _) rfl ?_; clear hA; intro a hA
                        replace hA := hA.rw 91 (v' := .int .i64 ((a3 + ((t : Nat) : Int)) + ((k : Nat) : Int))) rfl (wr64 (by omega) (by omega) (by omega))
                        refine st_run tbOk 1 hA (e' := (92, .pointer (some ⟨b15, 0, none⟩)) :: _) rfl ?_; clear hA; intro a hA
                        refine st_val hA rfl rfl (by decide) (rn_load tbOk hA rfl rfl rfl rfl (cell_row (hS.heapAt 0 rfl) rfl)) ?_; clear hA; intro a hA
                        refine st_run tbOk 1 hA (e' := (94, .int .i64 (IntKind.i64.wrap (((a3 + ((t : Nat) : Int)) + ((k : Nat) : Int)) - a0))) :: _) rfl ?_; clear hA; intro a hA
                        replace hA := hA.rw 94 (v' := .int .i64 (((a3 + ((t : Nat) : Int)) + ((k : Nat) : Int)) - a0)) rfl (wr64 (by omega) (by omega) (by omega))
                        replace hA := hA.rw 94 (v' := .int .i64 (a3 + ((t + k : Nat) : Int) - a0)) rfl (vint (by omega))
                        refine st_run tbOk 1 hA (e' := (95, .agg #[.int .i64 a2, .int .i64 (a3 + ((t + k : Nat) : Int) - a0), .int .i64 0]) :: _) rfl ?_; clear hA; intro a hA
                        refine st_buildSlice tbOk hA hS [.int .i64 a2, .int .i64 (a3 + ((t + k : Nat) : Int) - a0), .int .i64 0] rfl rfl rfl rfl rfl (by decide) (by kernel_rfl) rfl rfl (by decide) ?_; clear hA hS; intro b61 w62 a hS hA
                        replace hS := hS.front 2 (C := U) (L' := [(b61, rowO [.int .i64 a2, .int .i64 (a3 + ((t + k : Nat) : Int) - a0), .int .i64 0] 44)] :: [(b15, rowO [.int .i64 a0, .int .i64 a1, .int .i64 a2, .int .i64 a3, .bool a4] 24)] :: C9 :: C4 :: F) rfl rfl
                        refine st_append tbOk hA (m := (pa ms t k).length) (q := 1) (xs := rows encPiece (pa ms t k)) (news := rows encPiece ([(a2, a3 + ((t + k : Nat) : Int) - a0, 0)] : List (Int × Int × Int))) rfl rfl rfl rfl rfl rfl rfl rfl (by decide) hU hS (((Own.full (T := 44) (size := 3) (g := b61) (m := 1) rfl (by decide)).rd (hS.own_ 1 rfl)).x) (rows_one encPiece_ok _) (maxLen_le (by first | omega | (have h9 := pa_le ms t k; omega))) (by show ((pa ms t k).length + 1) * 24 ≤ 140737488355328; first | omega | (have h9 := pa_le ms t k; omega)) rfl rfl (by decide) ?_
                        clear hA hS; intro v63 w64 C65 a hO65 hS hA
                        replace hO65 := Own.app (l := pa ms t k) (l2 := ([(a2, a3 + ((t + k : Nat) : Int) - a0, 0)] : List (Int × Int × Int))) hO65
                        obtain ⟨A66, c67, rfl, hmc67, hxc67⟩ := hO65.open'
                        refine st_run tbOk 1 hA (e' := (15, .slice A66 (((pa ms t k) ++ ([(a2, a3 + ((t + k : Nat) : Int) - a0, 0)] : List (Int × Int × Int))).length) c67) :: _) rfl ?_; clear hA; intro a hA
                        refine wpList_nil ?_
                        replace hA := hA.sel [3, 9, 10, 11, 12, 13, 14, 15] (e' := [(3, .bool false), (9, .slice A5 ms.length c6), (10, .int .i64 ((t : Nat) : Int)), (11, .int .i64 ((n : Nat) : Int)), (12, .slice A10 ((pa ms t n).length) c11), (13, .nilIface), (14, .int .i64 ((k : Nat) : Int)), (15, .slice A66 (((pa ms t k) ++ ([(a2, a3 + ((t + k : Nat) : Int) - a0, 0)] : List (Int × Int × Int))).length) c67)]) rfl
                        refine xt_norm ?_
                        refine wp_region_lit ?_
                        refine st_run tbOk 4 hA (e' := (101, .int .i64 (IntKind.i64.wrap (((((pa ms t k) ++ ([(a2, a3 + ((t + k : Nat) : Int) - a0, 0)] : List (Int × Int × Int))).length : Nat) : Int) - 1))) :: (100, .int .i64 ((((pa ms t k) ++ ([(a2, a3 + ((t + k : Nat) : Int) - a0, 0)] : List (Int × Int × Int))).length : Nat) : Int)) :: (99, .slice A66 (((pa ms t k) ++ ([(a2, a3 + ((t + k : Nat) : Int) - a0, 0)] : List (Int × Int × Int))).length) c67) :: (98, .slice A66 (((pa ms t k) ++ ([(a2, a3 + ((t + k : Nat) : Int) - a0, 0)] : List (Int × Int × Int))).length) c67) :: _) rfl ?_; clear hA; intro a hA
                        replace hA := hA.rw 101 (v' := .int .i64 (((((pa ms t k) ++ ([(a2, a3 + ((t + k : Nat) : Int) - a0, 0)] : List (Int × Int × Int))).length : Nat) : Int) - 1)) rfl (wr64 (by omega) (by omega) (by omega))
                        have hne : 0 < ((pa ms t k) ++ ([(a2, a3 + ((t + k : Nat) : Int) - a0, 0)] : List (Int × Int × Int))).length := by rw [List.length_append]; show 0 < _ + 1; omega
                        have hxl : ((pa ms t k) ++ ([(a2, a3 + ((t + k : Nat) : Int) - a0, 0)] : List (Int × Int × Int)))[((pa ms t k) ++ ([(a2, a3 + ((t + k : Nat) : Int) - a0, 0)] : List (Int × Int × Int))).length - 1]? = some (a2, a3 + ((t + k : Nat) : Int) - a0, 0) := last_at1 _ _
                        replace hA := hA.rw 101 (v' := .int .i64 ((((pa ms t k) ++ ([(a2, a3 + ((t + k : Nat) : Int) - a0, 0)] : List (Int × Int × Int))).length - 1 : Nat) : Int)) rfl (vint (by omega))
                        obtain ⟨b68, o69, rfl⟩ := hO65.isSome (k := (((pa ms t k) ++ ([(a2, a3 + ((t + k : Nat) : Int) - a0, 0)] : List (Int × Int × Int))).length - 1)) (by omega)
                        refine st_val hA rfl rfl (by decide) (rn_indexAddr tbOk hA (((pa ms t k) ++ ([(a2, a3 + ((t + k : Nat) : Int) - a0, 0)] : List (Int × Int × Int))).length - 1) (o69 + ((((pa ms t k) ++ ([(a2, a3 + ((t + k : Nat) : Int) - a0, 0)] : List (Int × Int × Int))).length - 1) * 3)) rfl rfl rfl rfl rfl rfl (by rfl) (by omega) (by first | rfl | simp [Nat.mul_one, Nat.zero_add] | omega)) ?_; clear hA; intro a hA
                        refine st_run tbOk 1 hA (e' := (103, .pointer (some ⟨b68, o69 + ((((pa ms t k) ++ ([(a2, a3 + ((t + k : Nat) : Int) - a0, 0)] : List (Int × Int × Int))).length - 1) * 3) + 2, none⟩)) :: _) rfl ?_; clear hA; intro a hA
                        refine st_val hA rfl rfl (by decide) (rn_load tbOk hA rfl rfl rfl rfl ((hO65.rd (hS.own_ 0 rfl)).elemf (k := ((pa ms t k) ++ ([(a2, a3 + ((t + k : Nat) : Int) - a0, 0)] : List (Int × Int × Int))).length - 1) encPiece_ok hxl (j := 2) rfl)) ?_; clear hA; intro a hA
                        refine st_run tbOk 1 hA (e' := (105, .int .i64 (IntKind.i64.wrap (0 + 1))) :: _) rfl ?_; clear hA; intro a hA
                        replace hA := hA.rw 105 (v' := .int .i64 1) rfl (wr64 (by omega) (by omega) (by omega))
                        refine st_val hA rfl rfl (by decide) (rn_indexAddr tbOk hA (((pa ms t k) ++ ([(a2, a3 + ((t + k : Nat) : Int) - a0, 0)] : List (Int × Int × Int))).length - 1) (o69 + ((((pa ms t k) ++ ([(a2, a3 + ((t + k : Nat) : Int) - a0, 0)] : List (Int × Int × Int))).length - 1) * 3)) rfl rfl rfl rfl rfl rfl (by rfl) (by omega) (by first | rfl | simp [Nat.mul_one, Nat.zero_add] | omega)) ?_; clear hA; intro a hA
                        refine st_run tbOk 1 hA (e' := (107, .pointer (some ⟨b68, o69 + ((((pa ms t k) ++ ([(a2, a3 + ((t + k : Nat) : Int) - a0, 0)] : List (Int × Int × Int))).length - 1) * 3) + 2, none⟩)) :: _) rfl ?_; clear hA; intro a hA
                        refine st_store_own tbOk hA hO65 hS (((((pa ms t k) ++ ([(a2, a3 + ((t + k : Nat) : Int) - a0, 0)] : List (Int × Int × Int))).length - 1) * 3) + 2) (o69 + ((((pa ms t k) ++ ([(a2, a3 + ((t + k : Nat) : Int) - a0, 0)] : List (Int × Int × Int))).length - 1) * 3) + 2) [.int .i64 1] (rows encPiece (((pa ms t k) ++ ([(a2, a3 + ((t + k : Nat) : Int) - a0, 0)] : List (Int × Int × Int))).set (((pa ms t k) ++ ([(a2, a3 + ((t + k : Nat) : Int) - a0, 0)] : List (Int × Int × Int))).length - 1) (a2, a3 + ((t + k : Nat) : Int) - a0, 1))) rfl rfl rfl rfl (by rfl) rfl rfl (by intro u hu; rw [List.mem_singleton.1 hu]; rfl) (by simp only [rows_length encPiece_ok, List.length_cons, List.length_nil]; omega) (rows_setf encPiece_ok (a2, a3 + ((t + k : Nat) : Int) - a0, 1) hxl 2 [.int .i64 1] (Nat.le_of_ble_eq_true rfl) rfl) rfl rfl ?_; clear hS; intro w70 C71 hO71 hS
                        refine wpList_nil ?_
                        replace hA := hA.sel [3, 9, 10, 11, 12, 13, 14, 15] (e' := [(3, .bool false), (9, .slice A5 ms.length c6), (10, .int .i64 ((t : Nat) : Int)), (11, .int .i64 ((n : Nat) : Int)), (12, .slice A10 ((pa ms t n).length) c11), (13, .nilIface), (14, .int .i64 ((k : Nat) : Int)), (15, .slice (some ⟨b68, o69, none⟩) (((pa ms t k) ++ ([(a2, a3 + ((t + k : Nat) : Int) - a0, 0)] : List (Int × Int × Int))).length) c67)]) rfl
                        refine xb_norm ?_
                        refine xt_norm ?_
                        refine wp_region_lit ?_
                        have hss : ((pa ms t k) ++ ([(a2, a3 + ((t + k : Nat) : Int) - a0, 0)] : List (Int × Int × Int))).set (((pa ms t k) ++ ([(a2, a3 + ((t + k : Nat) : Int) - a0, 0)] : List (Int × Int × Int))).length - 1) (a2, a3 + ((t + k : Nat) : Int) - a0, 1) = pa ms t (k + 1) := (bump_set hxl).symm.trans (pa_new hfa (by dsimp only [ab]; omega)).symm
                        have hR9 : Own 44 3 (.slice (some ⟨b68, o69, none⟩) (pa ms t (k + 1)).length c67) (pa ms t (k + 1)).length (rows encPiece (pa ms t (k + 1))) C71 := by rw [← hss, List.length_set]; exact hO71
                        replace hA := hA.rw 15 (v' := .slice (some ⟨b68, o69, none⟩) ((pa ms t (k + 1)).length) c67) rfl (by rw [← hss, List.length_set])
                        refine st_run tbOk 2 hA (e' := (40, .int .i64 (IntKind.i64.wrap (((k : Nat) : Int) + 1))) :: (39, .int .i64 ((k : Nat) : Int)) :: _) rfl ?_; clear hA; intro a hA
                        replace hA := hA.rw 40 (v' := .int .i64 ((k + 1 : Nat) : Int)) rfl (wr64 (by omega) (by omega) (by omega))
                        refine st_run tbOk 1 hA (e' := (14, .int .i64 ((k + 1 : Nat) : Int)) :: _) rfl ?_; clear hA; intro a hA
                        refine wpList_nil ?_
                        replace hA := hA.sel [3, 9, 10, 11, 12, 13, 14, 15] (e' := [(3, .bool false), (9, .slice A5 ms.length c6), (10, .int .i64 ((t : Nat) : Int)), (11, .int .i64 ((n : Nat) : Int)), (12, .slice A10 ((pa ms t n).length) c11), (13, .nilIface), (14, .int .i64 ((k + 1 : Nat) : Int)), (15, .slice (some ⟨b68, o69, none⟩) ((pa ms t (k + 1)).length) c67)]) rfl
                        replace hS := hS.front 1 (C := [(b61, rowO [.int .i64 a2, .int .i64 (a3 + ((t + k : Nat) : Int) - a0), .int .i64 0] 44)]) (L' := C71 :: [(b15, rowO [.int .i64 a0, .int .i64 a1, .int .i64 a2, .int .i64 a3, .bool a4] 24)] :: C9 :: C4 :: F) rfl rfl
                        replace hS := hS.drop1
                        replace hS := hS.front 1 (C := [(b15, rowO [.int .i64 a0, .int .i64 a1, .int .i64 a2, .int .i64 a3, .bool a4] 24)]) (L' := C71 :: C9 :: C4 :: F) rfl rfl
                        replace hS := hS.drop1
                        replace hS := hS.front 2 (C := C4) (L' := C71 :: C9 :: F) rfl rfl
                        replace hS := hS.front 2 (C := C9) (L' := C4 :: C71 :: F) rfl rfl
                        replace hS := hS.front 2 (C := C71) (L' := C9 :: C4 :: F) rfl rfl
                        replace hA := hA.rw 3 (v' := .bool wr) rfl (congrArg Value.bool (by first | exact Eq.symm (by assumption) | exact (Bool.eq_false_iff.2 (by assumption)).symm))
                        exact lp_next _ (by omega) ⟨(k + 1), (some ⟨b68, o69, none⟩), c67, C71, rfl, (hA.sel [3, 9, 10, 11, 12, 13, 14, 15] rfl), hS, by omega, hR9⟩)
                   · first
                     | (exfalso; omega)
                     | (replace hA := hA.rw 82 (v' := .bool false) rfl (vb_eq_f hc60)
                        refine cd_cond_f hA rfl ?_
                        refine wp_skip ?_
                        refine xt_norm ?_
                        refine wp_region_lit ?_
                        refine st_run tbOk 4 hA (e' := (101, .int .i64 (IntKind.i64.wrap ((((pa ms t k).length : Nat) : Int) - 1))) :: (100, .int .i64 (((pa ms t k).length : Nat) : Int)) :: (99, .slice Au ((pa ms t k).length) cu) :: (98, .slice Au ((pa ms t k).length) cu) :: _) rfl ?_; clear hA; intro a hA
                        replace hA := hA.rw 101 (v' := .int .i64 ((((pa ms t k).length : Nat) : Int) - 1)) rfl (wr64 (by omega) (by omega) (by omega))
                        have hne : 0 < (pa ms t k).length := pa_ne (fun i hi => (hf i (by omega)).ex) (by omega)
                        obtain ⟨⟨x0, x1, x2⟩, hxl⟩ := get_ex (l := pa ms t k) (k := (pa ms t k).length - 1) (by omega)
                        have hxb := pa_pos (l := ms) (t0 := t) (n := k) (fun i hi => (hf i (by omega)).ex) _ (List.mem_of_getElem? hxl); dsimp only at hxb
                        replace hA := hA.rw 101 (v' := .int .i64 (((pa ms t k).length - 1 : Nat) : Int)) rfl (vint (by omega))
                        obtain ⟨b72, o73, rfl⟩ := hU.isSome (k := ((pa ms t k).length - 1)) (by omega)
                        refine st_val hA rfl rfl (by decide) (rn_indexAddr tbOk hA ((pa ms t k).length - 1) (o73 + (((pa ms t k).length - 1) * 3)) rfl rfl rfl rfl rfl rfl (by rfl) (by omega) (by first | rfl | simp [Nat.mul_one, Nat.zero_add] | omega)) ?_; clear hA; intro a hA
                        refine st_run tbOk 1 hA (e' := (103, .pointer (some ⟨b72, o73 + (((pa ms t k).length - 1) * 3) + 2, none⟩)) :: _) rfl ?_; clear hA; intro a hA
                        refine st_val hA rfl rfl (by decide) (rn_load tbOk hA rfl rfl rfl rfl ((hU.rd (hS.own_ 1 rfl)).elemf (k := (pa ms t k).length - 1) encPiece_ok hxl (j := 2) rfl)) ?_; clear hA; intro a hA
                        refine st_run tbOk 1 hA (e' := (105, .int .i64 (IntKind.i64.wrap (x2 + 1))) :: _) rfl ?_; clear hA; intro a hA
                        replace hA := hA.rw 105 (v' := .int .i64 (x2 + 1)) rfl (wr64 (by omega) (by omega) (by omega))
                        refine st_val hA rfl rfl (by decide) (rn_indexAddr tbOk hA ((pa ms t k).length - 1) (o73 + (((pa ms t k).length - 1) * 3)) rfl rfl rfl rfl rfl rfl (by rfl) (by omega) (by first | rfl | simp [Nat.mul_one, Nat.zero_add] | omega)) ?_; clear hA; intro a hA
                        refine st_run tbOk 1 hA (e' := (107, .pointer (some ⟨b72, o73 + (((pa ms t k).length - 1) * 3) + 2, none⟩)) :: _) rfl ?_; clear hA; intro a hA
                        replace hS := hS.front 1 (C := U) (L' := [(b15, rowO [.int .i64 a0, .int .i64 a1, .int .i64 a2, .int .i64 a3, .bool a4] 24)] :: C9 :: C4 :: F) rfl rfl
                        refine st_store_own tbOk hA hU hS ((((pa ms t k).length - 1) * 3) + 2) (o73 + (((pa ms t k).length - 1) * 3) + 2) [.int .i64 (x2 + 1)] (rows encPiece ((pa ms t k).set ((pa ms t k).length - 1) (x0, x1, x2 + 1))) rfl rfl rfl rfl (by rfl) rfl rfl (by intro u hu; rw [List.mem_singleton.1 hu]; rfl) (by simp only [rows_length encPiece_ok, List.length_cons, List.length_nil]; omega) (rows_setf encPiece_ok (x0, x1, x2 + 1) hxl 2 [.int .i64 (x2 + 1)] (Nat.le_of_ble_eq_true rfl) rfl) rfl rfl ?_; clear hS; intro w74 C75 hO75 hS
                        refine wpList_nil ?_
                        replace hA := hA.sel [3, 9, 10, 11, 12, 13, 14, 15] (e' := [(3, .bool false), (9, .slice A5 ms.length c6), (10, .int .i64 ((t : Nat) : Int)), (11, .int .i64 ((n : Nat) : Int)), (12, .slice A10 ((pa ms t n).length) c11), (13, .nilIface), (14, .int .i64 ((k : Nat) : Int)), (15, .slice (some ⟨b72, o73, none⟩) ((pa ms t k).length) cu)]) rfl
                        refine xb_norm ?_
                        refine xt_norm ?_
                        refine wp_region_lit ?_
                        have hss : (pa ms t k).set ((pa ms t k).length - 1) (x0, x1, x2 + 1) = pa ms t (k + 1) := (bump_set hxl).symm.trans (pa_old hfa (by dsimp only [ab]; omega)).symm
                        have hR9 : Own 44 3 (.slice (some ⟨b72, o73, none⟩) (pa ms t (k + 1)).length cu) (pa ms t (k + 1)).length (rows encPiece (pa ms t (k + 1))) C75 := by rw [← hss, List.length_set]; exact hO75
                        replace hA := hA.rw 15 (v' := .slice (some ⟨b72, o73, none⟩) ((pa ms t (k + 1)).length) cu) rfl (by rw [← hss, List.length_set])
                        refine st_run tbOk 2 hA (e' := (40, .int .i64 (IntKind.i64.wrap (((k : Nat) : Int) + 1))) :: (39, .int .i64 ((k : Nat) : Int)) :: _) rfl ?_; clear hA; intro a hA
                        replace hA := hA.rw 40 (v' := .int .i64 ((k + 1 : Nat) : Int)) rfl (wr64 (by omega) (by omega) (by omega))
                        refine st_run tbOk 1 hA (e' := (14, .int .i64 ((k + 1 : Nat) : Int)) :: _) rfl ?_; clear hA; intro a hA
                        refine wpList_nil ?_
                        replace hA := hA.sel [3, 9, 10, 11, 12, 13, 14, 15] (e' := [(3, .bool false), (9, .slice A5 ms.length c6), (10, .int .i64 ((t : Nat) : Int)), (11, .int .i64 ((n : Nat) : Int)), (12, .slice A10 ((pa ms t n).length) c11), (13, .nilIface), (14, .int .i64 ((k + 1 : Nat) : Int)), (15, .slice (some ⟨b72, o73, none⟩) ((pa ms t (k + 1)).length) cu)]) rfl
                        replace hS := hS.front 1 (C := [(b15, rowO [.int .i64 a0, .int .i64 a1, .int .i64 a2, .int .i64 a3, .bool a4] 24)]) (L' := C75 :: C9 :: C4 :: F) rfl rfl
                        replace hS := hS.drop1
                        replace hS := hS.front 2 (C := C4) (L' := C75 :: C9 :: F) rfl rfl
                        replace hS := hS.front 2 (C := C9) (L' := C4 :: C75 :: F) rfl rfl
                        replace hS := hS.front 2 (C := C75) (L' := C9 :: C4 :: F) rfl rfl
                        replace hA := hA.rw 3 (v' := .bool wr) rfl (congrArg Value.bool (by first | exact Eq.symm (by assumption) | exact (Bool.eq_false_iff.2 (by assumption)).symm))
                        exact lp_next _ (by omega) ⟨(k + 1), (some ⟨b72, o73, none⟩), cu, C75, rfl, (hA.sel [3, 9, 10, 11, 12, 13, 14, 15] rfl), hS, by omega, hR9⟩))))
    · first
      | (exfalso; omega)
      | (replace hA := hA.rw 38 (v' := .bool false) rfl (vb_false hc13)
         refine cd_cond_f hA rfl ?_
         refine wp_exit ?_
         refine xt_exit ?_
         refine xt_exit ?_
         refine cd_exit_eq ?_
         refine xt_norm ?_
         refine wp_seq ?_
         refine wp_seq ?_
         refine wp_region_lit ?_
         have hkn : k = n := by omega
         subst hkn
         refine st_run tbOk 9 hA (e' := (116, .bool ((((pa ms t k).length : Nat) : Int) != (((pa ms t k).length : Nat) : Int))) :: (115, .bool ((((pa ms t k).length : Nat) : Int) != (((pa ms t k).length : Nat) : Int))) :: (114, .int .i64 (((pa ms t k).length : Nat) : Int)) :: (113, .slice Au ((pa ms t k).length) cu) :: (112, .int .i64 (((pa ms t k).length : Nat) : Int)) :: (111, .slice A10 ((pa ms t k).length) c11) :: (110, .bool false) :: (109, .bool false) :: (108, .nilIface) :: _) rfl ?_; clear hA; intro a hA
         refine wpList_nil ?_
         replace hA := hA.sel [12, 15, 116] (e' := [(12, .slice A10 ((pa ms t k).length) c11), (15, .slice Au ((pa ms t k).length) cu), (116, .bool ((((pa ms t k).length : Nat) : Int) != (((pa ms t k).length : Nat) : Int)))]) rfl
         refine xt_norm ?_
         by_cases hc76 : (((pa ms t k).length : Nat) : Int) = (((pa ms t k).length : Nat) : Int)
         · first
           | (exfalso; omega)
           | (replace hA := hA.rw 116 (v' := .bool false) rfl (vb_ne_f hc76)
              refine cd_cond_f hA rfl ?_
              refine wp_skip ?_
              refine xt_norm ?_
              refine wp_seq ?_
              refine wp_seq ?_
              refine wp_region_lit ?_
              refine st_run tbOk 3 hA (e' := (119, .int .i64 0) :: (118, .int .i64 (((pa ms t k).length : Nat) : Int)) :: (117, .slice A10 ((pa ms t k).length) c11) :: _) rfl ?_; clear hA; intro a hA
              refine wpList_nil ?_
              replace hA := hA.sel [12, 15, 118, 119] (e' := [(12, .slice A10 ((pa ms t k).length) c11), (15, .slice Au ((pa ms t k).length) cu), (118, .int .i64 (((pa ms t k).length : Nat) : Int)), (119, .int .i64 0)]) rfl
              refine xt_norm ?_
              refine wp_block ?_
              refine wp_loop_ghost (fun m a w => ∃ (j : Nat), m = (pa ms t k).length - j ∧ Has a 132 [(12, .slice A10 ((pa ms t k).length) c11), (15, .slice Au ((pa ms t k).length) cu), (118, .int .i64 (((pa ms t k).length : Nat) : Int)), (119, .int .i64 ((j : Nat) : Int))] ∧ St w0 w (U :: C9 :: C4 :: F) ∧ (j ≤ (pa ms t k).length)) ((pa ms t k).length - 0)
                ⟨0, rfl, (hA.sel [12, 15, 118, 119] rfl), hS, Nat.zero_le _⟩ ?_
              clear hA hS; rintro m0 a w77 ⟨j, rfl, hA, hS, hj⟩
              refine wp_seq ?_
              refine wp_region_lit ?_
              refine st_run tbOk 1 hA (e' := (120, .bool (decide (((j : Nat) : Int) < (((pa ms t k).length : Nat) : Int)))) :: _) rfl ?_; clear hA; intro a hA
              refine wpList_nil ?_
              refine xt_norm ?_
              refine wp_seq ?_
              by_cases hc78 : ((j : Nat) : Int) < (((pa ms t k).length : Nat) : Int)
              · first
                | (exfalso; omega)
                | (replace hA := hA.rw 120 (v' := .bool true) rfl (vb_true hc78)
                   refine cd_cond_t hA rfl ?_
                   refine wp_skip ?_
                   refine xt_norm ?_
                   refine wp_seq ?_
                   refine wp_block ?_
                   refine wp_seq ?_
                   refine wp_region_lit ?_
                   refine st_run tbOk 2 hA (e' := (18, .int .i64 ((j : Nat) : Int)) :: (121, .int .i64 ((j : Nat) : Int)) :: _) rfl ?_; clear hA; intro a hA
                   refine wpList_nil ?_
                   replace hA := hA.sel [12, 15, 18, 118, 119] (e' := [(12, .slice A10 ((pa ms t k).length) c11), (15, .slice Au ((pa ms t k).length) cu), (18, .int .i64 ((j : Nat) : Int)), (118, .int .i64 (((pa ms t k).length : Nat) : Int)), (119, .int .i64 ((j : Nat) : Int))]) rfl
                   refine xt_norm ?_
                   refine wp_seq ?_
                   obtain ⟨b79, o80, rfl⟩ := hO9.isSome (k := j) (by omega)
                   obtain ⟨b81, o82, rfl⟩ := hU.isSome (k := j) (by omega)
                   obtain ⟨x83, hx83⟩ := get_ex (l := pa ms t k) (k := j) (by omega)
                   obtain ⟨x83f0, x83f1, x83f2⟩ := x83
                   refine wp_draw (fun w' => St w0 w' (U :: C9 :: C4 :: F)) [] [(0, true), (1, true), (2, true), (3, true), (4, true), (5, true), (6, true), (7, true), (8, true)] mixed (by kernel_rfl) (by rintro c a w ⟨_, _, h, _⟩; cases h) (by rfl) (by kernel_rfl) ?_
                   replace hS := hS.drew
                   refine dr_run tbOk 2 hA hS (e' := (123, .int .i64 ((j : Nat) : Int)) :: (122, .slice (some ⟨b79, o80, none⟩) ((pa ms t k).length) c11) :: _) rfl ?_; clear hA; intro a hA
                   refine dr_y hA rfl rfl rfl (by decide) hS (fun w' hS' => rn_indexAddr tbOk hA j (o80 + (j * 3)) rfl rfl rfl rfl rfl rfl (by rfl) (by omega) (by first | rfl | simp [Nat.mul_one, Nat.zero_add] | omega)) ?_; clear hA; intro a hA
                   refine dr_y hA rfl rfl rfl (by decide) hS (fun w' hS' => rn_loadA tbOk hA ([.int .i64 x83f0, .int .i64 x83f1, .int .i64 x83f2]) rfl rfl rfl rfl (by rfl) ((hO9.rd (hS'.own_ 1 rfl)).elem (k := j) encPiece_ok hx83)) ?_; clear hA; intro a hA
                   refine dr_run tbOk 2 hA hS (e' := (127, .int .i64 ((j : Nat) : Int)) :: (126, .slice (some ⟨b81, o82, none⟩) ((pa ms t k).length) cu) :: _) rfl ?_; clear hA; intro a hA
                   refine dr_y hA rfl rfl rfl (by decide) hS (fun w' hS' => rn_indexAddr tbOk hA j (o82 + (j * 3)) rfl rfl rfl rfl rfl rfl (by rfl) (by omega) (by first | rfl | simp [Nat.mul_one, Nat.zero_add] | omega)) ?_; clear hA; intro a hA
                   refine dr_y hA rfl rfl rfl (by decide) hS (fun w' hS' => rn_loadA tbOk hA ([.int .i64 x83f0, .int .i64 x83f1, .int .i64 x83f2]) rfl rfl rfl rfl (by rfl) ((hU.rd (hS'.own_ 0 rfl)).elem (k := j) encPiece_ok hx83)) ?_; clear hA; intro a hA
                   refine dr_y hA rfl rfl rfl (by decide) hS (fun w' hS' => rn_neA tbOk hA rfl rfl rfl rfl rfl (by kernel_rfl) (by kernel_rfl) rfl) ?_; clear hA; intro a hA
                   replace hA := hA.rw 130 (v' := .bool false) rfl (by simp)
                   refine dr_end ?_
                   replace hA := hA.sel [12, 15, 118, 119, 130] (e' := [(12, .slice (some ⟨b79, o80, none⟩) ((pa ms t k).length) c11), (15, .slice (some ⟨b81, o82, none⟩) ((pa ms t k).length) cu), (118, .int .i64 (((pa ms t k).length : Nat) : Int)), (119, .int .i64 ((j : Nat) : Int)), (130, .bool false)]) rfl
                   refine xt_norm ?_
                   refine cd_cond_f hA rfl ?_
                   refine wp_skip ?_
                   refine xb_norm ?_
                   refine xt_norm ?_
                   refine wp_region_lit ?_
                   refine st_run tbOk 1 hA (e' := (131, .int .i64 (IntKind.i64.wrap (((j : Nat) : Int) + 1))) :: _) rfl ?_; clear hA; intro a hA
                   replace hA := hA.rw 131 (v' := .int .i64 ((j + 1 : Nat) : Int)) rfl (wr64 (by omega) (by omega) (by omega))
                   refine st_run tbOk 1 hA (e' := (119, .int .i64 ((j + 1 : Nat) : Int)) :: _) rfl ?_; clear hA; intro a hA
                   refine wpList_nil ?_
                   replace hA := hA.sel [12, 15, 118, 119] (e' := [(12, .slice (some ⟨b79, o80, none⟩) ((pa ms t k).length) c11), (15, .slice (some ⟨b81, o82, none⟩) ((pa ms t k).length) cu), (118, .int .i64 (((pa ms t k).length : Nat) : Int)), (119, .int .i64 ((j + 1 : Nat) : Int))]) rfl
                   replace hS := hS.front 2 (C := C4) (L' := U :: C9 :: F) rfl rfl
                   replace hS := hS.front 2 (C := C9) (L' := C4 :: U :: F) rfl rfl
                   replace hS := hS.front 2 (C := U) (L' := C9 :: C4 :: F) rfl rfl
                   exact lp_next _ (by omega) ⟨(j + 1), rfl, (hA.sel [12, 15, 118, 119] rfl), hS, by omega⟩)
              · first
                | (exfalso; omega)
                | (replace hA := hA.rw 120 (v' := .bool false) rfl (vb_false hc78)
                   refine cd_cond_f hA rfl ?_
                   refine wp_exit ?_
                   refine xt_exit ?_
                   refine xt_exit ?_
                   refine cd_exit_eq ?_
                   refine xt_norm ?_
                   refine wp_seq ?_
                   refine wp_region_lit ?_
                   refine st_run tbOk 1 hA (e' := (8, .bool true) :: _) rfl ?_; clear hA; intro a hA
                   refine wpList_nil ?_
                   replace hA := hA.sel [8] (e' := [(8, .bool true)]) rfl
                   refine xt_norm ?_
                   refine wp_ret ?_
                   refine ret1 (fn := Tryd.f4) hA rfl rfl ?_
                   replace hS := hS.drop1
                   replace hS := hS.drop1
                   replace hS := hS.drop1
                   exact ⟨rfl, hS⟩))
         · first
           | (exfalso; omega)
           | (replace hA := hA.rw 116 (v' := .bool true) rfl (vb_ne_t hc76)
              refine cd_cond_t hA rfl ?_
              refine wp_seq ?_
              refine wp_region_lit ?_
              refine st_run tbOk 1 hA (e' := (8, .bool false) :: _) rfl ?_; clear hA; intro a hA
              refine wpList_nil ?_
              replace hA := hA.sel [8] (e' := [(8, .bool false)]) rfl
              refine xt_norm ?_
              refine wp_ret (xt_ret ?_)
              refine ret1 (fn := Tryd.f4) hA rfl rfl ?_
              exfalso; omega))
  · refine st_call0 hA rfl rfl rfl isfn14 rfl rfl (by decide) (pieces_none14 hS (l := ms) (RdS.own hO4 0 rfl) t n wr hM (by omega) (by omega) hj0 hf hbad) ?_
    clear hA hS; rintro v w84 a ⟨rfl, hS⟩ hA
    refine st_run tbOk 5 hA (e' := (13, .iface 30 (.int .i64 13)) :: (12, .slice none 0 0) :: (35, .iface 30 (.int .i64 13)) :: (34, .slice none 0 0) :: (28, .tuple #[.slice none 0 0, .iface 30 (.int .i64 13)]) :: _) rfl ?_; clear hA; intro a hA
    refine wpList_nil ?_
    replace hA := hA.sel [3, 9, 10, 11, 12, 13] (e' := [(3, .bool wr), (9, .slice A5 ms.length c6), (10, .int .i64 ((t : Nat) : Int)), (11, .int .i64 ((n : Nat) : Int)), (12, .slice none 0 0), (13, .iface 30 (.int .i64 13))]) rfl
    refine xt_norm ?_
    refine wp_seq ?_
    refine wp_region_lit ?_
    refine st_run tbOk 1 hA (e' := (14, .int .i64 0) :: _) rfl ?_; clear hA; intro a hA
    refine wpList_nil ?_
    refine xt_norm ?_
    refine wp_seq ?_
    refine wp_region_lit ?_
    refine st_run tbOk 1 hA (e' := (15, .slice none 0 0) :: _) rfl ?_; clear hA; intro a hA
    refine wpList_nil ?_
    refine xt_norm ?_
    refine wp_seq ?_
    refine wp_block ?_
    replace hS := hS.nil
    replace hS := hS.front 1 (C := C4) (L' := [] :: F) rfl rfl
    replace hS := hS.front 1 (C := []) (L' := C4 :: F) rfl rfl
    refine wp_loop_ghost (fun m a w => ∃ (k : Nat) (Au : Option Addr) (cu : Nat) (U : Chunk), m = n - k ∧ Has a 132 [(3, .bool wr), (9, .slice A5 ms.length c6), (10, .int .i64 ((t : Nat) : Int)), (11, .int .i64 ((n : Nat) : Int)), (12, .slice none 0 0), (13, .iface 30 (.int .i64 13)), (14, .int .i64 ((k : Nat) : Int)), (15, .slice Au ((pa ms t k).length) cu)] ∧ St w0 w (U :: C4 :: F) ∧ (k ≤ j0) ∧ (Own 44 3 (.slice Au (pa ms t k).length cu) (pa ms t k).length (rows encPiece (pa ms t k)) U)) (n - 0)
      ⟨0, none, 0, ([]), rfl, (hA.sel [3, 9, 10, 11, 12, 13, 14, 15] rfl), hS, Nat.zero_le _, (Own.nil 44 3)⟩ ?_
    clear hA hS; rintro m0 a w85 ⟨k, Au, cu, U, rfl, hA, hS, hk, hU⟩
    have hpk := pa_le ms t k
    refine wp_seq ?_
    refine wp_seq ?_
    refine wp_region_lit ?_
    refine st_run tbOk 3 hA (e' := (38, .bool (decide (((k : Nat) : Int) < ((n : Nat) : Int)))) :: (37, .int .i64 ((n : Nat) : Int)) :: (36, .int .i64 ((k : Nat) : Int)) :: _) rfl ?_; clear hA; intro a hA
    refine wpList_nil ?_
    replace hA := hA.sel [3, 9, 10, 11, 12, 13, 14, 15, 38] (e' := [(3, .bool wr), (9, .slice A5 ms.length c6), (10, .int .i64 ((t : Nat) : Int)), (11, .int .i64 ((n : Nat) : Int)), (12, .slice none 0 0), (13, .iface 30 (.int .i64 13)), (14, .int .i64 ((k : Nat) : Int)), (15, .slice Au ((pa ms t k).length) cu), (38, .bool (decide (((k : Nat) : Int) < ((n : Nat) : Int))))]) rfl
    refine xt_norm ?_
    by_cases hc86 : ((k : Nat) : Int) < ((n : Nat) : Int)
    · first
      | (exfalso; omega)
      | (replace hA := hA.rw 38 (v' := .bool true) rfl (vb_true hc86)
         refine cd_cond_t hA rfl ?_
         refine wp_skip ?_
         refine xt_norm ?_
         refine wp_seq ?_
         refine wp_block ?_
         refine wp_seq ?_
         refine wp_region_lit ?_
         refine st_run tbOk 4 hA (e' := (45, .int .i64 (IntKind.i64.wrap (((t : Nat) : Int) + ((k : Nat) : Int)))) :: (44, .int .i64 ((k : Nat) : Int)) :: (43, .int .i64 ((t : Nat) : Int)) :: (42, .slice A5 ms.length c6) :: _) rfl ?_; clear hA; intro a hA
         replace hA := hA.rw 45 (v' := .int .i64 ((t + k : Nat) : Int)) rfl (wr64 (by omega) (by omega) (by omega))
         rcases Nat.lt_or_ge k j0 with hjj | hjj
         · obtain ⟨a, hfa, haw⟩ := hf k (by omega)
           obtain ⟨a0, a1, a2, a3, a4⟩ := a
           obtain ⟨i, hi, hin, hfirst⟩ := fnd_ix hfa
           have hks := hM.s _ (List.mem_of_getElem? hi); dsimp only [SOk, ab, az, ag, ao] at hks
           have hin2 := hin; dsimp only [InA, ab, az] at hin2
           refine st_call0 hA rfl rfl rfl isfn15 rfl rfl (by decide) (find_hit15 hS (l := ms) (RdS.own hO4 1 rfl) hM.s ((t + k : Nat) : Int) (y := (a0, a1, a2, a3, a4)) hi hin hfirst) ?_
           clear hA hS; rintro v w87 a ⟨rfl, hS⟩ hA
           refine st_run tbOk 3 hA (e' := (48, .bool true) :: (47, .agg #[.int .i64 a0, .int .i64 a1, .int .i64 a2, .int .i64 a3, .bool a4]) :: (41, .tuple #[.agg #[.int .i64 a0, .int .i64 a1, .int .i64 a2, .int .i64 a3, .bool a4], .bool true]) :: _) rfl ?_; clear hA; intro a hA
           refine st_alloc tbOk hA hS [.int .i64 0, .int .i64 0, .int .i64 0, .int .i64 0, .bool false] rfl rfl rfl rfl rfl (by decide) ?_; clear hA hS; intro b88 w89 a hS hA
           refine st_store tbOk hA hS [.int .i64 a0, .int .i64 a1, .int .i64 a2, .int .i64 a3, .bool a4] [.int .i64 a0, .int .i64 a1, .int .i64 a2, .int .i64 a3, .bool a4] rfl rfl rfl rfl rfl rfl (by simp [Value.oneCell']) (Nat.le_of_ble_eq_true rfl) rfl rfl rfl ?_; clear hS; intro w90 hS
           refine st_run tbOk 1 hA (e' := (17, .bool true) :: _) rfl ?_; clear hA; intro a hA
           refine wpList_nil ?_
           replace hA := hA.sel [3, 9, 10, 11, 12, 13, 14, 15, 16, 17] (e' := [(3, .bool wr), (9, .slice A5 ms.length c6), (10, .int .i64 ((t : Nat) : Int)), (11, .int .i64 ((n : Nat) : Int)), (12, .slice none 0 0), (13, .iface 30 (.int .i64 13)), (14, .int .i64 ((k : Nat) : Int)), (15, .slice Au ((pa ms t k).length) cu), (16, .pointer (some ⟨b88, 0, none⟩)), (17, .bool true)]) rfl
           refine xt_norm ?_
           refine wp_seq ?_
           refine wp_seq ?_
           refine wp_region_lit ?_
           refine st_run tbOk 2 hA (e' := (50, .bool false) :: (49, .bool true) :: _) rfl ?_; clear hA; intro a hA
           refine wpList_nil ?_
           replace hA := hA.sel [3, 9, 10, 11, 12, 13, 14, 15, 16, 50] (e' := [(3, .bool wr), (9, .slice A5 ms.length c6), (10, .int .i64 ((t : Nat) : Int)), (11, .int .i64 ((n : Nat) : Int)), (12, .slice none 0 0), (13, .iface 30 (.int .i64 13)), (14, .int .i64 ((k : Nat) : Int)), (15, .slice Au ((pa ms t k).length) cu), (16, .pointer (some ⟨b88, 0, none⟩)), (50, .bool false)]) rfl
           refine xt_norm ?_
           refine cd_cond_f hA rfl ?_
           refine wp_skip ?_
           refine xt_norm ?_
           refine wp_seq ?_
           refine wp_seq ?_
           refine wp_region_lit ?_
           refine st_run tbOk 2 hA (e' := (60, .bool wr) :: (59, .bool wr) :: _) rfl ?_; clear hA; intro a hA
           by_cases hc91 : wr = true
           · first
             | (exfalso; omega)
             | (replace hA := hA.rw 3 (v' := .bool true) rfl (vb_t hc91)
                replace hA := hA.rw 59 (v' := .bool true) rfl (vb_t hc91)
                replace hA := hA.rw 60 (v' := .bool true) rfl (vb_t hc91)
                refine st_run tbOk 1 hA (e' := (61, .pointer (some ⟨b88, 4, none⟩)) :: _) rfl ?_; clear hA; intro a hA
                refine st_val hA rfl rfl (by decide) (rn_load tbOk hA rfl rfl rfl rfl (cell_row (hS.heapAt 0 rfl) rfl)) ?_; clear hA; intro a hA
                have hc92 : a4 = true := haw (by first | rfl | assumption)
                replace hA := hA.rw 62 (v' := .bool true) rfl (vb_t hc92)
                refine st_run tbOk 2 hA (e' := (64, .bool false) :: (63, .bool false) :: _) rfl ?_; clear hA; intro a hA
                refine wpList_nil ?_
                replace hA := hA.sel [3, 9, 10, 11, 12, 13, 14, 15, 16, 64] (e' := [(3, .bool true), (9, .slice A5 ms.length c6), (10, .int .i64 ((t : Nat) : Int)), (11, .int .i64 ((n : Nat) : Int)), (12, .slice none 0 0), (13, .iface 30 (.int .i64 13)), (14, .int .i64 ((k : Nat) : Int)), (15, .slice Au ((pa ms t k).length) cu), (16, .pointer (some ⟨b88, 0, none⟩)), (64, .bool false)]) rfl
                refine xt_norm ?_
                refine cd_cond_f hA rfl ?_
                refine wp_skip ?_
                refine xt_norm ?_
                refine wp_seq ?_
                refine wp_seq ?_
                refine wp_region_lit ?_
                refine st_run tbOk 3 hA (e' := (75, .bool (((k : Nat) : Int) == 0)) :: (74, .bool (((k : Nat) : Int) == 0)) :: (73, .int .i64 ((k : Nat) : Int)) :: _) rfl ?_; clear hA; intro a hA
                by_cases hc93 : ((k : Nat) : Int) = 0
                · first
                  | (exfalso; omega)
                  | (replace hA := hA.rw 74 (v' := .bool true) rfl (vb_eq_t hc93)
                     replace hA := hA.rw 75 (v' := .bool true) rfl (vb_eq_t hc93)
                     refine st_run tbOk 7 hA (e' := (82, .bool true) :: (81, undef) :: (80, undef) :: (79, undef) :: (78, undef) :: (77, undef) :: (76, undef) :: _) rfl ?_; clear hA; intro a hA
                     refine wpList_nil ?_
                     replace hA := hA.sel [3, 9, 10, 11, 12, 13, 14, 15, 16, 82] (e' := [(3, .bool true), (9, .slice A5 ms.length c6), (10, .int .i64 ((t : Nat) : Int)), (11, .int .i64 ((n : Nat) : Int)), (12, .slice none 0 0), (13, .iface 30 (.int .i64 13)), (14, .int .i64 ((k : Nat) : Int)), (15, .slice Au ((pa ms t k).length) cu), (16, .pointer (some ⟨b88, 0, none⟩)), (82, .bool true)]) rfl
                     refine xt_norm ?_
                     refine cd_cond_t hA rfl ?_
                     refine wp_region_lit ?_
                     refine st_run tbOk 2 hA (e' := (84, .pointer (some ⟨b88, 2, none⟩)) :: (83, .slice Au ((pa ms t k).length) cu) :: _) rfl ?_; clear hA; intro a hA
                     refine st_val hA rfl rfl (by decide) (rn_load tbOk hA rfl rfl rfl rfl (cell_row (hS.heapAt 0 rfl) rfl)) ?_; clear hA; intro a hA
                     refine st_run tbOk 1 hA (e' := (86, .pointer (some ⟨b88, 3, none⟩)) :: _) rfl ?_; clear hA; intro a hA
                     refine st_val hA rfl rfl (by decide) (rn_load tbOk hA rfl rfl rfl rfl (cell_row (hS.heapAt 0 rfl) rfl)) ?_; clear hA; intro a hA
                     refine st_run tbOk 2 hA (e' := (89, .int .i64 (IntKind.i64.wrap (a3 + ((t : Nat) : Int)))) :: (88, .int .i64 ((t : Nat) : Int)) :: _) rfl ?_; clear hA; intro a hA
                     replace hA := hA.rw 89 (v' := .int .i64 (a3 + ((t : Nat) : Int))) rfl (wr64 (by omega) (by omega) (by omega))
                     refine st_run tbOk 2 hA (e' := (91, .int .i64 (IntKind.i64.wrap ((a3 + ((t : Nat) : Int)) + ((k : Nat) : Int)))) :: (90, .int .i64 ((k : Nat) : Int)) :: _) rfl ?_; clear hA; intro a hA
                     replace hA := hA.rw 91 (v' := .int .i64 ((a3 + ((t : Nat) : Int)) + ((k : Nat) : Int))) rfl (wr64 (by omega) (by omega) (by omega))
                     refine st_run tbOk 1 hA (e' := (92, .pointer (some ⟨b88, 0, none⟩)) :: _) rfl ?_; clear hA; intro a hA
                     refine st_val hA rfl rfl (by decide) (rn_load tbOk hA rfl rfl rfl rfl (cell_row (hS.heapAt 0 rfl) rfl)) ?_; clear hA; intro a hA
                     refine st_run tbOk 1 hA (e' := (94, .int .i64 (IntKind.i64.wrap (((a3 + ((t : Nat) : Int)) + ((k : Nat) : Int)) - a0))) :: _) rfl ?_; clear hA; intro a hA
                     replace hA := hA.rw 94 (v' := .int .i64 (((a3 + ((t : Nat) : Int)) + ((k : Nat) : Int)) - a0)) rfl (wr64 (by omega) (by omega) (by omega))
                     replace hA := hA.rw 94 (v' := .int .i64 (a3 + ((t + k : Nat) : Int) - a0)) rfl (vint (by omega))
                     refine st_run tbOk 1 hA (e' := (95, .agg #[.int .i64 a2, .int .i64 (a3 + ((t + k : Nat) : Int) - a0), .int .i64 0]) :: _) rfl ?_; clear hA; intro a hA
                     refine st_buildSlice tbOk hA hS [.int .i64 a2, .int .i64 (a3 + ((t + k : Nat) : Int) - a0), .int .i64 0] rfl rfl rfl rfl rfl (by decide) (by kernel_rfl) rfl rfl (by decide) ?_; clear hA hS; intro b94 w95 a hS hA
                     replace hS := hS.front 2 (C := U) (L' := [(b94, rowO [.int .i64 a2, .int .i64 (a3 + ((t + k : Nat) : Int) - a0), .int .i64 0] 44)] :: [(b88, rowO [.int .i64 a0, .int .i64 a1, .int .i64 a2, .int .i64 a3, .bool a4] 24)] :: C4 :: F) rfl rfl
                     refine st_append tbOk hA (m := (pa ms t k).length) (q := 1) (xs := rows encPiece (pa ms t k)) (news := rows encPiece ([(a2, a3 + ((t + k : Nat) : Int) - a0, 0)] : List (Int × Int × Int))) rfl rfl rfl rfl rfl rfl rfl rfl (by decide) hU hS (((Own.full (T := 44) (size := 3) (g := b94) (m := 1) rfl (by decide)).rd (hS.own_ 1 rfl)).x) (rows_one encPiece_ok _) (maxLen_le (by first | omega | (have h9 := pa_le ms t k; omega))) (by show ((pa ms t k).length + 1) * 24 ≤ 140737488355328; first | omega | (have h9 := pa_le ms t k; omega)) rfl rfl (by decide) ?_
                     clear hA hS; intro v96 w97 C98 a hO98 hS hA
                     replace hO98 := Own.app (l := pa ms t k) (l2 := ([(a2, a3 + ((t + k : Nat) : Int) - a0, 0)] : List (Int × Int × Int))) hO98
                     obtain ⟨A99, c100, rfl, hmc100, hxc100⟩ := hO98.open'
                     refine st_run tbOk 1 hA (e' := (15, .slice A99 (((pa ms t k) ++ ([(a2, a3 + ((t + k : Nat) : Int) - a0, 0)] : List (Int × Int × Int))).length) c100) :: _) rfl ?_; clear hA; intro a hA
                     refine wpList_nil ?_
                     replace hA := hA.sel [3, 9, 10, 11, 12, 13, 14, 15] (e' := [(3, .bool true), (9, .slice A5 ms.length c6), (10, .int .i64 ((t : Nat) : Int)), (11, .int .i64 ((n : Nat) : Int)), (12, .slice none 0 0), (13, .iface 30 (.int .i64 13)), (14, .int .i64 ((k : Nat) : Int)), (15, .slice A99 (((pa ms t k) ++ ([(a2, a3 + ((t + k : Nat) : Int) - a0, 0)] : List (Int × Int × Int))).length) c100)]) rfl
                     refine xt_norm ?_
                     refine wp_region_lit ?_
                     refine st_run tbOk 4 hA (e' := (101, .int .i64 (IntKind.i64.wrap (((((pa ms t k) ++ ([(a2, a3 + ((t + k : Nat) : Int) - a0, 0)] : List (Int × Int × Int))).length : Nat) : Int) - 1))) :: (100, .int .i64 ((((pa ms t k) ++ ([(a2, a3 + ((t + k : Nat) : Int) - a0, 0)] : List (Int × Int × Int))).length : Nat) : Int)) :: (99, .slice A99 (((pa ms t k) ++ ([(a2, a3 + ((t + k : Nat) : Int) - a0, 0)] : List (Int × Int × Int))).length) c100) :: (98, .slice A99 (((pa ms t k) ++ ([(a2, a3 + ((t + k : Nat) : Int) - a0, 0)] : List (Int × Int × Int))).length) c100) :: _) rfl ?_; clear hA; intro a hA
                     replace hA := hA.rw 101 (v' := .int .i64 (((((pa ms t k) ++ ([(a2, a3 + ((t + k : Nat) : Int) - a0, 0)] : List (Int × Int × Int))).length : Nat) : Int) - 1)) rfl (wr64 (by omega) (by omega) (by omega))
                     have hne : 0 < ((pa ms t k) ++ ([(a2, a3 + ((t + k : Nat) : Int) - a0, 0)] : List (Int × Int × Int))).length := by rw [List.length_append]; show 0 < _ + 1; omega
                     have hxl : ((pa ms t k) ++ ([(a2, a3 + ((t + k : Nat) : Int) - a0, 0)] : List (Int × Int × Int)))[((pa ms t k) ++ ([(a2, a3 + ((t + k : Nat) : Int) - a0, 0)] : List (Int × Int × Int))).length - 1]? = some (a2, a3 + ((t + k : Nat) : Int) - a0, 0) := last_at1 _ _
                     replace hA := hA.rw 101 (v' := .int .i64 ((((pa ms t k) ++ ([(a2, a3 + ((t + k : Nat) : Int) - a0, 0)] : List (Int × Int × Int))).length - 1 : Nat) : Int)) rfl (vint (by omega))
                     obtain ⟨b101, o102, rfl⟩ := hO98.isSome (k := (((pa ms t k) ++ ([(a2, a3 + ((t + k : Nat) : Int) - a0, 0)] : List (Int × Int × Int))).length - 1)) (by omega)
                     refine st_val hA rfl rfl (by decide) (rn_indexAddr tbOk hA (((pa ms t k) ++ ([(a2, a3 + ((t + k : Nat) : Int) - a0, 0)] : List (Int × Int × Int))).length - 1) (o102 + ((((pa ms t k) ++ ([(a2, a3 + ((t + k : Nat) : Int) - a0, 0)] : List (Int × Int × Int))).length - 1) * 3)) rfl rfl rfl rfl rfl rfl (by rfl) (by omega) (by first | rfl | simp [Nat.mul_one, Nat.zero_add] | omega)) ?_; clear hA; intro a hA
                     refine st_run tbOk 1 hA (e' := (103, .pointer (some ⟨b101, o102 + ((((pa ms t k) ++ ([(a2, a3 + ((t + k : Nat) : Int) - a0, 0)] : List (Int × Int × Int))).length - 1) * 3) + 2, none⟩)) :: _) rfl ?_; clear hA; intro a hA
                     refine st_val hA rfl rfl (by decide) (rn_load tbOk hA rfl rfl rfl rfl ((hO98.rd (hS.own_ 0 rfl)).elemf (k := ((pa ms t k) ++ ([(a2, a3 + ((t + k : Nat) : Int) - a0, 0)] : List (Int × Int × Int))).length - 1) encPiece_ok hxl (j := 2) rfl)) ?_; clear hA; intro a hA
                     refine st_run tbOk 1 hA (e' := (105, .int .i64 (IntKind.i64.wrap (0 + 1))) :: _) rfl ?_; clear hA; intro a hA
                     replace hA := hA.rw 105 (v' := .int .i64 1) rfl (wr64 (by omega) (by omega) (by omega))
                     refine st_val hA rfl rfl (by decide) (rn_indexAddr tbOk hA (((pa ms t k) ++ ([(a2, a3 + ((t + k : Nat) : Int) - a0, 0)] : List (Int × Int × Int))).length - 1) (o102 + ((((pa ms t k) ++ ([(a2, a3 + ((t + k : Nat) : Int) - a0, 0)] : List (Int × Int × Int))).length - 1) * 3)) rfl rfl rfl rfl rfl rfl (by rfl) (by omega) (by first | rfl | simp [Nat.mul_one, Nat.zero_add] | omega)) ?_; clear hA; intro a hA
                     refine st_run tbOk 1 hA (e' := (107, .pointer (some ⟨b101, o102 + ((((pa ms t k) ++ ([(a2, a3 + ((t + k : Nat) : Int) - a0, 0)] : List (Int × Int × Int))).length - 1) * 3) + 2, none⟩)) :: _) rfl ?_; clear hA; intro a hA
                     refine st_store_own tbOk hA hO98 hS (((((pa ms t k) ++ ([(a2, a3 + ((t + k : Nat) : Int) - a0, 0)] : List (Int × Int × Int))).length - 1) * 3) + 2) (o102 + ((((pa ms t k) ++ ([(a2, a3 + ((t + k : Nat) : Int) - a0, 0)] : List (Int × Int × Int))).length - 1) * 3) + 2) [.int .i64 1] (rows encPiece (((pa ms t k) ++ ([(a2, a3 + ((t + k : Nat) : Int) - a0, 0)] : List (Int × Int × Int))).set (((pa ms t k) ++ ([(a2, a3 + ((t + k : Nat) : Int) - a0, 0)] : List (Int × Int × Int))).length - 1) (a2, a3 + ((t + k : Nat) : Int) - a0, 1))) rfl rfl rfl rfl (by rfl) rfl rfl (by intro u hu; rw [List.mem_singleton.1 hu]; rfl) (by simp only [rows_length encPiece_ok, List.length_cons, List.length_nil]; omega) (rows_setf encPiece_ok (a2, a3 + ((t + k : Nat) : Int) - a0, 1) hxl 2 [.int .i64 1] (Nat.le_of_ble_eq_true rfl) rfl) rfl rfl ?_; clear hS; intro w103 C104 hO104 hS
                     refine wpList_nil ?_
                     replace hA := hA.sel [3, 9, 10, 11, 12, 13, 14, 15] (e' := [(3, .bool true), (9, .slice A5 ms.length c6), (10, .int .i64 ((t : Nat) : Int)), (11, .int .i64 ((n : Nat) : Int)), (12, .slice none 0 0), (13, .iface 30 (.int .i64 13)), (14, .int .i64 ((k : Nat) : Int)), (15, .slice (some ⟨b101, o102, none⟩) (((pa ms t k) ++ ([(a2, a3 + ((t + k : Nat) : Int) - a0, 0)] : List (Int × Int × Int))).length) c100)]) rfl
                     refine xb_norm ?_
                     refine xt_norm ?_
                     refine wp_region_lit ?_
                     have hss : ((pa ms t k) ++ ([(a2, a3 + ((t + k : Nat) : Int) - a0, 0)] : List (Int × Int × Int))).set (((pa ms t k) ++ ([(a2, a3 + ((t + k : Nat) : Int) - a0, 0)] : List (Int × Int × Int))).length - 1) (a2, a3 + ((t + k : Nat) : Int) - a0, 1) = pa ms t (k + 1) := (bump_set hxl).symm.trans (pa_new hfa (by dsimp only [ab]; omega)).symm
                     have hR9 : Own 44 3 (.slice (some ⟨b101, o102, none⟩) (pa ms t (k + 1)).length c100) (pa ms t (k + 1)).length (rows encPiece (pa ms t (k + 1))) C104 := by rw [← hss, List.length_set]; exact hO104
                     replace hA := hA.rw 15 (v' := .slice (some ⟨b101, o102, none⟩) ((pa ms t (k + 1)).length) c100) rfl (by rw [← hss, List.length_set])
                     refine st_run tbOk 2 hA (e' := (40, .int .i64 (IntKind.i64.wrap (((k : Nat) : Int) + 1))) :: (39, .int .i64 ((k : Nat) : Int)) :: _) rfl ?_; clear hA; intro a hA
                     replace hA := hA.rw 40 (v' := .int .i64 ((k + 1 : Nat) : Int)) rfl (wr64 (by omega) (by omega) (by omega))
                     refine st_run tbOk 1 hA (e' := (14, .int .i64 ((k + 1 : Nat) : Int)) :: _) rfl ?_; clear hA; intro a hA
                     refine wpList_nil ?_
                     replace hA := hA.sel [3, 9, 10, 11, 12, 13, 14, 15] (e' := [(3, .bool true), (9, .slice A5 ms.length c6), (10, .int .i64 ((t : Nat) : Int)), (11, .int .i64 ((n : Nat) : Int)), (12, .slice none 0 0), (13, .iface 30 (.int .i64 13)), (14, .int .i64 ((k + 1 : Nat) : Int)), (15, .slice (some ⟨b101, o102, none⟩) ((pa ms t (k + 1)).length) c100)]) rfl
                     replace hS := hS.front 1 (C := [(b94, rowO [.int .i64 a2, .int .i64 (a3 + ((t + k : Nat) : Int) - a0), .int .i64 0] 44)]) (L' := C104 :: [(b88, rowO [.int .i64 a0, .int .i64 a1, .int .i64 a2, .int .i64 a3, .bool a4] 24)] :: C4 :: F) rfl rfl
                     replace hS := hS.drop1
                     replace hS := hS.front 1 (C := [(b88, rowO [.int .i64 a0, .int .i64 a1, .int .i64 a2, .int .i64 a3, .bool a4] 24)]) (L' := C104 :: C4 :: F) rfl rfl
                     replace hS := hS.drop1
                     replace hS := hS.front 1 (C := C4) (L' := C104 :: F) rfl rfl
                     replace hS := hS.front 1 (C := C104) (L' := C4 :: F) rfl rfl
                     replace hA := hA.rw 3 (v' := .bool wr) rfl (congrArg Value.bool (by first | exact Eq.symm (by assumption) | exact (Bool.eq_false_iff.2 (by assumption)).symm))
                     exact lp_next _ (by omega) ⟨(k + 1), (some ⟨b101, o102, none⟩), c100, C104, rfl, (hA.sel [3, 9, 10, 11, 12, 13, 14, 15] rfl), hS, by omega, hR9⟩)
                · first
                  | (exfalso; omega)
                  | (replace hA := hA.rw 74 (v' := .bool false) rfl (vb_eq_f hc93)
                     replace hA := hA.rw 75 (v' := .bool false) rfl (vb_eq_f hc93)
                     refine st_run tbOk 1 hA (e' := (76, .pointer (some ⟨b88, 0, none⟩)) :: _) rfl ?_; clear hA; intro a hA
                     refine st_val hA rfl rfl (by decide) (rn_load tbOk hA rfl rfl rfl rfl (cell_row (hS.heapAt 0 rfl) rfl)) ?_; clear hA; intro a hA
                     refine st_run tbOk 3 hA (e' := (80, .int .i64 (IntKind.i64.wrap (((t : Nat) : Int) + ((k : Nat) : Int)))) :: (79, .int .i64 ((k : Nat) : Int)) :: (78, .int .i64 ((t : Nat) : Int)) :: _) rfl ?_; clear hA; intro a hA
                     replace hA := hA.rw 80 (v' := .int .i64 ((t + k : Nat) : Int)) rfl (wr64 (by omega) (by omega) (by omega))
                     refine st_run tbOk 2 hA (e' := (82, .bool (a0 == ((t + k : Nat) : Int))) :: (81, .bool (a0 == ((t + k : Nat) : Int))) :: _) rfl ?_; clear hA; intro a hA
                     refine wpList_nil ?_
                     replace hA := hA.sel [3, 9, 10, 11, 12, 13, 14, 15, 16, 82] (e' := [(3, .bool true), (9, .slice A5 ms.length c6), (10, .int .i64 ((t : Nat) : Int)), (11, .int .i64 ((n : Nat) : Int)), (12, .slice none 0 0), (13, .iface 30 (.int .i64 13)), (14, .int .i64 ((k : Nat) : Int)), (15, .slice Au ((pa ms t k).length) cu), (16, .pointer (some ⟨b88, 0, none⟩)), (82, .bool (a0 == ((t + k : Nat) : Int)))]) rfl
                     refine xt_norm ?_
                     by_cases hc105 : a0 = ((t + k : Nat) : Int)
                     · first
                       | (exfalso; omega)
                       | (replace hA := hA.rw 82 (v' := .bool true) rfl (vb_eq_t hc105)
                          refine cd_cond_t hA rfl ?_
                          refine wp_region_lit ?_
                          refine st_run tbOk 2 hA (e' := (84, .pointer (some ⟨b88, 2, none⟩)) :: (83, .slice Au ((pa ms t k).length) cu) :: _) rfl ?_; clear hA; intro a hA
                          refine st_val hA rfl rfl (by decide) (rn_load tbOk hA rfl rfl rfl rfl (cell_row (hS.heapAt 0 rfl) rfl)) ?_; clear hA; intro a hA
                          refine st_run tbOk 1 hA (e' := (86, .pointer (some ⟨b88, 3, none⟩)) :: _) rfl ?_; clear hA; intro a hA
                          refine st_val hA rfl rfl (by decide) (rn_load tbOk hA rfl rfl rfl rfl (cell_row (hS.heapAt 0 rfl) rfl)) ?_; clear hA; intro a hA
                          refine st_run tbOk 2 hA (e' := (89, .int .i64 (IntKind.i64.wrap (a3 + ((t : Nat) : Int)))) :: (88, .int .i64 ((t : Nat) : Int)) :: _) rfl ?_; clear hA; intro a hA
                          replace hA := hA.rw 89 (v' := .int .i64 (a3 + ((t : Nat) : Int))) rfl (wr64 (by omega) (by omega) (by omega))
                          refine st_run tbOk 2 hA (e' := (91, .int .i64 (IntKind.i64.wrap ((a3 + ((t : Nat) : Int)) + ((k : Nat) : Int)))) :: (90, .int .i64 ((k : Nat) : Int)) :: _) rfl ?_; clear hA; intro a hA
                          replace hA := hA.rw 91 (v' := .int .i64 ((a3 + ((t : Nat) : Int)) + ((k : Nat) : Int))) rfl (wr64 (by omega) (by omega) (by omega))
                          refine st_run tbOk 1 hA (e' := (92, .pointer (some ⟨b88, 0, none⟩)) :: _) rfl ?_; clear hA; intro a hA
                          refine st_val hA rfl rfl (by decide) (rn_load tbOk hA rfl rfl rfl rfl (cell_row (hS.heapAt 0 rfl) rfl)) ?_; clear hA; intro a hA
                          refine st_run tbOk 1 hA (e' := (94, .int .i64 (IntKind.i64.wrap (((a3 + ((t : Nat) : Int)) + ((k : Nat) : Int)) - a0))) :: _) rfl ?_; clear hA; intro a hA
                          replace hA := hA.rw 94 (v' := .int .i64 (((a3 + ((t : Nat) : Int)) + ((k : Nat) : Int)) - a0)) rfl (wr64 (by omega) (by omega) (by omega))
                          replace hA := hA.rw 94 (v' := .int .i64 (a3 + ((t + k : Nat) : Int) - a0)) rfl (vint (by omega))
                          refine st_run tbOk 1 hA (e' := (95, .agg #[.int .i64 a2, .int .i64 (a3 + ((t + k : Nat) : Int) - a0), .int .i64 0]) :: _) rfl ?_; clear hA; intro a hA
                          refine st_buildSlice tbOk hA hS [.int .i64 a2, .int .i64 (a3 + ((t + k : Nat) : Int) - a0), .int .i64 0] rfl rfl rfl rfl rfl (by decide) (by kernel_rfl) rfl rfl (by decide) ?_; clear hA hS; intro b106 w107 a hS hA
                          replace hS := hS.front 2 (C := U) (L' := [(b106, rowO [.int .i64 a2, .int .i64 (a3 + ((t + k : Nat) : Int) - a0), .int .i64 0] 44)] :: [(b88, rowO [.int .i64 a0, .int .i64 a1, .int .i64 a2, .int .i64 a3, .bool a4] 24)] :: C4 :: F) rfl rfl
                          refine st_append tbOk hA (m := (pa ms t k).length) (q := 1) (xs := rows encPiece (pa ms t k)) (news := rows encPiece ([(a2, a3 + ((t + k : Nat) : Int) - a0, 0)] : List (Int × Int × Int))) rfl rfl rfl rfl rfl rfl rfl rfl (by decide) hU hS (((Own.full (T := 44) (size := 3) (g := b106) (m := 1) rfl (by decide)).rd (hS.own_ 1 rfl)).x) (rows_one encPiece_ok _) (maxLen_le (by first | omega | (have h9 := pa_le ms t k; omega))) (by show ((pa ms t k).length + 1) * 24 ≤ 140737488355328; first | omega | (have h9 := pa_le ms t k; omega)) rfl rfl (by decide) ?_
                          clear hA hS; intro v108 w109 C110 a hO110 hS hA
                          replace hO110 := Own.app (l := pa ms t k) (l2 := ([(a2, a3 + ((t + k : Nat) : Int) - a0, 0)] : List (Int × Int × Int))) hO110
                          obtain ⟨A111, c112, rfl, hmc112, hxc112⟩ := hO110.open'
                          refine st_run tbOk 1 hA (e' := (15, .slice A111 (((pa ms t k) ++ ([(a2, a3 + ((t + k : Nat) : Int) - a0, 0)] : List (Int × Int × Int))).length) c112) :: _) rfl ?_; clear hA; intro a hA
                          refine wpList_nil ?_
                          replace hA := hA.sel [3, 9, 10, 11, 12, 13, 14, 15] (e' := [(3, .bool true), (9, .slice A5 ms.length c6), (10, .int .i64 ((t : Nat) : Int)), (11, .int .i64 ((n : Nat) : Int)), (12, .slice none 0 0), (13, .iface 30 (.int .i64 13)), (14, .int .i64 ((k : Nat) : Int)), (15, .slice A111 (((pa ms t k) ++ ([(a2, a3 + ((t + k : Nat) : Int) - a0, 0)] : List (Int × Int × Int))).length) c112)]) rfl
                          refine xt_norm ?_
                          refine wp_region_lit ?_
                          refine st_run tbOk 4 hA (e' := (101, .int .i64 (IntKind.i64.wrap (((((pa ms t k) ++ ([(a2, a3 + ((t + k : Nat) : Int) - a0, 0)] : List (Int × Int × Int))).length : Nat) : Int) - 1))) :: (100, .int .i64 ((((pa ms t k) ++ ([(a2, a3 + ((t + k : Nat) : Int) - a0, 0)] : List (Int × Int × Int))).length : Nat) : Int)) :: (99, .slice A111 (((pa ms t k) ++ ([(a2, a3 + ((t + k : Nat) : Int) - a0, 0)] : List (Int × Int × Int))).length) c112) :: (98, .slice A111 (((pa ms t k) ++ ([(a2, a3 + ((t + k : Nat) : Int) - a0, 0)] : List (Int × Int × Int))).length) c112) :: _) rfl ?_; clear hA; intro a hA
                          replace hA := hA.rw 101 (v' := .int .i64 (((((pa ms t k) ++ ([(a2, a3 + ((t + k : Nat) : Int) - a0, 0)] : List (Int × Int × Int))).length : Nat) : Int) - 1)) rfl (wr64 (by omega) (by omega) (by omega))
                          have hne : 0 < ((pa ms t k) ++ ([(a2, a3 + ((t + k : Nat) : Int) - a0, 0)] : List (Int × Int × Int))).length := by rw [List.length_append]; show 0 < _ + 1; omega
                          have hxl : ((pa ms t k) ++ ([(a2, a3 + ((t + k : Nat) : Int) - a0, 0)] : List (Int × Int × Int)))[((pa ms t k) ++ ([(a2, a3 + ((t + k : Nat) : Int) - a0, 0)] : List (Int × Int × Int))).length - 1]? = some (a2, a3 + ((t + k : Nat) : Int) - a0, 0) := last_at1 _ _
                          replace hA := hA.rw 101 (v' := .int .i64 ((((pa ms t k) ++ ([(a2, a3 + ((t + k : Nat) : Int) - a0, 0)] : List (Int × Int × Int))).length - 1 : Nat) : Int)) rfl (vint (by omega))
                          obtain ⟨b113, o114, rfl⟩ := hO110.isSome (k := (((pa ms t k) ++ ([(a2, a3 + ((t + k : Nat) : Int) - a0, 0)] : List (Int × Int × Int))).length - 1)) (by omega)
                          refine st_val hA rfl rfl (by decide) (rn_indexAddr tbOk hA (((pa ms t k) ++ ([(a2, a3 + ((t + k : Nat) : Int) - a0, 0)] : List (Int × Int × Int))).length - 1) (o114 + ((((pa ms t k) ++ ([(a2, a3 + ((t + k : Nat) : Int) - a0, 0)] : List (Int × Int × Int))).length - 1) * 3)) rfl rfl rfl rfl rfl rfl (by rfl) (by omega) (by first | rfl | simp [Nat.mul_one, Nat.zero_add] | omega)) ?_; clear hA; intro a hA
                          refine st_run tbOk 1 hA (e' := (103, .pointer (some ⟨b113, o114 + ((((pa ms t k) ++ ([(a2, a3 + ((t + k : Nat) : Int) - a0, 0)] : List (Int × Int × Int))).length - 1) * 3) + 2, none⟩)) :: _) rfl ?_; clear hA; intro a hA
                          refine st_val hA rfl rfl (by decide) (rn_load tbOk hA rfl rfl rfl rfl ((hO110.rd (hS.own_ 0 rfl)).elemf (k := ((pa ms t k) ++ ([(a2, a3 + ((t + k : Nat) : Int) - a0, 0)] : List (Int × Int × Int))).length - 1) encPiece_ok hxl (j := 2) rfl)) ?_; clear hA; intro a hA
                          refine st_run tbOk 1 hA (e' := (105, .int .i64 (IntKind.i64.wrap (0 + 1))) :: _) rfl ?_; clear hA; intro a hA
                          replace hA := hA.rw 105 (v' := .int .i64 1) rfl (wr64 (by omega) (by omega) (by omega))
                          refine st_val hA rfl rfl (by decide) (rn_indexAddr tbOk hA (((pa ms t k) ++ ([(a2, a3 + ((t + k : Nat) : Int) - a0, 0)] : List (Int × Int × Int))).length - 1) (o114 + ((((pa ms t k) ++ ([(a2, a3 + ((t + k : Nat) : Int) - a0, 0)] : List (Int × Int × Int))).length - 1) * 3)) rfl rfl rfl rfl rfl rfl (by rfl) (by omega) (by first | rfl | simp [Nat.mul_one, Nat.zero_add] | omega)) ?_; clear hA; intro a hA
                          refine st_run tbOk 1 hA (e' := (107, .pointer (some ⟨b113, o114 + ((((pa ms t k) ++ ([(a2, a3 + ((t + k : Nat) : Int) - a0, 0)] : List (Int × Int × Int))).length - 1) * 3) + 2, none⟩)) :: _) rfl ?_; clear hA; intro a hA
                          refine st_store_own tbOk hA hO110 hS (((((pa ms t k) ++ ([(a2, a3 + ((t + k : Nat) : Int) - a0, 0)] : List (Int × Int × Int))).length - 1) * 3) + 2) (o114 + ((((pa ms t k) ++ ([(a2, a3 + ((t + k : Nat) : Int) - a0, 0)] : List (Int × Int × Int))).length - 1) * 3) + 2) [.int .i64 1] (rows encPiece (((pa ms t k) ++ ([(a2, a3 + ((t + k : Nat) : Int) - a0, 0)] : List (Int × Int × Int))).set (((pa ms t k) ++ ([(a2, a3 + ((t + k : Nat) : Int) - a0, 0)] : List (Int × Int × Int))).length - 1) (a2, a3 + ((t + k : Nat) : Int) - a0, 1))) rfl rfl rfl rfl (by rfl) rfl rfl (by intro u hu; rw [List.mem_singleton.1 hu]; rfl) (by simp only [rows_length encPiece_ok, List.length_cons, List.length_nil]; omega) (rows_setf encPiece_ok (a2, a3 + ((t + k : Nat) : Int) - a0, 1) hxl 2 [.int .i64 1] (Nat.le_of_ble_eq_true rfl) rfl) rfl rfl ?_; clear hS; intro w115 C116 hO116 hS
                          refine wpList_nil ?_
                          replace hA := hA.sel [3, 9, 10, 11, 12, 13, 14, 15] (e' := [(3, .bool true), (9, .slice A5 ms.length c6), (10, .int .i64 ((t : Nat) : Int)), (11, .int .i64 ((n : Nat) : Int)), (12, .slice none 0 0), (13, .iface 30 (.int .i64 13)), (14, .int .i64 ((k : Nat) : Int)), (15, .slice (some ⟨b113, o114, none⟩) (((pa ms t k) ++ ([(a2, a3 + ((t + k : Nat) : Int) - a0, 0)] : List (Int × Int × Int))).length) c112)]) rfl
                          refine xb_norm ?_
                          refine xt_norm ?_
                          refine wp_region_lit ?_
                          have hss : ((pa ms t k) ++ ([(a2, a3 + ((t + k : Nat) : Int) - a0, 0)] : List (Int × Int × Int))).set (((pa ms t k) ++ ([(a2, a3 + ((t + k : Nat) : Int) - a0, 0)] : List (Int × Int × Int))).length - 1) (a2, a3 + ((t + k : Nat) : Int) - a0, 1) = pa ms t (k + 1) := (bump_set hxl).symm.trans (pa_new hfa (by dsimp only [ab]; omega)).symm
                          have hR9 : Own 44 3 (.slice (some ⟨b113, o114, none⟩) (pa ms t (k + 1)).length c112) (pa ms t (k + 1)).length (rows encPiece (pa ms t (k + 1))) C116 := by rw [← hss, List.length_set]; exact hO116
                          replace hA := hA.rw 15 (v' := .slice (some ⟨b113, o114, none⟩) ((pa ms t (k + 1)).length) c112) rfl (by rw [← hss, List.length_set])
                          refine st_run tbOk 2 hA (e' := (40, .int .i64 (IntKind.i64.wrap (((k : Nat) : Int) + 1))) :: (39, .int .i64 ((k : Nat) : Int)) :: _) rfl ?_; clear hA; intro a hA
                          replace hA := hA.rw 40 (v' := .int .i64 ((k + 1 : Nat) : Int)) rfl (wr64 (by omega) (by omega) (by omega))
                          refine st_run tbOk 1 hA (e' := (14, .int .i64 ((k + 1 : Nat) : Int)) :: _) rfl ?_; clear hA; intro a hA
                          refine wpList_nil ?_
                          replace hA := hA.sel [3, 9, 10, 11, 12, 13, 14, 15] (e' := [(3, .bool true), (9, .slice A5 ms.length c6), (10, .int .i64 ((t : Nat) : Int)), (11, .int .i64 ((n : Nat) : Int)), (12, .slice none 0 0), (13, .iface 30 (.int .i64 13)), (14, .int .i64 ((k + 1 : Nat) : Int)), (15, .slice (some ⟨b113, o114, none⟩) ((pa ms t (k + 1)).length) c112)]) rfl
                          replace hS := hS.front 1 (C := [(b106, rowO [.int .i64 a2, .int .i64 (a3 + ((t + k : Nat) : Int) - a0), .int .i64 0] 44)]) (L' := C116 :: [(b88, rowO [.int .i64 a0, .int .i64 a1, .int .i64 a2, .int .i64 a3, .bool a4] 24)] :: C4 :: F) rfl rfl
                          replace hS := hS.drop1
                          replace hS := hS.front 1 (C := [(b88, rowO [.int .i64 a0, .int .i64 a1, .int .i64 a2, .int .i64 a3, .bool a4] 24)]) (L' := C116 :: C4 :: F) rfl rfl
                          replace hS := hS.drop1
                          replace hS := hS.front 1 (C := C4) (L' := C116 :: F) rfl rfl
                          replace hS := hS.front 1 (C := C116) (L' := C4 :: F) rfl rfl
                          replace hA := hA.rw 3 (v' := .bool wr) rfl (congrArg Value.bool (by first | exact Eq.symm (by assumption) | exact (Bool.eq_false_iff.2 (by assumption)).symm))
                          exact lp_next _ (by omega) ⟨(k + 1), (some ⟨b113, o114, none⟩), c112, C116, rfl, (hA.sel [3, 9, 10, 11, 12, 13, 14, 15] rfl), hS, by omega, hR9⟩)
                     · first
                       | (exfalso; omega)
                       | (replace hA := hA.rw 82 (v' := .bool false) rfl (vb_eq_f hc105)
                          refine cd_cond_f hA rfl ?_
                          refine wp_skip ?_
                          refine xt_norm ?_
                          refine wp_region_lit ?_
                          refine st_run tbOk 4 hA (e' := (101, .int .i64 (IntKind.i64.wrap ((((pa ms t k).length : Nat) : Int) - 1))) :: (100, .int .i64 (((pa ms t k).length : Nat) : Int)) :: (99, .slice Au ((pa ms t k).length) cu) :: (98, .slice Au ((pa ms t k).length) cu) :: _) rfl ?_; clear hA; intro a hA
                          replace hA := hA.rw 101 (v' := .int .i64 ((((pa ms t k).length : Nat) : Int) - 1)) rfl (wr64 (by omega) (by omega) (by omega))
                          have hne : 0 < (pa ms t k).length := pa_ne (fun i hi => (hf i (by omega)).ex) (by omega)
                          obtain ⟨⟨x0, x1, x2⟩, hxl⟩ := get_ex (l := pa ms t k) (k := (pa ms t k).length - 1) (by omega)
                          have hxb := pa_pos (l := ms) (t0 := t) (n := k) (fun i hi => (hf i (by omega)).ex) _ (List.mem_of_getElem? hxl); dsimp only at hxb
                          replace hA := hA.rw 101 (v' := .int .i64 (((pa ms t k).length - 1 : Nat) : Int)) rfl (vint (by omega))
                          obtain ⟨b117, o118, rfl⟩ := hU.isSome (k := ((pa ms t k).length - 1)) (by omega)
                          refine st_val hA rfl rfl (by decide) (rn_indexAddr tbOk hA ((pa ms t k).length - 1) (o118 + (((pa ms t k).length - 1) * 3)) rfl rfl rfl rfl rfl rfl (by rfl) (by omega) (by first | rfl | simp [Nat.mul_one, Nat.zero_add] | omega)) ?_; clear hA; intro a hA
                          refine st_run tbOk 1 hA (e' := (103, .pointer (some ⟨b117, o118 + (((pa ms t k).length - 1) * 3) + 2, none⟩)) :: _) rfl ?_; clear hA; intro a hA
                          refine st_val hA rfl rfl (by decide) (rn_load tbOk hA rfl rfl rfl rfl ((hU.rd (hS.own_ 1 rfl)).elemf (k := (pa ms t k).length - 1) encPiece_ok hxl (j := 2) rfl)) ?_; clear hA; intro a hA
                          refine st_run tbOk 1 hA (e' := (105, .int .i64 (IntKind.i64.wrap (x2 + 1))) :: _) rfl ?_; clear hA; intro a hA
                          replace hA := hA.rw 105 (v' := .int .i64 (x2 + 1)) rfl (wr64 (by omega) (by omega) (by omega))
                          refine st_val hA rfl rfl (by decide) (rn_indexAddr tbOk hA ((pa ms t k).length - 1) (o118 + (((pa ms t k).length - 1) * 3)) rfl rfl rfl rfl rfl rfl (by rfl) (by omega) (by first | rfl | simp [Nat.mul_one, Nat.zero_add] | omega)) ?_; clear hA; intro a hA
                          refine st_run tbOk 1 hA (e' := (107, .pointer (some ⟨b117, o118 + (((pa ms t k).length - 1) * 3) + 2, none⟩)) :: _) rfl ?_; clear hA; intro a hA
                          replace hS := hS.front 1 (C := U) (L' := [(b88, rowO [.int .i64 a0, .int .i64 a1, .int .i64 a2, .int .i64 a3, .bool a4] 24)] :: C4 :: F) rfl rfl
                          refine st_store_own tbOk hA hU hS ((((pa ms t k).length - 1) * 3) + 2) (o118 + (((pa ms t k).length - 1) * 3) + 2) [.int .i64 (x2 + 1)] (rows encPiece ((pa ms t k).set ((pa ms t k).length - 1) (x0, x1, x2 + 1))) rfl rfl rfl rfl (by rfl) rfl rfl (by intro u hu; rw [List.mem_singleton.1 hu]; rfl) (by simp only [rows_length encPiece_ok, List.length_cons, List.length_nil]; omega) (rows_setf encPiece_ok (x0, x1, x2 + 1) hxl 2 [.int .i64 (x2 + 1)] (Nat.le_of_ble_eq_true rfl) rfl) rfl rfl ?_; clear hS; intro w119 C120 hO120 hS
                          refine wpList_nil ?_
                          replace hA := hA.sel [3, 9, 10, 11, 12, 13, 14, 15] (e' := [(3, .bool true), (9, .slice A5 ms.length c6), (10, .int .i64 ((t : Nat) : Int)), (11, .int .i64 ((n : Nat) : Int)), (12, .slice none 0 0), (13, .iface 30 (.int .i64 13)), (14, .int .i64 ((k : Nat) : Int)), (15, .slice (some ⟨b117, o118, none⟩) ((pa ms t k).length) cu)]) rfl
                          refine xb_norm ?_
                          refine xt_norm ?_
                          refine wp_region_lit ?_
                          have hss : (pa ms t k).set ((pa ms t k).length - 1) (x0, x1, x2 + 1) = pa ms t (k + 1) := (bump_set hxl).symm.trans (pa_old hfa (by dsimp only [ab]; omega)).symm
                          have hR9 : Own 44 3 (.slice (some ⟨b117, o118, none⟩) (pa ms t (k + 1)).length cu) (pa ms t (k + 1)).length (rows encPiece (pa ms t (k + 1))) C120 := by rw [← hss, List.length_set]; exact hO120
                          replace hA := hA.rw 15 (v' := .slice (some ⟨b117, o118, none⟩) ((pa ms t (k + 1)).length) cu) rfl (by rw [← hss, List.length_set])
                          refine st_run tbOk 2 hA (e' := (40, .int .i64 (IntKind.i64.wrap (((k : Nat) : Int) + 1))) :: (39, .int .i64 ((k : Nat) : Int)) :: _) rfl ?_; clear hA; intro a hA
                          replace hA := hA.rw 40 (v' := .int .i64 ((k + 1 : Nat) : Int)) rfl (wr64 (by omega) (by omega) (by omega))
                          refine st_run tbOk 1 hA (e' := (14, .int .i64 ((k + 1 : Nat) : Int)) :: _) rfl ?_; clear hA; intro a hA
                          refine wpList_nil ?_
                          replace hA := hA.sel [3, 9, 10, 11, 12, 13, 14, 15] (e' := [(3, .bool true), (9, .slice A5 ms.length c6), (10, .int .i64 ((t : Nat) : Int)), (11, .int .i64 ((n : Nat) : Int)), (12, .slice none 0 0), (13, .iface 30 (.int .i64 13)), (14, .int .i64 ((k + 1 : Nat) : Int)), (15, .slice (some ⟨b117, o118, none⟩) ((pa ms t (k + 1)).length) cu)]) rfl
                          replace hS := hS.front 1 (C := [(b88, rowO [.int .i64 a0, .int .i64 a1, .int .i64 a2, .int .i64 a3, .bool a4] 24)]) (L' := C120 :: C4 :: F) rfl rfl
                          replace hS := hS.drop1
                          replace hS := hS.front 1 (C := C4) (L' := C120 :: F) rfl rfl
                          replace hS := hS.front 1 (C := C120) (L' := C4 :: F) rfl rfl
                          replace hA := hA.rw 3 (v' := .bool wr) rfl (congrArg Value.bool (by first | exact Eq.symm (by assumption) | exact (Bool.eq_false_iff.2 (by assumption)).symm))
                          exact lp_next _ (by omega) ⟨(k + 1), (some ⟨b117, o118, none⟩), cu, C120, rfl, (hA.sel [3, 9, 10, 11, 12, 13, 14, 15] rfl), hS, by omega, hR9⟩)))
           · first
             | (exfalso; omega)
             | (replace hA := hA.rw 3 (v' := .bool false) rfl (vb_f hc91)
                replace hA := hA.rw 59 (v' := .bool false) rfl (vb_f hc91)
                replace hA := hA.rw 60 (v' := .bool false) rfl (vb_f hc91)
                refine st_run tbOk 4 hA (e' := (64, .bool false) :: (63, undef) :: (62, undef) :: (61, undef) :: _) rfl ?_; clear hA; intro a hA
                refine wpList_nil ?_
                replace hA := hA.sel [3, 9, 10, 11, 12, 13, 14, 15, 16, 64] (e' := [(3, .bool false), (9, .slice A5 ms.length c6), (10, .int .i64 ((t : Nat) : Int)), (11, .int .i64 ((n : Nat) : Int)), (12, .slice none 0 0), (13, .iface 30 (.int .i64 13)), (14, .int .i64 ((k : Nat) : Int)), (15, .slice Au ((pa ms t k).length) cu), (16, .pointer (some ⟨b88, 0, none⟩)), (64, .bool false)]) rfl
                refine xt_norm ?_
                refine cd_cond_f hA rfl ?_
                refine wp_skip ?_
                refine xt_norm ?_
                refine wp_seq ?_
                refine wp_seq ?_
                refine wp_region_lit ?_
                refine st_run tbOk 3 hA (e' := (75, .bool (((k : Nat) : Int) == 0)) :: (74, .bool (((k : Nat) : Int) == 0)) :: (73, .int .i64 ((k : Nat) : Int)) :: _) rfl ?_; clear hA; intro a hA
                by_cases hc121 : ((k : Nat) : Int) = 0
                · first
                  | (exfalso; omega)
                  | (replace hA := hA.rw 74 (v' := .bool true) rfl (vb_eq_t hc121)
                     replace hA := hA.rw 75 (v' := .bool true) rfl (vb_eq_t hc121)
                     refine st_run tbOk 7 hA (e' := (82, .bool true) :: (81, undef) :: (80, undef) :: (79, undef) :: (78, undef) :: (77, undef) :: (76, undef) :: _) rfl ?_; clear hA; intro a hA
                     refine wpList_nil ?_
                     replace hA := hA.sel [3, 9, 10, 11, 12, 13, 14, 15, 16, 82] (e' := [(3, .bool false), (9, .slice A5 ms.length c6), (10, .int .i64 ((t : Nat) : Int)), (11, .int .i64 ((n : Nat) : Int)), (12, .slice none 0 0), (13, .iface 30 (.int .i64 13)), (14, .int .i64 ((k : Nat) : Int)), (15, .slice Au ((pa ms t k).length) cu), (16, .pointer (some ⟨b88, 0, none⟩)), (82, .bool true)]) rfl
                     refine xt_norm ?_
                     refine cd_cond_t hA rfl ?_
                     refine wp_region_lit ?_
                     refine st_run tbOk 2 hA (e' := (84, .pointer (some ⟨b88, 2, none⟩)) :: (83, .slice Au ((pa ms t k).length) cu) :: _) rfl ?_; clear hA; intro a hA
                     refine st_val hA rfl rfl (by decide) (rn_load tbOk hA rfl rfl rfl rfl (cell_row (hS.heapAt 0 rfl) rfl)) ?_; clear hA; intro a hA
                     refine st_run tbOk 1 hA (e' := (86, .pointer (some ⟨b88, 3, none⟩)) :: _) rfl ?_; clear hA; intro a hA
                     refine st_val hA rfl rfl (by decide) (rn_load tbOk hA rfl rfl rfl rfl (cell_row (hS.heapAt 0 rfl) rfl)) ?_; clear hA; intro a hA
                     refine st_run tbOk 2 hA (e' := (89, .int .i64 (IntKind.i64.wrap (a3 + ((t : Nat) : Int)))) :: (88, .int .i64 ((t : Nat) : Int)) :: _) rfl ?_; clear hA; intro a hA
                     replace hA := hA.rw 89 (v' := .int .i64 (a3 + ((t : Nat) : Int))) rfl (wr64 (by omega) (by omega) (by omega))
                     refine st_run tbOk 2 hA (e' := (91, .int .i64 (IntKind.i64.wrap ((a3 + ((t : Nat) : Int)) + ((k : Nat) : Int)))) :: (90, .int .i64 ((k : Nat) : Int)) :: _) rfl ?_; clear hA; intro a hA
                     replace hA := hA.rw 91 (v' := .int .i64 ((a3 + ((t : Nat) : Int)) + ((k : Nat) : Int))) rfl (wr64 (by omega) (by omega) (by omega))
                     refine st_run tbOk 1 hA (e' := (92, .pointer (some ⟨b88, 0, none⟩)) :: _) rfl ?_; clear hA; intro a hA
                     refine st_val hA rfl rfl (by decide) (rn_load tbOk hA rfl rfl rfl rfl (cell_row (hS.heapAt 0 rfl) rfl)) ?_; clear hA; intro a hA
                     refine st_run tbOk 1 hA (e' := (94, .int .i64 (IntKind.i64.wrap (((a3 + ((t : Nat) : Int)) + ((k : Nat) : Int)) - a0))) :: _) rfl ?_; clear hA; intro a hA
                     replace hA := hA.rw 94 (v' := .int .i64 (((a3 + ((t : Nat) : Int)) + ((k : Nat) : Int)) - a0)) rfl (wr64 (by omega) (by omega) (by omega))
                     replace hA := hA.rw 94 (v' := .int .i64 (a3 + ((t + k : Nat) : Int) - a0)) rfl (vint (by omega))
                     refine st_run tbOk 1 hA (e' := (95, .agg #[.int .i64 a2, .int .i64 (a3 + ((t + k : Nat) : Int) - a0), .int .i64 0]) :: _) rfl ?_; clear hA; intro a hA
                     refine st_buildSlice tbOk hA hS [.int .i64 a2, .int .i64 (a3 + ((t + k : Nat) : Int) - a0), .int .i64 0] rfl rfl rfl rfl rfl (by decide) (by kernel_rfl) rfl rfl (by decide) ?_; clear hA hS; intro b122 w123 a hS hA
                     replace hS := hS.front 2 (C := U) (L' := [(b122, rowO [.int .i64 a2, .int .i64 (a3 + ((t + k : Nat) : Int) - a0), .int .i64 0] 44)] :: [(b88, rowO [.int .i64 a0, .int .i64 a1, .int .i64 a2, .int .i64 a3, .bool a4] 24)] :: C4 :: F) rfl rfl
                     refine st_append tbOk hA (m := (pa ms t k).length) (q := 1) (xs := rows encPiece (pa ms t k)) (news := rows encPiece ([(a2, a3 + ((t + k : Nat) : Int) - a0, 0)] : List (Int × Int × Int))) rfl rfl rfl rfl rfl rfl rfl rfl (by decide) hU hS (((Own.full (T := 44) (size := 3) (g := b122) (m := 1) rfl (by decide)).rd (hS.own_ 1 rfl)).x) (rows_one encPiece_ok _) (maxLen_le (by first | omega | (have h9 := pa_le ms t k; omega))) (by show ((pa ms t k).length + 1) * 24 ≤ 140737488355328; first | omega | (have h9 := pa_le ms t k; omega)) rfl rfl (by decide) ?_
                     clear hA hS; intro v124 w125 C126 a hO126 hS hA
                     replace hO126 := Own.app (l := pa ms t k) (l2 := ([(a2, a3 + ((t + k : Nat) : Int) - a0, 0)] : List (Int × Int × Int))) hO126
                     obtain ⟨A127, c128, rfl, hmc128, hxc128⟩ := hO126.open'
                     refine st_run tbOk 1 hA (e' := (15, .slice A127 (((pa ms t k) ++ ([(a2, a3 + ((t + k : Nat) : Int) - a0, 0)] : List (Int × Int × Int))).length) c128) :: _) rfl ?_; clear hA; intro a hA
                     refine wpList_nil ?_
                     replace hA := hA.sel [3, 9, 10, 11, 12, 13, 14, 15] (e' := [(3, .bool false), (9, .slice A5 ms.length c6), (10, .int .i64 ((t : Nat) : Int)), (11, .int .i64 ((n : Nat) : Int)), (12, .slice none 0 0), (13, .iface 30 (.int .i64 13)), (14, .int .i64 ((k : Nat) : Int)), (15, .slice A127 (((pa ms t k) ++ ([(a2, a3 + ((t + k : Nat) : Int) - a0, 0)] : List (Int × Int × Int))).length) c128)]) rfl
                     refine xt_norm ?_
                     refine wp_region_lit ?_
                     refine st_run tbOk 4 hA (e' := (101, .int .i64 (IntKind.i64.wrap (((((pa ms t k) ++ ([(a2, a3 + ((t + k : Nat) : Int) - a0, 0)] : List (Int × Int × Int))).length : Nat) : Int) - 1))) :: (100, .int .i64 ((((pa ms t k) ++ ([(a2, a3 + ((t + k : Nat) : Int) - a0, 0)] : List (Int × Int × Int))).length : Nat) : Int)) :: (99, .slice A127 (((pa ms t k) ++ ([(a2, a3 + ((t + k : Nat) : Int) - a0, 0)] : List (Int × Int × Int))).length) c128) :: (98, .slice A127 (((pa ms t k) ++ ([(a2, a3 + ((t + k : Nat) : Int) - a0, 0)] : List (Int × Int × Int))).length) c128) :: _) rfl ?_; clear hA; intro a hA
                     replace hA := hA.rw 101 (v' := .int .i64 (((((pa ms t k) ++ ([(a2, a3 + ((t + k : Nat) : Int) - a0, 0)] : List (Int × Int × Int))).length : Nat) : Int) - 1)) rfl (wr64 (by omega) (by omega) (by omega))
                     have hne : 0 < ((pa ms t k) ++ ([(a2, a3 + ((t + k : Nat) : Int) - a0, 0)] : List (Int × Int × Int))).length := by rw [List.length_append]; show 0 < _ + 1; omega
                     have hxl : ((pa ms t k) ++ ([(a2, a3 + ((t + k : Nat) : Int) - a0, 0)] : List (Int × Int × Int)))[((pa ms t k) ++ ([(a2, a3 + ((t + k : Nat) : Int) - a0, 0)] : List (Int × Int × Int))).length - 1]? = some (a2, a3 + ((t + k : Nat) : Int) - a0, 0) := last_at1 _ _
                     replace hA := hA.rw 101 (v' := .int .i64 ((((pa ms t k) ++ ([(a2, a3 + ((t + k : Nat) : Int) - a0, 0)] : List (Int × Int × Int))).length - 1 : Nat) : Int)) rfl (vint (by omega))
                     obtain ⟨b129, o130, rfl⟩ := hO126.isSome (k := (((pa ms t k) ++ ([(a2, a3 + ((t + k : Nat) : Int) - a0, 0)] : List (Int × Int × Int))).length - 1)) (by omega)
                     refine st_val hA rfl rfl (by decide) (rn_indexAddr tbOk hA (((pa ms t k) ++ ([(a2, a3 + ((t + k : Nat) : Int) - a0, 0)] : List (Int × Int × Int))).length - 1) (o130 + ((((pa ms t k) ++ ([(a2, a3 + ((t + k : Nat) : Int) - a0, 0)] : List (Int × Int × Int))).length - 1) * 3)) rfl rfl rfl rfl rfl rfl (by rfl) (by omega) (by first | rfl | simp [Nat.mul_one, Nat.zero_add] | omega)) ?_; clear hA; intro a hA
                     refine st_run tbOk 1 hA (e' := (103, .pointer (some ⟨b129, o130 + ((((pa ms t k) ++ ([(a2, a3 + ((t + k : Nat) : Int) - a0, 0)] : List (Int × Int × Int))).length - 1) * 3) + 2, none⟩)) :: _) rfl ?_; clear hA; intro a hA
                     refine st_val hA rfl rfl (by decide) (rn_load tbOk hA rfl rfl rfl rfl ((hO126.rd (hS.own_ 0 rfl)).elemf (k := ((pa ms t k) ++ ([(a2, a3 + ((t + k : Nat) : Int) - a0, 0)] : List (Int × Int × Int))).length - 1) encPiece_ok hxl (j := 2) rfl)) ?_; clear hA; intro a hA
                     refine st_run tbOk 1 hA (e' := (105, .int .i64 (IntKind.i64.wrap (0 + 1))) :: _) rfl ?_; clear hA; intro a hA
                     replace hA := hA.rw 105 (v' := .int .i64 1) rfl (wr64 (by omega) (by omega) (by omega))
                     refine st_val hA rfl rfl (by decide) (rn_indexAddr tbOk hA (((pa ms t k) ++ ([(a2, a3 + ((t + k : Nat) : Int) - a0, 0)] : List (Int × Int × Int))).length - 1) (o130 + ((((pa ms t k) ++ ([(a2, a3 + ((t + k : Nat) : Int) - a0, 0)] : List (Int × Int × Int))).length - 1) * 3)) rfl rfl rfl rfl rfl rfl (by rfl) (by omega) (by first | rfl | simp [Nat.mul_one, Nat.zero_add] | omega)) ?_; clear hA; intro a hA
                     refine st_run tbOk 1 hA (e' := (107, .pointer (some ⟨b129, o130 + ((((pa ms t k) ++ ([(a2, a3 + ((t + k : Nat) : Int) - a0, 0)] : List (Int × Int × Int))).length - 1) * 3) + 2, none⟩)) :: _) rfl ?_; clear hA; intro a hA
                     refine st_store_own tbOk hA hO126 hS (((((pa ms t k) ++ ([(a2, a3 + ((t + k : Nat) : Int) - a0, 0)] : List (Int × Int × Int))).length - 1) * 3) + 2) (o130 + ((((pa ms t k) ++ ([(a2, a3 + ((t + k : Nat) : Int) - a0, 0)] : List (Int × Int × Int))).length - 1) * 3) + 2) [.int .i64 1] (rows encPiece (((pa ms t k) ++ ([(a2, a3 + ((t + k : Nat) : Int) - a0, 0)] : List (Int × Int × Int))).set (((pa ms t k) ++ ([(a2, a3 + ((t + k : Nat) : Int) - a0, 0)] : List (Int × Int × Int))).length - 1) (a2, a3 + ((t + k : Nat) : Int) - a0, 1))) rfl rfl rfl rfl (by rfl) rfl rfl (by intro u hu; rw [List.mem_singleton.1 hu]; rfl) (by simp only [rows_length encPiece_ok, List.length_cons, List.length_nil]; omega) (rows_setf encPiece_ok (a2, a3 + ((t + k : Nat) : Int) - a0, 1) hxl 2 [.int .i64 1] (Nat.le_of_ble_eq_true rfl) rfl) rfl rfl ?_; clear hS; intro w131 C132 hO132 hS
                     refine wpList_nil ?_
                     replace hA := hA.sel [3, 9, 10, 11, 12, 13, 14, 15] (e' := [(3, .bool false), (9, .slice A5 ms.length c6), (10, .int .i64 ((t : Nat) : Int)), (11, .int .i64 ((n : Nat) : Int)), (12, .slice none 0 0), (13, .iface 30 (.int .i64 13)), (14, .int .i64 ((k : Nat) : Int)), (15, .slice (some ⟨b129, o130, none⟩) (((pa ms t k) ++ ([(a2, a3 + ((t + k : Nat) : Int) - a0, 0)] : List (Int × Int × Int))).length) c128)]) rfl
                     refine xb_norm ?_
                     refine xt_norm ?_
                     refine wp_region_lit ?_
                     have hss : ((pa ms t k) ++ ([(a2, a3 + ((t + k : Nat) : Int) - a0, 0)] : List (Int × Int × Int))).set (((pa ms t k) ++ ([(a2, a3 + ((t + k : Nat) : Int) - a0, 0)] : List (Int × Int × Int))).length - 1) (a2, a3 + ((t + k : Nat) : Int) - a0, 1) = pa ms t (k + 1) := (bump_set hxl).symm.trans (pa_new hfa (by dsimp only [ab]; omega)).symm
                     have hR9 : Own 44 3 (.slice (some ⟨b129, o130, none⟩) (pa ms t (k + 1)).length c128) (pa ms t (k + 1)).length (rows encPiece (pa ms t (k + 1))) C132 := by rw [← hss, List.length_set]; exact hO132
                     replace hA := hA.rw 15 (v' := .slice (some ⟨b129, o130, none⟩) ((pa ms t (k + 1)).length) c128) rfl (by rw [← hss, List.length_set])
                     refine st_run tbOk 2 hA (e' := (40, .int .i64 (IntKind.i64.wrap (((k : Nat) : Int) + 1))) :: (39, .int .i64 ((k : Nat) : Int)) :: _) rfl ?_; clear hA; intro a hA
                     replace hA := hA.rw 40 (v' := .int .i64 ((k + 1 : Nat) : Int)) rfl (wr64 (by omega) (by omega) (by omega))
                     refine st_run tbOk 1 hA (e' := (14, .int .i64 ((k + 1 : Nat) : Int)) :: _) rfl ?_; clear hA; intro a hA
                     refine wpList_nil ?_
                     replace hA := hA.sel [3, 9, 10, 11, 12, 13, 14, 15] (e' := [(3, .bool false), (9, .slice A5 ms.length c6), (10, .int .i64 ((t : Nat) : Int)), (11, .int .i64 ((n : Nat) : Int)), (12, .slice none 0 0), (13, .iface 30 (.int .i64 13)), (14, .int .i64 ((k + 1 : Nat) : Int)), (15, .slice (some ⟨b129, o130, none⟩) ((pa ms t (k + 1)).length) c128)]) rfl
                     replace hS := hS.front 1 (C := [(b122, rowO [.int .i64 a2, .int .i64 (a3 + ((t + k : Nat) : Int) - a0), .int .i64 0] 44)]) (L' := C132 :: [(b88, rowO [.int .i64 a0, .int .i64 a1, .int .i64 a2, .int .i64 a3, .bool a4] 24)] :: C4 :: F) rfl rfl
                     replace hS := hS.drop1
                     replace hS := hS.front 1 (C := [(b88, rowO [.int .i64 a0, .int .i64 a1, .int .i64 a2, .int .i64 a3, .bool a4] 24)]) (L' := C132 :: C4 :: F) rfl rfl
                     replace hS := hS.drop1
                     replace hS := hS.front 1 (C := C4) (L' := C132 :: F) rfl rfl
                     replace hS := hS.front 1 (C := C132) (L' := C4 :: F) rfl rfl
                     replace hA := hA.rw 3 (v' := .bool wr) rfl (congrArg Value.bool (by first | exact Eq.symm (by assumption) | exact (Bool.eq_false_iff.2 (by assumption)).symm))
                     exact lp_next _ (by omega) ⟨(k + 1), (some ⟨b129, o130, none⟩), c128, C132, rfl, (hA.sel [3, 9, 10, 11, 12, 13, 14, 15] rfl), hS, by omega, hR9⟩)
                · first
                  | (exfalso; omega)
                  | (replace hA := hA.rw 74 (v' := .bool false) rfl (vb_eq_f hc121)
                     replace hA := hA.rw 75 (v' := .bool false) rfl (vb_eq_f hc121)
                     refine st_run tbOk 1 hA (e' := (76, .pointer (some ⟨b88, 0, none⟩)) :: _) rfl ?_; clear hA; intro a hA
                     refine st_val hA rfl rfl (by decide) (rn_load tbOk hA rfl rfl rfl rfl (cell_row (hS.heapAt 0 rfl) rfl)) ?_; clear hA; intro a hA
                     refine st_run tbOk 3 hA (e' := (80, .int .i64 (IntKind.i64.wrap (((t : Nat) : Int) + ((k : Nat) : Int)))) :: (79, .int .i64 ((k : Nat) : Int)) :: (78, .int .i64 ((t : Nat) : Int)) :: _) rfl ?_; clear hA; intro a hA
                     replace hA := hA.rw 80 (v' := .int .i64 ((t + k : Nat) : Int)) rfl (wr64 (by omega) (by omega) (by omega))
                     refine st_run tbOk 2 hA (e' := (82, .bool (a0 == ((t + k : Nat) : Int))) :: (81, .bool (a0 == ((t + k : Nat) : Int))) :: _) rfl ?_; clear hA; intro a hA
                     refine wpList_nil ?_
                     replace hA := hA.sel [3, 9, 10, 11, 12, 13, 14, 15, 16, 82] (e' := [(3, .bool false), (9, .slice A5 ms.length c6), (10, .int .i64 ((t : Nat) : Int)), (11, .int .i64 ((n : Nat) : Int)), (12, .slice none 0 0), (13, .iface 30 (.int .i64 13)), (14, .int .i64 ((k : Nat) : Int)), (15, .slice Au ((pa ms t k).length) cu), (16, .pointer (some ⟨b88, 0, none⟩)), (82, .bool (a0 == ((t + k : Nat) : Int)))]) rfl
                     refine xt_norm ?_
                     by_cases hc133 : a0 = ((t + k : Nat) : Int)
                     · first
                       | (exfalso; omega)
                       | (replace hA := hA.rw 82 (v' := .bool true) rfl (vb_eq_t hc133)
                          refine cd_cond_t hA rfl ?_
                          refine wp_region_lit ?_
                          refine st_run tbOk 2 hA (e' := (84, .pointer (some ⟨b88, 2, none⟩)) :: (83, .slice Au ((pa ms t k).length) cu) :: _) rfl ?_; clear hA; intro a hA
                          refine st_val hA rfl rfl (by decide) (rn_load tbOk hA rfl rfl rfl rfl (cell_row (hS.heapAt 0 rfl) rfl)) ?_; clear hA; intro a hA
                          refine st_run tbOk 1 hA (e' := (86, .pointer (some ⟨b88, 3, none⟩)) :: _) rfl ?_; clear hA; intro a hA
                          refine st_val hA rfl rfl (by decide) (rn_load tbOk hA rfl rfl rfl rfl (cell_row (hS.heapAt 0 rfl) rfl)) ?_; clear hA; intro a hA
                          refine st_run tbOk 2 hA (e' := (89, .int .i64 (IntKind.i64.wrap (a3 + ((t : Nat) : Int)))) :: (88, .int .i64 ((t : Nat) : Int)) :: _) rfl ?_; clear hA; intro a hA
                          replace hA := hA.rw 89 (v' := .int .i64 (a3 + ((t : Nat) : Int))) rfl (wr64 (by omega) (by omega) (by omega))
                          refine st_run tbOk 2 hA (e' := (91, .int .i64 (IntKind.i64.wrap ((a3 + ((t : Nat) : Int)) + ((k : Nat) : Int)))) :: (90, .int .i64 ((k : Nat) : Int)) :: _) rfl ?_; clear hA; intro a hA
                          replace hA := hA.rw 91 (v' := .int .i64 ((a3 + ((t : Nat) : Int)) + ((k : Nat) : Int))) rfl (wr64 (by omega) (by omega) (by omega))
                          refine st_run tbOk 1 hA (e' := (92, .pointer (some ⟨b88, 0, none⟩)) :: _) rfl ?_; clear hA; intro a hA
                          refine st_val hA rfl rfl (by decide) (rn_load tbOk hA rfl rfl rfl rfl (cell_row (hS.heapAt 0 rfl) rfl)) ?_; clear hA; intro a hA
                          refine st_run tbOk 1 hA (e' := (94, .int .i64 (IntKind.i64.wrap (((a3 + ((t : Nat) : Int)) + ((k : Nat) : Int)) - a0))) :: _) rfl ?_; clear hA; intro a hA
                          replace hA := hA.rw 94 (v' := .int .i64 (((a3 + ((t : Nat) : Int)) + ((k : Nat) : Int)) - a0)) rfl (wr64 (by omega) (by omega) (by omega))
                          replace hA := hA.rw 94 (v' := .int .i64 (a3 + ((t + k : Nat) : Int) - a0)) rfl (vint (by omega))
                          refine st_run tbOk 1 hA (e' := (95, .agg #[.int .i64 a2, .int .i64 (a3 + ((t + k : Nat) : Int) - a0), .int .i64 0]) :: _) rfl ?_; clear hA; intro a hA
                          refine st_buildSlice tbOk hA hS [.int .i64 a2, .int .i64 (a3 + ((t + k : Nat) : Int) - a0), .int .i64 0] rfl rfl rfl rfl rfl (by decide) (by kernel_rfl) rfl rfl (by decide) ?_; clear hA hS; intro b134 w135 a hS hA
                          replace hS := hS.front 2 (C := U) (L' := [(b134, rowO [.int .i64 a2, .int .i64 (a3 + ((t + k : Nat) : Int) - a0), .int .i64 0] 44)] :: [(b88, rowO [.int .i64 a0, .int .i64 a1, .int .i64 a2, .int .i64 a3, .bool a4] 24)] :: C4 :: F) rfl rfl
                          refine st_append tbOk hA (m := (pa ms t k).length) (q := 1) (xs := rows encPiece (pa ms t k)) (news := rows encPiece ([(a2, a3 + ((t + k : Nat) : Int) - a0, 0)] : List (Int × Int × Int))) rfl rfl rfl rfl rfl rfl rfl rfl (by decide) hU hS (((Own.full (T := 44) (size := 3) (g := b134) (m := 1) rfl (by decide)).rd (hS.own_ 1 rfl)).x) (rows_one encPiece_ok _) (maxLen_le (by first | omega | (have h9 := pa_le ms t k; omega))) (by show ((pa ms t k).length + 1) * 24 ≤ 140737488355328; first | omega | (have h9 := pa_le ms t k; omega)) rfl rfl (by decide) ?_
                          clear hA hS; intro v136 w137 C138 a hO138 hS hA
                          replace hO138 := Own.app (l := pa ms t k) (l2 := ([(a2, a3 + ((t + k : Nat) : Int) - a0, 0)] : List (Int × Int × Int))) hO138
                          obtain ⟨A139, c140, rfl, hmc140, hxc140⟩ := hO138.open'
                          refine st_run tbOk 1 hA (e' := (15, .slice A139 (((pa ms t k) ++ ([(a2, a3 + ((t + k : Nat) : Int) - a0, 0)] : List (Int × Int × Int))).length) c140) :: _) rfl ?_; clear hA; intro a hA
                          refine wpList_nil ?_
                          replace hA := hA.sel [3, 9, 10, 11, 12, 13, 14, 15] (e' := [(3, .bool false), (9, .slice A5 ms.length c6), (10, .int .i64 ((t : Nat) : Int)), (11, .int .i64 ((n : Nat) : Int)), (12, .slice none 0 0), (13, .iface 30 (.int .i64 13)), (14, .int .i64 ((k : Nat) : Int)), (15, .slice A139 (((pa ms t k) ++ ([(a2, a3 + ((t + k : Nat) : Int) - a0, 0)] : List (Int × Int × Int))).length) c140)]) rfl
                          refine xt_norm ?_
                          refine wp_region_lit ?_
                          refine st_run tbOk 4 hA (e' := (101, .int .i64 (IntKind.i64.wrap (((((pa ms t k) ++ ([(a2, a3 + ((t + k : Nat) : Int) - a0, 0)] : List (Int × Int × Int))).length : Nat) : Int) - 1))) :: (100, .int .i64 ((((pa ms t k) ++ ([(a2, a3 + ((t + k : Nat) : Int) - a0, 0)] : List (Int × Int × Int))).length : Nat) : Int)) :: (99, .slice A139 (((pa ms t k) ++ ([(a2, a3 + ((t + k : Nat) : Int) - a0, 0)] : List (Int × Int × Int))).length) c140) :: (98, .slice A139 (((pa ms t k) ++ ([(a2, a3 + ((t + k : Nat) : Int) - a0, 0)] : List (Int × Int × Int))).length) c140) :: _) rfl ?_; clear hA; intro a hA
                          replace hA := hA.rw 101 (v' := .int .i64 (((((pa ms t k) ++ ([(a2, a3 + ((t + k : Nat) : Int) - a0, 0)] : List (Int × Int × Int))).length : Nat) : Int) - 1)) rfl (wr64 (by omega) (by omega) (by omega))
                          have hne : 0 < ((pa ms t k) ++ ([(a2, a3 + ((t + k : Nat) : Int) - a0, 0)] : List (Int × Int × Int))).length := by rw [List.length_append]; show 0 < _ + 1; omega
                          have hxl : ((pa ms t k) ++ ([(a2, a3 + ((t + k : Nat) : Int) - a0, 0)] : List (Int × Int × Int)))[((pa ms t k) ++ ([(a2, a3 + ((t + k : Nat) : Int) - a0, 0)] : List (Int × Int × Int))).length - 1]? = some (a2, a3 + ((t + k : Nat) : Int) - a0, 0) := last_at1 _ _
                          replace hA := hA.rw 101 (v' := .int .i64 ((((pa ms t k) ++ ([(a2, a3 + ((t + k : Nat) : Int) - a0, 0)] : List (Int × Int × Int))).length - 1 : Nat) : Int)) rfl (vint (by omega))
                          obtain ⟨b141, o142, rfl⟩ := hO138.isSome (k := (((pa ms t k) ++ ([(a2, a3 + ((t + k : Nat) : Int) - a0, 0)] : List (Int × Int × Int))).length - 1)) (by omega)
                          refine st_val hA rfl rfl (by decide) (rn_indexAddr tbOk hA (((pa ms t k) ++ ([(a2, a3 + ((t + k : Nat) : Int) - a0, 0)] : List (Int × Int × Int))).length - 1) (o142 + ((((pa ms t k) ++ ([(a2, a3 + ((t + k : Nat) : Int) - a0, 0)] : List (Int × Int × Int))).length - 1) * 3)) rfl rfl rfl rfl rfl rfl (by rfl) (by omega) (by first | rfl | simp [Nat.mul_one, Nat.zero_add] | omega)) ?_; clear hA; intro a hA
                          refine st_run tbOk 1 hA (e' := (103, .pointer (some ⟨b141, o142 + ((((pa ms t k) ++ ([(a2, a3 + ((t + k : Nat) : Int) - a0, 0)] : List (Int × Int × Int))).length - 1) * 3) + 2, none⟩)) :: _) rfl ?_; clear hA; intro a hA
                          refine st_val hA rfl rfl (by decide) (rn_load tbOk hA rfl rfl rfl rfl ((hO138.rd (hS.own_ 0 rfl)).elemf (k := ((pa ms t k) ++ ([(a2, a3 + ((t + k : Nat) : Int) - a0, 0)] : List (Int × Int × Int))).length - 1) encPiece_ok hxl (j := 2) rfl)) ?_; clear hA; intro a hA
                          refine st_run tbOk 1 hA (e' := (105, .int .i64 (IntKind.i64.wrap (0 + 1))) :: _) rfl ?_; clear hA; intro a hA
                          replace hA := hA.rw 105 (v' := .int .i64 1) rfl (wr64 (by omega) (by omega) (by omega))
                          refine st_val hA rfl rfl (by decide) (rn_indexAddr tbOk hA (((pa ms t k) ++ ([(a2, a3 + ((t + k : Nat) : Int) - a0, 0)] : List (Int × Int × Int))).length - 1) (o142 + ((((pa ms t k) ++ ([(a2, a3 + ((t + k : Nat) : Int) - a0, 0)] : List (Int × Int × Int))).length - 1) * 3)) rfl rfl rfl rfl rfl rfl (by rfl) (by omega) (by first | rfl | simp [Nat.mul_one, Nat.zero_add] | omega)) ?_; clear hA; intro a hA
                          refine st_run tbOk 1 hA (e' := (107, .pointer (some ⟨b141, o142 + ((((pa ms t k) ++ ([(a2, a3 + ((t + k : Nat) : Int) - a0, 0)] : List (Int × Int × Int))).length - 1) * 3) + 2, none⟩)) :: _) rfl ?_; clear hA; intro a hA
                          refine st_store_own tbOk hA hO138 hS (((((pa ms t k) ++ ([(a2, a3 + ((t + k : Nat) : Int) - a0, 0)] : List (Int × Int × Int))).length - 1) * 3) + 2) (o142 + ((((pa ms t k) ++ ([(a2, a3 + ((t + k : Nat) : Int) - a0, 0)] : List (Int × Int × Int))).length - 1) * 3) + 2) [.int .i64 1] (rows encPiece (((pa ms t k) ++ ([(a2, a3 + ((t + k : Nat) : Int) - a0, 0)] : List (Int × Int × Int))).set (((pa ms t k) ++ ([(a2, a3 + ((t + k : Nat) : Int) - a0, 0)] : List (Int × Int × Int))).length - 1) (a2, a3 + ((t + k : Nat) : Int) - a0, 1))) rfl rfl rfl rfl (by rfl) rfl rfl (by intro u hu; rw [List.mem_singleton.1 hu]; rfl) (by simp only [rows_length encPiece_ok, List.length_cons, List.length_nil]; omega) (rows_setf encPiece_ok (a2, a3 + ((t + k : Nat) : Int) - a0, 1) hxl 2 [.int .i64 1] (Nat.le_of_ble_eq_true rfl) rfl) rfl rfl ?_; clear hS; intro w143 C144 hO144 hS
                          refine wpList_nil ?_
                          replace hA := hA.sel [3, 9, 10, 11, 12, 13, 14, 15] (e' := [(3, .bool false), (9, .slice A5 ms.length c6), (10, .int .i64 ((t : Nat) : Int)), (11, .int .i64 ((n : Nat) : Int)), (12, .slice none 0 0), (13, .iface 30 (.int .i64 13)), (14, .int .i64 ((k : Nat) : Int)), (15, .slice (some ⟨b141, o142, none⟩) (((pa ms t k) ++ ([(a2, a3 + ((t + k : Nat) : Int) - a0, 0)] : List (Int × Int × Int))).length) c140)]) rfl
                          refine xb_norm ?_
                          refine xt_norm ?_
                          refine wp_region_lit ?_
                          have hss : ((pa ms t k) ++ ([(a2, a3 + ((t + k : Nat) : Int) - a0, 0)] : List (Int × Int × Int))).set (((pa ms t k) ++ ([(a2, a3 + ((t + k : Nat) : Int) - a0, 0)] : List (Int × Int × Int))).length - 1) (a2, a3 + ((t + k : Nat) : Int) - a0, 1) = pa ms t (k + 1) := (bump_set hxl).symm.trans (pa_new hfa (by dsimp only [ab]; omega)).symm
                          have hR9 : Own 44 3 (.slice (some ⟨b141, o142, none⟩) (pa ms t (k + 1)).length c140) (pa ms t (k + 1)).length (rows encPiece (pa ms t (k + 1))) C144 := by rw [← hss, List.length_set]; exact hO144
                          replace hA := hA.rw 15 (v' := .slice (some ⟨b141, o142, none⟩) ((pa ms t (k + 1)).length) c140) rfl (by rw [← hss, List.length_set])
                          refine st_run tbOk 2 hA (e' := (40, .int .i64 (IntKind.i64.wrap (((k : Nat) : Int) + 1))) :: (39, .int .i64 ((k : Nat) : Int)) :: _) rfl ?_; clear hA; intro a hA
                          replace hA := hA.rw 40 (v' := .int .i64 ((k + 1 : Nat) : Int)) rfl (wr64 (by omega) (by omega) (by omega))
                          refine st_run tbOk 1 hA (e' := (14, .int .i64 ((k + 1 : Nat) : Int)) :: _) rfl ?_; clear hA; intro a hA
                          refine wpList_nil ?_
                          replace hA := hA.sel [3, 9, 10, 11, 12, 13, 14, 15] (e' := [(3, .bool false), (9, .slice A5 ms.length c6), (10, .int .i64 ((t : Nat) : Int)), (11, .int .i64 ((n : Nat) : Int)), (12, .slice none 0 0), (13, .iface 30 (.int .i64 13)), (14, .int .i64 ((k + 1 : Nat) : Int)), (15, .slice (some ⟨b141, o142, none⟩) ((pa ms t (k + 1)).length) c140)]) rfl
                          replace hS := hS.front 1 (C := [(b134, rowO [.int .i64 a2, .int .i64 (a3 + ((t + k : Nat) : Int) - a0), .int .i64 0] 44)]) (L' := C144 :: [(b88, rowO [.int .i64 a0, .int .i64 a1, .int .i64 a2, .int .i64 a3, .bool a4] 24)] :: C4 :: F) rfl rfl
                          replace hS := hS.drop1
                          replace hS := hS.front 1 (C := [(b88, rowO [.int .i64 a0, .int .i64 a1, .int .i64 a2, .int .i64 a3, .bool a4] 24)]) (L' := C144 :: C4 :: F) rfl rfl
                          replace hS := hS.drop1
                          replace hS := hS.front 1 (C := C4) (L' := C144 :: F) rfl rfl
                          replace hS := hS.front 1 (C := C144) (L' := C4 :: F) rfl rfl
                          replace hA := hA.rw 3 (v' := .bool wr) rfl (congrArg Value.bool (by first | exact Eq.symm (by assumption) | exact (Bool.eq_false_iff.2 (by assumption)).symm))
                          exact lp_next _ (by omega) ⟨(k + 1), (some ⟨b141, o142, none⟩), c140, C144, rfl, (hA.sel [3, 9, 10, 11, 12, 13, 14, 15] rfl), hS, by omega, hR9⟩)
                     · first
                       | (exfalso; omega)
                       | (replace hA := hA.rw 82 (v' := .bool false) rfl (vb_eq_f hc133)
                          refine cd_cond_f hA rfl ?_
                          refine wp_skip ?_
                          refine xt_norm ?_
                          refine wp_region_lit ?_
                          refine st_run tbOk 4 hA (e' := (101, .int .i64 (IntKind.i64.wrap ((((pa ms t k).length : Nat) : Int) - 1))) :: (100, .int .i64 (((pa ms t k).length : Nat) : Int)) :: (99, .slice Au ((pa ms t k).length) cu) :: (98, .slice Au ((pa ms t k).length) cu) :: _) rfl ?_; clear hA; intro a hA
                          replace hA := hA.rw 101 (v' := .int .i64 ((((pa ms t k).length : Nat) : Int) - 1)) rfl (wr64 (by omega) (by omega) (by omega))
                          have hne : 0 < (pa ms t k).length := pa_ne (fun i hi => (hf i (by omega)).ex) (by omega)
                          obtain ⟨⟨x0, x1, x2⟩, hxl⟩ := get_ex (l := pa ms t k) (k := (pa ms t k).length - 1) (by omega)
                          have hxb := pa_pos (l := ms) (t0 := t) (n := k) (fun i hi => (hf i (by omega)).ex) _ (List.mem_of_getElem? hxl); dsimp only at hxb
                          replace hA := hA.rw 101 (v' := .int .i64 (((pa ms t k).length - 1 : Nat) : Int)) rfl (vint (by omega))
                          obtain ⟨b145, o146, rfl⟩ := hU.isSome (k := ((pa ms t k).length - 1)) (by omega)
                          refine st_val hA rfl rfl (by decide) (rn_indexAddr tbOk hA ((pa ms t k).length - 1) (o146 + (((pa ms t k).length - 1) * 3)) rfl rfl rfl rfl rfl rfl (by rfl) (by omega) (by first | rfl | simp [Nat.mul_one, Nat.zero_add] | omega)) ?_; clear hA; intro a hA
                          refine st_run tbOk 1 hA (e' := (103, .pointer (some ⟨b145, o146 + (((pa ms t k).length - 1) * 3) + 2, none⟩)) :: _) rfl ?_; clear hA; intro a hA
                          refine st_val hA rfl rfl (by decide) (rn_load tbOk hA rfl rfl rfl rfl ((hU.rd (hS.own_ 1 rfl)).elemf (k := (pa ms t k).length - 1) encPiece_ok hxl (j := 2) rfl)) ?_; clear hA; intro a hA
                          refine st_run tbOk 1 hA (e' := (105, .int .i64 (IntKind.i64.wrap (x2 + 1))) :: _) rfl ?_; clear hA; intro a hA
                          replace hA := hA.rw 105 (v' := .int .i64 (x2 + 1)) rfl (wr64 (by omega) (by omega) (by omega))
                          refine st_val hA rfl rfl (by decide) (rn_indexAddr tbOk hA ((pa ms t k).length - 1) (o146 + (((pa ms t k).length - 1) * 3)) rfl rfl rfl rfl rfl rfl (by rfl) (by omega) (by first | rfl | simp [Nat.mul_one, Nat.zero_add] | omega)) ?_; clear hA; intro a hA
                          refine st_run tbOk 1 hA (e' := (107, .pointer (some ⟨b145, o146 + (((pa ms t k).length - 1) * 3) + 2, none⟩)) :: _) rfl ?_; clear hA; intro a hA
                          replace hS := hS.front 1 (C := U) (L' := [(b88, rowO [.int .i64 a0, .int .i64 a1, .int .i64 a2, .int .i64 a3, .bool a4] 24)] :: C4 :: F) rfl rfl
                          refine st_store_own tbOk hA hU hS ((((pa ms t k).length - 1) * 3) + 2) (o146 + (((pa ms t k).length - 1) * 3) + 2) [.int .i64 (x2 + 1)] (rows encPiece ((pa ms t k).set ((pa ms t k).length - 1) (x0, x1, x2 + 1))) rfl rfl rfl rfl (by rfl) rfl rfl (by intro u hu; rw [List.mem_singleton.1 hu]; rfl) (by simp only [rows_length encPiece_ok, List.length_cons, List.length_nil]; omega) (rows_setf encPiece_ok (x0, x1, x2 + 1) hxl 2 [.int .i64 (x2 + 1)] (Nat.le_of_ble_eq_true rfl) rfl) rfl rfl ?_; clear hS; intro w147 C148 hO148 hS
                          refine wpList_nil ?_
                          replace hA := hA.sel [3, 9, 10, 11, 12, 13, 14, 15] (e' := [(3, .bool false), (9, .slice A5 ms.length c6), (10, .int .i64 ((t : Nat) : Int)), (11, .int .i64 ((n : Nat) : Int)), (12, .slice none 0 0), (13, .iface 30 (.int .i64 13)), (14, .int .i64 ((k : Nat) : Int)), (15, .slice (some ⟨b145, o146, none⟩) ((pa ms t k).length) cu)]) rfl
                          refine xb_norm ?_
                          refine xt_norm ?_
                          refine wp_region_lit ?_
                          have hss : (pa ms t k).set ((pa ms t k).length - 1) (x0, x1, x2 + 1) = pa ms t (k + 1) := (bump_set hxl).symm.trans (pa_old hfa (by dsimp only [ab]; omega)).symm
                          have hR9 : Own 44 3 (.slice (some ⟨b145, o146, none⟩) (pa ms t (k + 1)).length cu) (pa ms t (k + 1)).length (rows encPiece (pa ms t (k + 1))) C148 := by rw [← hss, List.length_set]; exact hO148
                          replace hA := hA.rw 15 (v' := .slice (some ⟨b145, o146, none⟩) ((pa ms t (k + 1)).length) cu) rfl (by rw [← hss, List.length_set])
                          refine st_run tbOk 2 hA (e' := (40, .int .i64 (IntKind.i64.wrap (((k : Nat) : Int) + 1))) :: (39, .int .i64 ((k : Nat) : Int)) :: _) rfl ?_; clear hA; intro a hA
                          replace hA := hA.rw 40 (v' := .int .i64 ((k + 1 : Nat) : Int)) rfl (wr64 (by omega) (by omega) (by omega))
                          refine st_run tbOk 1 hA (e' := (14, .int .i64 ((k + 1 : Nat) : Int)) :: _) rfl ?_; clear hA; intro a hA
                          refine wpList_nil ?_
                          replace hA := hA.sel [3, 9, 10, 11, 12, 13, 14, 15] (e' := [(3, .bool false), (9, .slice A5 ms.length c6), (10, .int .i64 ((t : Nat) : Int)), (11, .int .i64 ((n : Nat) : Int)), (12, .slice none 0 0), (13, .iface 30 (.int .i64 13)), (14, .int .i64 ((k + 1 : Nat) : Int)), (15, .slice (some ⟨b145, o146, none⟩) ((pa ms t (k + 1)).length) cu)]) rfl
                          replace hS := hS.front 1 (C := [(b88, rowO [.int .i64 a0, .int .i64 a1, .int .i64 a2, .int .i64 a3, .bool a4] 24)]) (L' := C148 :: C4 :: F) rfl rfl
                          replace hS := hS.drop1
                          replace hS := hS.front 1 (C := C4) (L' := C148 :: F) rfl rfl
                          replace hS := hS.front 1 (C := C148) (L' := C4 :: F) rfl rfl
                          replace hA := hA.rw 3 (v' := .bool wr) rfl (congrArg Value.bool (by first | exact Eq.symm (by assumption) | exact (Bool.eq_false_iff.2 (by assumption)).symm))
                          exact lp_next _ (by omega) ⟨(k + 1), (some ⟨b145, o146, none⟩), cu, C148, rfl, (hA.sel [3, 9, 10, 11, 12, 13, 14, 15] rfl), hS, by omega, hR9⟩)))
         · obtain rfl : k = j0 := by omega
           refine st_call0 hA rfl rfl rfl isfn15 rfl rfl (by decide) (find_none15 hS (l := ms) (RdS.own hO4 1 rfl) hM.s ((t + k : Nat) : Int) (fnd_no hbad)) ?_
           clear hA hS; rintro v w149 a ⟨rfl, hS⟩ hA
           refine st_run tbOk 3 hA (e' := (48, .bool false) :: (47, .agg #[.int .i64 0, .int .i64 0, .int .i64 0, .int .i64 0, .bool false]) :: (41, .tuple #[.agg #[.int .i64 0, .int .i64 0, .int .i64 0, .int .i64 0, .bool false], .bool false]) :: _) rfl ?_; clear hA; intro a hA
           refine st_alloc tbOk hA hS [.int .i64 0, .int .i64 0, .int .i64 0, .int .i64 0, .bool false] rfl rfl rfl rfl rfl (by decide) ?_; clear hA hS; intro b150 w151 a hS hA
           refine st_store tbOk hA hS [.int .i64 0, .int .i64 0, .int .i64 0, .int .i64 0, .bool false] [.int .i64 0, .int .i64 0, .int .i64 0, .int .i64 0, .bool false] rfl rfl rfl rfl rfl rfl (by simp [Value.oneCell']) (Nat.le_of_ble_eq_true rfl) rfl rfl rfl ?_; clear hS; intro w152 hS
           refine st_run tbOk 1 hA (e' := (17, .bool false) :: _) rfl ?_; clear hA; intro a hA
           refine wpList_nil ?_
           replace hA := hA.sel [3, 9, 10, 11, 12, 13, 14, 15, 16, 17] (e' := [(3, .bool wr), (9, .slice A5 ms.length c6), (10, .int .i64 ((t : Nat) : Int)), (11, .int .i64 ((n : Nat) : Int)), (12, .slice none 0 0), (13, .iface 30 (.int .i64 13)), (14, .int .i64 ((k : Nat) : Int)), (15, .slice Au ((pa ms t k).length) cu), (16, .pointer (some ⟨b150, 0, none⟩)), (17, .bool false)]) rfl
           refine xt_norm ?_
           refine wp_seq ?_
           refine wp_seq ?_
           refine wp_region_lit ?_
           refine st_run tbOk 2 hA (e' := (50, .bool true) :: (49, .bool false) :: _) rfl ?_; clear hA; intro a hA
           refine wpList_nil ?_
           replace hA := hA.sel [3, 9, 10, 11, 12, 13, 14, 15, 16, 50] (e' := [(3, .bool wr), (9, .slice A5 ms.length c6), (10, .int .i64 ((t : Nat) : Int)), (11, .int .i64 ((n : Nat) : Int)), (12, .slice none 0 0), (13, .iface 30 (.int .i64 13)), (14, .int .i64 ((k : Nat) : Int)), (15, .slice Au ((pa ms t k).length) cu), (16, .pointer (some ⟨b150, 0, none⟩)), (50, .bool true)]) rfl
           refine xt_norm ?_
           refine cd_cond_t hA rfl ?_
           refine wp_seq ?_
           refine wp_region_lit ?_
           refine st_run tbOk 1 hA (e' := (51, .iface 30 (.int .i64 13)) :: _) rfl ?_; clear hA; intro a hA
           refine st_call0 hA rfl rfl rfl isfn13 rfl rfl (by decide) (number_hit13 hS hg 13) ?_
           clear hA hS; rintro v w153 a ⟨rfl, hS⟩ hA
           refine st_run tbOk 7 hA (e' := (8, .bool true) :: (58, .bool true) :: (57, .bool true) :: (56, .int .i64 0) :: (55, .slice none 0 0) :: (54, .bool true) :: (53, .bool true) :: _) rfl ?_; clear hA; intro a hA
           refine wpList_nil ?_
           replace hA := hA.sel [8] (e' := [(8, .bool true)]) rfl
           refine xt_norm ?_
           refine wp_ret (xt_ret (xb_ret (xt_ret (xt_ret (xb_ret (xt_ret ?_))))))
           refine ret1 (fn := Tryd.f4) hA rfl rfl ?_
           replace hS := hS.drop1
           replace hS := hS.drop1
           replace hS := hS.drop1
           exact ⟨rfl, hS⟩)
    · first
      | (exfalso; omega)
      | (replace hA := hA.rw 38 (v' := .bool false) rfl (vb_false hc86)
         refine cd_cond_f hA rfl ?_
         refine wp_exit ?_
         refine xt_exit ?_
         refine xt_exit ?_
         refine cd_exit_eq ?_
         refine xt_norm ?_
         refine wp_seq ?_
         refine wp_seq ?_
         exfalso; omega)
  · subst hb2
    refine st_call0 hA rfl rfl rfl isfn14 rfl rfl (by decide) (pieces_right14 hS (l := ms) (RdS.own hO4 0 rfl) t n  hM (by omega) (by omega) hj0 hf ⟨b, hb1, hb3⟩) ?_
    clear hA hS; rintro v w154 a ⟨rfl, hS⟩ hA
    refine st_run tbOk 5 hA (e' := (13, .iface 30 (.int .i64 2)) :: (12, .slice none 0 0) :: (35, .iface 30 (.int .i64 2)) :: (34, .slice none 0 0) :: (28, .tuple #[.slice none 0 0, .iface 30 (.int .i64 2)]) :: _) rfl ?_; clear hA; intro a hA
    refine wpList_nil ?_
    replace hA := hA.sel [3, 9, 10, 11, 12, 13] (e' := [(3, .bool true), (9, .slice A5 ms.length c6), (10, .int .i64 ((t : Nat) : Int)), (11, .int .i64 ((n : Nat) : Int)), (12, .slice none 0 0), (13, .iface 30 (.int .i64 2))]) rfl
    refine xt_norm ?_
    refine wp_seq ?_
    refine wp_region_lit ?_
    refine st_run tbOk 1 hA (e' := (14, .int .i64 0) :: _) rfl ?_; clear hA; intro a hA
    refine wpList_nil ?_
    refine xt_norm ?_
    refine wp_seq ?_
    refine wp_region_lit ?_
    refine st_run tbOk 1 hA (e' := (15, .slice none 0 0) :: _) rfl ?_; clear hA; intro a hA
    refine wpList_nil ?_
    refine xt_norm ?_
    refine wp_seq ?_
    refine wp_block ?_
    replace hS := hS.nil
    replace hS := hS.front 1 (C := C4) (L' := [] :: F) rfl rfl
    replace hS := hS.front 1 (C := []) (L' := C4 :: F) rfl rfl
    refine wp_loop_ghost (fun m a w => ∃ (k : Nat) (Au : Option Addr) (cu : Nat) (U : Chunk), m = n - k ∧ Has a 132 [(3, .bool true), (9, .slice A5 ms.length c6), (10, .int .i64 ((t : Nat) : Int)), (11, .int .i64 ((n : Nat) : Int)), (12, .slice none 0 0), (13, .iface 30 (.int .i64 2)), (14, .int .i64 ((k : Nat) : Int)), (15, .slice Au ((pa ms t k).length) cu)] ∧ St w0 w (U :: C4 :: F) ∧ (k ≤ j0) ∧ (Own 44 3 (.slice Au (pa ms t k).length cu) (pa ms t k).length (rows encPiece (pa ms t k)) U)) (n - 0)
      ⟨0, none, 0, ([]), rfl, (hA.sel [3, 9, 10, 11, 12, 13, 14, 15] rfl), hS, Nat.zero_le _, (Own.nil 44 3)⟩ ?_
    clear hA hS; rintro m0 a w155 ⟨k, Au, cu, U, rfl, hA, hS, hk, hU⟩
    have hpk := pa_le ms t k
    refine wp_seq ?_
    refine wp_seq ?_
    refine wp_region_lit ?_
    refine st_run tbOk 3 hA (e' := (38, .bool (decide (((k : Nat) : Int) < ((n : Nat) : Int)))) :: (37, .int .i64 ((n : Nat) : Int)) :: (36, .int .i64 ((k : Nat) : Int)) :: _) rfl ?_; clear hA; intro a hA
    refine wpList_nil ?_
    replace hA := hA.sel [3, 9, 10, 11, 12, 13, 14, 15, 38] (e' := [(3, .bool true), (9, .slice A5 ms.length c6), (10, .int .i64 ((t : Nat) : Int)), (11, .int .i64 ((n : Nat) : Int)), (12, .slice none 0 0), (13, .iface 30 (.int .i64 2)), (14, .int .i64 ((k : Nat) : Int)), (15, .slice Au ((pa ms t k).length) cu), (38, .bool (decide (((k : Nat) : Int) < ((n : Nat) : Int))))]) rfl
    refine xt_norm ?_
    by_cases hc156 : ((k : Nat) : Int) < ((n : Nat) : Int)
    · first
      | (exfalso; omega)
      | (replace hA := hA.rw 38 (v' := .bool true) rfl (vb_true hc156)
         refine cd_cond_t hA rfl ?_
         refine wp_skip ?_
         refine xt_norm ?_
         refine wp_seq ?_
         refine wp_block ?_
         refine wp_seq ?_
         refine wp_region_lit ?_
         refine st_run tbOk 4 hA (e' := (45, .int .i64 (IntKind.i64.wrap (((t : Nat) : Int) + ((k : Nat) : Int)))) :: (44, .int .i64 ((k : Nat) : Int)) :: (43, .int .i64 ((t : Nat) : Int)) :: (42, .slice A5 ms.length c6) :: _) rfl ?_; clear hA; intro a hA
         replace hA := hA.rw 45 (v' := .int .i64 ((t + k : Nat) : Int)) rfl (wr64 (by omega) (by omega) (by omega))
         rcases Nat.lt_or_ge k j0 with hjj | hjj
         · obtain ⟨a, hfa, haw⟩ := hf k (by omega)
           obtain ⟨a0, a1, a2, a3, a4⟩ := a
           obtain ⟨i, hi, hin, hfirst⟩ := fnd_ix hfa
           have hks := hM.s _ (List.mem_of_getElem? hi); dsimp only [SOk, ab, az, ag, ao] at hks
           have hin2 := hin; dsimp only [InA, ab, az] at hin2
           refine st_call0 hA rfl rfl rfl isfn15 rfl rfl (by decide) (find_hit15 hS (l := ms) (RdS.own hO4 1 rfl) hM.s ((t + k : Nat) : Int) (y := (a0, a1, a2, a3, a4)) hi hin hfirst) ?_
           clear hA hS; rintro v w157 a ⟨rfl, hS⟩ hA
           refine st_run tbOk 3 hA (e' := (48, .bool true) :: (47, .agg #[.int .i64 a0, .int .i64 a1, .int .i64 a2, .int .i64 a3, .bool a4]) :: (41, .tuple #[.agg #[.int .i64 a0, .int .i64 a1, .int .i64 a2, .int .i64 a3, .bool a4], .bool true]) :: _) rfl ?_; clear hA; intro a hA
           refine st_alloc tbOk hA hS [.int .i64 0, .int .i64 0, .int .i64 0, .int .i64 0, .bool false] rfl rfl rfl rfl rfl (by decide) ?_; clear hA hS; intro b158 w159 a hS hA
           refine st_store tbOk hA hS [.int .i64 a0, .int .i64 a1, .int .i64 a2, .int .i64 a3, .bool a4] [.int .i64 a0, .int .i64 a1, .int .i64 a2, .int .i64 a3, .bool a4] rfl rfl rfl rfl rfl rfl (by simp [Value.oneCell']) (Nat.le_of_ble_eq_true rfl) rfl rfl rfl ?_; clear hS; intro w160 hS
           refine st_run tbOk 1 hA (e' := (17, .bool true) :: _) rfl ?_; clear hA; intro a hA
           refine wpList_nil ?_
           replace hA := hA.sel [3, 9, 10, 11, 12, 13, 14, 15, 16, 17] (e' := [(3, .bool true), (9, .slice A5 ms.length c6), (10, .int .i64 ((t : Nat) : Int)), (11, .int .i64 ((n : Nat) : Int)), (12, .slice none 0 0), (13, .iface 30 (.int .i64 2)), (14, .int .i64 ((k : Nat) : Int)), (15, .slice Au ((pa ms t k).length) cu), (16, .pointer (some ⟨b158, 0, none⟩)), (17, .bool true)]) rfl
           refine xt_norm ?_
           refine wp_seq ?_
           refine wp_seq ?_
           refine wp_region_lit ?_
           refine st_run tbOk 2 hA (e' := (50, .bool false) :: (49, .bool true) :: _) rfl ?_; clear hA; intro a hA
           refine wpList_nil ?_
           replace hA := hA.sel [3, 9, 10, 11, 12, 13, 14, 15, 16, 50] (e' := [(3, .bool true), (9, .slice A5 ms.length c6), (10, .int .i64 ((t : Nat) : Int)), (11, .int .i64 ((n : Nat) : Int)), (12, .slice none 0 0), (13, .iface 30 (.int .i64 2)), (14, .int .i64 ((k : Nat) : Int)), (15, .slice Au ((pa ms t k).length) cu), (16, .pointer (some ⟨b158, 0, none⟩)), (50, .bool false)]) rfl
           refine xt_norm ?_
           refine cd_cond_f hA rfl ?_
           refine wp_skip ?_
           refine xt_norm ?_
           refine wp_seq ?_
           refine wp_seq ?_
           refine wp_region_lit ?_
           refine st_run tbOk 3 hA (e' := (61, .pointer (some ⟨b158, 4, none⟩)) :: (60, .bool true) :: (59, .bool true) :: _) rfl ?_; clear hA; intro a hA
           refine st_val hA rfl rfl (by decide) (rn_load tbOk hA rfl rfl rfl rfl (cell_row (hS.heapAt 0 rfl) rfl)) ?_; clear hA; intro a hA
           have hc161 : a4 = true := haw (by first | rfl | assumption)
           replace hA := hA.rw 62 (v' := .bool true) rfl (vb_t hc161)
           refine st_run tbOk 2 hA (e' := (64, .bool false) :: (63, .bool false) :: _) rfl ?_; clear hA; intro a hA
           refine wpList_nil ?_
           replace hA := hA.sel [3, 9, 10, 11, 12, 13, 14, 15, 16, 64] (e' := [(3, .bool true), (9, .slice A5 ms.length c6), (10, .int .i64 ((t : Nat) : Int)), (11, .int .i64 ((n : Nat) : Int)), (12, .slice none 0 0), (13, .iface 30 (.int .i64 2)), (14, .int .i64 ((k : Nat) : Int)), (15, .slice Au ((pa ms t k).length) cu), (16, .pointer (some ⟨b158, 0, none⟩)), (64, .bool false)]) rfl
           refine xt_norm ?_
           refine cd_cond_f hA rfl ?_
           refine wp_skip ?_
           refine xt_norm ?_
           refine wp_seq ?_
           refine wp_seq ?_
           refine wp_region_lit ?_
           refine st_run tbOk 3 hA (e' := (75, .bool (((k : Nat) : Int) == 0)) :: (74, .bool (((k : Nat) : Int) == 0)) :: (73, .int .i64 ((k : Nat) : Int)) :: _) rfl ?_; clear hA; intro a hA
           by_cases hc162 : ((k : Nat) : Int) = 0
           · first
             | (exfalso; omega)
             | (replace hA := hA.rw 74 (v' := .bool true) rfl (vb_eq_t hc162)
                replace hA := hA.rw 75 (v' := .bool true) rfl (vb_eq_t hc162)
                refine st_run tbOk 7 hA (e' := (82, .bool true) :: (81, undef) :: (80, undef) :: (79, undef) :: (78, undef) :: (77, undef) :: (76, undef) :: _) rfl ?_; clear hA; intro a hA
                refine wpList_nil ?_
                replace hA := hA.sel [3, 9, 10, 11, 12, 13, 14, 15, 16, 82] (e' := [(3, .bool true), (9, .slice A5 ms.length c6), (10, .int .i64 ((t : Nat) : Int)), (11, .int .i64 ((n : Nat) : Int)), (12, .slice none 0 0), (13, .iface 30 (.int .i64 2)), (14, .int .i64 ((k : Nat) : Int)), (15, .slice Au ((pa ms t k).length) cu), (16, .pointer (some ⟨b158, 0, none⟩)), (82, .bool true)]) rfl
                refine xt_norm ?_
                refine cd_cond_t hA rfl ?_
                refine wp_region_lit ?_
                refine st_run tbOk 2 hA (e' := (84, .pointer (some ⟨b158, 2, none⟩)) :: (83, .slice Au ((pa ms t k).length) cu) :: _) rfl ?_; clear hA; intro a hA
                refine st_val hA rfl rfl (by decide) (rn_load tbOk hA rfl rfl rfl rfl (cell_row (hS.heapAt 0 rfl) rfl)) ?_; clear hA; intro a hA
                refine st_run tbOk 1 hA (e' := (86, .pointer (some ⟨b158, 3, none⟩)) :: _) rfl ?_; clear hA; intro a hA
                refine st_val hA rfl rfl (by decide) (rn_load tbOk hA rfl rfl rfl rfl (cell_row (hS.heapAt 0 rfl) rfl)) ?_; clear hA; intro a hA
                refine st_run tbOk 2 hA (e' := (89, .int .i64 (IntKind.i64.wrap (a3 + ((t : Nat) : Int)))) :: (88, .int .i64 ((t : Nat) : Int)) :: _) rfl ?_; clear hA; intro a hA
                replace hA := hA.rw 89 (v' := .int .i64 (a3 + ((t : Nat) : Int))) rfl (wr64 (by omega) (by omega) (by omega))
                refine st_run tbOk 2 hA (e' := (91, .int .i64 (IntKind.i64.wrap ((a3 + ((t : Nat) : Int)) + ((k : Nat) : Int)))) :: (90, .int .i64 ((k : Nat) : Int)) :: _) rfl ?_; clear hA; intro a hA
                replace hA := hA.rw 91 (v' := .int .i64 ((a3 + ((t : Nat) : Int)) + ((k : Nat) : Int))) rfl (wr64 (by omega) (by omega) (by omega))
                refine st_run tbOk 1 hA (e' := (92, .pointer (some ⟨b158, 0, none⟩)) :: _) rfl ?_; clear hA; intro a hA
                refine st_val hA rfl rfl (by decide) (rn_load tbOk hA rfl rfl rfl rfl (cell_row (hS.heapAt 0 rfl) rfl)) ?_; clear hA; intro a hA
                refine st_run tbOk 1 hA (e' := (94, .int .i64 (IntKind.i64.wrap (((a3 + ((t : Nat) : Int)) + ((k : Nat) : Int)) - a0))) :: _) rfl ?_; clear hA; intro a hA
                replace hA := hA.rw 94 (v' := .int .i64 (((a3 + ((t : Nat) : Int)) + ((k : Nat) : Int)) - a0)) rfl (wr64 (by omega) (by omega) (by omega))
                replace hA := hA.rw 94 (v' := .int .i64 (a3 + ((t + k : Nat) : Int) - a0)) rfl (vint (by omega))
                refine st_run tbOk 1 hA (e' := (95, .agg #[.int .i64 a2, .int .i64 (a3 + ((t + k : Nat) : Int) - a0), .int .i64 0]) :: _) rfl ?_; clear hA; intro a hA
                refine st_buildSlice tbOk hA hS [.int .i64 a2, .int .i64 (a3 + ((t + k : Nat) : Int) - a0), .int .i64 0] rfl rfl rfl rfl rfl (by decide) (by kernel_rfl) rfl rfl (by decide) ?_; clear hA hS; intro b163 w164 a hS hA
                replace hS := hS.front 2 (C := U) (L' := [(b163, rowO [.int .i64 a2, .int .i64 (a3 + ((t + k : Nat) : Int) - a0), .int .i64 0] 44)] :: [(b158, rowO [.int .i64 a0, .int .i64 a1, .int .i64 a2, .int .i64 a3, .bool a4] 24)] :: C4 :: F) rfl rfl
                refine st_append tbOk hA (m := (pa ms t k).length) (q := 1) (xs := rows encPiece (pa ms t k)) (news := rows encPiece ([(a2, a3 + ((t + k : Nat) : Int) - a0, 0)] : List (Int × Int × Int))) rfl rfl rfl rfl rfl rfl rfl rfl (by decide) hU hS (((Own.full (T := 44) (size := 3) (g := b163) (m := 1) rfl (by decide)).rd (hS.own_ 1 rfl)).x) (rows_one encPiece_ok _) (maxLen_le (by first | omega | (have h9 := pa_le ms t k; omega))) (by show ((pa ms t k).length + 1) * 24 ≤ 140737488355328; first | omega | (have h9 := pa_le ms t k; omega)) rfl rfl (by decide) ?_
                clear hA hS; intro v165 w166 C167 a hO167 hS hA
                replace hO167 := Own.app (l := pa ms t k) (l2 := ([(a2, a3 + ((t + k : Nat) : Int) - a0, 0)] : List (Int × Int × Int))) hO167
                obtain ⟨A168, c169, rfl, hmc169, hxc169⟩ := hO167.open'
                refine st_run tbOk 1 hA (e' := (15, .slice A168 (((pa ms t k) ++ ([(a2, a3 + ((t + k : Nat) : Int) - a0, 0)] : List (Int × Int × Int))).length) c169) :: _) rfl ?_; clear hA; intro a hA
                refine wpList_nil ?_
                replace hA := hA.sel [3, 9, 10, 11, 12, 13, 14, 15] (e' := [(3, .bool true), (9, .slice A5 ms.length c6), (10, .int .i64 ((t : Nat) : Int)), (11, .int .i64 ((n : Nat) : Int)), (12, .slice none 0 0), (13, .iface 30 (.int .i64 2)), (14, .int .i64 ((k : Nat) : Int)), (15, .slice A168 (((pa ms t k) ++ ([(a2, a3 + ((t + k : Nat) : Int) - a0, 0)] : List (Int × Int × Int))).length) c169)]) rfl
                refine xt_norm ?_
                refine wp_region_lit ?_
                refine st_run tbOk 4 hA (e' := (101, .int .i64 (IntKind.i64.wrap (((((pa ms t k) ++ ([(a2, a3 + ((t + k : Nat) : Int) - a0, 0)] : List (Int × Int × Int))).length : Nat) : Int) - 1))) :: (100, .int .i64 ((((pa ms t k) ++ ([(a2, a3 + ((t + k : Nat) : Int) - a0, 0)] : List (Int × Int × Int))).length : Nat) : Int)) :: (99, .slice A168 (((pa ms t k) ++ ([(a2, a3 + ((t + k : Nat) : Int) - a0, 0)] : List (Int × Int × Int))).length) c169) :: (98, .slice A168 (((pa ms t k) ++ ([(a2, a3 + ((t + k : Nat) : Int) - a0, 0)] : List (Int × Int × Int))).length) c169) :: _) rfl ?_; clear hA; intro a hA
                replace hA := hA.rw 101 (v' := .int .i64 (((((pa ms t k) ++ ([(a2, a3 + ((t + k : Nat) : Int) - a0, 0)] : List (Int × Int × Int))).length : Nat) : Int) - 1)) rfl (wr64 (by omega) (by omega) (by omega))
                have hne : 0 < ((pa ms t k) ++ ([(a2, a3 + ((t + k : Nat) : Int) - a0, 0)] : List (Int × Int × Int))).length := by rw [List.length_append]; show 0 < _ + 1; omega
                have hxl : ((pa ms t k) ++ ([(a2, a3 + ((t + k : Nat) : Int) - a0, 0)] : List (Int × Int × Int)))[((pa ms t k) ++ ([(a2, a3 + ((t + k : Nat) : Int) - a0, 0)] : List (Int × Int × Int))).length - 1]? = some (a2, a3 + ((t + k : Nat) : Int) - a0, 0) := last_at1 _ _
                replace hA := hA.rw 101 (v' := .int .i64 ((((pa ms t k) ++ ([(a2, a3 + ((t + k : Nat) : Int) - a0, 0)] : List (Int × Int × Int))).length - 1 : Nat) : Int)) rfl (vint (by omega))
                obtain ⟨b170, o171, rfl⟩ := hO167.isSome (k := (((pa ms t k) ++ ([(a2, a3 + ((t + k : Nat) : Int) - a0, 0)] : List (Int × Int × Int))).length - 1)) (by omega)
                refine st_val hA rfl rfl (by decide) (rn_indexAddr tbOk hA (((pa ms t k) ++ ([(a2, a3 + ((t + k : Nat) : Int) - a0, 0)] : List (Int × Int × Int))).length - 1) (o171 + ((((pa ms t k) ++ ([(a2, a3 + ((t + k : Nat) : Int) - a0, 0)] : List (Int × Int × Int))).length - 1) * 3)) rfl rfl rfl rfl rfl rfl (by rfl) (by omega) (by first | rfl | simp [Nat.mul_one, Nat.zero_add] | omega)) ?_; clear hA; intro a hA
                refine st_run tbOk 1 hA (e' := (103, .pointer (some ⟨b170, o171 + ((((pa ms t k) ++ ([(a2, a3 + ((t + k : Nat) : Int) - a0, 0)] : List (Int × Int × Int))).length - 1) * 3) + 2, none⟩)) :: _) rfl ?_; clear hA; intro a hA
                refine st_val hA rfl rfl (by decide) (rn_load tbOk hA rfl rfl rfl rfl ((hO167.rd (hS.own_ 0 rfl)).elemf (k := ((pa ms t k) ++ ([(a2, a3 + ((t + k : Nat) : Int) - a0, 0)] : List (Int × Int × Int))).length - 1) encPiece_ok hxl (j := 2) rfl)) ?_; clear hA; intro a hA
                refine st_run tbOk 1 hA (e' := (105, .int .i64 (IntKind.i64.wrap (0 + 1))) :: _) rfl ?_; clear hA; intro a hA
                replace hA := hA.rw 105 (v' := .int .i64 1) rfl (wr64 (by omega) (by omega) (by omega))
                refine st_val hA rfl rfl (by decide) (rn_indexAddr tbOk hA (((pa ms t k) ++ ([(a2, a3 + ((t + k : Nat) : Int) - a0, 0)] : List (Int × Int × Int))).length - 1) (o171 + ((((pa ms t k) ++ ([(a2, a3 + ((t + k : Nat) : Int) - a0, 0)] : List (Int × Int × Int))).length - 1) * 3)) rfl rfl rfl rfl rfl rfl (by rfl) (by omega) (by first | rfl | simp [Nat.mul_one, Nat.zero_add] | omega)) ?_; clear hA; intro a hA
                refine st_run tbOk 1 hA (e' := (107, .pointer (some ⟨b170, o171 + ((((pa ms t k) ++ ([(a2, a3 + ((t + k : Nat) : Int) - a0, 0)] : List (Int × Int × Int))).length - 1) * 3) + 2, none⟩)) :: _) rfl ?_; clear hA; intro a hA
                refine st_store_own tbOk hA hO167 hS (((((pa ms t k) ++ ([(a2, a3 + ((t + k : Nat) : Int) - a0, 0)] : List (Int × Int × Int))).length - 1) * 3) + 2) (o171 + ((((pa ms t k) ++ ([(a2, a3 + ((t + k : Nat) : Int) - a0, 0)] : List (Int × Int × Int))).length - 1) * 3) + 2) [.int .i64 1] (rows encPiece (((pa ms t k) ++ ([(a2, a3 + ((t + k : Nat) : Int) - a0, 0)] : List (Int × Int × Int))).set (((pa ms t k) ++ ([(a2, a3 + ((t + k : Nat) : Int) - a0, 0)] : List (Int × Int × Int))).length - 1) (a2, a3 + ((t + k : Nat) : Int) - a0, 1))) rfl rfl rfl rfl (by rfl) rfl rfl (by intro u hu; rw [List.mem_singleton.1 hu]; rfl) (by simp only [rows_length encPiece_ok, List.length_cons, List.length_nil]; omega) (rows_setf encPiece_ok (a2, a3 + ((t + k : Nat) : Int) - a0, 1) hxl 2 [.int .i64 1] (Nat.le_of_ble_eq_true rfl) rfl) rfl rfl ?_; clear hS; intro w172 C173 hO173 hS
                refine wpList_nil ?_
                replace hA := hA.sel [3, 9, 10, 11, 12, 13, 14, 15] (e' := [(3, .bool true), (9, .slice A5 ms.length c6), (10, .int .i64 ((t : Nat) : Int)), (11, .int .i64 ((n : Nat) : Int)), (12, .slice none 0 0), (13, .iface 30 (.int .i64 2)), (14, .int .i64 ((k : Nat) : Int)), (15, .slice (some ⟨b170, o171, none⟩) (((pa ms t k) ++ ([(a2, a3 + ((t + k : Nat) : Int) - a0, 0)] : List (Int × Int × Int))).length) c169)]) rfl
                refine xb_norm ?_
                refine xt_norm ?_
                refine wp_region_lit ?_
                have hss : ((pa ms t k) ++ ([(a2, a3 + ((t + k : Nat) : Int) - a0, 0)] : List (Int × Int × Int))).set (((pa ms t k) ++ ([(a2, a3 + ((t + k : Nat) : Int) - a0, 0)] : List (Int × Int × Int))).length - 1) (a2, a3 + ((t + k : Nat) : Int) - a0, 1) = pa ms t (k + 1) := (bump_set hxl).symm.trans (pa_new hfa (by dsimp only [ab]; omega)).symm
                have hR9 : Own 44 3 (.slice (some ⟨b170, o171, none⟩) (pa ms t (k + 1)).length c169) (pa ms t (k + 1)).length (rows encPiece (pa ms t (k + 1))) C173 := by rw [← hss, List.length_set]; exact hO173
                replace hA := hA.rw 15 (v' := .slice (some ⟨b170, o171, none⟩) ((pa ms t (k + 1)).length) c169) rfl (by rw [← hss, List.length_set])
                refine st_run tbOk 2 hA (e' := (40, .int .i64 (IntKind.i64.wrap (((k : Nat) : Int) + 1))) :: (39, .int .i64 ((k : Nat) : Int)) :: _) rfl ?_; clear hA; intro a hA
                replace hA := hA.rw 40 (v' := .int .i64 ((k + 1 : Nat) : Int)) rfl (wr64 (by omega) (by omega) (by omega))
                refine st_run tbOk 1 hA (e' := (14, .int .i64 ((k + 1 : Nat) : Int)) :: _) rfl ?_; clear hA; intro a hA
                refine wpList_nil ?_
                replace hA := hA.sel [3, 9, 10, 11, 12, 13, 14, 15] (e' := [(3, .bool true), (9, .slice A5 ms.length c6), (10, .int .i64 ((t : Nat) : Int)), (11, .int .i64 ((n : Nat) : Int)), (12, .slice none 0 0), (13, .iface 30 (.int .i64 2)), (14, .int .i64 ((k + 1 : Nat) : Int)), (15, .slice (some ⟨b170, o171, none⟩) ((pa ms t (k + 1)).length) c169)]) rfl
                replace hS := hS.front 1 (C := [(b163, rowO [.int .i64 a2, .int .i64 (a3 + ((t + k : Nat) : Int) - a0), .int .i64 0] 44)]) (L' := C173 :: [(b158, rowO [.int .i64 a0, .int .i64 a1, .int .i64 a2, .int .i64 a3, .bool a4] 24)] :: C4 :: F) rfl rfl
                replace hS := hS.drop1
                replace hS := hS.front 1 (C := [(b158, rowO [.int .i64 a0, .int .i64 a1, .int .i64 a2, .int .i64 a3, .bool a4] 24)]) (L' := C173 :: C4 :: F) rfl rfl
                replace hS := hS.drop1
                replace hS := hS.front 1 (C := C4) (L' := C173 :: F) rfl rfl
                replace hS := hS.front 1 (C := C173) (L' := C4 :: F) rfl rfl
                exact lp_next _ (by omega) ⟨(k + 1), (some ⟨b170, o171, none⟩), c169, C173, rfl, (hA.sel [3, 9, 10, 11, 12, 13, 14, 15] rfl), hS, by omega, hR9⟩)
           · first
             | (exfalso; omega)
             | (replace hA := hA.rw 74 (v' := .bool false) rfl (vb_eq_f hc162)
                replace hA := hA.rw 75 (v' := .bool false) rfl (vb_eq_f hc162)
                refine st_run tbOk 1 hA (e' := (76, .pointer (some ⟨b158, 0, none⟩)) :: _) rfl ?_; clear hA; intro a hA
                refine st_val hA rfl rfl (by decide) (rn_load tbOk hA rfl rfl rfl rfl (cell_row (hS.heapAt 0 rfl) rfl)) ?_; clear hA; intro a hA
                refine st_run tbOk 3 hA (e' := (80, .int .i64 (IntKind.i64.wrap (((t : Nat) : Int) + ((k : Nat) : Int)))) :: (79, .int .i64 ((k : Nat) : Int)) :: (78, .int .i64 ((t : Nat) : Int)) :: _) rfl ?_; clear hA; intro a hA
                replace hA := hA.rw 80 (v' := .int .i64 ((t + k : Nat) : Int)) rfl (wr64 (by omega) (by omega) (by omega))
                refine st_run tbOk 2 hA (e' := (82, .bool (a0 == ((t + k : Nat) : Int))) :: (81, .bool (a0 == ((t + k : Nat) : Int))) :: _) rfl ?_; clear hA; intro a hA
                refine wpList_nil ?_
                replace hA := hA.sel [3, 9, 10, 11, 12, 13, 14, 15, 16, 82] (e' := [(3, .bool true), (9, .slice A5 ms.length c6), (10, .int .i64 ((t : Nat) : Int)), (11, .int .i64 ((n : Nat) : Int)), (12, .slice none 0 0), (13, .iface 30 (.int .i64 2)), (14, .int .i64 ((k : Nat) : Int)), (15, .slice Au ((pa ms t k).length) cu), (16, .pointer (some ⟨b158, 0, none⟩)), (82, .bool (a0 == ((t + k : Nat) : Int)))]) rfl
                refine xt_norm ?_
                by_cases hc174 : a0 = ((t + k : Nat) : Int)
                · first
                  | (exfalso; omega)
                  | (replace hA := hA.rw 82 (v' := .bool true) rfl (vb_eq_t hc174)
                     refine cd_cond_t hA rfl ?_
                     refine wp_region_lit ?_
                     refine st_run tbOk 2 hA (e' := (84, .pointer (some ⟨b158, 2, none⟩)) :: (83, .slice Au ((pa ms t k).length) cu) :: _) rfl ?_; clear hA; intro a hA
                     refine st_val hA rfl rfl (by decide) (rn_load tbOk hA rfl rfl rfl rfl (cell_row (hS.heapAt 0 rfl) rfl)) ?_; clear hA; intro a hA
                     refine st_run tbOk 1 hA (e' := (86, .pointer (some ⟨b158, 3, none⟩)) :: _) rfl ?_; clear hA; intro a hA
                     refine st_val hA rfl rfl (by decide) (rn_load tbOk hA rfl rfl rfl rfl (cell_row (hS.heapAt 0 rfl) rfl)) ?_; clear hA; intro a hA
                     refine st_run tbOk 2 hA (e' := (89, .int .i64 (IntKind.i64.wrap (a3 + ((t : Nat) : Int)))) :: (88, .int .i64 ((t : Nat) : Int)) :: _) rfl ?_; clear hA; intro a hA
                     replace hA := hA.rw 89 (v' := .int .i64 (a3 + ((t : Nat) : Int))) rfl (wr64 (by omega) (by omega) (by omega))
                     refine st_run tbOk 2 hA (e' := (91, .int .i64 (IntKind.i64.wrap ((a3 + ((t : Nat) : Int)) + ((k : Nat) : Int)))) :: (90, .int .i64 ((k : Nat) : Int)) :: _) rfl ?_; clear hA; intro a hA
                     replace hA := hA.rw 91 (v' := .int .i64 ((a3 + ((t : Nat) : Int)) + ((k : Nat) : Int))) rfl (wr64 (by omega) (by omega) (by omega))
                     refine st_run tbOk 1 hA (e' := (92, .pointer (some ⟨b158, 0, none⟩)) :: _) rfl ?_; clear hA; intro a hA
                     refine st_val hA rfl rfl (by decide) (rn_load tbOk hA rfl rfl rfl rfl (cell_row (hS.heapAt 0 rfl) rfl)) ?_; clear hA; intro a hA
                     refine st_run tbOk 1 hA (e' := (94, .int .i64 (IntKind.i64.wrap (((a3 + ((t : Nat) : Int)) + ((k : Nat) : Int)) - a0))) :: _) rfl ?_; clear hA; intro a hA
                     replace hA := hA.rw 94 (v' := .int .i64 (((a3 + ((t : Nat) : Int)) + ((k : Nat) : Int)) - a0)) rfl (wr64 (by omega) (by omega) (by omega))
                     replace hA := hA.rw 94 (v' := .int .i64 (a3 + ((t + k : Nat) : Int) - a0)) rfl (vint (by omega))
                     refine st_run tbOk 1 hA (e' := (95, .agg #[.int .i64 a2, .int .i64 (a3 + ((t + k : Nat) : Int) - a0), .int .i64 0]) :: _) rfl ?_; clear hA; intro a hA
                     refine st_buildSlice tbOk hA hS [.int .i64 a2, .int .i64 (a3 + ((t + k : Nat) : Int) - a0), .int .i64 0] rfl rfl rfl rfl rfl (by decide) (by kernel_rfl) rfl rfl (by decide) ?_; clear hA hS; intro b175 w176 a hS hA
                     replace hS := hS.front 2 (C := U) (L' := [(b175, rowO [.int .i64 a2, .int .i64 (a3 + ((t + k : Nat) : Int) - a0), .int .i64 0] 44)] :: [(b158, rowO [.int .i64 a0, .int .i64 a1, .int .i64 a2, .int .i64 a3, .bool a4] 24)] :: C4 :: F) rfl rfl
                     refine st_append tbOk hA (m := (pa ms t k).length) (q := 1) (xs := rows encPiece (pa ms t k)) (news := rows encPiece ([(a2, a3 + ((t + k : Nat) : Int) - a0, 0)] : List (Int × Int × Int))) rfl rfl rfl rfl rfl rfl rfl rfl (by decide) hU hS (((Own.full (T := 44) (size := 3) (g := b175) (m := 1) rfl (by decide)).rd (hS.own_ 1 rfl)).x) (rows_one encPiece_ok _) (maxLen_le (by first | omega | (have h9 := pa_le ms t k; omega))) (by show ((pa ms t k).length + 1) * 24 ≤ 140737488355328; first | omega | (have h9 := pa_le ms t k; omega)) rfl rfl (by decide) ?_
                     clear hA hS; intro v177 w178 C179 a hO179 hS hA
                     replace hO179 := Own.app (l := pa ms t k) (l2 := ([(a2, a3 + ((t + k : Nat) : Int) - a0, 0)] : List (Int × Int × Int))) hO179
                     obtain ⟨A180, c181, rfl, hmc181, hxc181⟩ := hO179.open'
                     refine st_run tbOk 1 hA (e' := (15, .slice A180 (((pa ms t k) ++ ([(a2, a3 + ((t + k : Nat) : Int) - a0, 0)] : List (Int × Int × Int))).length) c181) :: _) rfl ?_; clear hA; intro a hA
                     refine wpList_nil ?_
                     replace hA := hA.sel [3, 9, 10, 11, 12, 13, 14, 15] (e' := [(3, .bool true), (9, .slice A5 ms.length c6), (10, .int .i64 ((t : Nat) : Int)), (11, .int .i64 ((n : Nat) : Int)), (12, .slice none 0 0), (13, .iface 30 (.int .i64 2)), (14, .int .i64 ((k : Nat) : Int)), (15, .slice A180 (((pa ms t k) ++ ([(a2, a3 + ((t + k : Nat) : Int) - a0, 0)] : List (Int × Int × Int))).length) c181)]) rfl
                     refine xt_norm ?_
                     refine wp_region_lit ?_
                     refine st_run tbOk 4 hA (e' := (101, .int .i64 (IntKind.i64.wrap (((((pa ms t k) ++ ([(a2, a3 + ((t + k : Nat) : Int) - a0, 0)] : List (Int × Int × Int))).length : Nat) : Int) - 1))) :: (100, .int .i64 ((((pa ms t k) ++ ([(a2, a3 + ((t + k : Nat) : Int) - a0, 0)] : List (Int × Int × Int))).length : Nat) : Int)) :: (99, .slice A180 (((pa ms t k) ++ ([(a2, a3 + ((t + k : Nat) : Int) - a0, 0)] : List (Int × Int × Int))).length) c181) :: (98, .slice A180 (((pa ms t k) ++ ([(a2, a3 + ((t + k : Nat) : Int) - a0, 0)] : List (Int × Int × Int))).length) c181) :: _) rfl ?_; clear hA; intro a hA
                     replace hA := hA.rw 101 (v' := .int .i64 (((((pa ms t k) ++ ([(a2, a3 + ((t + k : Nat) : Int) - a0, 0)] : List (Int × Int × Int))).length : Nat) : Int) - 1)) rfl (wr64 (by omega) (by omega) (by omega))
                     have hne : 0 < ((pa ms t k) ++ ([(a2, a3 + ((t + k : Nat) : Int) - a0, 0)] : List (Int × Int × Int))).length := by rw [List.length_append]; show 0 < _ + 1; omega
                     have hxl : ((pa ms t k) ++ ([(a2, a3 + ((t + k : Nat) : Int) - a0, 0)] : List (Int × Int × Int)))[((pa ms t k) ++ ([(a2, a3 + ((t + k : Nat) : Int) - a0, 0)] : List (Int × Int × Int))).length - 1]? = some (a2, a3 + ((t + k : Nat) : Int) - a0, 0) := last_at1 _ _
                     replace hA := hA.rw 101 (v' := .int .i64 ((((pa ms t k) ++ ([(a2, a3 + ((t + k : Nat) : Int) - a0, 0)] : List (Int × Int × Int))).length - 1 : Nat) : Int)) rfl (vint (by omega))
                     obtain ⟨b182, o183, rfl⟩ := hO179.isSome (k := (((pa ms t k) ++ ([(a2, a3 + ((t + k : Nat) : Int) - a0, 0)] : List (Int × Int × Int))).length - 1)) (by omega)
                     refine st_val hA rfl rfl (by decide) (rn_indexAddr tbOk hA (((pa ms t k) ++ ([(a2, a3 + ((t + k : Nat) : Int) - a0, 0)] : List (Int × Int × Int))).length - 1) (o183 + ((((pa ms t k) ++ ([(a2, a3 + ((t + k : Nat) : Int) - a0, 0)] : List (Int × Int × Int))).length - 1) * 3)) rfl rfl rfl rfl rfl rfl (by rfl) (by omega) (by first | rfl | simp [Nat.mul_one, Nat.zero_add] | omega)) ?_; clear hA; intro a hA
                     refine st_run tbOk 1 hA (e' := (103, .pointer (some ⟨b182, o183 + ((((pa ms t k) ++ ([(a2, a3 + ((t + k : Nat) : Int) - a0, 0)] : List (Int × Int × Int))).length - 1) * 3) + 2, none⟩)) :: _) rfl ?_; clear hA; intro a hA
                     refine st_val hA rfl rfl (by decide) (rn_load tbOk hA rfl rfl rfl rfl ((hO179.rd (hS.own_ 0 rfl)).elemf (k := ((pa ms t k) ++ ([(a2, a3 + ((t + k : Nat) : Int) - a0, 0)] : List (Int × Int × Int))).length - 1) encPiece_ok hxl (j := 2) rfl)) ?_; clear hA; intro a hA
                     refine st_run tbOk 1 hA (e' := (105, .int .i64 (IntKind.i64.wrap (0 + 1))) :: _) rfl ?_; clear hA; intro a hA
                     replace hA := hA.rw 105 (v' := .int .i64 1) rfl (wr64 (by omega) (by omega) (by omega))
                     refine st_val hA rfl rfl (by decide) (rn_indexAddr tbOk hA (((pa ms t k) ++ ([(a2, a3 + ((t + k : Nat) : Int) - a0, 0)] : List (Int × Int × Int))).length - 1) (o183 + ((((pa ms t k) ++ ([(a2, a3 + ((t + k : Nat) : Int) - a0, 0)] : List (Int × Int × Int))).length - 1) * 3)) rfl rfl rfl rfl rfl rfl (by rfl) (by omega) (by first | rfl | simp [Nat.mul_one, Nat.zero_add] | omega)) ?_; clear hA; intro a hA
                     refine st_run tbOk 1 hA (e' := (107, .pointer (some ⟨b182, o183 + ((((pa ms t k) ++ ([(a2, a3 + ((t + k : Nat) : Int) - a0, 0)] : List (Int × Int × Int))).length - 1) * 3) + 2, none⟩)) :: _) rfl ?_; clear hA; intro a hA
                     refine st_store_own tbOk hA hO179 hS (((((pa ms t k) ++ ([(a2, a3 + ((t + k : Nat) : Int) - a0, 0)] : List (Int × Int × Int))).length - 1) * 3) + 2) (o183 + ((((pa ms t k) ++ ([(a2, a3 + ((t + k : Nat) : Int) - a0, 0)] : List (Int × Int × Int))).length - 1) * 3) + 2) [.int .i64 1] (rows encPiece (((pa ms t k) ++ ([(a2, a3 + ((t + k : Nat) : Int) - a0, 0)] : List (Int × Int × Int))).set (((pa ms t k) ++ ([(a2, a3 + ((t + k : Nat) : Int) - a0, 0)] : List (Int × Int × Int))).length - 1) (a2, a3 + ((t + k : Nat) : Int) - a0, 1))) rfl rfl rfl rfl (by rfl) rfl rfl (by intro u hu; rw [List.mem_singleton.1 hu]; rfl) (by simp only [rows_length encPiece_ok, List.length_cons, List.length_nil]; omega) (rows_setf encPiece_ok (a2, a3 + ((t + k : Nat) : Int) - a0, 1) hxl 2 [.int .i64 1] (Nat.le_of_ble_eq_true rfl) rfl) rfl rfl ?_; clear hS; intro w184 C185 hO185 hS
                     refine wpList_nil ?_
                     replace hA := hA.sel [3, 9, 10, 11, 12, 13, 14, 15] (e' := [(3, .bool true), (9, .slice A5 ms.length c6), (10, .int .i64 ((t : Nat) : Int)), (11, .int .i64 ((n : Nat) : Int)), (12, .slice none 0 0), (13, .iface 30 (.int .i64 2)), (14, .int .i64 ((k : Nat) : Int)), (15, .slice (some ⟨b182, o183, none⟩) (((pa ms t k) ++ ([(a2, a3 + ((t + k : Nat) : Int) - a0, 0)] : List (Int × Int × Int))).length) c181)]) rfl
                     refine xb_norm ?_
                     refine xt_norm ?_
                     refine wp_region_lit ?_
                     have hss : ((pa ms t k) ++ ([(a2, a3 + ((t + k : Nat) : Int) - a0, 0)] : List (Int × Int × Int))).set (((pa ms t k) ++ ([(a2, a3 + ((t + k : Nat) : Int) - a0, 0)] : List (Int × Int × Int))).length - 1) (a2, a3 + ((t + k : Nat) : Int) - a0, 1) = pa ms t (k + 1) := (bump_set hxl).symm.trans (pa_new hfa (by dsimp only [ab]; omega)).symm
                     have hR9 : Own 44 3 (.slice (some ⟨b182, o183, none⟩) (pa ms t (k + 1)).length c181) (pa ms t (k + 1)).length (rows encPiece (pa ms t (k + 1))) C185 := by rw [← hss, List.length_set]; exact hO185
                     replace hA := hA.rw 15 (v' := .slice (some ⟨b182, o183, none⟩) ((pa ms t (k + 1)).length) c181) rfl (by rw [← hss, List.length_set])
                     refine st_run tbOk 2 hA (e' := (40, .int .i64 (IntKind.i64.wrap (((k : Nat) : Int) + 1))) :: (39, .int .i64 ((k : Nat) : Int)) :: _) rfl ?_; clear hA; intro a hA
                     replace hA := hA.rw 40 (v' := .int .i64 ((k + 1 : Nat) : Int)) rfl (wr64 (by omega) (by omega) (by omega))
                     refine st_run tbOk 1 hA (e' := (14, .int .i64 ((k + 1 : Nat) : Int)) :: _) rfl ?_; clear hA; intro a hA
                     refine wpList_nil ?_
                     replace hA := hA.sel [3, 9, 10, 11, 12, 13, 14, 15] (e' := [(3, .bool true), (9, .slice A5 ms.length c6), (10, .int .i64 ((t : Nat) : Int)), (11, .int .i64 ((n : Nat) : Int)), (12, .slice none 0 0), (13, .iface 30 (.int .i64 2)), (14, .int .i64 ((k + 1 : Nat) : Int)), (15, .slice (some ⟨b182, o183, none⟩) ((pa ms t (k + 1)).length) c181)]) rfl
                     replace hS := hS.front 1 (C := [(b175, rowO [.int .i64 a2, .int .i64 (a3 + ((t + k : Nat) : Int) - a0), .int .i64 0] 44)]) (L' := C185 :: [(b158, rowO [.int .i64 a0, .int .i64 a1, .int .i64 a2, .int .i64 a3, .bool a4] 24)] :: C4 :: F) rfl rfl
                     replace hS := hS.drop1
                     replace hS := hS.front 1 (C := [(b158, rowO [.int .i64 a0, .int .i64 a1, .int .i64 a2, .int .i64 a3, .bool a4] 24)]) (L' := C185 :: C4 :: F) rfl rfl
                     replace hS := hS.drop1
                     replace hS := hS.front 1 (C := C4) (L' := C185 :: F) rfl rfl
                     replace hS := hS.front 1 (C := C185) (L' := C4 :: F) rfl rfl
                     exact lp_next _ (by omega) ⟨(k + 1), (some ⟨b182, o183, none⟩), c181, C185, rfl, (hA.sel [3, 9, 10, 11, 12, 13, 14, 15] rfl), hS, by omega, hR9⟩)
                · first
                  | (exfalso; omega)
                  | (replace hA := hA.rw 82 (v' := .bool false) rfl (vb_eq_f hc174)
                     refine cd_cond_f hA rfl ?_
                     refine wp_skip ?_
                     refine xt_norm ?_
                     refine wp_region_lit ?_
                     refine st_run tbOk 4 hA (e' := (101, .int .i64 (IntKind.i64.wrap ((((pa ms t k).length : Nat) : Int) - 1))) :: (100, .int .i64 (((pa ms t k).length : Nat) : Int)) :: (99, .slice Au ((pa ms t k).length) cu) :: (98, .slice Au ((pa ms t k).length) cu) :: _) rfl ?_; clear hA; intro a hA
                     replace hA := hA.rw 101 (v' := .int .i64 ((((pa ms t k).length : Nat) : Int) - 1)) rfl (wr64 (by omega) (by omega) (by omega))
                     have hne : 0 < (pa ms t k).length := pa_ne (fun i hi => (hf i (by omega)).ex) (by omega)
                     obtain ⟨⟨x0, x1, x2⟩, hxl⟩ := get_ex (l := pa ms t k) (k := (pa ms t k).length - 1) (by omega)
                     have hxb := pa_pos (l := ms) (t0 := t) (n := k) (fun i hi => (hf i (by omega)).ex) _ (List.mem_of_getElem? hxl); dsimp only at hxb
                     replace hA := hA.rw 101 (v' := .int .i64 (((pa ms t k).length - 1 : Nat) : Int)) rfl (vint (by omega))
                     obtain ⟨b186, o187, rfl⟩ := hU.isSome (k := ((pa ms t k).length - 1)) (by omega)
                     refine st_val hA rfl rfl (by decide) (rn_indexAddr tbOk hA ((pa ms t k).length - 1) (o187 + (((pa ms t k).length - 1) * 3)) rfl rfl rfl rfl rfl rfl (by rfl) (by omega) (by first | rfl | simp [Nat.mul_one, Nat.zero_add] | omega)) ?_; clear hA; intro a hA
                     refine st_run tbOk 1 hA (e' := (103, .pointer (some ⟨b186, o187 + (((pa ms t k).length - 1) * 3) + 2, none⟩)) :: _) rfl ?_; clear hA; intro a hA
                     refine st_val hA rfl rfl (by decide) (rn_load tbOk hA rfl rfl rfl rfl ((hU.rd (hS.own_ 1 rfl)).elemf (k := (pa ms t k).length - 1) encPiece_ok hxl (j := 2) rfl)) ?_; clear hA; intro a hA
                     refine st_run tbOk 1 hA (e' := (105, .int .i64 (IntKind.i64.wrap (x2 + 1))) :: _) rfl ?_; clear hA; intro a hA
                     replace hA := hA.rw 105 (v' := .int .i64 (x2 + 1)) rfl (wr64 (by omega) (by omega) (by omega))
                     refine st_val hA rfl rfl (by decide) (rn_indexAddr tbOk hA ((pa ms t k).length - 1) (o187 + (((pa ms t k).length - 1) * 3)) rfl rfl rfl rfl rfl rfl (by rfl) (by omega) (by first | rfl | simp [Nat.mul_one, Nat.zero_add] | omega)) ?_; clear hA; intro a hA
                     refine st_run tbOk 1 hA (e' := (107, .pointer (some ⟨b186, o187 + (((pa ms t k).length - 1) * 3) + 2, none⟩)) :: _) rfl ?_; clear hA; intro a hA
                     replace hS := hS.front 1 (C := U) (L' := [(b158, rowO [.int .i64 a0, .int .i64 a1, .int .i64 a2, .int .i64 a3, .bool a4] 24)] :: C4 :: F) rfl rfl
                     refine st_store_own tbOk hA hU hS ((((pa ms t k).length - 1) * 3) + 2) (o187 + (((pa ms t k).length - 1) * 3) + 2) [.int .i64 (x2 + 1)] (rows encPiece ((pa ms t k).set ((pa ms t k).length - 1) (x0, x1, x2 + 1))) rfl rfl rfl rfl (by rfl) rfl rfl (by intro u hu; rw [List.mem_singleton.1 hu]; rfl) (by simp only [rows_length encPiece_ok, List.length_cons, List.length_nil]; omega) (rows_setf encPiece_ok (x0, x1, x2 + 1) hxl 2 [.int .i64 (x2 + 1)] (Nat.le_of_ble_eq_true rfl) rfl) rfl rfl ?_; clear hS; intro w188 C189 hO189 hS
                     refine wpList_nil ?_
                     replace hA := hA.sel [3, 9, 10, 11, 12, 13, 14, 15] (e' := [(3, .bool true), (9, .slice A5 ms.length c6), (10, .int .i64 ((t : Nat) : Int)), (11, .int .i64 ((n : Nat) : Int)), (12, .slice none 0 0), (13, .iface 30 (.int .i64 2)), (14, .int .i64 ((k : Nat) : Int)), (15, .slice (some ⟨b186, o187, none⟩) ((pa ms t k).length) cu)]) rfl
                     refine xb_norm ?_
                     refine xt_norm ?_
                     refine wp_region_lit ?_
                     have hss : (pa ms t k).set ((pa ms t k).length - 1) (x0, x1, x2 + 1) = pa ms t (k + 1) := (bump_set hxl).symm.trans (pa_old hfa (by dsimp only [ab]; omega)).symm
                     have hR9 : Own 44 3 (.slice (some ⟨b186, o187, none⟩) (pa ms t (k + 1)).length cu) (pa ms t (k + 1)).length (rows encPiece (pa ms t (k + 1))) C189 := by rw [← hss, List.length_set]; exact hO189
                     replace hA := hA.rw 15 (v' := .slice (some ⟨b186, o187, none⟩) ((pa ms t (k + 1)).length) cu) rfl (by rw [← hss, List.length_set])
                     refine st_run tbOk 2 hA (e' := (40, .int .i64 (IntKind.i64.wrap (((k : Nat) : Int) + 1))) :: (39, .int .i64 ((k : Nat) : Int)) :: _) rfl ?_; clear hA; intro a hA
                     replace hA := hA.rw 40 (v' := .int .i64 ((k + 1 : Nat) : Int)) rfl (wr64 (by omega) (by omega) (by omega))
                     refine st_run tbOk 1 hA (e' := (14, .int .i64 ((k + 1 : Nat) : Int)) :: _) rfl ?_; clear hA; intro a hA
                     refine wpList_nil ?_
                     replace hA := hA.sel [3, 9, 10, 11, 12, 13, 14, 15] (e' := [(3, .bool true), (9, .slice A5 ms.length c6), (10, .int .i64 ((t : Nat) : Int)), (11, .int .i64 ((n : Nat) : Int)), (12, .slice none 0 0), (13, .iface 30 (.int .i64 2)), (14, .int .i64 ((k + 1 : Nat) : Int)), (15, .slice (some ⟨b186, o187, none⟩) ((pa ms t (k + 1)).length) cu)]) rfl
                     replace hS := hS.front 1 (C := [(b158, rowO [.int .i64 a0, .int .i64 a1, .int .i64 a2, .int .i64 a3, .bool a4] 24)]) (L' := C189 :: C4 :: F) rfl rfl
                     replace hS := hS.drop1
                     replace hS := hS.front 1 (C := C4) (L' := C189 :: F) rfl rfl
                     replace hS := hS.front 1 (C := C189) (L' := C4 :: F) rfl rfl
                     exact lp_next _ (by omega) ⟨(k + 1), (some ⟨b186, o187, none⟩), cu, C189, rfl, (hA.sel [3, 9, 10, 11, 12, 13, 14, 15] rfl), hS, by omega, hR9⟩))
         · obtain rfl : k = j0 := by omega
           obtain ⟨a, hfa, ha4⟩ : ∃ a, fnd ms ((t + k : Nat) : Int) = some a ∧ aw a = false := ⟨b, hb1, hb3⟩
           obtain ⟨a0, a1, a2, a3, a4⟩ := a
           obtain ⟨i, hi, hin, hfirst⟩ := fnd_ix hfa
           have hks := hM.s _ (List.mem_of_getElem? hi); dsimp only [SOk, ab, az, ag, ao] at hks
           have hin2 := hin; dsimp only [InA, ab, az] at hin2
           dsimp only [aw] at ha4
           subst ha4
           refine st_call0 hA rfl rfl rfl isfn15 rfl rfl (by decide) (find_hit15 hS (l := ms) (RdS.own hO4 1 rfl) hM.s ((t + k : Nat) : Int) (y := (a0, a1, a2, a3, false)) hi hin hfirst) ?_
           clear hA hS; rintro v w190 a ⟨rfl, hS⟩ hA
           refine st_run tbOk 3 hA (e' := (48, .bool true) :: (47, .agg #[.int .i64 a0, .int .i64 a1, .int .i64 a2, .int .i64 a3, .bool false]) :: (41, .tuple #[.agg #[.int .i64 a0, .int .i64 a1, .int .i64 a2, .int .i64 a3, .bool false], .bool true]) :: _) rfl ?_; clear hA; intro a hA
           refine st_alloc tbOk hA hS [.int .i64 0, .int .i64 0, .int .i64 0, .int .i64 0, .bool false] rfl rfl rfl rfl rfl (by decide) ?_; clear hA hS; intro b191 w192 a hS hA
           refine st_store tbOk hA hS [.int .i64 a0, .int .i64 a1, .int .i64 a2, .int .i64 a3, .bool false] [.int .i64 a0, .int .i64 a1, .int .i64 a2, .int .i64 a3, .bool false] rfl rfl rfl rfl rfl rfl (by simp [Value.oneCell']) (Nat.le_of_ble_eq_true rfl) rfl rfl rfl ?_; clear hS; intro w193 hS
           refine st_run tbOk 1 hA (e' := (17, .bool true) :: _) rfl ?_; clear hA; intro a hA
           refine wpList_nil ?_
           replace hA := hA.sel [3, 9, 10, 11, 12, 13, 14, 15, 16, 17] (e' := [(3, .bool true), (9, .slice A5 ms.length c6), (10, .int .i64 ((t : Nat) : Int)), (11, .int .i64 ((n : Nat) : Int)), (12, .slice none 0 0), (13, .iface 30 (.int .i64 2)), (14, .int .i64 ((k : Nat) : Int)), (15, .slice Au ((pa ms t k).length) cu), (16, .pointer (some ⟨b191, 0, none⟩)), (17, .bool true)]) rfl
           refine xt_norm ?_
           refine wp_seq ?_
           refine wp_seq ?_
           refine wp_region_lit ?_
           refine st_run tbOk 2 hA (e' := (50, .bool false) :: (49, .bool true) :: _) rfl ?_; clear hA; intro a hA
           refine wpList_nil ?_
           replace hA := hA.sel [3, 9, 10, 11, 12, 13, 14, 15, 16, 50] (e' := [(3, .bool true), (9, .slice A5 ms.length c6), (10, .int .i64 ((t : Nat) : Int)), (11, .int .i64 ((n : Nat) : Int)), (12, .slice none 0 0), (13, .iface 30 (.int .i64 2)), (14, .int .i64 ((k : Nat) : Int)), (15, .slice Au ((pa ms t k).length) cu), (16, .pointer (some ⟨b191, 0, none⟩)), (50, .bool false)]) rfl
           refine xt_norm ?_
           refine cd_cond_f hA rfl ?_
           refine wp_skip ?_
           refine xt_norm ?_
           refine wp_seq ?_
           refine wp_seq ?_
           refine wp_region_lit ?_
           refine st_run tbOk 3 hA (e' := (61, .pointer (some ⟨b191, 4, none⟩)) :: (60, .bool true) :: (59, .bool true) :: _) rfl ?_; clear hA; intro a hA
           refine st_val hA rfl rfl (by decide) (rn_load tbOk hA rfl rfl rfl rfl (cell_row (hS.heapAt 0 rfl) rfl)) ?_; clear hA; intro a hA
           refine st_run tbOk 2 hA (e' := (64, .bool true) :: (63, .bool true) :: _) rfl ?_; clear hA; intro a hA
           refine wpList_nil ?_
           replace hA := hA.sel [3, 9, 10, 11, 12, 13, 14, 15, 16, 64] (e' := [(3, .bool true), (9, .slice A5 ms.length c6), (10, .int .i64 ((t : Nat) : Int)), (11, .int .i64 ((n : Nat) : Int)), (12, .slice none 0 0), (13, .iface 30 (.int .i64 2)), (14, .int .i64 ((k : Nat) : Int)), (15, .slice Au ((pa ms t k).length) cu), (16, .pointer (some ⟨b191, 0, none⟩)), (64, .bool true)]) rfl
           refine xt_norm ?_
           refine cd_cond_t hA rfl ?_
           refine wp_seq ?_
           refine wp_region_lit ?_
           refine st_run tbOk 1 hA (e' := (65, .iface 30 (.int .i64 2)) :: _) rfl ?_; clear hA; intro a hA
           refine st_call0 hA rfl rfl rfl isfn13 rfl rfl (by decide) (number_hit13 hS hg 2) ?_
           clear hA hS; rintro v w194 a ⟨rfl, hS⟩ hA
           refine st_run tbOk 7 hA (e' := (8, .bool true) :: (72, .bool true) :: (71, .bool true) :: (70, .int .i64 0) :: (69, .slice none 0 0) :: (68, .bool true) :: (67, .bool true) :: _) rfl ?_; clear hA; intro a hA
           refine wpList_nil ?_
           replace hA := hA.sel [8] (e' := [(8, .bool true)]) rfl
           refine xt_norm ?_
           refine wp_ret (xt_ret (xb_ret (xt_ret (xt_ret (xb_ret (xt_ret ?_))))))
           refine ret1 (fn := Tryd.f4) hA rfl rfl ?_
           replace hS := hS.drop1
           replace hS := hS.drop1
           replace hS := hS.drop1
           exact ⟨rfl, hS⟩)
    · first
      | (exfalso; omega)
      | (replace hA := hA.rw 38 (v' := .bool false) rfl (vb_false hc156)
         refine cd_cond_f hA rfl ?_
         refine wp_exit ?_
         refine xt_exit ?_
         refine xt_exit ?_
         refine cd_exit_eq ?_
         refine xt_norm ?_
         refine wp_seq ?_
         refine wp_seq ?_
         exfalso; omega)
end Go.Proofs.YtplhgbfibiinaaaDoor
