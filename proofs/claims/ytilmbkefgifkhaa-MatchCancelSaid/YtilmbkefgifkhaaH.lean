import Derived.Test.YtilmbkefgifkhaaG
set_option linter.unusedVariables false
set_option linter.unusedSimpArgs false
set_option maxRecDepth 4000
namespace Go.Proofs.Ytilmbkefgifkhaa
open Go Go.SK
theorem order_t4 {w0 w : World} {F : List Chunk} (hS : St w0 w F) (p a1 : Int) (h0 : 0 ≤ a1) (hb0 : a1 < 256) :
    Ret Try.prog 4 #[.int .u64 p, .int .u8 a1, .bool true] w (fun v w' => v = .bool true ∧ St w0 w' F) := by
  obtain ⟨g, rfl⟩ := Int.eq_ofNat_of_zero_le h0
  refine enter (vs := [.int .u64 p, .int .u8 ((g : Nat) : Int), .bool true]) 126 Try.func4 rfl rfl (by simp) ?_; intro a hA
  refine wp_seq ?_
  refine wp_region_lit ?_
  refine st_run tbOk 1 hA (e' := (6, .bool false) :: _) rfl ?_; clear hA; intro a hA
  refine wpList_nil ?_
  replace hA := hA.sel [0, 1, 2] (e' := [(0, .int .u64 p), (1, .int .u8 ((g : Nat) : Int)), (2, .bool true)]) rfl
  refine xt_norm ?_
  refine wp_seq ?_
  refine wp_seq ?_
  refine wp_region_lit ?_
  refine st_call0 hA rfl rfl rfl isfn6 rfl rfl (by decide) (awake6 hS) ?_
  clear hA hS; rintro v w1 a ⟨rfl, hS⟩ hA
  refine st_run tbOk 1 hA (e' := (26, .bool false) :: _) rfl ?_; clear hA; intro a hA
  refine wpList_nil ?_
  replace hA := hA.sel [0, 1, 2, 26] (e' := [(0, .int .u64 p), (1, .int .u8 ((g : Nat) : Int)), (2, .bool true), (26, .bool false)]) rfl
  refine xt_norm ?_
  refine cd_cond_f hA rfl ?_
  refine wp_skip ?_
  refine xt_norm ?_
  refine wp_seq ?_
  refine wp_region_lit ?_
  refine st_run tbOk 1 hA (e' := (27, .agg #[.slice none 0 0, .slice none 0 0]) :: _) rfl ?_; clear hA; intro a hA
  refine st_box hA hS [.slice none 0 0, .slice none 0 0] rfl rfl rfl rfl rfl (by decide) ?_; clear hA hS; intro b2 w3 a hS hA
  obtain ⟨L4, hM5, hS⟩ : ∃ Z, MR b2 [] [] Z ∧ St w0 w3 (Z :: F) := ⟨_, MR.new _, hS⟩
  replace hS := hS.nil
  refine st_run tbOk 1 hA (e' := (7, .pointer (some ⟨b2, 0, none⟩)) :: _) rfl ?_; clear hA; intro a hA
  refine wpList_nil ?_
  replace hA := hA.sel [0, 1, 2, 7] (e' := [(0, .int .u64 p), (1, .int .u8 ((g : Nat) : Int)), (2, .bool true), (7, .pointer (some ⟨b2, 0, none⟩))]) rfl
  refine xt_norm ?_
  refine wp_seq ?_
  refine wp_region_lit ?_
  refine st_run tbOk 2 hA (e' := (30, .int .u8 (((g : Nat) : Int).tmod 60)) :: (29, .int .u8 ((g : Nat) : Int)) :: _) rfl ?_; clear hA; intro a hA
  replace hA := hA.rw 30 (v' := .int .u8 ((g % 60 : Nat) : Int)) rfl (vint (Int.ofNat_tmod _ _).symm)
  refine st_run tbOk 1 hA (e' := (31, .int .i64 (IntKind.i64.wrap ((g % 60 : Nat) : Int))) :: _) rfl ?_; clear hA; intro a hA
  replace hA := hA.rw 31 (v' := .int .i64 ((g % 60 : Nat) : Int)) rfl (wr64 (by rfl) (by omega) (by omega))
  obtain ⟨n, hn⟩ : ∃ n, n = g % 60 := ⟨_, rfl⟩
  replace hA := hA.rw 31 (v' := .int .i64 ((n : Nat) : Int)) rfl (by rw [hn])
  refine st_run tbOk 1 hA (e' := (8, .int .i64 ((n : Nat) : Int)) :: _) rfl ?_; clear hA; intro a hA
  refine wpList_nil ?_
  replace hA := hA.sel [0, 2, 7, 8] (e' := [(0, .int .u64 p), (2, .bool true), (7, .pointer (some ⟨b2, 0, none⟩)), (8, .int .i64 ((n : Nat) : Int))]) rfl
  refine xt_norm ?_
  refine wp_seq ?_
  refine wp_seq ?_
  refine wp_region_lit ?_
  refine st_run tbOk 1 hA (e' := (9, .int .i64 0) :: _) rfl ?_; clear hA; intro a hA
  refine wpList_nil ?_
  refine xt_norm ?_
  refine wp_block ?_
  replace hS := hS.front 1 (C := L4) (L' := [] :: F) rfl rfl
  refine wp_loop_ghost (fun m a w => ∃ (k : Nat) (L : Chunk), m = n - k ∧ Has a 126 [(0, .int .u64 p), (2, .bool true), (7, .pointer (some ⟨b2, 0, none⟩)), (8, .int .i64 ((n : Nat) : Int)), (9, .int .i64 ((k : Nat) : Int))] ∧ St w0 w (L :: [] :: F) ∧ (k ≤ n) ∧ (MR b2 (wk p 10 k) [] L)) (n - 0)
    ⟨0, L4, rfl, (hA.sel [0, 2, 7, 8, 9] rfl), hS, Nat.zero_le _, hM5⟩ ?_
  clear hA hS; rintro m0 a w6 ⟨k, L, rfl, hA, hS, hk, hM⟩
  have hwl := wk_len p 10 k
  refine wp_seq ?_
  refine wp_seq ?_
  refine wp_region_lit ?_
  refine st_run tbOk 3 hA (e' := (34, .bool (decide (((k : Nat) : Int) < ((n : Nat) : Int)))) :: (33, .int .i64 ((n : Nat) : Int)) :: (32, .int .i64 ((k : Nat) : Int)) :: _) rfl ?_; clear hA; intro a hA
  refine wpList_nil ?_
  replace hA := hA.sel [0, 2, 7, 8, 9, 34] (e' := [(0, .int .u64 p), (2, .bool true), (7, .pointer (some ⟨b2, 0, none⟩)), (8, .int .i64 ((n : Nat) : Int)), (9, .int .i64 ((k : Nat) : Int)), (34, .bool (decide (((k : Nat) : Int) < ((n : Nat) : Int))))]) rfl
  refine xt_norm ?_
  by_cases hc7 : ((k : Nat) : Int) < ((n : Nat) : Int)
  · first
    | (exfalso; omega)
    | (replace hA := hA.rw 34 (v' := .bool true) rfl (vb_true hc7)
       refine cd_cond_t hA rfl ?_
       refine wp_skip ?_
       refine xt_norm ?_
       refine wp_seq ?_
       refine wp_block ?_
       refine wp_seq ?_
       refine wp_seq ?_
       refine wp_region_lit ?_
       refine st_run tbOk 1 hA (e' := (37, .bool true) :: _) rfl ?_; clear hA; intro a hA
       refine wpList_nil ?_
       replace hA := hA.sel [0, 2, 7, 8, 9, 37] (e' := [(0, .int .u64 p), (2, .bool true), (7, .pointer (some ⟨b2, 0, none⟩)), (8, .int .i64 ((n : Nat) : Int)), (9, .int .i64 ((k : Nat) : Int)), (37, .bool true)]) rfl
       refine xt_norm ?_
       refine cd_cond_t hA rfl ?_
       refine wp_seq ?_
       refine wp_seq ?_
       refine wp_region_lit ?_
       refine st_run tbOk 4 hA (e' := (42, .int .i64 (IntKind.i64.wrap (10 + ((k : Nat) : Int)))) :: (41, .int .i64 ((k : Nat) : Int)) :: (40, .int .u64 p) :: (39, .pointer (some ⟨b2, 0, none⟩)) :: _) rfl ?_; clear hA; intro a hA
       replace hA := hA.rw 42 (v' := .int .i64 ((10 + k : Nat) : Int)) rfl (wr64 (by omega) (by omega) (by omega))
       refine st_call0 hA rfl rfl rfl isfn7 rfl rfl (by decide) (get_wait7 hS hM p ((10 + k : Nat) : Int) (wk_no p 10 k k (Nat.le_refl _)) (fun i y h => by simp at h) (by omega)) ?_
       clear hA hS; rintro _ w8 a ⟨L9, hM10, rfl, hS⟩ hA
       refine st_run tbOk 4 hA (e' := (46, .nilIface) :: (45, .bool false) :: (44, .agg #[.int .u64 0, .int .u64 0, .int .u32 0, .int .u16 0, .int .u16 0, .int .u64 0, .int .u32 0, .int .u8 0, .int .u64 0, .int .u64 0, .slice none 0 0]) :: (38, .tuple #[.agg #[.int .u64 0, .int .u64 0, .int .u32 0, .int .u16 0, .int .u16 0, .int .u64 0, .int .u32 0, .int .u8 0, .int .u64 0, .int .u64 0, .slice none 0 0], .bool false, .nilIface]) :: _) rfl ?_; clear hA; intro a hA
       refine st_alloc tbOk hA hS [.int .u64 0, .int .u64 0, .int .u32 0, .int .u16 0, .int .u16 0, .int .u64 0, .int .u32 0, .int .u8 0, .int .u64 0, .int .u64 0, .slice none 0 0] rfl rfl rfl rfl rfl (by decide) ?_; clear hA hS; intro b11 w12 a hS hA
       refine st_store tbOk hA hS [.int .u64 0, .int .u64 0, .int .u32 0, .int .u16 0, .int .u16 0, .int .u64 0, .int .u32 0, .int .u8 0, .int .u64 0, .int .u64 0, .slice none 0 0] [.int .u64 0, .int .u64 0, .int .u32 0, .int .u16 0, .int .u16 0, .int .u64 0, .int .u32 0, .int .u8 0, .int .u64 0, .int .u64 0, .slice none 0 0] rfl rfl rfl rfl rfl rfl (by simp [Value.oneCell']) (Nat.le_of_ble_eq_true rfl) rfl rfl rfl ?_; clear hS; intro w13 hS
       refine st_run tbOk 2 hA (e' := (12, .nilIface) :: (11, .bool false) :: _) rfl ?_; clear hA; intro a hA
       refine wpList_nil ?_
       replace hA := hA.sel [0, 2, 7, 8, 9, 11, 12] (e' := [(0, .int .u64 p), (2, .bool true), (7, .pointer (some ⟨b2, 0, none⟩)), (8, .int .i64 ((n : Nat) : Int)), (9, .int .i64 ((k : Nat) : Int)), (11, .bool false), (12, .nilIface)]) rfl
       refine xt_norm ?_
       refine wp_seq ?_
       refine wp_region_lit ?_
       refine st_run tbOk 5 hA (e' := (51, .bool false) :: (50, .bool false) :: (49, .nilIface) :: (48, .bool false) :: (47, .bool false) :: _) rfl ?_; clear hA; intro a hA
       refine wpList_nil ?_
       replace hA := hA.sel [0, 2, 7, 8, 9, 51] (e' := [(0, .int .u64 p), (2, .bool true), (7, .pointer (some ⟨b2, 0, none⟩)), (8, .int .i64 ((n : Nat) : Int)), (9, .int .i64 ((k : Nat) : Int)), (51, .bool false)]) rfl
       refine xt_norm ?_
       refine cd_cond_f hA rfl ?_
       refine wp_skip ?_
       refine xt_norm ?_
       refine wp_exit ?_
       refine xt_exit ?_
       refine cd_exit_eq ?_
       refine xt_norm ?_
       refine wp_region_lit ?_
       refine st_run tbOk 2 hA (e' := (36, .int .i64 (IntKind.i64.wrap (((k : Nat) : Int) + 1))) :: (35, .int .i64 ((k : Nat) : Int)) :: _) rfl ?_; clear hA; intro a hA
       replace hA := hA.rw 36 (v' := .int .i64 ((k + 1 : Nat) : Int)) rfl (wr64 (by omega) (by omega) (by omega))
       refine st_run tbOk 1 hA (e' := (9, .int .i64 ((k + 1 : Nat) : Int)) :: _) rfl ?_; clear hA; intro a hA
       refine wpList_nil ?_
       replace hA := hA.sel [0, 2, 7, 8, 9] (e' := [(0, .int .u64 p), (2, .bool true), (7, .pointer (some ⟨b2, 0, none⟩)), (8, .int .i64 ((n : Nat) : Int)), (9, .int .i64 ((k + 1 : Nat) : Int))]) rfl
       have hM14 : MR b2 (wk p 10 (k + 1)) (([] : List Msg)) L9 := (by rw [wk_succ]; exact hM10)
       replace hS := hS.drop1
       replace hS := hS.front 1 (C := []) (L' := L9 :: F) rfl rfl
       replace hS := hS.front 1 (C := L9) (L' := [] :: F) rfl rfl
       exact lp_next _ (by omega) ⟨(k + 1), L9, rfl, (hA.sel [0, 2, 7, 8, 9] rfl), hS, by omega, hM14⟩)
  · first
    | (exfalso; omega)
    | (replace hA := hA.rw 34 (v' := .bool false) rfl (vb_false hc7)
       refine cd_cond_f hA rfl ?_
       refine wp_exit ?_
       refine xt_exit ?_
       refine xt_exit ?_
       refine cd_exit_eq ?_
       refine xt_norm ?_
       refine wp_seq ?_
       refine wp_seq ?_
       refine wp_region_lit ?_
       refine st_run tbOk 1 hA (e' := (16, .int .i64 0) :: _) rfl ?_; clear hA; intro a hA
       refine wpList_nil ?_
       replace hA := hA.sel [0, 2, 7, 8, 16] (e' := [(0, .int .u64 p), (2, .bool true), (7, .pointer (some ⟨b2, 0, none⟩)), (8, .int .i64 ((n : Nat) : Int)), (16, .int .i64 0)]) rfl
       refine xt_norm ?_
       refine wp_block ?_
       replace hS := hS.front 1 (C := []) (L' := L :: F) rfl rfl
       replace hS := hS.front 1 (C := L) (L' := [] :: F) rfl rfl
       have hkn : k = n := by omega
       have hM15 : MR b2 ((wk p 10 k).drop 0) (([] : List Msg)) L := (by rw [List.drop_zero]; exact hM)
       refine wp_loop_ghost (fun m a w => ∃ (i : Nat) (L4 : Chunk), m = k - i ∧ Has a 126 [(0, .int .u64 p), (2, .bool true), (7, .pointer (some ⟨b2, 0, none⟩)), (8, .int .i64 ((n : Nat) : Int)), (16, .int .i64 ((i : Nat) : Int))] ∧ St w0 w (L4 :: [] :: F) ∧ (i ≤ k) ∧ (MR b2 ((wk p 10 k).drop i) (([] : List Msg)) L4)) (k - 0)
         ⟨0, L, rfl, (hA.sel [0, 2, 7, 8, 16] rfl), hS, Nat.zero_le _, hM15⟩ ?_
       clear hA hS; rintro m0 a w16 ⟨i, L4, rfl, hA, hS, hi, hM4⟩
       refine wp_seq ?_
       refine wp_seq ?_
       refine wp_region_lit ?_
       refine st_run tbOk 3 hA (e' := (69, .bool (decide (((i : Nat) : Int) < ((n : Nat) : Int)))) :: (68, .int .i64 ((n : Nat) : Int)) :: (67, .int .i64 ((i : Nat) : Int)) :: _) rfl ?_; clear hA; intro a hA
       refine wpList_nil ?_
       replace hA := hA.sel [0, 2, 7, 8, 16, 69] (e' := [(0, .int .u64 p), (2, .bool true), (7, .pointer (some ⟨b2, 0, none⟩)), (8, .int .i64 ((n : Nat) : Int)), (16, .int .i64 ((i : Nat) : Int)), (69, .bool (decide (((i : Nat) : Int) < ((n : Nat) : Int))))]) rfl
       refine xt_norm ?_
       by_cases hc17 : ((i : Nat) : Int) < ((n : Nat) : Int)
       · first
         | (exfalso; omega)
         | (replace hA := hA.rw 69 (v' := .bool true) rfl (vb_true hc17)
            refine cd_cond_t hA rfl ?_
            refine wp_skip ?_
            refine xt_norm ?_
            refine wp_seq ?_
            refine wp_block ?_
            refine wp_seq ?_
            refine wp_seq ?_
            refine wp_region_lit ?_
            refine st_run tbOk 1 hA (e' := (72, .bool true) :: _) rfl ?_; clear hA; intro a hA
            refine wpList_nil ?_
            replace hA := hA.sel [0, 2, 7, 8, 16, 72] (e' := [(0, .int .u64 p), (2, .bool true), (7, .pointer (some ⟨b2, 0, none⟩)), (8, .int .i64 ((n : Nat) : Int)), (16, .int .i64 ((i : Nat) : Int)), (72, .bool true)]) rfl
            refine xt_norm ?_
            refine cd_cond_t hA rfl ?_
            refine wp_seq ?_
            refine wp_seq ?_
            refine wp_region_lit ?_
            refine st_run tbOk 3 hA (e' := (76, .agg #[.int .u64 p, .int .u64 0, .int .u32 0, .int .u16 0, .int .u16 0, .int .u64 0, .int .u32 0, .int .u8 0, .int .u64 0, .int .u64 0, .slice none 0 0]) :: (75, .int .u64 p) :: (74, .pointer (some ⟨b2, 0, none⟩)) :: _) rfl ?_; clear hA; intro a hA
            replace hS := hS.front 1 (C := []) (L' := L4 :: F) rfl rfl
            replace hS := hS.front 1 (C := L4) (L' := [] :: F) rfl rfl
            have hx0 : ((wk p 10 k).drop i)[0]? = some (p, ((10 + i : Nat) : Int)) := by rw [List.getElem?_drop]; exact wk_get (by omega)
            refine st_call0 hA rfl rfl rfl isfn8 rfl rfl (by decide) (offer_hit8 hS hM4 p 0 0 0 0 0 0 0 0 0 (bs := ([] : List UInt8)) RdSX.nil (by first | omega | exact Nat.zero_le _) (k0 := 0) hx0 rfl (fun i y h => absurd h (Nat.not_lt_zero _))) ?_
            clear hA hS; rintro _ w18 a ⟨L19, hM20, rfl, hS⟩ hA
            refine st_run tbOk 7 hA (e' := (19, .nilIface) :: (18, .bool true) :: (17, .int .i64 ((10 + i : Nat) : Int)) :: (80, .nilIface) :: (79, .bool true) :: (78, .int .i64 ((10 + i : Nat) : Int)) :: (73, .tuple #[.int .i64 ((10 + i : Nat) : Int), .bool true, .nilIface]) :: _) rfl ?_; clear hA; intro a hA
            refine wpList_nil ?_
            replace hA := hA.sel [0, 2, 7, 8, 16, 17, 18, 19] (e' := [(0, .int .u64 p), (2, .bool true), (7, .pointer (some ⟨b2, 0, none⟩)), (8, .int .i64 ((n : Nat) : Int)), (16, .int .i64 ((i : Nat) : Int)), (17, .int .i64 ((10 + i : Nat) : Int)), (18, .bool true), (19, .nilIface)]) rfl
            refine xt_norm ?_
            refine wp_seq ?_
            refine wp_region_lit ?_
            refine st_run tbOk 3 hA (e' := (83, .int .i64 (IntKind.i64.wrap (10 + ((i : Nat) : Int)))) :: (82, .int .i64 ((i : Nat) : Int)) :: (81, .int .i64 ((10 + i : Nat) : Int)) :: _) rfl ?_; clear hA; intro a hA
            replace hA := hA.rw 83 (v' := .int .i64 ((10 + i : Nat) : Int)) rfl (wr64 (by omega) (by omega) (by omega))
            refine st_run tbOk 2 hA (e' := (85, .bool (((10 + i : Nat) : Int) != ((10 + i : Nat) : Int))) :: (84, .bool (((10 + i : Nat) : Int) != ((10 + i : Nat) : Int))) :: _) rfl ?_; clear hA; intro a hA
            by_cases hc21 : ((10 + i : Nat) : Int) = ((10 + i : Nat) : Int)
            · first
              | (exfalso; omega)
              | (replace hA := hA.rw 84 (v' := .bool false) rfl (vb_ne_f hc21)
                 replace hA := hA.rw 85 (v' := .bool false) rfl (vb_ne_f hc21)
                 refine st_run tbOk 7 hA (e' := (92, .bool false) :: (91, .bool false) :: (90, .nilIface) :: (89, .bool false) :: (88, .bool false) :: (87, .bool false) :: (86, .bool true) :: _) rfl ?_; clear hA; intro a hA
                 refine wpList_nil ?_
                 replace hA := hA.sel [0, 2, 7, 8, 16, 92] (e' := [(0, .int .u64 p), (2, .bool true), (7, .pointer (some ⟨b2, 0, none⟩)), (8, .int .i64 ((n : Nat) : Int)), (16, .int .i64 ((i : Nat) : Int)), (92, .bool false)]) rfl
                 refine xt_norm ?_
                 refine cd_cond_f hA rfl ?_
                 refine wp_skip ?_
                 refine xt_norm ?_
                 refine wp_exit ?_
                 refine xt_exit ?_
                 refine cd_exit_eq ?_
                 refine xt_norm ?_
                 refine wp_region_lit ?_
                 refine st_run tbOk 2 hA (e' := (71, .int .i64 (IntKind.i64.wrap (((i : Nat) : Int) + 1))) :: (70, .int .i64 ((i : Nat) : Int)) :: _) rfl ?_; clear hA; intro a hA
                 replace hA := hA.rw 71 (v' := .int .i64 ((i + 1 : Nat) : Int)) rfl (wr64 (by omega) (by omega) (by omega))
                 refine st_run tbOk 1 hA (e' := (16, .int .i64 ((i + 1 : Nat) : Int)) :: _) rfl ?_; clear hA; intro a hA
                 refine wpList_nil ?_
                 replace hA := hA.sel [0, 2, 7, 8, 16] (e' := [(0, .int .u64 p), (2, .bool true), (7, .pointer (some ⟨b2, 0, none⟩)), (8, .int .i64 ((n : Nat) : Int)), (16, .int .i64 ((i + 1 : Nat) : Int))]) rfl
                 have hM22 : MR b2 ((wk p 10 k).drop (i + 1)) (([] : List Msg)) L19 := (by have h := hM20; rw [drop0] at h; exact h)
                 replace hS := hS.front 1 (C := []) (L' := L19 :: F) rfl rfl
                 replace hS := hS.front 1 (C := L19) (L' := [] :: F) rfl rfl
                 exact lp_next _ (by omega) ⟨(i + 1), L19, rfl, (hA.sel [0, 2, 7, 8, 16] rfl), hS, by omega, hM22⟩)
            · first
              | (exfalso; omega)
              | (replace hA := hA.rw 84 (v' := .bool true) rfl (vb_ne_t hc21)
                 replace hA := hA.rw 85 (v' := .bool true) rfl (vb_ne_t hc21)
                 refine st_run tbOk 7 hA (e' := (92, .bool true) :: (91, undef) :: (90, undef) :: (89, .bool true) :: (88, .bool true) :: (87, undef) :: (86, undef) :: _) rfl ?_; clear hA; intro a hA
                 refine wpList_nil ?_
                 replace hA := hA.sel [0, 2, 7, 8, 16, 92] (e' := [(0, .int .u64 p), (2, .bool true), (7, .pointer (some ⟨b2, 0, none⟩)), (8, .int .i64 ((n : Nat) : Int)), (16, .int .i64 ((i : Nat) : Int)), (92, .bool true)]) rfl
                 refine xt_norm ?_
                 refine cd_cond_t hA rfl ?_
                 refine wp_seq ?_
                 refine wp_region_lit ?_
                 refine st_run tbOk 1 hA (e' := (6, .bool false) :: _) rfl ?_; clear hA; intro a hA
                 refine wpList_nil ?_
                 replace hA := hA.sel [6] (e' := [(6, .bool false)]) rfl
                 refine xt_norm ?_
                 refine wp_ret (xt_ret (xt_ret (xb_ret (xt_ret (xt_ret (xb_ret (xt_ret ?_)))))))
                 refine ret1 (fn := Try.f4) hA rfl rfl ?_
                 exfalso; omega))
       · first
         | (exfalso; omega)
         | (replace hA := hA.rw 69 (v' := .bool false) rfl (vb_false hc17)
            refine cd_cond_f hA rfl ?_
            refine wp_exit ?_
            refine xt_exit ?_
            refine xt_exit ?_
            refine cd_exit_eq ?_
            refine xt_norm ?_
            refine wp_seq ?_
            refine wp_region_lit ?_
            have hik : i = k := by omega
            have hM23 : MR b2 (([] : List (Int × Int))) (([] : List Msg)) L4 := (by have h := hM4; rw [List.drop_eq_nil_of_le (by rw [wk_len]; omega)] at h; exact h)
            refine st_run tbOk 1 hA (e' := (116, .pointer (some ⟨b2, 0, none⟩)) :: _) rfl ?_; clear hA; intro a hA
            refine st_call0 hA rfl rfl rfl isfn11 rfl rfl (by decide) (mlen11 hS hM23) ?_
            clear hA hS; rintro _ w24 a ⟨L25, hM26, rfl, hS⟩ hA
            refine st_run tbOk 3 hA (e' := (119, .int .i64 ((([] : List Msg).length : Nat) : Int)) :: (118, .int .i64 ((([] : List (Int × Int)).length : Nat) : Int)) :: (115, .tuple #[.int .i64 ((([] : List (Int × Int)).length : Nat) : Int), .int .i64 ((([] : List Msg).length : Nat) : Int)]) :: _) rfl ?_; clear hA; intro a hA
            replace hA := hA.rw 118 (v' := .int .i64 0) rfl (by rfl)
            replace hA := hA.rw 119 (v' := .int .i64 0) rfl (by rfl)
            refine st_run tbOk 2 hA (e' := (24, .int .i64 0) :: (23, .int .i64 0) :: _) rfl ?_; clear hA; intro a hA
            refine wpList_nil ?_
            replace hA := hA.sel [23, 24] (e' := [(23, .int .i64 0), (24, .int .i64 0)]) rfl
            refine xt_norm ?_
            refine wp_seq ?_
            refine wp_region_lit ?_
            refine st_run tbOk 7 hA (e' := (6, .bool true) :: (125, .bool true) :: (124, .bool true) :: (123, .int .i64 0) :: (122, .bool true) :: (121, .bool true) :: (120, .int .i64 0) :: _) rfl ?_; clear hA; intro a hA
            refine wpList_nil ?_
            replace hA := hA.sel [6] (e' := [(6, .bool true)]) rfl
            refine xt_norm ?_
            refine wp_ret ?_
            refine ret1 (fn := Try.f4) hA rfl rfl ?_
            replace hS := hS.drop1
            replace hS := hS.drop1
            exact ⟨rfl, hS⟩))

theorem order_f4 {w0 w : World} {F : List Chunk} (hS : St w0 w F) (p a1 : Int) (h0 : 0 ≤ a1) (hb0 : a1 < 256) :
    Ret Try.prog 4 #[.int .u64 p, .int .u8 a1, .bool false] w (fun v w' => v = .bool true ∧ St w0 w' F) := by
  obtain ⟨g, rfl⟩ := Int.eq_ofNat_of_zero_le h0
  refine enter (vs := [.int .u64 p, .int .u8 ((g : Nat) : Int), .bool false]) 126 Try.func4 rfl rfl (by simp) ?_; intro a hA
  refine wp_seq ?_
  refine wp_region_lit ?_
  refine st_run tbOk 1 hA (e' := (6, .bool false) :: _) rfl ?_; clear hA; intro a hA
  refine wpList_nil ?_
  replace hA := hA.sel [0, 1, 2] (e' := [(0, .int .u64 p), (1, .int .u8 ((g : Nat) : Int)), (2, .bool false)]) rfl
  refine xt_norm ?_
  refine wp_seq ?_
  refine wp_seq ?_
  refine wp_region_lit ?_
  refine st_call0 hA rfl rfl rfl isfn6 rfl rfl (by decide) (awake6 hS) ?_
  clear hA hS; rintro v w1 a ⟨rfl, hS⟩ hA
  refine st_run tbOk 1 hA (e' := (26, .bool false) :: _) rfl ?_; clear hA; intro a hA
  refine wpList_nil ?_
  replace hA := hA.sel [0, 1, 2, 26] (e' := [(0, .int .u64 p), (1, .int .u8 ((g : Nat) : Int)), (2, .bool false), (26, .bool false)]) rfl
  refine xt_norm ?_
  refine cd_cond_f hA rfl ?_
  refine wp_skip ?_
  refine xt_norm ?_
  refine wp_seq ?_
  refine wp_region_lit ?_
  refine st_run tbOk 1 hA (e' := (27, .agg #[.slice none 0 0, .slice none 0 0]) :: _) rfl ?_; clear hA; intro a hA
  refine st_box hA hS [.slice none 0 0, .slice none 0 0] rfl rfl rfl rfl rfl (by decide) ?_; clear hA hS; intro b2 w3 a hS hA
  obtain ⟨L4, hM5, hS⟩ : ∃ Z, MR b2 [] [] Z ∧ St w0 w3 (Z :: F) := ⟨_, MR.new _, hS⟩
  replace hS := hS.nil
  refine st_run tbOk 1 hA (e' := (7, .pointer (some ⟨b2, 0, none⟩)) :: _) rfl ?_; clear hA; intro a hA
  refine wpList_nil ?_
  replace hA := hA.sel [0, 1, 2, 7] (e' := [(0, .int .u64 p), (1, .int .u8 ((g : Nat) : Int)), (2, .bool false), (7, .pointer (some ⟨b2, 0, none⟩))]) rfl
  refine xt_norm ?_
  refine wp_seq ?_
  refine wp_region_lit ?_
  refine st_run tbOk 2 hA (e' := (30, .int .u8 (((g : Nat) : Int).tmod 60)) :: (29, .int .u8 ((g : Nat) : Int)) :: _) rfl ?_; clear hA; intro a hA
  replace hA := hA.rw 30 (v' := .int .u8 ((g % 60 : Nat) : Int)) rfl (vint (Int.ofNat_tmod _ _).symm)
  refine st_run tbOk 1 hA (e' := (31, .int .i64 (IntKind.i64.wrap ((g % 60 : Nat) : Int))) :: _) rfl ?_; clear hA; intro a hA
  replace hA := hA.rw 31 (v' := .int .i64 ((g % 60 : Nat) : Int)) rfl (wr64 (by rfl) (by omega) (by omega))
  obtain ⟨n, hn⟩ : ∃ n, n = g % 60 := ⟨_, rfl⟩
  replace hA := hA.rw 31 (v' := .int .i64 ((n : Nat) : Int)) rfl (by rw [hn])
  refine st_run tbOk 1 hA (e' := (8, .int .i64 ((n : Nat) : Int)) :: _) rfl ?_; clear hA; intro a hA
  refine wpList_nil ?_
  replace hA := hA.sel [0, 2, 7, 8] (e' := [(0, .int .u64 p), (2, .bool false), (7, .pointer (some ⟨b2, 0, none⟩)), (8, .int .i64 ((n : Nat) : Int))]) rfl
  refine xt_norm ?_
  refine wp_seq ?_
  refine wp_seq ?_
  refine wp_region_lit ?_
  refine st_run tbOk 1 hA (e' := (9, .int .i64 0) :: _) rfl ?_; clear hA; intro a hA
  refine wpList_nil ?_
  refine xt_norm ?_
  refine wp_block ?_
  replace hS := hS.front 1 (C := L4) (L' := [] :: F) rfl rfl
  refine wp_loop_ghost (fun m a w => ∃ (k : Nat) (ms : List Msg) (L : Chunk) (D : Chunk), m = n - k ∧ Has a 126 [(0, .int .u64 p), (2, .bool false), (7, .pointer (some ⟨b2, 0, none⟩)), (8, .int .i64 ((n : Nat) : Int)), (9, .int .i64 ((k : Nat) : Int))] ∧ St w0 w (L :: D :: F) ∧ (k ≤ n) ∧ (isM p ms k) ∧ (MR b2 [] ms L)) (n - 0)
    ⟨0, ([]), L4, ([]), rfl, (hA.sel [0, 2, 7, 8, 9] rfl), hS, Nat.zero_le _, isM.nil p, hM5⟩ ?_
  clear hA hS; rintro m0 a w6 ⟨k, ms, L, D, rfl, hA, hS, hk, hm, hM⟩
  have hml := hm.1
  refine wp_seq ?_
  refine wp_seq ?_
  refine wp_region_lit ?_
  refine st_run tbOk 3 hA (e' := (34, .bool (decide (((k : Nat) : Int) < ((n : Nat) : Int)))) :: (33, .int .i64 ((n : Nat) : Int)) :: (32, .int .i64 ((k : Nat) : Int)) :: _) rfl ?_; clear hA; intro a hA
  refine wpList_nil ?_
  replace hA := hA.sel [0, 2, 7, 8, 9, 34] (e' := [(0, .int .u64 p), (2, .bool false), (7, .pointer (some ⟨b2, 0, none⟩)), (8, .int .i64 ((n : Nat) : Int)), (9, .int .i64 ((k : Nat) : Int)), (34, .bool (decide (((k : Nat) : Int) < ((n : Nat) : Int))))]) rfl
  refine xt_norm ?_
  by_cases hc7 : ((k : Nat) : Int) < ((n : Nat) : Int)
  · first
    | (exfalso; omega)
    | (replace hA := hA.rw 34 (v' := .bool true) rfl (vb_true hc7)
       refine cd_cond_t hA rfl ?_
       refine wp_skip ?_
       refine xt_norm ?_
       refine wp_seq ?_
       refine wp_block ?_
       refine wp_seq ?_
       refine wp_seq ?_
       refine wp_region_lit ?_
       refine st_run tbOk 1 hA (e' := (37, .bool false) :: _) rfl ?_; clear hA; intro a hA
       refine wpList_nil ?_
       replace hA := hA.sel [0, 2, 7, 8, 9, 37] (e' := [(0, .int .u64 p), (2, .bool false), (7, .pointer (some ⟨b2, 0, none⟩)), (8, .int .i64 ((n : Nat) : Int)), (9, .int .i64 ((k : Nat) : Int)), (37, .bool false)]) rfl
       refine xt_norm ?_
       refine cd_cond_f hA rfl ?_
       refine wp_skip ?_
       refine xt_norm ?_
       refine wp_seq ?_
       refine wp_region_lit ?_
       refine st_run tbOk 4 hA (e' := (56, .int .u32 (IntKind.u32.wrap ((k : Nat) : Int))) :: (55, .int .i64 ((k : Nat) : Int)) :: (54, .int .u64 p) :: (53, .pointer (some ⟨b2, 0, none⟩)) :: _) rfl ?_; clear hA; intro a hA
       replace hA := hA.rw 56 (v' := .int .u32 ((k : Nat) : Int)) rfl (vint (wrap_u32 (by omega) (by omega)))
       refine st_run tbOk 1 hA (e' := (57, .agg #[.int .u64 p, .int .u64 0, .int .u32 ((k : Nat) : Int), .int .u16 0, .int .u16 0, .int .u64 0, .int .u32 0, .int .u8 0, .int .u64 0, .int .u64 0, .slice none 0 0]) :: _) rfl ?_; clear hA; intro a hA
       replace hS := hS.front 1 (C := D) (L' := L :: F) rfl rfl
       replace hS := hS.front 1 (C := L) (L' := D :: F) rfl rfl
       refine st_call0 hA rfl rfl rfl isfn8 rfl rfl (by decide) (offer_ok8 hS hM p 0 ((k : Nat) : Int) 0 0 0 0 0 0 0 (bs := ([] : List UInt8)) RdSX.nil (by first | omega | exact Nat.zero_le _) (fun i y h => by simp at h) (by omega)) ?_
       clear hA hS; rintro _ w8 a ⟨L9, E11, A12, c13, hM10, hE14, rfl, hS⟩ hA
       refine st_run tbOk 7 hA (e' := (15, .nilIface) :: (14, .bool false) :: (13, .int .i64 0) :: (61, .nilIface) :: (60, .bool false) :: (59, .int .i64 0) :: (52, .tuple #[.int .i64 0, .bool false, .nilIface]) :: _) rfl ?_; clear hA; intro a hA
       refine wpList_nil ?_
       replace hA := hA.sel [0, 2, 7, 8, 9, 14, 15] (e' := [(0, .int .u64 p), (2, .bool false), (7, .pointer (some ⟨b2, 0, none⟩)), (8, .int .i64 ((n : Nat) : Int)), (9, .int .i64 ((k : Nat) : Int)), (14, .bool false), (15, .nilIface)]) rfl
       refine xt_norm ?_
       refine wp_seq ?_
       refine wp_region_lit ?_
       refine st_run tbOk 5 hA (e' := (66, .bool false) :: (65, .bool false) :: (64, .nilIface) :: (63, .bool false) :: (62, .bool false) :: _) rfl ?_; clear hA; intro a hA
       refine wpList_nil ?_
       replace hA := hA.sel [0, 2, 7, 8, 9, 66] (e' := [(0, .int .u64 p), (2, .bool false), (7, .pointer (some ⟨b2, 0, none⟩)), (8, .int .i64 ((n : Nat) : Int)), (9, .int .i64 ((k : Nat) : Int)), (66, .bool false)]) rfl
       refine xt_norm ?_
       refine cd_cond_f hA rfl ?_
       refine wp_skip ?_
       refine xb_norm ?_
       refine xt_norm ?_
       refine wp_region_lit ?_
       refine st_run tbOk 2 hA (e' := (36, .int .i64 (IntKind.i64.wrap (((k : Nat) : Int) + 1))) :: (35, .int .i64 ((k : Nat) : Int)) :: _) rfl ?_; clear hA; intro a hA
       replace hA := hA.rw 36 (v' := .int .i64 ((k + 1 : Nat) : Int)) rfl (wr64 (by omega) (by omega) (by omega))
       refine st_run tbOk 1 hA (e' := (9, .int .i64 ((k + 1 : Nat) : Int)) :: _) rfl ?_; clear hA; intro a hA
       refine wpList_nil ?_
       replace hA := hA.sel [0, 2, 7, 8, 9] (e' := [(0, .int .u64 p), (2, .bool false), (7, .pointer (some ⟨b2, 0, none⟩)), (8, .int .i64 ((n : Nat) : Int)), (9, .int .i64 ((k + 1 : Nat) : Int))]) rfl
       replace hS := hS.front 1 (C := (E11 ++ D)) (L' := L9 :: F) rfl rfl
       replace hS := hS.front 1 (C := L9) (L' := (E11 ++ D) :: F) rfl rfl
       exact lp_next _ (by omega) ⟨(k + 1), (ms ++ [(p, 0, ((k : Nat) : Int), 0, 0, 0, 0, 0, 0, 0, A12, c13, ([] : List UInt8))]), L9, (E11 ++ D), rfl, (hA.sel [0, 2, 7, 8, 9] rfl), hS, by omega, hm.add _ rfl rfl, hM10⟩)
  · first
    | (exfalso; omega)
    | (replace hA := hA.rw 34 (v' := .bool false) rfl (vb_false hc7)
       refine cd_cond_f hA rfl ?_
       refine wp_exit ?_
       refine xt_exit ?_
       refine xt_exit ?_
       refine cd_exit_eq ?_
       refine xt_norm ?_
       refine wp_seq ?_
       refine wp_seq ?_
       refine wp_region_lit ?_
       refine st_run tbOk 1 hA (e' := (16, .int .i64 0) :: _) rfl ?_; clear hA; intro a hA
       refine wpList_nil ?_
       replace hA := hA.sel [0, 2, 7, 8, 16] (e' := [(0, .int .u64 p), (2, .bool false), (7, .pointer (some ⟨b2, 0, none⟩)), (8, .int .i64 ((n : Nat) : Int)), (16, .int .i64 0)]) rfl
       refine xt_norm ?_
       refine wp_block ?_
       replace hS := hS.front 1 (C := D) (L' := L :: F) rfl rfl
       replace hS := hS.front 1 (C := L) (L' := D :: F) rfl rfl
       have hkn : k = n := by omega
       have hM15 : MR b2 (([] : List (Int × Int))) (ms.drop 0) L := (by rw [List.drop_zero]; exact hM)
       have hml := hm.1
       refine wp_loop_ghost (fun m a w => ∃ (i : Nat) (L4 : Chunk), m = k - i ∧ Has a 126 [(0, .int .u64 p), (2, .bool false), (7, .pointer (some ⟨b2, 0, none⟩)), (8, .int .i64 ((n : Nat) : Int)), (16, .int .i64 ((i : Nat) : Int))] ∧ St w0 w (L4 :: D :: F) ∧ (i ≤ k) ∧ (MR b2 (([] : List (Int × Int))) (ms.drop i) L4)) (k - 0)
         ⟨0, L, rfl, (hA.sel [0, 2, 7, 8, 16] rfl), hS, Nat.zero_le _, hM15⟩ ?_
       clear hA hS; rintro m0 a w16 ⟨i, L4, rfl, hA, hS, hi, hM4⟩
       have hil : i < ms.length ∨ i = k := by omega
       refine wp_seq ?_
       refine wp_seq ?_
       refine wp_region_lit ?_
       refine st_run tbOk 3 hA (e' := (69, .bool (decide (((i : Nat) : Int) < ((n : Nat) : Int)))) :: (68, .int .i64 ((n : Nat) : Int)) :: (67, .int .i64 ((i : Nat) : Int)) :: _) rfl ?_; clear hA; intro a hA
       refine wpList_nil ?_
       replace hA := hA.sel [0, 2, 7, 8, 16, 69] (e' := [(0, .int .u64 p), (2, .bool false), (7, .pointer (some ⟨b2, 0, none⟩)), (8, .int .i64 ((n : Nat) : Int)), (16, .int .i64 ((i : Nat) : Int)), (69, .bool (decide (((i : Nat) : Int) < ((n : Nat) : Int))))]) rfl
       refine xt_norm ?_
       by_cases hc17 : ((i : Nat) : Int) < ((n : Nat) : Int)
       · first
         | (exfalso; omega)
         | (replace hA := hA.rw 69 (v' := .bool true) rfl (vb_true hc17)
            refine cd_cond_t hA rfl ?_
            refine wp_skip ?_
            refine xt_norm ?_
            refine wp_seq ?_
            refine wp_block ?_
            refine wp_seq ?_
            refine wp_seq ?_
            refine wp_region_lit ?_
            refine st_run tbOk 1 hA (e' := (72, .bool false) :: _) rfl ?_; clear hA; intro a hA
            refine wpList_nil ?_
            replace hA := hA.sel [0, 2, 7, 8, 16, 72] (e' := [(0, .int .u64 p), (2, .bool false), (7, .pointer (some ⟨b2, 0, none⟩)), (8, .int .i64 ((n : Nat) : Int)), (16, .int .i64 ((i : Nat) : Int)), (72, .bool false)]) rfl
            refine xt_norm ?_
            refine cd_cond_f hA rfl ?_
            refine wp_skip ?_
            refine xt_norm ?_
            refine wp_seq ?_
            refine wp_region_lit ?_
            refine st_run tbOk 4 hA (e' := (97, .int .i64 (IntKind.i64.wrap (10 + ((i : Nat) : Int)))) :: (96, .int .i64 ((i : Nat) : Int)) :: (95, .int .u64 p) :: (94, .pointer (some ⟨b2, 0, none⟩)) :: _) rfl ?_; clear hA; intro a hA
            replace hA := hA.rw 97 (v' := .int .i64 ((10 + i : Nat) : Int)) rfl (wr64 (by omega) (by omega) (by omega))
            obtain ⟨⟨x18_0, x18_1, x18_2, x18_3, x18_4, x18_5, x18_6, x18_7, x18_8, x18_9, x18A, x18c, x18b⟩, hxx18⟩ := get_ex (l := ms) (k := i) (by omega)
            obtain ⟨hz1, hz2⟩ := hm.2 i _ hxx18
            dsimp only at hz1 hz2
            have hx0 : (ms.drop i)[0]? = some (x18_0, x18_1, x18_2, x18_3, x18_4, x18_5, x18_6, x18_7, x18_8, x18_9, x18A, x18c, x18b) := by rw [List.getElem?_drop]; exact hxx18
            refine st_call0 hA rfl rfl rfl isfn7 rfl rfl (by decide) (get_hit7 hS hM4 p ((10 + i : Nat) : Int) (by rfl) (k0 := 0) hx0 hz1 (fun i y h => absurd h (Nat.not_lt_zero _))) ?_
            clear hA hS; rintro _ w19 a ⟨L20, hM21, rfl, hS⟩ hA
            refine st_run tbOk 4 hA (e' := (101, .nilIface) :: (100, .bool true) :: (99, .agg #[.int .u64 x18_0, .int .u64 x18_1, .int .u32 x18_2, .int .u16 x18_3, .int .u16 x18_4, .int .u64 x18_5, .int .u32 x18_6, .int .u8 x18_7, .int .u64 x18_8, .int .u64 x18_9, .slice x18A x18b.length x18c]) :: (93, .tuple #[.agg #[.int .u64 x18_0, .int .u64 x18_1, .int .u32 x18_2, .int .u16 x18_3, .int .u16 x18_4, .int .u64 x18_5, .int .u32 x18_6, .int .u8 x18_7, .int .u64 x18_8, .int .u64 x18_9, .slice x18A x18b.length x18c], .bool true, .nilIface]) :: _) rfl ?_; clear hA; intro a hA
            refine st_alloc tbOk hA hS [.int .u64 0, .int .u64 0, .int .u32 0, .int .u16 0, .int .u16 0, .int .u64 0, .int .u32 0, .int .u8 0, .int .u64 0, .int .u64 0, .slice none 0 0] rfl rfl rfl rfl rfl (by decide) ?_; clear hA hS; intro b22 w23 a hS hA
            refine st_store tbOk hA hS [.int .u64 x18_0, .int .u64 x18_1, .int .u32 x18_2, .int .u16 x18_3, .int .u16 x18_4, .int .u64 x18_5, .int .u32 x18_6, .int .u8 x18_7, .int .u64 x18_8, .int .u64 x18_9, .slice x18A x18b.length x18c] [.int .u64 x18_0, .int .u64 x18_1, .int .u32 x18_2, .int .u16 x18_3, .int .u16 x18_4, .int .u64 x18_5, .int .u32 x18_6, .int .u8 x18_7, .int .u64 x18_8, .int .u64 x18_9, .slice x18A x18b.length x18c] rfl rfl rfl rfl rfl rfl (by simp [Value.oneCell']) (Nat.le_of_ble_eq_true rfl) rfl rfl rfl ?_; clear hS; intro w24 hS
            refine st_run tbOk 2 hA (e' := (22, .nilIface) :: (21, .bool true) :: _) rfl ?_; clear hA; intro a hA
            refine wpList_nil ?_
            replace hA := hA.sel [0, 2, 7, 8, 16, 20, 21, 22] (e' := [(0, .int .u64 p), (2, .bool false), (7, .pointer (some ⟨b2, 0, none⟩)), (8, .int .i64 ((n : Nat) : Int)), (16, .int .i64 ((i : Nat) : Int)), (20, .pointer (some ⟨b22, 0, none⟩)), (21, .bool true), (22, .nilIface)]) rfl
            refine xt_norm ?_
            refine wp_seq ?_
            refine wp_region_lit ?_
            refine st_run tbOk 1 hA (e' := (102, .pointer (some ⟨b22, 2, none⟩)) :: _) rfl ?_; clear hA; intro a hA
            refine st_val hA rfl rfl (by decide) (rn_load tbOk hA rfl rfl rfl rfl (cell_row (hS.heapAt 0 rfl) rfl)) ?_; clear hA; intro a hA
            refine st_run tbOk 2 hA (e' := (105, .int .u32 (IntKind.u32.wrap ((i : Nat) : Int))) :: (104, .int .i64 ((i : Nat) : Int)) :: _) rfl ?_; clear hA; intro a hA
            replace hA := hA.rw 105 (v' := .int .u32 ((i : Nat) : Int)) rfl (vint (wrap_u32 (by omega) (by omega)))
            refine st_run tbOk 2 hA (e' := (107, .bool (x18_2 != ((i : Nat) : Int))) :: (106, .bool (x18_2 != ((i : Nat) : Int))) :: _) rfl ?_; clear hA; intro a hA
            by_cases hc25 : x18_2 = ((i : Nat) : Int)
            · first
              | (exfalso; omega)
              | (replace hA := hA.rw 106 (v' := .bool false) rfl (vb_ne_f hc25)
                 replace hA := hA.rw 107 (v' := .bool false) rfl (vb_ne_f hc25)
                 refine st_run tbOk 7 hA (e' := (114, .bool false) :: (113, .bool false) :: (112, .nilIface) :: (111, .bool false) :: (110, .bool false) :: (109, .bool false) :: (108, .bool true) :: _) rfl ?_; clear hA; intro a hA
                 refine wpList_nil ?_
                 replace hA := hA.sel [0, 2, 7, 8, 16, 114] (e' := [(0, .int .u64 p), (2, .bool false), (7, .pointer (some ⟨b2, 0, none⟩)), (8, .int .i64 ((n : Nat) : Int)), (16, .int .i64 ((i : Nat) : Int)), (114, .bool false)]) rfl
                 refine xt_norm ?_
                 refine cd_cond_f hA rfl ?_
                 refine wp_skip ?_
                 refine xb_norm ?_
                 refine xt_norm ?_
                 refine wp_region_lit ?_
                 refine st_run tbOk 2 hA (e' := (71, .int .i64 (IntKind.i64.wrap (((i : Nat) : Int) + 1))) :: (70, .int .i64 ((i : Nat) : Int)) :: _) rfl ?_; clear hA; intro a hA
                 replace hA := hA.rw 71 (v' := .int .i64 ((i + 1 : Nat) : Int)) rfl (wr64 (by omega) (by omega) (by omega))
                 refine st_run tbOk 1 hA (e' := (16, .int .i64 ((i + 1 : Nat) : Int)) :: _) rfl ?_; clear hA; intro a hA
                 refine wpList_nil ?_
                 replace hA := hA.sel [0, 2, 7, 8, 16] (e' := [(0, .int .u64 p), (2, .bool false), (7, .pointer (some ⟨b2, 0, none⟩)), (8, .int .i64 ((n : Nat) : Int)), (16, .int .i64 ((i + 1 : Nat) : Int))]) rfl
                 have hM26 : MR b2 (([] : List (Int × Int))) (ms.drop (i + 1)) L20 := (by have h := hM21; rw [drop0] at h; exact h)
                 replace hS := hS.drop1
                 replace hS := hS.front 1 (C := D) (L' := L20 :: F) rfl rfl
                 replace hS := hS.front 1 (C := L20) (L' := D :: F) rfl rfl
                 exact lp_next _ (by omega) ⟨(i + 1), L20, rfl, (hA.sel [0, 2, 7, 8, 16] rfl), hS, by omega, hM26⟩)
            · first
              | (exfalso; omega)
              | (replace hA := hA.rw 106 (v' := .bool true) rfl (vb_ne_t hc25)
                 replace hA := hA.rw 107 (v' := .bool true) rfl (vb_ne_t hc25)
                 refine st_run tbOk 7 hA (e' := (114, .bool true) :: (113, undef) :: (112, undef) :: (111, .bool true) :: (110, .bool true) :: (109, undef) :: (108, undef) :: _) rfl ?_; clear hA; intro a hA
                 refine wpList_nil ?_
                 replace hA := hA.sel [0, 2, 7, 8, 16, 114] (e' := [(0, .int .u64 p), (2, .bool false), (7, .pointer (some ⟨b2, 0, none⟩)), (8, .int .i64 ((n : Nat) : Int)), (16, .int .i64 ((i : Nat) : Int)), (114, .bool true)]) rfl
                 refine xt_norm ?_
                 refine cd_cond_t hA rfl ?_
                 refine wp_seq ?_
                 refine wp_region_lit ?_
                 refine st_run tbOk 1 hA (e' := (6, .bool false) :: _) rfl ?_; clear hA; intro a hA
                 refine wpList_nil ?_
                 replace hA := hA.sel [6] (e' := [(6, .bool false)]) rfl
                 refine xt_norm ?_
                 refine wp_ret (xb_ret (xt_ret (xt_ret (xb_ret (xt_ret ?_)))))
                 refine ret1 (fn := Try.f4) hA rfl rfl ?_
                 exfalso; omega))
       · first
         | (exfalso; omega)
         | (replace hA := hA.rw 69 (v' := .bool false) rfl (vb_false hc17)
            refine cd_cond_f hA rfl ?_
            refine wp_exit ?_
            refine xt_exit ?_
            refine xt_exit ?_
            refine cd_exit_eq ?_
            refine xt_norm ?_
            refine wp_seq ?_
            refine wp_region_lit ?_
            have hik : i = k := by omega
            have hM27 : MR b2 (([] : List (Int × Int))) (([] : List Msg)) L4 := (by have h := hM4; rw [List.drop_eq_nil_of_le (by omega)] at h; exact h)
            refine st_run tbOk 1 hA (e' := (116, .pointer (some ⟨b2, 0, none⟩)) :: _) rfl ?_; clear hA; intro a hA
            refine st_call0 hA rfl rfl rfl isfn11 rfl rfl (by decide) (mlen11 hS hM27) ?_
            clear hA hS; rintro _ w28 a ⟨L29, hM30, rfl, hS⟩ hA
            refine st_run tbOk 3 hA (e' := (119, .int .i64 ((([] : List Msg).length : Nat) : Int)) :: (118, .int .i64 ((([] : List (Int × Int)).length : Nat) : Int)) :: (115, .tuple #[.int .i64 ((([] : List (Int × Int)).length : Nat) : Int), .int .i64 ((([] : List Msg).length : Nat) : Int)]) :: _) rfl ?_; clear hA; intro a hA
            replace hA := hA.rw 118 (v' := .int .i64 0) rfl (by rfl)
            replace hA := hA.rw 119 (v' := .int .i64 0) rfl (by rfl)
            refine st_run tbOk 2 hA (e' := (24, .int .i64 0) :: (23, .int .i64 0) :: _) rfl ?_; clear hA; intro a hA
            refine wpList_nil ?_
            replace hA := hA.sel [23, 24] (e' := [(23, .int .i64 0), (24, .int .i64 0)]) rfl
            refine xt_norm ?_
            refine wp_seq ?_
            refine wp_region_lit ?_
            refine st_run tbOk 7 hA (e' := (6, .bool true) :: (125, .bool true) :: (124, .bool true) :: (123, .int .i64 0) :: (122, .bool true) :: (121, .bool true) :: (120, .int .i64 0) :: _) rfl ?_; clear hA; intro a hA
            refine wpList_nil ?_
            replace hA := hA.sel [6] (e' := [(6, .bool true)]) rfl
            refine xt_norm ?_
            refine wp_ret ?_
            refine ret1 (fn := Try.f4) hA rfl rfl ?_
            replace hS := hS.drop1
            replace hS := hS.drop1
            exact ⟨rfl, hS⟩))

theorem order4 {w0 w : World} {F : List Chunk} (hS : St w0 w F) (p a1 : Int) (h0 : 0 ≤ a1) (hb0 : a1 < 256) (bk : Bool) : Ret Try.prog 4 #[.int .u64 p, .int .u8 a1, .bool bk] w (fun v w' => v = .bool true ∧ St w0 w' F) := by
  cases bk
  · exact order_f4 hS p a1 h0 hb0
  · exact order_t4 hS p a1 h0 hb0

theorem cancelLaw5 {w0 w : World} {F : List Chunk} (hS : St w0 w F) (p a1 a2 : Int) (h0 : 0 ≤ a1) (hb0 : a1 < 256) (h1 : 0 ≤ a2) (hb1 : a2 < 256) :
    Ret Try.prog 5 #[.int .u64 p, .int .u8 a1, .int .u8 a2] w (fun v w' => v = .bool true ∧ St w0 w' F) := by
  obtain ⟨g, rfl⟩ := Int.eq_ofNat_of_zero_le h0
  obtain ⟨h, rfl⟩ := Int.eq_ofNat_of_zero_le h1
  refine enter (vs := [.int .u64 p, .int .u8 ((g : Nat) : Int), .int .u8 ((h : Nat) : Int)]) 93 Try.func5 rfl rfl (by simp) ?_; intro a hA
  refine wp_seq ?_
  refine wp_region_lit ?_
  refine st_run tbOk 1 hA (e' := (6, .bool false) :: _) rfl ?_; clear hA; intro a hA
  refine wpList_nil ?_
  replace hA := hA.sel [0, 1, 2] (e' := [(0, .int .u64 p), (1, .int .u8 ((g : Nat) : Int)), (2, .int .u8 ((h : Nat) : Int))]) rfl
  refine xt_norm ?_
  refine wp_seq ?_
  refine wp_seq ?_
  refine wp_region_lit ?_
  refine st_call0 hA rfl rfl rfl isfn6 rfl rfl (by decide) (awake6 hS) ?_
  clear hA hS; rintro v w1 a ⟨rfl, hS⟩ hA
  refine st_run tbOk 1 hA (e' := (19, .bool false) :: _) rfl ?_; clear hA; intro a hA
  refine wpList_nil ?_
  replace hA := hA.sel [0, 1, 2, 19] (e' := [(0, .int .u64 p), (1, .int .u8 ((g : Nat) : Int)), (2, .int .u8 ((h : Nat) : Int)), (19, .bool false)]) rfl
  refine xt_norm ?_
  refine cd_cond_f hA rfl ?_
  refine wp_skip ?_
  refine xt_norm ?_
  refine wp_seq ?_
  refine wp_region_lit ?_
  refine st_run tbOk 1 hA (e' := (20, .agg #[.slice none 0 0, .slice none 0 0]) :: _) rfl ?_; clear hA; intro a hA
  refine st_box hA hS [.slice none 0 0, .slice none 0 0] rfl rfl rfl rfl rfl (by decide) ?_; clear hA hS; intro b2 w3 a hS hA
  obtain ⟨L4, hM5, hS⟩ : ∃ Z, MR b2 [] [] Z ∧ St w0 w3 (Z :: F) := ⟨_, MR.new _, hS⟩
  replace hS := hS.nil
  refine st_run tbOk 1 hA (e' := (7, .pointer (some ⟨b2, 0, none⟩)) :: _) rfl ?_; clear hA; intro a hA
  refine wpList_nil ?_
  replace hA := hA.sel [0, 1, 2, 7] (e' := [(0, .int .u64 p), (1, .int .u8 ((g : Nat) : Int)), (2, .int .u8 ((h : Nat) : Int)), (7, .pointer (some ⟨b2, 0, none⟩))]) rfl
  refine xt_norm ?_
  refine wp_seq ?_
  refine wp_region_lit ?_
  refine st_run tbOk 2 hA (e' := (23, .int .u8 (((g : Nat) : Int).tmod 20)) :: (22, .int .u8 ((g : Nat) : Int)) :: _) rfl ?_; clear hA; intro a hA
  replace hA := hA.rw 23 (v' := .int .u8 ((g % 20 : Nat) : Int)) rfl (vint (Int.ofNat_tmod _ _).symm)
  refine st_run tbOk 1 hA (e' := (24, .int .i64 (IntKind.i64.wrap ((g % 20 : Nat) : Int))) :: _) rfl ?_; clear hA; intro a hA
  replace hA := hA.rw 24 (v' := .int .i64 ((g % 20 : Nat) : Int)) rfl (wr64 (by rfl) (by omega) (by omega))
  refine st_run tbOk 1 hA (e' := (25, .int .i64 (IntKind.i64.wrap (2 + ((g % 20 : Nat) : Int)))) :: _) rfl ?_; clear hA; intro a hA
  replace hA := hA.rw 25 (v' := .int .i64 ((2 + (g % 20) : Nat) : Int)) rfl (wr64 (by omega) (by omega) (by omega))
  obtain ⟨n, hn⟩ : ∃ n, n = 2 + g % 20 := ⟨_, rfl⟩
  replace hA := hA.rw 25 (v' := .int .i64 ((n : Nat) : Int)) rfl (by rw [hn])
  refine st_run tbOk 1 hA (e' := (8, .int .i64 ((n : Nat) : Int)) :: _) rfl ?_; clear hA; intro a hA
  refine wpList_nil ?_
  replace hA := hA.sel [0, 2, 7, 8] (e' := [(0, .int .u64 p), (2, .int .u8 ((h : Nat) : Int)), (7, .pointer (some ⟨b2, 0, none⟩)), (8, .int .i64 ((n : Nat) : Int))]) rfl
  refine xt_norm ?_
  refine wp_seq ?_
  refine wp_seq ?_
  refine wp_region_lit ?_
  refine st_run tbOk 1 hA (e' := (9, .int .i64 0) :: _) rfl ?_; clear hA; intro a hA
  refine wpList_nil ?_
  refine xt_norm ?_
  refine wp_block ?_
  replace hS := hS.front 1 (C := L4) (L' := [] :: F) rfl rfl
  refine wp_loop_ghost (fun m a w => ∃ (k : Nat) (L : Chunk), m = n - k ∧ Has a 93 [(0, .int .u64 p), (2, .int .u8 ((h : Nat) : Int)), (7, .pointer (some ⟨b2, 0, none⟩)), (8, .int .i64 ((n : Nat) : Int)), (9, .int .i64 ((k : Nat) : Int))] ∧ St w0 w (L :: [] :: F) ∧ (k ≤ n) ∧ (MR b2 (wk p 0 k) [] L)) (n - 0)
    ⟨0, L4, rfl, (hA.sel [0, 2, 7, 8, 9] rfl), hS, Nat.zero_le _, hM5⟩ ?_
  clear hA hS; rintro m0 a w6 ⟨k, L, rfl, hA, hS, hk, hM⟩
  have hwl := wk_len p 0 k
  refine wp_seq ?_
  refine wp_seq ?_
  refine wp_region_lit ?_
  refine st_run tbOk 3 hA (e' := (28, .bool (decide (((k : Nat) : Int) < ((n : Nat) : Int)))) :: (27, .int .i64 ((n : Nat) : Int)) :: (26, .int .i64 ((k : Nat) : Int)) :: _) rfl ?_; clear hA; intro a hA
  refine wpList_nil ?_
  replace hA := hA.sel [0, 2, 7, 8, 9, 28] (e' := [(0, .int .u64 p), (2, .int .u8 ((h : Nat) : Int)), (7, .pointer (some ⟨b2, 0, none⟩)), (8, .int .i64 ((n : Nat) : Int)), (9, .int .i64 ((k : Nat) : Int)), (28, .bool (decide (((k : Nat) : Int) < ((n : Nat) : Int))))]) rfl
  refine xt_norm ?_
  by_cases hc7 : ((k : Nat) : Int) < ((n : Nat) : Int)
  · first
    | (exfalso; omega)
    | (replace hA := hA.rw 28 (v' := .bool true) rfl (vb_true hc7)
       refine cd_cond_t hA rfl ?_
       refine wp_skip ?_
       refine xt_norm ?_
       refine wp_seq ?_
       refine wp_block ?_
       refine wp_region_lit ?_
       refine st_run tbOk 3 hA (e' := (34, .int .i64 ((k : Nat) : Int)) :: (33, .int .u64 p) :: (32, .pointer (some ⟨b2, 0, none⟩)) :: _) rfl ?_; clear hA; intro a hA
       refine st_call0 hA rfl rfl rfl isfn7 rfl rfl (by decide) (get_wait7 hS hM p ((k : Nat) : Int) (by have h := wk_no p 0 k k (Nat.le_refl _); rw [show ((0 + k : Nat) : Int) = ((k : Nat) : Int) by omega] at h; exact h) (fun i y h => by simp at h) (by omega)) ?_
       clear hA hS; rintro _ w8 a ⟨L9, hM10, rfl, hS⟩ hA
       refine st_run tbOk 4 hA (e' := (38, .nilIface) :: (37, .bool false) :: (36, .agg #[.int .u64 0, .int .u64 0, .int .u32 0, .int .u16 0, .int .u16 0, .int .u64 0, .int .u32 0, .int .u8 0, .int .u64 0, .int .u64 0, .slice none 0 0]) :: (31, .tuple #[.agg #[.int .u64 0, .int .u64 0, .int .u32 0, .int .u16 0, .int .u16 0, .int .u64 0, .int .u32 0, .int .u8 0, .int .u64 0, .int .u64 0, .slice none 0 0], .bool false, .nilIface]) :: _) rfl ?_; clear hA; intro a hA
       refine wpList_nil ?_
       replace hA := hA.sel [0, 2, 7, 8, 9] (e' := [(0, .int .u64 p), (2, .int .u8 ((h : Nat) : Int)), (7, .pointer (some ⟨b2, 0, none⟩)), (8, .int .i64 ((n : Nat) : Int)), (9, .int .i64 ((k : Nat) : Int))]) rfl
       refine xb_norm ?_
       refine xt_norm ?_
       refine wp_region_lit ?_
       refine st_run tbOk 2 hA (e' := (30, .int .i64 (IntKind.i64.wrap (((k : Nat) : Int) + 1))) :: (29, .int .i64 ((k : Nat) : Int)) :: _) rfl ?_; clear hA; intro a hA
       replace hA := hA.rw 30 (v' := .int .i64 ((k + 1 : Nat) : Int)) rfl (wr64 (by omega) (by omega) (by omega))
       refine st_run tbOk 1 hA (e' := (9, .int .i64 ((k + 1 : Nat) : Int)) :: _) rfl ?_; clear hA; intro a hA
       refine wpList_nil ?_
       replace hA := hA.sel [0, 2, 7, 8, 9] (e' := [(0, .int .u64 p), (2, .int .u8 ((h : Nat) : Int)), (7, .pointer (some ⟨b2, 0, none⟩)), (8, .int .i64 ((n : Nat) : Int)), (9, .int .i64 ((k + 1 : Nat) : Int))]) rfl
       have hM11 : MR b2 (wk p 0 (k + 1)) (([] : List Msg)) L9 := (by rw [wk_succ]; have h := hM10; rw [show ((0 + k : Nat) : Int) = ((k : Nat) : Int) by omega]; exact h)
       replace hS := hS.front 1 (C := []) (L' := L9 :: F) rfl rfl
       replace hS := hS.front 1 (C := L9) (L' := [] :: F) rfl rfl
       exact lp_next _ (by omega) ⟨(k + 1), L9, rfl, (hA.sel [0, 2, 7, 8, 9] rfl), hS, by omega, hM11⟩)
  · first
    | (exfalso; omega)
    | (replace hA := hA.rw 28 (v' := .bool false) rfl (vb_false hc7)
       refine cd_cond_f hA rfl ?_
       refine wp_exit ?_
       refine xt_exit ?_
       refine xt_exit ?_
       refine cd_exit_eq ?_
       refine xt_norm ?_
       refine wp_seq ?_
       refine wp_region_lit ?_
       refine st_run tbOk 2 hA (e' := (40, .int .i64 (IntKind.i64.wrap ((h : Nat) : Int))) :: (39, .int .u8 ((h : Nat) : Int)) :: _) rfl ?_; clear hA; intro a hA
       replace hA := hA.rw 40 (v' := .int .i64 ((h : Nat) : Int)) rfl (wr64 (by rfl) (by omega) (by omega))
       refine st_run tbOk 1 hA (e' := (41, .int .i64 ((n : Nat) : Int)) :: _) rfl ?_; clear hA; intro a hA
       refine st_val hA rfl rfl (by decide) (rn_rem hA rfl rfl rfl (by omega)) ?_; clear hA; intro a hA
       have hmd12 := Nat.mod_lt h (show 0 < n by omega)
       replace hA := hA.rw 42 (v' := .int .i64 ((h % n : Nat) : Int)) rfl (vint (Int.ofNat_tmod _ _).symm)
       obtain ⟨q, hq⟩ : ∃ q, q = h % n := ⟨_, rfl⟩
       have hqn : q < n := by rw [hq]; exact Nat.mod_lt _ (by omega)
       replace hA := hA.rw 42 (v' := .int .i64 ((q : Nat) : Int)) rfl (by rw [hq])
       have hkn : k = n := by omega
       refine st_run tbOk 1 hA (e' := (10, .int .i64 ((q : Nat) : Int)) :: _) rfl ?_; clear hA; intro a hA
       refine wpList_nil ?_
       replace hA := hA.sel [0, 7, 8, 10] (e' := [(0, .int .u64 p), (7, .pointer (some ⟨b2, 0, none⟩)), (8, .int .i64 ((n : Nat) : Int)), (10, .int .i64 ((q : Nat) : Int))]) rfl
       refine xt_norm ?_
       refine wp_seq ?_
       refine wp_seq ?_
       refine wp_region_lit ?_
       refine st_run tbOk 2 hA (e' := (44, .int .i64 ((q : Nat) : Int)) :: (43, .pointer (some ⟨b2, 0, none⟩)) :: _) rfl ?_; clear hA; intro a hA
       refine st_call0 hA rfl rfl rfl isfn12 rfl rfl (by decide) (mcancel12 hS hM ((q : Nat) : Int)) ?_
       clear hA hS; rintro _ w13 a ⟨L14, hM15, rfl, hS⟩ hA
       replace hA := hA.rw 45 (v' := .bool true) rfl (congrArg Value.bool (wk_any (by omega)))
       refine st_run tbOk 4 hA (e' := (49, .int .i64 ((q : Nat) : Int)) :: (48, .pointer (some ⟨b2, 0, none⟩)) :: (47, .bool false) :: (46, .bool false) :: _) rfl ?_; clear hA; intro a hA
       refine st_call0 hA rfl rfl rfl isfn12 rfl rfl (by decide) (mcancel12 hS hM15 ((q : Nat) : Int)) ?_
       clear hA hS; rintro _ w16 a ⟨L17, hM18, rfl, hS⟩ hA
       replace hA := hA.rw 50 (v' := .bool false) rfl (congrArg Value.bool (flt_any _ _))
       have hM19 : MR b2 (rst p k q 0) (([] : List Msg)) L17 := (by have h := hM18; rw [flt_flt, rst_zero] at h; exact h)
       refine st_run tbOk 1 hA (e' := (51, .bool false) :: _) rfl ?_; clear hA; intro a hA
       refine wpList_nil ?_
       replace hA := hA.sel [0, 7, 8, 10, 51] (e' := [(0, .int .u64 p), (7, .pointer (some ⟨b2, 0, none⟩)), (8, .int .i64 ((n : Nat) : Int)), (10, .int .i64 ((q : Nat) : Int)), (51, .bool false)]) rfl
       refine xt_norm ?_
       refine cd_cond_f hA rfl ?_
       refine wp_skip ?_
       refine xt_norm ?_
       refine wp_seq ?_
       refine wp_seq ?_
       refine wp_region_lit ?_
       refine st_run tbOk 1 hA (e' := (11, .int .i64 0) :: _) rfl ?_; clear hA; intro a hA
       refine wpList_nil ?_
       replace hA := hA.sel [0, 7, 8, 10, 11] (e' := [(0, .int .u64 p), (7, .pointer (some ⟨b2, 0, none⟩)), (8, .int .i64 ((n : Nat) : Int)), (10, .int .i64 ((q : Nat) : Int)), (11, .int .i64 0)]) rfl
       refine xt_norm ?_
       refine wp_block ?_
       replace hS := hS.front 1 (C := []) (L' := L17 :: F) rfl rfl
       replace hS := hS.front 1 (C := L17) (L' := [] :: F) rfl rfl
       refine wp_loop_ghost (fun m a w => ∃ (i : Nat) (L4 : Chunk), m = k - i ∧ Has a 93 [(0, .int .u64 p), (7, .pointer (some ⟨b2, 0, none⟩)), (8, .int .i64 ((n : Nat) : Int)), (10, .int .i64 ((q : Nat) : Int)), (11, .int .i64 ((i : Nat) : Int))] ∧ St w0 w (L4 :: [] :: F) ∧ (i ≤ k) ∧ (MR b2 (rst p k q i) [] L4)) (k - 0)
         ⟨0, L17, rfl, (hA.sel [0, 7, 8, 10, 11] rfl), hS, Nat.zero_le _, hM19⟩ ?_
       clear hA hS; rintro m0 a w20 ⟨i, L4, rfl, hA, hS, hi, hM4⟩
       refine wp_seq ?_
       refine wp_seq ?_
       refine wp_region_lit ?_
       refine st_run tbOk 3 hA (e' := (54, .bool (decide (((i : Nat) : Int) < ((n : Nat) : Int)))) :: (53, .int .i64 ((n : Nat) : Int)) :: (52, .int .i64 ((i : Nat) : Int)) :: _) rfl ?_; clear hA; intro a hA
       refine wpList_nil ?_
       replace hA := hA.sel [0, 7, 8, 10, 11, 54] (e' := [(0, .int .u64 p), (7, .pointer (some ⟨b2, 0, none⟩)), (8, .int .i64 ((n : Nat) : Int)), (10, .int .i64 ((q : Nat) : Int)), (11, .int .i64 ((i : Nat) : Int)), (54, .bool (decide (((i : Nat) : Int) < ((n : Nat) : Int))))]) rfl
       refine xt_norm ?_
       by_cases hc21 : ((i : Nat) : Int) < ((n : Nat) : Int)
       · first
         | (exfalso; omega)
         | (replace hA := hA.rw 54 (v' := .bool true) rfl (vb_true hc21)
            refine cd_cond_t hA rfl ?_
            refine wp_skip ?_
            refine xt_norm ?_
            refine wp_seq ?_
            refine wp_block ?_
            refine wp_seq ?_
            refine wp_seq ?_
            refine wp_region_lit ?_
            refine st_run tbOk 3 hA (e' := (59, .bool (((i : Nat) : Int) == ((q : Nat) : Int))) :: (58, .int .i64 ((q : Nat) : Int)) :: (57, .int .i64 ((i : Nat) : Int)) :: _) rfl ?_; clear hA; intro a hA
            refine wpList_nil ?_
            replace hA := hA.sel [0, 7, 8, 10, 11, 59] (e' := [(0, .int .u64 p), (7, .pointer (some ⟨b2, 0, none⟩)), (8, .int .i64 ((n : Nat) : Int)), (10, .int .i64 ((q : Nat) : Int)), (11, .int .i64 ((i : Nat) : Int)), (59, .bool (((i : Nat) : Int) == ((q : Nat) : Int)))]) rfl
            refine xt_norm ?_
            by_cases hc22 : ((i : Nat) : Int) = ((q : Nat) : Int)
            · first
              | (exfalso; omega)
              | (replace hA := hA.rw 59 (v' := .bool true) rfl (vb_eq_t hc22)
                 refine cd_cond_t hA rfl ?_
                 refine wp_exit ?_
                 refine xt_exit ?_
                 refine cd_exit_eq ?_
                 refine xt_norm ?_
                 refine wp_region_lit ?_
                 refine st_run tbOk 2 hA (e' := (56, .int .i64 (IntKind.i64.wrap (((i : Nat) : Int) + 1))) :: (55, .int .i64 ((i : Nat) : Int)) :: _) rfl ?_; clear hA; intro a hA
                 replace hA := hA.rw 56 (v' := .int .i64 ((i + 1 : Nat) : Int)) rfl (wr64 (by omega) (by omega) (by omega))
                 refine st_run tbOk 1 hA (e' := (11, .int .i64 ((i + 1 : Nat) : Int)) :: _) rfl ?_; clear hA; intro a hA
                 refine wpList_nil ?_
                 replace hA := hA.sel [0, 7, 8, 10, 11] (e' := [(0, .int .u64 p), (7, .pointer (some ⟨b2, 0, none⟩)), (8, .int .i64 ((n : Nat) : Int)), (10, .int .i64 ((q : Nat) : Int)), (11, .int .i64 ((i + 1 : Nat) : Int))]) rfl
                 have hiq : i = q := by omega
                 have hrs : rst p k q i = rst p k q (i + 1) := by rw [hiq]; exact rst_skip (by omega)
                 have hM23 : MR b2 (rst p k q (i + 1)) (([] : List Msg)) L4 := (by rw [← hrs]; exact hM4)
                 replace hS := hS.front 1 (C := []) (L' := L4 :: F) rfl rfl
                 replace hS := hS.front 1 (C := L4) (L' := [] :: F) rfl rfl
                 exact lp_next _ (by omega) ⟨(i + 1), L4, rfl, (hA.sel [0, 7, 8, 10, 11] rfl), hS, by omega, hM23⟩)
            · first
              | (exfalso; omega)
              | (replace hA := hA.rw 59 (v' := .bool false) rfl (vb_eq_f hc22)
                 refine cd_cond_f hA rfl ?_
                 refine wp_skip ?_
                 refine xt_norm ?_
                 refine wp_seq ?_
                 refine wp_region_lit ?_
                 refine st_run tbOk 3 hA (e' := (63, .agg #[.int .u64 p, .int .u64 0, .int .u32 0, .int .u16 0, .int .u16 0, .int .u64 0, .int .u32 0, .int .u8 0, .int .u64 0, .int .u64 0, .slice none 0 0]) :: (62, .int .u64 p) :: (61, .pointer (some ⟨b2, 0, none⟩)) :: _) rfl ?_; clear hA; intro a hA
                 replace hS := hS.front 1 (C := []) (L' := L4 :: F) rfl rfl
                 replace hS := hS.front 1 (C := L4) (L' := [] :: F) rfl rfl
                 have hrs := rst_at (port := p) (k := k) (g := q) (i := i) (by omega) (by omega)
                 have hM24 : MR b2 ((p, ((i : Nat) : Int)) :: rst p k q (i + 1)) (([] : List Msg)) L4 := (by rw [← hrs]; exact hM4)
                 refine st_call0 hA rfl rfl rfl isfn8 rfl rfl (by decide) (offer_hit8 hS hM24 p 0 0 0 0 0 0 0 0 0 (bs := ([] : List UInt8)) RdSX.nil (by first | omega | exact Nat.zero_le _) (k0 := 0) (x0 := (p, ((i : Nat) : Int))) rfl rfl (fun i y h => absurd h (Nat.not_lt_zero _))) ?_
                 clear hA hS; rintro _ w25 a ⟨L26, hM27, rfl, hS⟩ hA
                 have hM28 : MR b2 (rst p k q (i + 1)) (([] : List Msg)) L26 := (by have h := hM27; simpa using h)
                 refine st_run tbOk 7 hA (e' := (14, .nilIface) :: (13, .bool true) :: (12, .int .i64 ((i : Nat) : Int)) :: (67, .nilIface) :: (66, .bool true) :: (65, .int .i64 ((i : Nat) : Int)) :: (60, .tuple #[.int .i64 ((i : Nat) : Int), .bool true, .nilIface]) :: _) rfl ?_; clear hA; intro a hA
                 refine wpList_nil ?_
                 replace hA := hA.sel [0, 7, 8, 10, 11, 12, 13, 14] (e' := [(0, .int .u64 p), (7, .pointer (some ⟨b2, 0, none⟩)), (8, .int .i64 ((n : Nat) : Int)), (10, .int .i64 ((q : Nat) : Int)), (11, .int .i64 ((i : Nat) : Int)), (12, .int .i64 ((i : Nat) : Int)), (13, .bool true), (14, .nilIface)]) rfl
                 refine xt_norm ?_
                 refine wp_seq ?_
                 refine wp_region_lit ?_
                 refine st_run tbOk 4 hA (e' := (71, .bool (((i : Nat) : Int) != ((i : Nat) : Int))) :: (70, .bool (((i : Nat) : Int) != ((i : Nat) : Int))) :: (69, .int .i64 ((i : Nat) : Int)) :: (68, .int .i64 ((i : Nat) : Int)) :: _) rfl ?_; clear hA; intro a hA
                 by_cases hc29 : ((i : Nat) : Int) = ((i : Nat) : Int)
                 · first
                   | (exfalso; omega)
                   | (replace hA := hA.rw 70 (v' := .bool false) rfl (vb_ne_f hc29)
                      replace hA := hA.rw 71 (v' := .bool false) rfl (vb_ne_f hc29)
                      refine st_run tbOk 7 hA (e' := (78, .bool false) :: (77, .bool false) :: (76, .nilIface) :: (75, .bool false) :: (74, .bool false) :: (73, .bool false) :: (72, .bool true) :: _) rfl ?_; clear hA; intro a hA
                      refine wpList_nil ?_
                      replace hA := hA.sel [0, 7, 8, 10, 11, 78] (e' := [(0, .int .u64 p), (7, .pointer (some ⟨b2, 0, none⟩)), (8, .int .i64 ((n : Nat) : Int)), (10, .int .i64 ((q : Nat) : Int)), (11, .int .i64 ((i : Nat) : Int)), (78, .bool false)]) rfl
                      refine xt_norm ?_
                      refine cd_cond_f hA rfl ?_
                      refine wp_skip ?_
                      refine xb_norm ?_
                      refine xt_norm ?_
                      refine wp_region_lit ?_
                      refine st_run tbOk 2 hA (e' := (56, .int .i64 (IntKind.i64.wrap (((i : Nat) : Int) + 1))) :: (55, .int .i64 ((i : Nat) : Int)) :: _) rfl ?_; clear hA; intro a hA
                      replace hA := hA.rw 56 (v' := .int .i64 ((i + 1 : Nat) : Int)) rfl (wr64 (by omega) (by omega) (by omega))
                      refine st_run tbOk 1 hA (e' := (11, .int .i64 ((i + 1 : Nat) : Int)) :: _) rfl ?_; clear hA; intro a hA
                      refine wpList_nil ?_
                      replace hA := hA.sel [0, 7, 8, 10, 11] (e' := [(0, .int .u64 p), (7, .pointer (some ⟨b2, 0, none⟩)), (8, .int .i64 ((n : Nat) : Int)), (10, .int .i64 ((q : Nat) : Int)), (11, .int .i64 ((i + 1 : Nat) : Int))]) rfl
                      replace hS := hS.front 1 (C := []) (L' := L26 :: F) rfl rfl
                      replace hS := hS.front 1 (C := L26) (L' := [] :: F) rfl rfl
                      exact lp_next _ (by omega) ⟨(i + 1), L26, rfl, (hA.sel [0, 7, 8, 10, 11] rfl), hS, by omega, hM28⟩)
                 · first
                   | (exfalso; omega)
                   | (replace hA := hA.rw 70 (v' := .bool true) rfl (vb_ne_t hc29)
                      replace hA := hA.rw 71 (v' := .bool true) rfl (vb_ne_t hc29)
                      refine st_run tbOk 7 hA (e' := (78, .bool true) :: (77, undef) :: (76, undef) :: (75, .bool true) :: (74, .bool true) :: (73, undef) :: (72, undef) :: _) rfl ?_; clear hA; intro a hA
                      refine wpList_nil ?_
                      replace hA := hA.sel [0, 7, 8, 10, 11, 78] (e' := [(0, .int .u64 p), (7, .pointer (some ⟨b2, 0, none⟩)), (8, .int .i64 ((n : Nat) : Int)), (10, .int .i64 ((q : Nat) : Int)), (11, .int .i64 ((i : Nat) : Int)), (78, .bool true)]) rfl
                      refine xt_norm ?_
                      refine cd_cond_t hA rfl ?_
                      refine wp_seq ?_
                      refine wp_region_lit ?_
                      refine st_run tbOk 1 hA (e' := (6, .bool false) :: _) rfl ?_; clear hA; intro a hA
                      refine wpList_nil ?_
                      replace hA := hA.sel [6] (e' := [(6, .bool false)]) rfl
                      refine xt_norm ?_
                      refine wp_ret (xb_ret (xt_ret (xt_ret (xb_ret (xt_ret ?_)))))
                      refine ret1 (fn := Try.f5) hA rfl rfl ?_
                      exfalso; omega)))
       · first
         | (exfalso; omega)
         | (replace hA := hA.rw 54 (v' := .bool false) rfl (vb_false hc21)
            refine cd_cond_f hA rfl ?_
            refine wp_exit ?_
            refine xt_exit ?_
            refine xt_exit ?_
            refine cd_exit_eq ?_
            refine xt_norm ?_
            refine wp_seq ?_
            refine wp_region_lit ?_
            have hik : i = k := by omega
            have hM30 : MR b2 (([] : List (Int × Int))) (([] : List Msg)) L4 := (by have h := hM4; rw [hik, rst_end] at h; exact h)
            refine st_run tbOk 3 hA (e' := (82, .agg #[.int .u64 p, .int .u64 0, .int .u32 0, .int .u16 0, .int .u16 0, .int .u64 0, .int .u32 0, .int .u8 0, .int .u64 0, .int .u64 0, .slice none 0 0]) :: (81, .int .u64 p) :: (80, .pointer (some ⟨b2, 0, none⟩)) :: _) rfl ?_; clear hA; intro a hA
            replace hS := hS.front 1 (C := []) (L' := L4 :: F) rfl rfl
            replace hS := hS.front 1 (C := L4) (L' := [] :: F) rfl rfl
            refine st_call0 hA rfl rfl rfl isfn8 rfl rfl (by decide) (offer_ok8 hS hM30 p 0 0 0 0 0 0 0 0 0 (bs := ([] : List UInt8)) RdSX.nil (by first | omega | exact Nat.zero_le _) (fun i y h => by simp at h) (by exact Nat.le_of_ble_eq_true rfl)) ?_
            clear hA hS; rintro _ w31 a ⟨L32, E34, A35, c36, hM33, hE37, rfl, hS⟩ hA
            refine st_run tbOk 7 hA (e' := (17, .nilIface) :: (16, .bool false) :: (15, .int .i64 0) :: (86, .nilIface) :: (85, .bool false) :: (84, .int .i64 0) :: (79, .tuple #[.int .i64 0, .bool false, .nilIface]) :: _) rfl ?_; clear hA; intro a hA
            refine wpList_nil ?_
            replace hA := hA.sel [16, 17] (e' := [(16, .bool false), (17, .nilIface)]) rfl
            refine xt_norm ?_
            refine wp_seq ?_
            refine wp_region_lit ?_
            refine st_run tbOk 7 hA (e' := (6, .bool true) :: (92, .bool true) :: (91, .bool true) :: (90, .nilIface) :: (89, .bool true) :: (88, .bool true) :: (87, .bool false) :: _) rfl ?_; clear hA; intro a hA
            refine wpList_nil ?_
            replace hA := hA.sel [6] (e' := [(6, .bool true)]) rfl
            refine xt_norm ?_
            refine wp_ret ?_
            refine ret1 (fn := Try.f5) hA rfl rfl ?_
            replace hS := hS.drop1
            replace hS := hS.drop1
            exact ⟨rfl, hS⟩))

end Go.Proofs.Ytilmbkefgifkhaa
