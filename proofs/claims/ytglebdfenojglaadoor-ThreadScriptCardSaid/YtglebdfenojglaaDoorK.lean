import Derived.Test.YtglebdfenojglaaDoorJ
set_option linter.unusedVariables false
set_option linter.unusedSimpArgs false
set_option maxRecDepth 4000
namespace Go.Proofs.YtglebdfenojglaaDoor
open Go Go.SK
theorem script3 {w0 w : World} {F : List Chunk} (hS : St w0 w F) (hg : HG w0) {v : Value} {l : List (Int × Int × Int)} (hr : RdS w0 F 3 v l.length (rows encAct l)) (hw : ∀ x ∈ l, encAct_good x) :
    Ret Tryd.prog 3 #[v] w (fun v w' => v = .bool true ∧ St w0 w' F) := by
  obtain ⟨A, c, rfl, hmc, hcx⟩ := (hr w hS).open'
  refine enter (vs := [.slice A l.length c]) 65 Tryd.func3 rfl rfl (by simp) ?_; intro a hA
  refine wp_seq ?_
  refine wp_region_lit ?_
  refine st_run tbOk 1 hA (e' := (2, .bool false) :: _) rfl ?_; clear hA; intro a hA
  refine wpList_nil ?_
  replace hA := hA.sel [0] (e' := [(0, .slice A l.length c)]) rfl
  refine xt_norm ?_
  refine wp_seq ?_
  refine wp_seq ?_
  refine wp_region_lit ?_
  refine st_call0 hA rfl rfl rfl isfn5 rfl rfl (by decide) (awake5 hS) ?_
  clear hA hS; rintro v w1 a ⟨rfl, hS⟩ hA
  refine st_run tbOk 1 hA (e' := (10, .bool false) :: _) rfl ?_; clear hA; intro a hA
  refine wpList_nil ?_
  replace hA := hA.sel [0, 10] (e' := [(0, .slice A l.length c), (10, .bool false)]) rfl
  refine xt_norm ?_
  refine cd_cond_f hA rfl ?_
  refine wp_skip ?_
  refine xt_norm ?_
  refine wp_seq ?_
  refine wp_region_lit ?_
  refine st_run tbOk 1 hA (e' := (11, .agg #[.slice none 0 0, .slice none 0 0]) :: _) rfl ?_; clear hA; intro a hA
  refine st_box hA hS [.slice none 0 0, .slice none 0 0] rfl rfl rfl rfl rfl (by decide) ?_; clear hA hS; intro b2 w3 a hS hA
  obtain ⟨L4, hM5, hS⟩ : ∃ Z, TR 29 b2 [] [] Z ∧ St w0 w3 (Z :: F) := ⟨_, TR.new _ _, hS⟩
  refine st_run tbOk 1 hA (e' := (13, .agg #[.slice none 0 0, .slice none 0 0]) :: _) rfl ?_; clear hA; intro a hA
  refine st_box hA hS [.slice none 0 0, .slice none 0 0] rfl rfl rfl rfl rfl (by decide) ?_; clear hA hS; intro b6 w7 a hS hA
  obtain ⟨L8, hM9, hS⟩ : ∃ Z, TR 32 b6 [] [] Z ∧ St w0 w7 (Z :: L4 :: F) := ⟨_, TR.new _ _, hS⟩
  refine st_run tbOk 2 hA (e' := (4, .pointer (some ⟨b6, 0, none⟩)) :: (3, .pointer (some ⟨b2, 0, none⟩)) :: _) rfl ?_; clear hA; intro a hA
  refine wpList_nil ?_
  replace hA := hA.sel [0, 3, 4] (e' := [(0, .slice A l.length c), (3, .pointer (some ⟨b2, 0, none⟩)), (4, .pointer (some ⟨b6, 0, none⟩))]) rfl
  refine xt_norm ?_
  refine wp_seq ?_
  refine wp_seq ?_
  refine wp_region_lit ?_
  refine st_run tbOk 3 hA (e' := (17, .int .i64 0) :: (16, .int .i64 ((l.length : Nat) : Int)) :: (15, .slice A l.length c) :: _) rfl ?_; clear hA; intro a hA
  refine wpList_nil ?_
  replace hA := hA.sel [3, 4, 15, 16, 17] (e' := [(3, .pointer (some ⟨b2, 0, none⟩)), (4, .pointer (some ⟨b6, 0, none⟩)), (15, .slice A l.length c), (16, .int .i64 ((l.length : Nat) : Int)), (17, .int .i64 0)]) rfl
  refine xt_norm ?_
  refine wp_block ?_
  replace hS := hS.front 1 (C := L4) (L' := L8 :: F) rfl rfl
  refine wp_loop_ghost (fun m a w => ∃ (k : Nat) (ts : List (Int × Int × Int)) (q : List Int) (L : Chunk) (Lm : Chunk), m = l.length - k ∧ Has a 65 [(3, .pointer (some ⟨b2, 0, none⟩)), (4, .pointer (some ⟨b6, 0, none⟩)), (15, .slice A l.length c), (16, .int .i64 ((l.length : Nat) : Int)), (17, .int .i64 ((k : Nat) : Int))] ∧ St w0 w (L :: Lm :: F) ∧ (k ≤ l.length) ∧ (TR 29 b2 ts q L) ∧ (TR 32 b6 ts q Lm) ∧ (Inv ts q)) (l.length - 0)
    ⟨0, ([]), ([]), L4, L8, rfl, (hA.sel [3, 4, 15, 16, 17] rfl), hS, Nat.zero_le _, hM5, hM9, Inv.nil⟩ ?_
  clear hA hS; rintro m0 a w10 ⟨k, ts, q, L, Lm, rfl, hA, hS, hk, hM, hN, hI⟩
  refine wp_seq ?_
  refine wp_region_lit ?_
  refine st_run tbOk 1 hA (e' := (18, .bool (decide (((k : Nat) : Int) < ((l.length : Nat) : Int)))) :: _) rfl ?_; clear hA; intro a hA
  refine wpList_nil ?_
  refine xt_norm ?_
  refine wp_seq ?_
  by_cases hc11 : ((k : Nat) : Int) < ((l.length : Nat) : Int)
  · first
    | (exfalso; omega)
    | (replace hA := hA.rw 18 (v' := .bool true) rfl (vb_true hc11)
       refine cd_cond_t hA rfl ?_
       refine wp_skip ?_
       refine xt_norm ?_
       refine wp_seq ?_
       refine wp_block ?_
       refine wp_seq ?_
       refine wp_region_lit ?_
       obtain ⟨b12, o13, rfl⟩ := (hr _ (hS.tail 2 rfl)).isSome (k := k) (by omega)
       refine st_val hA rfl rfl (by decide) (rn_indexAddr tbOk hA k (o13 + (k * 3)) rfl rfl rfl rfl rfl rfl (by rfl) (by omega) (by first | rfl | simp [Nat.mul_one, Nat.zero_add] | omega)) ?_; clear hA; intro a hA
       obtain ⟨x14, hx14⟩ := get_ex (l := l) (k := k) (by omega)
       obtain ⟨⟨hgx14_0, hkx14_0⟩, ⟨hgx14_1, hkx14_1⟩, ⟨hgx14_2, hkx14_2⟩⟩ := hw x14 (List.mem_of_getElem? hx14)
       refine st_val hA rfl rfl (by decide) (rn_loadA tbOk hA ([.int .u8 x14.1, .int .i8 x14.2.1, .int .i64 x14.2.2]) rfl rfl rfl rfl (by rfl) ((hr _ (hS.tail 2 rfl)).elem (k := k) encAct_ok hx14)) ?_; clear hA; intro a hA
       refine st_alloc tbOk hA hS [.int .u8 0, .int .i8 0, .int .i64 0] rfl rfl rfl rfl rfl (by decide) ?_; clear hA hS; intro b15 w16 a hS hA
       refine st_store tbOk hA hS [.int .u8 x14.1, .int .i8 x14.2.1, .int .i64 x14.2.2] [.int .u8 x14.1, .int .i8 x14.2.1, .int .i64 x14.2.2] rfl rfl rfl rfl rfl rfl (by simp [Value.oneCell']) (Nat.le_of_ble_eq_true rfl) rfl rfl rfl ?_; clear hS; intro w17 hS
       refine wpList_nil ?_
       replace hA := hA.sel [3, 4, 6, 15, 16, 17] (e' := [(3, .pointer (some ⟨b2, 0, none⟩)), (4, .pointer (some ⟨b6, 0, none⟩)), (6, .pointer (some ⟨b15, 0, none⟩)), (15, .slice (some ⟨b12, o13, none⟩) l.length c), (16, .int .i64 ((l.length : Nat) : Int)), (17, .int .i64 ((k : Nat) : Int))]) rfl
       refine xt_norm ?_
       refine wp_seq ?_
       replace hS := hS.front 2 (C := Lm) (L' := [(b15, rowO [.int .u8 x14.1, .int .i8 x14.2.1, .int .i64 x14.2.2] 35)] :: L :: F) rfl rfl
       replace hS := hS.front 2 (C := L) (L' := Lm :: [(b15, rowO [.int .u8 x14.1, .int .i8 x14.2.1, .int .i64 x14.2.2] 35)] :: F) rfl rfl
       refine wp_draw (fun w' => St w0 w' ([(b15, rowO [.int .u8 x14.1, .int .i8 x14.2.1, .int .i64 x14.2.2] 35)] :: F)) [] [(0, true), (1, true), (2, true), (3, false), (4, true), (5, true), (6, true), (8, true), (9, true), (10, true), (11, true), (7, false), (12, false), (13, true), (14, true)] mixed (by kernel_rfl) (by rintro c a w ⟨_, _, h, _⟩; cases h) (by rfl) (by kernel_rfl) ?_
       replace hS := hS.drew
       refine dr_run tbOk 2 hA (hS.tail 2 rfl) (e' := (22, .pointer (some ⟨b2, 0, none⟩)) :: (21, .pointer (some ⟨b6, 0, none⟩)) :: _) rfl ?_; clear hA; intro a hA
       refine dr_y hA rfl rfl rfl (by decide) (hS.tail 2 rfl) (fun w' hS' => rn_loadA tbOk hA [.int .u8 x14.1, .int .i8 x14.2.1, .int .i64 x14.2.2] rfl rfl rfl rfl rfl (cells_row (hS'.heapAt 0 rfl) rfl)) ?_; clear hA; intro a hA
       refine dr_b (o := _) rfl ?_
       replace hS := hS.front 1 (C := Lm) (L' := L :: [(b15, rowO [.int .u8 x14.1, .int .i8 x14.2.1, .int .i64 x14.2.2] 35)] :: F) rfl rfl
       replace hS := hS.front 1 (C := L) (L' := Lm :: [(b15, rowO [.int .u8 x14.1, .int .i8 x14.2.1, .int .i64 x14.2.2] 35)] :: F) rfl rfl
       refine st_call0 hA rfl rfl rfl isfn6 rfl rfl (by decide) (stepI hS hg hM hN hI x14.1 x14.2.1 x14.2.2 (by omega) (by omega) (by omega) (by omega)) ?_
       clear hA hS; rintro v w20 a ⟨ts2, q2, L18, L19, hM21, hN22, hI2, hD, rfl, hS⟩ hA
       have hql2 : q2.length ≤ 64 := by have := hI2.ti.len; have := hI2.ti.2.2; omega
       replace hS := hS.front 1 (C := L19) (L' := L18 :: [(b15, rowO [.int .u8 x14.1, .int .i8 x14.2.1, .int .i64 x14.2.2] 35)] :: F) rfl rfl
       obtain ⟨v23, C23, u23, D23, hO23, hQ23, rfl⟩ := hN22
       obtain ⟨A23, c23, rfl, hmc23, hxc23⟩ := hO23.open'
       obtain ⟨B23, d23, rfl, hmd23, hxd23⟩ := hQ23.open'
       replace hS := hS.split3
       replace hS := hS.front 3 (C := L18) (L' := [(b6, rowO [.slice A23 ts2.length c23, .slice B23 q2.length d23] 32)] :: C23 :: D23 :: [(b15, rowO [.int .u8 x14.1, .int .i8 x14.2.1, .int .i64 x14.2.2] 35)] :: F) rfl rfl
       refine dr_nilS (fun w' => St w0 w' ([(b6, rowO [.slice A23 ts2.length c23, .slice B23 q2.length d23] 32)] :: C23 :: D23 :: [(b15, rowO [.int .u8 x14.1, .int .i8 x14.2.1, .int .i64 x14.2.2] 35)] :: F)) (fun x h => h.tail 3 rfl) (hS.tail 1 rfl) ?_
       refine dr_run tbOk 6 hA (hS.tail 1 rfl) (e' := (31, .pointer (some ⟨b6, 1, none⟩)) :: (30, .pointer (some ⟨b6, 0, none⟩)) :: (29, .pointer (some ⟨b6, 0, none⟩)) :: (27, .pointer (some ⟨b2, 0, none⟩)) :: (26, .bool false) :: (25, .bool false) :: _) rfl ?_; clear hA; intro a hA
       refine dr_y hA rfl rfl rfl (by decide) (hS.tail 1 rfl) (fun w' hS' => rn_load tbOk hA rfl rfl rfl rfl (cell_row (hS'.heapAt 0 rfl) rfl)) ?_; clear hA; intro a hA
       refine dr_b (o := _) rfl ?_
       refine st_call0 hA rfl rfl rfl isfn8 rfl rfl (by decide) (ready8 hS hM21 (by omega)) ?_
       clear hA hS; rintro v27 w25 a ⟨L24, C28, hO28, hM26, hS⟩ hA
       obtain ⟨A29, c30, rfl, hmc30, hxc30⟩ := hO28.open'
       refine dr_nil (.inr (hS.tail 2 rfl)) ?_
       refine dr_b (o := _) rfl ?_
       refine st_call0 hA rfl rfl rfl isfn7 rfl rfl (by decide) (same7 hS (xs := q2) (ys := q2) (RdS.own hO28 0 rfl) (RdS.own hQ23 4 rfl)) ?_
       clear hA hS; rintro v w31 a ⟨rfl, hS⟩ hA
       replace hA := hA.rw 33 (v' := .bool true) rfl (by simp)
       refine dr_nil (.inr (hS.tail 2 rfl)) ?_
       refine dr_run tbOk 2 hA (hS.tail 2 rfl) (e' := (35, .bool false) :: (34, .bool false) :: _) rfl ?_; clear hA; intro a hA
       refine dr_end ?_
       replace hA := hA.sel [3, 4, 15, 16, 17, 35] (e' := [(3, .pointer (some ⟨b2, 0, none⟩)), (4, .pointer (some ⟨b6, 0, none⟩)), (15, .slice (some ⟨b12, o13, none⟩) l.length c), (16, .int .i64 ((l.length : Nat) : Int)), (17, .int .i64 ((k : Nat) : Int)), (35, .bool false)]) rfl
       refine xt_norm ?_
       refine cd_cond_f hA rfl ?_
       refine wp_skip ?_
       refine xb_norm ?_
       refine xt_norm ?_
       refine wp_region_lit ?_
       refine st_run tbOk 1 hA (e' := (36, .int .i64 (IntKind.i64.wrap (((k : Nat) : Int) + 1))) :: _) rfl ?_; clear hA; intro a hA
       replace hA := hA.rw 36 (v' := .int .i64 ((k + 1 : Nat) : Int)) rfl (wr64 (by omega) (by omega) (by omega))
       refine st_run tbOk 1 hA (e' := (17, .int .i64 ((k + 1 : Nat) : Int)) :: _) rfl ?_; clear hA; intro a hA
       refine wpList_nil ?_
       replace hA := hA.sel [3, 4, 15, 16, 17] (e' := [(3, .pointer (some ⟨b2, 0, none⟩)), (4, .pointer (some ⟨b6, 0, none⟩)), (15, .slice (some ⟨b12, o13, none⟩) l.length c), (16, .int .i64 ((l.length : Nat) : Int)), (17, .int .i64 ((k + 1 : Nat) : Int))]) rfl
       replace hS := hS.front 4 (C := D23) (L' := C28 :: L24 :: [(b6, rowO [.slice A23 ts2.length c23, .slice B23 q2.length d23] 32)] :: C23 :: [(b15, rowO [.int .u8 x14.1, .int .i8 x14.2.1, .int .i64 x14.2.2] 35)] :: F) rfl rfl
       replace hS := hS.front 4 (C := C23) (L' := D23 :: C28 :: L24 :: [(b6, rowO [.slice A23 ts2.length c23, .slice B23 q2.length d23] 32)] :: [(b15, rowO [.int .u8 x14.1, .int .i8 x14.2.1, .int .i64 x14.2.2] 35)] :: F) rfl rfl
       replace hS := hS.front 4 (C := [(b6, rowO [.slice A23 ts2.length c23, .slice B23 q2.length d23] 32)]) (L' := C23 :: D23 :: C28 :: L24 :: [(b15, rowO [.int .u8 x14.1, .int .i8 x14.2.1, .int .i64 x14.2.2] 35)] :: F) rfl rfl
       obtain ⟨L32, hM33, hS⟩ : ∃ Z, TR 32 b6 (ts2) (q2) Z ∧ St w0 w31 (Z :: C28 :: L24 :: [(b15, rowO [.int .u8 x14.1, .int .i8 x14.2.1, .int .i64 x14.2.2] 35)] :: F) := ⟨_, ⟨_, _, _, _, hO23, hQ23, rfl⟩, hS.join3⟩
       replace hS := hS.front 1 (C := C28) (L' := L32 :: L24 :: [(b15, rowO [.int .u8 x14.1, .int .i8 x14.2.1, .int .i64 x14.2.2] 35)] :: F) rfl rfl
       replace hS := hS.drop1
       replace hS := hS.front 2 (C := [(b15, rowO [.int .u8 x14.1, .int .i8 x14.2.1, .int .i64 x14.2.2] 35)]) (L' := L32 :: L24 :: F) rfl rfl
       replace hS := hS.drop1
       replace hS := hS.front 1 (C := L24) (L' := L32 :: F) rfl rfl
       exact lp_next _ (by omega) ⟨(k + 1), ts2, q2, L24, L32, rfl, (hA.sel [3, 4, 15, 16, 17] rfl), hS, by omega, hM26, hM33, hI2⟩)
  · first
    | (exfalso; omega)
    | (replace hA := hA.rw 18 (v' := .bool false) rfl (vb_false hc11)
       refine cd_cond_f hA rfl ?_
       refine wp_exit ?_
       refine xt_exit ?_
       refine xt_exit ?_
       refine cd_exit_eq ?_
       refine xt_norm ?_
       refine wp_seq ?_
       refine wp_seq ?_
       refine wp_region_lit ?_
       refine st_run tbOk 1 hA (e' := (7, .int .i64 (-2)) :: _) rfl ?_; clear hA; intro a hA
       refine wpList_nil ?_
       replace hA := hA.sel [3, 4, 7] (e' := [(3, .pointer (some ⟨b2, 0, none⟩)), (4, .pointer (some ⟨b6, 0, none⟩)), (7, .int .i64 (-2))]) rfl
       refine xt_norm ?_
       refine wp_block ?_
       replace hS := hS.front 1 (C := Lm) (L' := L :: F) rfl rfl
       replace hS := hS.front 1 (C := L) (L' := Lm :: F) rfl rfl
       replace hA := hA.rw 7 (v' := .int .i64 (((0 : Nat) : Int) - 2)) rfl (vint (by decide))
       refine wp_loop_ghost (fun m a w => ∃ (i : Nat) (L3 : Chunk) (Lm3 : Chunk), m = 68 - i ∧ Has a 65 [(3, .pointer (some ⟨b2, 0, none⟩)), (4, .pointer (some ⟨b6, 0, none⟩)), (7, .int .i64 (((i : Nat) : Int) - 2))] ∧ St w0 w (L3 :: Lm3 :: F) ∧ (i ≤ 68) ∧ (TR 29 b2 ts q L3) ∧ (TR 32 b6 ts q Lm3)) (68 - 0)
         ⟨0, L, Lm, rfl, (hA.sel [3, 4, 7] rfl), hS, Nat.zero_le _, hM, hN⟩ ?_
       clear hA hS; rintro m0 a w34 ⟨i, L3, Lm3, rfl, hA, hS, hi, hM3, hN3⟩
       refine wp_seq ?_
       refine wp_seq ?_
       refine wp_region_lit ?_
       refine st_run tbOk 2 hA (e' := (38, .bool (decide (((i : Nat) : Int) - 2 < 66))) :: (37, .int .i64 (((i : Nat) : Int) - 2)) :: _) rfl ?_; clear hA; intro a hA
       refine wpList_nil ?_
       replace hA := hA.sel [3, 4, 7, 38] (e' := [(3, .pointer (some ⟨b2, 0, none⟩)), (4, .pointer (some ⟨b6, 0, none⟩)), (7, .int .i64 (((i : Nat) : Int) - 2)), (38, .bool (decide (((i : Nat) : Int) - 2 < 66)))]) rfl
       refine xt_norm ?_
       by_cases hc35 : ((i : Nat) : Int) - 2 < 66
       · first
         | (exfalso; omega)
         | (replace hA := hA.rw 38 (v' := .bool true) rfl (vb_true hc35)
            refine cd_cond_t hA rfl ?_
            refine wp_skip ?_
            refine xt_norm ?_
            refine wp_seq ?_
            refine wp_block ?_
            refine wp_seq ?_
            refine wp_region_lit ?_
            refine st_run tbOk 1 hA (e' := (41, .agg #[.int .i64 0, .int .i64 0, .int .i64 0]) :: _) rfl ?_; clear hA; intro a hA
            refine st_alloc tbOk hA hS [.int .i64 0, .int .i64 0, .int .i64 0] rfl rfl rfl rfl rfl (by decide) ?_; clear hA hS; intro b36 w37 a hS hA
            refine st_store tbOk hA hS [.int .i64 0, .int .i64 0, .int .i64 0] [.int .i64 0, .int .i64 0, .int .i64 0] rfl rfl rfl rfl rfl rfl (by simp [Value.oneCell']) (Nat.le_of_ble_eq_true rfl) rfl rfl rfl ?_; clear hS; intro w38 hS
            refine wpList_nil ?_
            replace hA := hA.sel [3, 4, 7, 8] (e' := [(3, .pointer (some ⟨b2, 0, none⟩)), (4, .pointer (some ⟨b6, 0, none⟩)), (7, .int .i64 (((i : Nat) : Int) - 2)), (8, .pointer (some ⟨b36, 0, none⟩))]) rfl
            refine xt_norm ?_
            refine wp_seq ?_
            refine wp_seq ?_
            refine wp_region_lit ?_
            replace hS := hS.front 2 (C := Lm3) (L' := [(b36, rowO [.int .i64 0, .int .i64 0, .int .i64 0] 41)] :: L3 :: F) rfl rfl
            obtain ⟨v39, C39, u39, D39, hO39, hQ39, rfl⟩ := hN3
            obtain ⟨A39, c39, rfl, hmc39, hxc39⟩ := hO39.open'
            obtain ⟨B39, d39, rfl, hmd39, hxd39⟩ := hQ39.open'
            replace hS := hS.split3
            rcases idcases (((i : Nat) : Int) - 2) ts.length with h1 | h1 | ⟨n, hid, hn⟩
            · refine st_run tbOk 3 hA (e' := (44, .bool (decide (((i : Nat) : Int) - 2 ≥ 0))) :: (43, .bool (decide (((i : Nat) : Int) - 2 ≥ 0))) :: (42, .int .i64 (((i : Nat) : Int) - 2)) :: _) rfl ?_; clear hA; intro a hA
              by_cases hc40 : ((i : Nat) : Int) - 2 ≥ 0
              · first
                | (exfalso; omega)
                | (replace hA := hA.rw 43 (v' := .bool true) rfl (vb_true hc40)
                   replace hA := hA.rw 44 (v' := .bool true) rfl (vb_true hc40)
                   refine st_run tbOk 4 hA (e' := (48, .pointer (some ⟨b6, 0, none⟩)) :: (47, .pointer (some ⟨b6, 0, none⟩)) :: (46, .pointer (some ⟨b6, 0, none⟩)) :: (45, .int .i64 (((i : Nat) : Int) - 2)) :: _) rfl ?_; clear hA; intro a hA
                   refine st_val hA rfl rfl (by decide) (rn_load tbOk hA rfl rfl rfl rfl (cell_row (hS.heapAt 0 rfl) rfl)) ?_; clear hA; intro a hA
                   refine st_run tbOk 3 hA (e' := (52, .bool (decide (((i : Nat) : Int) - 2 < ((ts.length : Nat) : Int)))) :: (51, .bool (decide (((i : Nat) : Int) - 2 < ((ts.length : Nat) : Int)))) :: (50, .int .i64 ((ts.length : Nat) : Int)) :: _) rfl ?_; clear hA; intro a hA
                   refine wpList_nil ?_
                   replace hA := hA.sel [3, 4, 7, 8, 52] (e' := [(3, .pointer (some ⟨b2, 0, none⟩)), (4, .pointer (some ⟨b6, 0, none⟩)), (7, .int .i64 (((i : Nat) : Int) - 2)), (8, .pointer (some ⟨b36, 0, none⟩)), (52, .bool (decide (((i : Nat) : Int) - 2 < ((ts.length : Nat) : Int))))]) rfl
                   refine xt_norm ?_
                   by_cases hc41 : ((i : Nat) : Int) - 2 < ((ts.length : Nat) : Int)
                   · first
                     | (exfalso; omega)
                     | (replace hA := hA.rw 52 (v' := .bool true) rfl (vb_true hc41)
                        refine cd_cond_t hA rfl ?_
                        refine wp_region_lit ?_
                        exfalso; omega)
                   · first
                     | (exfalso; omega)
                     | (replace hA := hA.rw 52 (v' := .bool false) rfl (vb_false hc41)
                        refine cd_cond_f hA rfl ?_
                        refine wp_skip ?_
                        refine xt_norm ?_
                        refine wp_seq ?_
                        replace hS := hS.front 2 (C := D39) (L' := [(b6, rowO [.slice A39 ts.length c39, .slice B39 q.length d39] 32)] :: C39 :: [(b36, rowO [.int .i64 0, .int .i64 0, .int .i64 0] 41)] :: L3 :: F) rfl rfl
                        replace hS := hS.front 2 (C := C39) (L' := D39 :: [(b6, rowO [.slice A39 ts.length c39, .slice B39 q.length d39] 32)] :: [(b36, rowO [.int .i64 0, .int .i64 0, .int .i64 0] 41)] :: L3 :: F) rfl rfl
                        replace hS := hS.front 2 (C := [(b6, rowO [.slice A39 ts.length c39, .slice B39 q.length d39] 32)]) (L' := C39 :: D39 :: [(b36, rowO [.int .i64 0, .int .i64 0, .int .i64 0] 41)] :: L3 :: F) rfl rfl
                        obtain ⟨L42, hM43, hS⟩ : ∃ Z, TR 32 b6 (ts) (q) Z ∧ St w0 w38 (Z :: [(b36, rowO [.int .i64 0, .int .i64 0, .int .i64 0] 41)] :: L3 :: F) := ⟨_, ⟨_, _, _, _, hO39, hQ39, rfl⟩, hS.join3⟩
                        replace hS := hS.front 2 (C := L3) (L' := L42 :: [(b36, rowO [.int .i64 0, .int .i64 0, .int .i64 0] 41)] :: F) rfl rfl
                        refine wp_draw (fun w' => St w0 w' (L42 :: [(b36, rowO [.int .i64 0, .int .i64 0, .int .i64 0] 41)] :: F)) [] [(0, true), (1, true), (3, true), (2, false), (4, true)] mixed (by kernel_rfl) (by rintro c a w ⟨_, _, h, _⟩; cases h) (by rfl) (by kernel_rfl) ?_
                        replace hS := hS.drew
                        refine dr_run tbOk 2 hA (hS.tail 1 rfl) (e' := (61, .int .i64 (((i : Nat) : Int) - 2)) :: (60, .pointer (some ⟨b2, 0, none⟩)) :: _) rfl ?_; clear hA; intro a hA
                        refine dr_y hA rfl rfl rfl (by decide) (hS.tail 1 rfl) (fun w' hS' => rn_loadA tbOk hA [.int .i64 0, .int .i64 0, .int .i64 0] rfl rfl rfl rfl rfl (cells_row (hS'.heapAt 1 rfl) rfl)) ?_; clear hA; intro a hA
                        refine dr_b (o := _) rfl ?_
                        refine st_call0 hA rfl rfl rfl isfn9 rfl rfl (by decide) (get_lo hS hM3 (((i : Nat) : Int) - 2) h1) ?_
                        clear hA hS; rintro v w45 a ⟨L44, hM46, rfl, hS⟩ hA
                        refine dr_nil (.inr (hS.tail 1 rfl)) ?_
                        refine dr_y hA rfl rfl rfl (by decide) (hS.tail 1 rfl) (fun w' hS' => rn_neA tbOk hA rfl rfl rfl rfl rfl (by kernel_rfl) (by kernel_rfl) rfl) ?_; clear hA; intro a hA
                        replace hA := hA.rw 64 (v' := .bool false) rfl (by simp)
                        refine dr_end ?_
                        replace hA := hA.sel [3, 4, 7, 64] (e' := [(3, .pointer (some ⟨b2, 0, none⟩)), (4, .pointer (some ⟨b6, 0, none⟩)), (7, .int .i64 (((i : Nat) : Int) - 2)), (64, .bool false)]) rfl
                        refine xt_norm ?_
                        refine cd_cond_f hA rfl ?_
                        refine wp_skip ?_
                        refine xb_norm ?_
                        refine xt_norm ?_
                        refine wp_region_lit ?_
                        refine st_run tbOk 2 hA (e' := (40, .int .i64 (IntKind.i64.wrap ((((i : Nat) : Int) - 2) + 1))) :: (39, .int .i64 (((i : Nat) : Int) - 2)) :: _) rfl ?_; clear hA; intro a hA
                        replace hA := hA.rw 40 (v' := .int .i64 ((((i : Nat) : Int) - 2) + 1)) rfl (wr64 (by omega) (by omega) (by omega))
                        refine st_run tbOk 1 hA (e' := (7, .int .i64 ((((i : Nat) : Int) - 2) + 1)) :: _) rfl ?_; clear hA; intro a hA
                        refine wpList_nil ?_
                        replace hA := hA.sel [3, 4, 7] (e' := [(3, .pointer (some ⟨b2, 0, none⟩)), (4, .pointer (some ⟨b6, 0, none⟩)), (7, .int .i64 ((((i : Nat) : Int) - 2) + 1))]) rfl
                        replace hS := hS.front 2 (C := [(b36, rowO [.int .i64 0, .int .i64 0, .int .i64 0] 41)]) (L' := L44 :: L42 :: F) rfl rfl
                        replace hS := hS.drop1
                        replace hS := hS.front 1 (C := L42) (L' := L44 :: F) rfl rfl
                        replace hS := hS.front 1 (C := L44) (L' := L42 :: F) rfl rfl
                        replace hA := hA.rw 7 (v' := .int .i64 (((i + 1 : Nat) : Int) - 2)) rfl (vint (by omega))
                        exact lp_next _ (by omega) ⟨(i + 1), L44, L42, rfl, (hA.sel [3, 4, 7] rfl), hS, by omega, hM46, hM43⟩))
              · first
                | (exfalso; omega)
                | (replace hA := hA.rw 43 (v' := .bool false) rfl (vb_false hc40)
                   replace hA := hA.rw 44 (v' := .bool false) rfl (vb_false hc40)
                   refine st_run tbOk 8 hA (e' := (52, .bool false) :: (51, undef) :: (50, undef) :: (49, undef) :: (48, undef) :: (47, undef) :: (46, undef) :: (45, undef) :: _) rfl ?_; clear hA; intro a hA
                   refine wpList_nil ?_
                   replace hA := hA.sel [3, 4, 7, 8, 52] (e' := [(3, .pointer (some ⟨b2, 0, none⟩)), (4, .pointer (some ⟨b6, 0, none⟩)), (7, .int .i64 (((i : Nat) : Int) - 2)), (8, .pointer (some ⟨b36, 0, none⟩)), (52, .bool false)]) rfl
                   refine xt_norm ?_
                   refine cd_cond_f hA rfl ?_
                   refine wp_skip ?_
                   refine xt_norm ?_
                   refine wp_seq ?_
                   replace hS := hS.front 2 (C := D39) (L' := [(b6, rowO [.slice A39 ts.length c39, .slice B39 q.length d39] 32)] :: C39 :: [(b36, rowO [.int .i64 0, .int .i64 0, .int .i64 0] 41)] :: L3 :: F) rfl rfl
                   replace hS := hS.front 2 (C := C39) (L' := D39 :: [(b6, rowO [.slice A39 ts.length c39, .slice B39 q.length d39] 32)] :: [(b36, rowO [.int .i64 0, .int .i64 0, .int .i64 0] 41)] :: L3 :: F) rfl rfl
                   replace hS := hS.front 2 (C := [(b6, rowO [.slice A39 ts.length c39, .slice B39 q.length d39] 32)]) (L' := C39 :: D39 :: [(b36, rowO [.int .i64 0, .int .i64 0, .int .i64 0] 41)] :: L3 :: F) rfl rfl
                   obtain ⟨L47, hM48, hS⟩ : ∃ Z, TR 32 b6 (ts) (q) Z ∧ St w0 w38 (Z :: [(b36, rowO [.int .i64 0, .int .i64 0, .int .i64 0] 41)] :: L3 :: F) := ⟨_, ⟨_, _, _, _, hO39, hQ39, rfl⟩, hS.join3⟩
                   replace hS := hS.front 2 (C := L3) (L' := L47 :: [(b36, rowO [.int .i64 0, .int .i64 0, .int .i64 0] 41)] :: F) rfl rfl
                   refine wp_draw (fun w' => St w0 w' (L47 :: [(b36, rowO [.int .i64 0, .int .i64 0, .int .i64 0] 41)] :: F)) [] [(0, true), (1, true), (3, true), (2, false), (4, true)] mixed (by kernel_rfl) (by rintro c a w ⟨_, _, h, _⟩; cases h) (by rfl) (by kernel_rfl) ?_
                   replace hS := hS.drew
                   refine dr_run tbOk 2 hA (hS.tail 1 rfl) (e' := (61, .int .i64 (((i : Nat) : Int) - 2)) :: (60, .pointer (some ⟨b2, 0, none⟩)) :: _) rfl ?_; clear hA; intro a hA
                   refine dr_y hA rfl rfl rfl (by decide) (hS.tail 1 rfl) (fun w' hS' => rn_loadA tbOk hA [.int .i64 0, .int .i64 0, .int .i64 0] rfl rfl rfl rfl rfl (cells_row (hS'.heapAt 1 rfl) rfl)) ?_; clear hA; intro a hA
                   refine dr_b (o := _) rfl ?_
                   refine st_call0 hA rfl rfl rfl isfn9 rfl rfl (by decide) (get_lo hS hM3 (((i : Nat) : Int) - 2) h1) ?_
                   clear hA hS; rintro v w50 a ⟨L49, hM51, rfl, hS⟩ hA
                   refine dr_nil (.inr (hS.tail 1 rfl)) ?_
                   refine dr_y hA rfl rfl rfl (by decide) (hS.tail 1 rfl) (fun w' hS' => rn_neA tbOk hA rfl rfl rfl rfl rfl (by kernel_rfl) (by kernel_rfl) rfl) ?_; clear hA; intro a hA
                   replace hA := hA.rw 64 (v' := .bool false) rfl (by simp)
                   refine dr_end ?_
                   replace hA := hA.sel [3, 4, 7, 64] (e' := [(3, .pointer (some ⟨b2, 0, none⟩)), (4, .pointer (some ⟨b6, 0, none⟩)), (7, .int .i64 (((i : Nat) : Int) - 2)), (64, .bool false)]) rfl
                   refine xt_norm ?_
                   refine cd_cond_f hA rfl ?_
                   refine wp_skip ?_
                   refine xb_norm ?_
                   refine xt_norm ?_
                   refine wp_region_lit ?_
                   refine st_run tbOk 2 hA (e' := (40, .int .i64 (IntKind.i64.wrap ((((i : Nat) : Int) - 2) + 1))) :: (39, .int .i64 (((i : Nat) : Int) - 2)) :: _) rfl ?_; clear hA; intro a hA
                   replace hA := hA.rw 40 (v' := .int .i64 ((((i : Nat) : Int) - 2) + 1)) rfl (wr64 (by omega) (by omega) (by omega))
                   refine st_run tbOk 1 hA (e' := (7, .int .i64 ((((i : Nat) : Int) - 2) + 1)) :: _) rfl ?_; clear hA; intro a hA
                   refine wpList_nil ?_
                   replace hA := hA.sel [3, 4, 7] (e' := [(3, .pointer (some ⟨b2, 0, none⟩)), (4, .pointer (some ⟨b6, 0, none⟩)), (7, .int .i64 ((((i : Nat) : Int) - 2) + 1))]) rfl
                   replace hS := hS.front 2 (C := [(b36, rowO [.int .i64 0, .int .i64 0, .int .i64 0] 41)]) (L' := L49 :: L47 :: F) rfl rfl
                   replace hS := hS.drop1
                   replace hS := hS.front 1 (C := L47) (L' := L49 :: F) rfl rfl
                   replace hS := hS.front 1 (C := L49) (L' := L47 :: F) rfl rfl
                   replace hA := hA.rw 7 (v' := .int .i64 (((i + 1 : Nat) : Int) - 2)) rfl (vint (by omega))
                   exact lp_next _ (by omega) ⟨(i + 1), L49, L47, rfl, (hA.sel [3, 4, 7] rfl), hS, by omega, hM51, hM48⟩)
            · refine st_run tbOk 3 hA (e' := (44, .bool (decide (((i : Nat) : Int) - 2 ≥ 0))) :: (43, .bool (decide (((i : Nat) : Int) - 2 ≥ 0))) :: (42, .int .i64 (((i : Nat) : Int) - 2)) :: _) rfl ?_; clear hA; intro a hA
              by_cases hc52 : ((i : Nat) : Int) - 2 ≥ 0
              · first
                | (exfalso; omega)
                | (replace hA := hA.rw 43 (v' := .bool true) rfl (vb_true hc52)
                   replace hA := hA.rw 44 (v' := .bool true) rfl (vb_true hc52)
                   refine st_run tbOk 4 hA (e' := (48, .pointer (some ⟨b6, 0, none⟩)) :: (47, .pointer (some ⟨b6, 0, none⟩)) :: (46, .pointer (some ⟨b6, 0, none⟩)) :: (45, .int .i64 (((i : Nat) : Int) - 2)) :: _) rfl ?_; clear hA; intro a hA
                   refine st_val hA rfl rfl (by decide) (rn_load tbOk hA rfl rfl rfl rfl (cell_row (hS.heapAt 0 rfl) rfl)) ?_; clear hA; intro a hA
                   refine st_run tbOk 3 hA (e' := (52, .bool (decide (((i : Nat) : Int) - 2 < ((ts.length : Nat) : Int)))) :: (51, .bool (decide (((i : Nat) : Int) - 2 < ((ts.length : Nat) : Int)))) :: (50, .int .i64 ((ts.length : Nat) : Int)) :: _) rfl ?_; clear hA; intro a hA
                   refine wpList_nil ?_
                   replace hA := hA.sel [3, 4, 7, 8, 52] (e' := [(3, .pointer (some ⟨b2, 0, none⟩)), (4, .pointer (some ⟨b6, 0, none⟩)), (7, .int .i64 (((i : Nat) : Int) - 2)), (8, .pointer (some ⟨b36, 0, none⟩)), (52, .bool (decide (((i : Nat) : Int) - 2 < ((ts.length : Nat) : Int))))]) rfl
                   refine xt_norm ?_
                   by_cases hc53 : ((i : Nat) : Int) - 2 < ((ts.length : Nat) : Int)
                   · first
                     | (exfalso; omega)
                     | (replace hA := hA.rw 52 (v' := .bool true) rfl (vb_true hc53)
                        refine cd_cond_t hA rfl ?_
                        refine wp_region_lit ?_
                        exfalso; omega)
                   · first
                     | (exfalso; omega)
                     | (replace hA := hA.rw 52 (v' := .bool false) rfl (vb_false hc53)
                        refine cd_cond_f hA rfl ?_
                        refine wp_skip ?_
                        refine xt_norm ?_
                        refine wp_seq ?_
                        replace hS := hS.front 2 (C := D39) (L' := [(b6, rowO [.slice A39 ts.length c39, .slice B39 q.length d39] 32)] :: C39 :: [(b36, rowO [.int .i64 0, .int .i64 0, .int .i64 0] 41)] :: L3 :: F) rfl rfl
                        replace hS := hS.front 2 (C := C39) (L' := D39 :: [(b6, rowO [.slice A39 ts.length c39, .slice B39 q.length d39] 32)] :: [(b36, rowO [.int .i64 0, .int .i64 0, .int .i64 0] 41)] :: L3 :: F) rfl rfl
                        replace hS := hS.front 2 (C := [(b6, rowO [.slice A39 ts.length c39, .slice B39 q.length d39] 32)]) (L' := C39 :: D39 :: [(b36, rowO [.int .i64 0, .int .i64 0, .int .i64 0] 41)] :: L3 :: F) rfl rfl
                        obtain ⟨L54, hM55, hS⟩ : ∃ Z, TR 32 b6 (ts) (q) Z ∧ St w0 w38 (Z :: [(b36, rowO [.int .i64 0, .int .i64 0, .int .i64 0] 41)] :: L3 :: F) := ⟨_, ⟨_, _, _, _, hO39, hQ39, rfl⟩, hS.join3⟩
                        replace hS := hS.front 2 (C := L3) (L' := L54 :: [(b36, rowO [.int .i64 0, .int .i64 0, .int .i64 0] 41)] :: F) rfl rfl
                        refine wp_draw (fun w' => St w0 w' (L54 :: [(b36, rowO [.int .i64 0, .int .i64 0, .int .i64 0] 41)] :: F)) [] [(0, true), (1, true), (3, true), (2, false), (4, true)] mixed (by kernel_rfl) (by rintro c a w ⟨_, _, h, _⟩; cases h) (by rfl) (by kernel_rfl) ?_
                        replace hS := hS.drew
                        refine dr_run tbOk 2 hA (hS.tail 1 rfl) (e' := (61, .int .i64 (((i : Nat) : Int) - 2)) :: (60, .pointer (some ⟨b2, 0, none⟩)) :: _) rfl ?_; clear hA; intro a hA
                        refine dr_y hA rfl rfl rfl (by decide) (hS.tail 1 rfl) (fun w' hS' => rn_loadA tbOk hA [.int .i64 0, .int .i64 0, .int .i64 0] rfl rfl rfl rfl rfl (cells_row (hS'.heapAt 1 rfl) rfl)) ?_; clear hA; intro a hA
                        refine dr_b (o := _) rfl ?_
                        refine st_call0 hA rfl rfl rfl isfn9 rfl rfl (by decide) (get_hi hS hM3 (((i : Nat) : Int) - 2) h1) ?_
                        clear hA hS; rintro v w57 a ⟨L56, hM58, rfl, hS⟩ hA
                        refine dr_nil (.inr (hS.tail 1 rfl)) ?_
                        refine dr_y hA rfl rfl rfl (by decide) (hS.tail 1 rfl) (fun w' hS' => rn_neA tbOk hA rfl rfl rfl rfl rfl (by kernel_rfl) (by kernel_rfl) rfl) ?_; clear hA; intro a hA
                        replace hA := hA.rw 64 (v' := .bool false) rfl (by simp)
                        refine dr_end ?_
                        replace hA := hA.sel [3, 4, 7, 64] (e' := [(3, .pointer (some ⟨b2, 0, none⟩)), (4, .pointer (some ⟨b6, 0, none⟩)), (7, .int .i64 (((i : Nat) : Int) - 2)), (64, .bool false)]) rfl
                        refine xt_norm ?_
                        refine cd_cond_f hA rfl ?_
                        refine wp_skip ?_
                        refine xb_norm ?_
                        refine xt_norm ?_
                        refine wp_region_lit ?_
                        refine st_run tbOk 2 hA (e' := (40, .int .i64 (IntKind.i64.wrap ((((i : Nat) : Int) - 2) + 1))) :: (39, .int .i64 (((i : Nat) : Int) - 2)) :: _) rfl ?_; clear hA; intro a hA
                        replace hA := hA.rw 40 (v' := .int .i64 ((((i : Nat) : Int) - 2) + 1)) rfl (wr64 (by omega) (by omega) (by omega))
                        refine st_run tbOk 1 hA (e' := (7, .int .i64 ((((i : Nat) : Int) - 2) + 1)) :: _) rfl ?_; clear hA; intro a hA
                        refine wpList_nil ?_
                        replace hA := hA.sel [3, 4, 7] (e' := [(3, .pointer (some ⟨b2, 0, none⟩)), (4, .pointer (some ⟨b6, 0, none⟩)), (7, .int .i64 ((((i : Nat) : Int) - 2) + 1))]) rfl
                        replace hS := hS.front 2 (C := [(b36, rowO [.int .i64 0, .int .i64 0, .int .i64 0] 41)]) (L' := L56 :: L54 :: F) rfl rfl
                        replace hS := hS.drop1
                        replace hS := hS.front 1 (C := L54) (L' := L56 :: F) rfl rfl
                        replace hS := hS.front 1 (C := L56) (L' := L54 :: F) rfl rfl
                        replace hA := hA.rw 7 (v' := .int .i64 (((i + 1 : Nat) : Int) - 2)) rfl (vint (by omega))
                        exact lp_next _ (by omega) ⟨(i + 1), L56, L54, rfl, (hA.sel [3, 4, 7] rfl), hS, by omega, hM58, hM55⟩))
              · first
                | (exfalso; omega)
                | (replace hA := hA.rw 43 (v' := .bool false) rfl (vb_false hc52)
                   replace hA := hA.rw 44 (v' := .bool false) rfl (vb_false hc52)
                   refine st_run tbOk 8 hA (e' := (52, .bool false) :: (51, undef) :: (50, undef) :: (49, undef) :: (48, undef) :: (47, undef) :: (46, undef) :: (45, undef) :: _) rfl ?_; clear hA; intro a hA
                   refine wpList_nil ?_
                   replace hA := hA.sel [3, 4, 7, 8, 52] (e' := [(3, .pointer (some ⟨b2, 0, none⟩)), (4, .pointer (some ⟨b6, 0, none⟩)), (7, .int .i64 (((i : Nat) : Int) - 2)), (8, .pointer (some ⟨b36, 0, none⟩)), (52, .bool false)]) rfl
                   refine xt_norm ?_
                   refine cd_cond_f hA rfl ?_
                   refine wp_skip ?_
                   refine xt_norm ?_
                   refine wp_seq ?_
                   replace hS := hS.front 2 (C := D39) (L' := [(b6, rowO [.slice A39 ts.length c39, .slice B39 q.length d39] 32)] :: C39 :: [(b36, rowO [.int .i64 0, .int .i64 0, .int .i64 0] 41)] :: L3 :: F) rfl rfl
                   replace hS := hS.front 2 (C := C39) (L' := D39 :: [(b6, rowO [.slice A39 ts.length c39, .slice B39 q.length d39] 32)] :: [(b36, rowO [.int .i64 0, .int .i64 0, .int .i64 0] 41)] :: L3 :: F) rfl rfl
                   replace hS := hS.front 2 (C := [(b6, rowO [.slice A39 ts.length c39, .slice B39 q.length d39] 32)]) (L' := C39 :: D39 :: [(b36, rowO [.int .i64 0, .int .i64 0, .int .i64 0] 41)] :: L3 :: F) rfl rfl
                   obtain ⟨L59, hM60, hS⟩ : ∃ Z, TR 32 b6 (ts) (q) Z ∧ St w0 w38 (Z :: [(b36, rowO [.int .i64 0, .int .i64 0, .int .i64 0] 41)] :: L3 :: F) := ⟨_, ⟨_, _, _, _, hO39, hQ39, rfl⟩, hS.join3⟩
                   replace hS := hS.front 2 (C := L3) (L' := L59 :: [(b36, rowO [.int .i64 0, .int .i64 0, .int .i64 0] 41)] :: F) rfl rfl
                   refine wp_draw (fun w' => St w0 w' (L59 :: [(b36, rowO [.int .i64 0, .int .i64 0, .int .i64 0] 41)] :: F)) [] [(0, true), (1, true), (3, true), (2, false), (4, true)] mixed (by kernel_rfl) (by rintro c a w ⟨_, _, h, _⟩; cases h) (by rfl) (by kernel_rfl) ?_
                   replace hS := hS.drew
                   refine dr_run tbOk 2 hA (hS.tail 1 rfl) (e' := (61, .int .i64 (((i : Nat) : Int) - 2)) :: (60, .pointer (some ⟨b2, 0, none⟩)) :: _) rfl ?_; clear hA; intro a hA
                   refine dr_y hA rfl rfl rfl (by decide) (hS.tail 1 rfl) (fun w' hS' => rn_loadA tbOk hA [.int .i64 0, .int .i64 0, .int .i64 0] rfl rfl rfl rfl rfl (cells_row (hS'.heapAt 1 rfl) rfl)) ?_; clear hA; intro a hA
                   refine dr_b (o := _) rfl ?_
                   refine st_call0 hA rfl rfl rfl isfn9 rfl rfl (by decide) (get_hi hS hM3 (((i : Nat) : Int) - 2) h1) ?_
                   clear hA hS; rintro v w62 a ⟨L61, hM63, rfl, hS⟩ hA
                   refine dr_nil (.inr (hS.tail 1 rfl)) ?_
                   refine dr_y hA rfl rfl rfl (by decide) (hS.tail 1 rfl) (fun w' hS' => rn_neA tbOk hA rfl rfl rfl rfl rfl (by kernel_rfl) (by kernel_rfl) rfl) ?_; clear hA; intro a hA
                   replace hA := hA.rw 64 (v' := .bool false) rfl (by simp)
                   refine dr_end ?_
                   replace hA := hA.sel [3, 4, 7, 64] (e' := [(3, .pointer (some ⟨b2, 0, none⟩)), (4, .pointer (some ⟨b6, 0, none⟩)), (7, .int .i64 (((i : Nat) : Int) - 2)), (64, .bool false)]) rfl
                   refine xt_norm ?_
                   refine cd_cond_f hA rfl ?_
                   refine wp_skip ?_
                   refine xb_norm ?_
                   refine xt_norm ?_
                   refine wp_region_lit ?_
                   refine st_run tbOk 2 hA (e' := (40, .int .i64 (IntKind.i64.wrap ((((i : Nat) : Int) - 2) + 1))) :: (39, .int .i64 (((i : Nat) : Int) - 2)) :: _) rfl ?_; clear hA; intro a hA
                   replace hA := hA.rw 40 (v' := .int .i64 ((((i : Nat) : Int) - 2) + 1)) rfl (wr64 (by omega) (by omega) (by omega))
                   refine st_run tbOk 1 hA (e' := (7, .int .i64 ((((i : Nat) : Int) - 2) + 1)) :: _) rfl ?_; clear hA; intro a hA
                   refine wpList_nil ?_
                   replace hA := hA.sel [3, 4, 7] (e' := [(3, .pointer (some ⟨b2, 0, none⟩)), (4, .pointer (some ⟨b6, 0, none⟩)), (7, .int .i64 ((((i : Nat) : Int) - 2) + 1))]) rfl
                   replace hS := hS.front 2 (C := [(b36, rowO [.int .i64 0, .int .i64 0, .int .i64 0] 41)]) (L' := L61 :: L59 :: F) rfl rfl
                   replace hS := hS.drop1
                   replace hS := hS.front 1 (C := L59) (L' := L61 :: F) rfl rfl
                   replace hS := hS.front 1 (C := L61) (L' := L59 :: F) rfl rfl
                   replace hA := hA.rw 7 (v' := .int .i64 (((i + 1 : Nat) : Int) - 2)) rfl (vint (by omega))
                   exact lp_next _ (by omega) ⟨(i + 1), L61, L59, rfl, (hA.sel [3, 4, 7] rfl), hS, by omega, hM63, hM60⟩)
            · obtain ⟨⟨p, s, u⟩, hx⟩ := get_ex (l := ts) (k := n) hn
              replace hA := hA.rw 7 (v' := .int .i64 ((n : Nat) : Int)) rfl (by rw [hid])
              refine st_run tbOk 3 hA (e' := (44, .bool (decide (((n : Nat) : Int) ≥ 0))) :: (43, .bool (decide (((n : Nat) : Int) ≥ 0))) :: (42, .int .i64 ((n : Nat) : Int)) :: _) rfl ?_; clear hA; intro a hA
              by_cases hc64 : ((n : Nat) : Int) ≥ 0
              · first
                | (exfalso; omega)
                | (replace hA := hA.rw 43 (v' := .bool true) rfl (vb_true hc64)
                   replace hA := hA.rw 44 (v' := .bool true) rfl (vb_true hc64)
                   refine st_run tbOk 4 hA (e' := (48, .pointer (some ⟨b6, 0, none⟩)) :: (47, .pointer (some ⟨b6, 0, none⟩)) :: (46, .pointer (some ⟨b6, 0, none⟩)) :: (45, .int .i64 ((n : Nat) : Int)) :: _) rfl ?_; clear hA; intro a hA
                   refine st_val hA rfl rfl (by decide) (rn_load tbOk hA rfl rfl rfl rfl (cell_row (hS.heapAt 0 rfl) rfl)) ?_; clear hA; intro a hA
                   refine st_run tbOk 3 hA (e' := (52, .bool (decide (((n : Nat) : Int) < ((ts.length : Nat) : Int)))) :: (51, .bool (decide (((n : Nat) : Int) < ((ts.length : Nat) : Int)))) :: (50, .int .i64 ((ts.length : Nat) : Int)) :: _) rfl ?_; clear hA; intro a hA
                   refine wpList_nil ?_
                   replace hA := hA.sel [3, 4, 7, 8, 52] (e' := [(3, .pointer (some ⟨b2, 0, none⟩)), (4, .pointer (some ⟨b6, 0, none⟩)), (7, .int .i64 ((n : Nat) : Int)), (8, .pointer (some ⟨b36, 0, none⟩)), (52, .bool (decide (((n : Nat) : Int) < ((ts.length : Nat) : Int))))]) rfl
                   refine xt_norm ?_
                   by_cases hc65 : ((n : Nat) : Int) < ((ts.length : Nat) : Int)
                   · first
                     | (exfalso; omega)
                     | (replace hA := hA.rw 52 (v' := .bool true) rfl (vb_true hc65)
                        refine cd_cond_t hA rfl ?_
                        refine wp_region_lit ?_
                        refine st_run tbOk 3 hA (e' := (55, .pointer (some ⟨b6, 0, none⟩)) :: (54, .pointer (some ⟨b6, 0, none⟩)) :: (53, .pointer (some ⟨b6, 0, none⟩)) :: _) rfl ?_; clear hA; intro a hA
                        refine st_val hA rfl rfl (by decide) (rn_load tbOk hA rfl rfl rfl rfl (cell_row (hS.heapAt 0 rfl) rfl)) ?_; clear hA; intro a hA
                        refine st_run tbOk 1 hA (e' := (57, .int .i64 ((n : Nat) : Int)) :: _) rfl ?_; clear hA; intro a hA
                        obtain ⟨b66, o67, rfl⟩ := hO39.isSome (k := n) (by omega)
                        refine st_val hA rfl rfl (by decide) (rn_indexAddr tbOk hA n (o67 + (n * 3)) rfl rfl rfl rfl rfl rfl (by rfl) (by omega) (by first | rfl | simp [Nat.mul_one, Nat.zero_add] | omega)) ?_; clear hA; intro a hA
                        refine st_val hA rfl rfl (by decide) (rn_loadA tbOk hA ([.int .i64 ((p, s, u).1), .int .i64 ((p, s, u).2.1), .int .i64 ((p, s, u).2.2)]) rfl rfl rfl rfl (by rfl) ((hO39.rd (hS.own_ 1 rfl)).elem (k := n) encThread_ok hx)) ?_; clear hA; intro a hA
                        replace hS := hS.front 3 (C := [(b36, rowO [.int .i64 0, .int .i64 0, .int .i64 0] 41)]) (L' := [(b6, rowO [.slice (some ⟨b66, o67, none⟩) ts.length c39, .slice B39 q.length d39] 32)] :: C39 :: D39 :: L3 :: F) rfl rfl
                        refine st_store tbOk hA hS [.int .i64 ((p, s, u).1), .int .i64 ((p, s, u).2.1), .int .i64 ((p, s, u).2.2)] [.int .i64 ((p, s, u).1), .int .i64 ((p, s, u).2.1), .int .i64 ((p, s, u).2.2)] rfl rfl rfl rfl rfl rfl (by simp [Value.oneCell']) (Nat.le_of_ble_eq_true rfl) rfl rfl rfl ?_; clear hS; intro w68 hS
                        refine wpList_nil ?_
                        replace hA := hA.sel [3, 4, 7, 8] (e' := [(3, .pointer (some ⟨b2, 0, none⟩)), (4, .pointer (some ⟨b6, 0, none⟩)), (7, .int .i64 ((n : Nat) : Int)), (8, .pointer (some ⟨b36, 0, none⟩))]) rfl
                        refine xt_norm ?_
                        refine wp_seq ?_
                        replace hS := hS.front 3 (C := D39) (L' := [(b36, rowO [.int .i64 ((p, s, u).1), .int .i64 ((p, s, u).2.1), .int .i64 ((p, s, u).2.2)] 41)] :: [(b6, rowO [.slice (some ⟨b66, o67, none⟩) ts.length c39, .slice B39 q.length d39] 32)] :: C39 :: L3 :: F) rfl rfl
                        replace hS := hS.front 3 (C := C39) (L' := D39 :: [(b36, rowO [.int .i64 ((p, s, u).1), .int .i64 ((p, s, u).2.1), .int .i64 ((p, s, u).2.2)] 41)] :: [(b6, rowO [.slice (some ⟨b66, o67, none⟩) ts.length c39, .slice B39 q.length d39] 32)] :: L3 :: F) rfl rfl
                        replace hS := hS.front 3 (C := [(b6, rowO [.slice (some ⟨b66, o67, none⟩) ts.length c39, .slice B39 q.length d39] 32)]) (L' := C39 :: D39 :: [(b36, rowO [.int .i64 ((p, s, u).1), .int .i64 ((p, s, u).2.1), .int .i64 ((p, s, u).2.2)] 41)] :: L3 :: F) rfl rfl
                        obtain ⟨L69, hM70, hS⟩ : ∃ Z, TR 32 b6 (ts) (q) Z ∧ St w0 w68 (Z :: [(b36, rowO [.int .i64 ((p, s, u).1), .int .i64 ((p, s, u).2.1), .int .i64 ((p, s, u).2.2)] 41)] :: L3 :: F) := ⟨_, ⟨_, _, _, _, hO39, hQ39, rfl⟩, hS.join3⟩
                        replace hS := hS.front 2 (C := L3) (L' := L69 :: [(b36, rowO [.int .i64 ((p, s, u).1), .int .i64 ((p, s, u).2.1), .int .i64 ((p, s, u).2.2)] 41)] :: F) rfl rfl
                        refine wp_draw (fun w' => St w0 w' (L69 :: [(b36, rowO [.int .i64 ((p, s, u).1), .int .i64 ((p, s, u).2.1), .int .i64 ((p, s, u).2.2)] 41)] :: F)) [] [(0, true), (1, true), (3, true), (2, false), (4, true)] mixed (by kernel_rfl) (by rintro c a w ⟨_, _, h, _⟩; cases h) (by rfl) (by kernel_rfl) ?_
                        replace hS := hS.drew
                        refine dr_run tbOk 2 hA (hS.tail 1 rfl) (e' := (61, .int .i64 ((n : Nat) : Int)) :: (60, .pointer (some ⟨b2, 0, none⟩)) :: _) rfl ?_; clear hA; intro a hA
                        refine dr_y hA rfl rfl rfl (by decide) (hS.tail 1 rfl) (fun w' hS' => rn_loadA tbOk hA [.int .i64 ((p, s, u).1), .int .i64 ((p, s, u).2.1), .int .i64 ((p, s, u).2.2)] rfl rfl rfl rfl rfl (cells_row (hS'.heapAt 1 rfl) rfl)) ?_; clear hA; intro a hA
                        refine dr_b (o := _) rfl ?_
                        refine st_call0 hA rfl rfl rfl isfn9 rfl rfl (by decide) (get_in hS hM3 n hx) ?_
                        clear hA hS; rintro v w72 a ⟨L71, hM73, rfl, hS⟩ hA
                        refine dr_nil (.inr (hS.tail 1 rfl)) ?_
                        refine dr_y hA rfl rfl rfl (by decide) (hS.tail 1 rfl) (fun w' hS' => rn_neA tbOk hA rfl rfl rfl rfl rfl (by kernel_rfl) (by kernel_rfl) rfl) ?_; clear hA; intro a hA
                        replace hA := hA.rw 64 (v' := .bool false) rfl (by simp)
                        refine dr_end ?_
                        replace hA := hA.sel [3, 4, 7, 64] (e' := [(3, .pointer (some ⟨b2, 0, none⟩)), (4, .pointer (some ⟨b6, 0, none⟩)), (7, .int .i64 ((n : Nat) : Int)), (64, .bool false)]) rfl
                        refine xt_norm ?_
                        refine cd_cond_f hA rfl ?_
                        refine wp_skip ?_
                        refine xb_norm ?_
                        refine xt_norm ?_
                        refine wp_region_lit ?_
                        refine st_run tbOk 2 hA (e' := (40, .int .i64 (IntKind.i64.wrap (((n : Nat) : Int) + 1))) :: (39, .int .i64 ((n : Nat) : Int)) :: _) rfl ?_; clear hA; intro a hA
                        replace hA := hA.rw 40 (v' := .int .i64 ((n + 1 : Nat) : Int)) rfl (wr64 (by omega) (by omega) (by omega))
                        refine st_run tbOk 1 hA (e' := (7, .int .i64 ((n + 1 : Nat) : Int)) :: _) rfl ?_; clear hA; intro a hA
                        refine wpList_nil ?_
                        replace hA := hA.sel [3, 4, 7] (e' := [(3, .pointer (some ⟨b2, 0, none⟩)), (4, .pointer (some ⟨b6, 0, none⟩)), (7, .int .i64 ((n + 1 : Nat) : Int))]) rfl
                        replace hS := hS.front 2 (C := [(b36, rowO [.int .i64 ((p, s, u).1), .int .i64 ((p, s, u).2.1), .int .i64 ((p, s, u).2.2)] 41)]) (L' := L71 :: L69 :: F) rfl rfl
                        replace hS := hS.drop1
                        replace hS := hS.front 1 (C := L69) (L' := L71 :: F) rfl rfl
                        replace hS := hS.front 1 (C := L71) (L' := L69 :: F) rfl rfl
                        replace hA := hA.rw 7 (v' := .int .i64 (((i + 1 : Nat) : Int) - 2)) rfl (vint (by omega))
                        exact lp_next _ (by omega) ⟨(i + 1), L71, L69, rfl, (hA.sel [3, 4, 7] rfl), hS, by omega, hM73, hM70⟩)
                   · first
                     | (exfalso; omega)
                     | (replace hA := hA.rw 52 (v' := .bool false) rfl (vb_false hc65)
                        refine cd_cond_f hA rfl ?_
                        refine wp_skip ?_
                        refine xt_norm ?_
                        refine wp_seq ?_
                        replace hS := hS.front 2 (C := D39) (L' := [(b6, rowO [.slice A39 ts.length c39, .slice B39 q.length d39] 32)] :: C39 :: [(b36, rowO [.int .i64 0, .int .i64 0, .int .i64 0] 41)] :: L3 :: F) rfl rfl
                        replace hS := hS.front 2 (C := C39) (L' := D39 :: [(b6, rowO [.slice A39 ts.length c39, .slice B39 q.length d39] 32)] :: [(b36, rowO [.int .i64 0, .int .i64 0, .int .i64 0] 41)] :: L3 :: F) rfl rfl
                        replace hS := hS.front 2 (C := [(b6, rowO [.slice A39 ts.length c39, .slice B39 q.length d39] 32)]) (L' := C39 :: D39 :: [(b36, rowO [.int .i64 0, .int .i64 0, .int .i64 0] 41)] :: L3 :: F) rfl rfl
                        obtain ⟨L74, hM75, hS⟩ : ∃ Z, TR 32 b6 (ts) (q) Z ∧ St w0 w38 (Z :: [(b36, rowO [.int .i64 0, .int .i64 0, .int .i64 0] 41)] :: L3 :: F) := ⟨_, ⟨_, _, _, _, hO39, hQ39, rfl⟩, hS.join3⟩
                        replace hS := hS.front 2 (C := L3) (L' := L74 :: [(b36, rowO [.int .i64 0, .int .i64 0, .int .i64 0] 41)] :: F) rfl rfl
                        refine wp_draw (fun w' => St w0 w' (L74 :: [(b36, rowO [.int .i64 0, .int .i64 0, .int .i64 0] 41)] :: F)) [] [(0, true), (1, true), (3, true), (2, false), (4, true)] mixed (by kernel_rfl) (by rintro c a w ⟨_, _, h, _⟩; cases h) (by rfl) (by kernel_rfl) ?_
                        replace hS := hS.drew
                        refine dr_run tbOk 2 hA (hS.tail 1 rfl) (e' := (61, .int .i64 ((n : Nat) : Int)) :: (60, .pointer (some ⟨b2, 0, none⟩)) :: _) rfl ?_; clear hA; intro a hA
                        refine dr_y hA rfl rfl rfl (by decide) (hS.tail 1 rfl) (fun w' hS' => rn_loadA tbOk hA [.int .i64 0, .int .i64 0, .int .i64 0] rfl rfl rfl rfl rfl (cells_row (hS'.heapAt 1 rfl) rfl)) ?_; clear hA; intro a hA
                        refine dr_b (o := _) rfl ?_
                        refine st_call0 hA rfl rfl rfl isfn9 rfl rfl (by decide) (get_in hS hM3 n hx) ?_
                        clear hA hS; rintro v w77 a ⟨L76, hM78, rfl, hS⟩ hA
                        refine dr_nil (.inr (hS.tail 1 rfl)) ?_
                        refine dr_y hA rfl rfl rfl (by decide) (hS.tail 1 rfl) (fun w' hS' => rn_neA tbOk hA rfl rfl rfl rfl rfl (by kernel_rfl) (by kernel_rfl) rfl) ?_; clear hA; intro a hA
                        replace hA := hA.rw 64 (v' := .bool false) rfl (by simp)
                        refine dr_end ?_
                        replace hA := hA.sel [3, 4, 7, 64] (e' := [(3, .pointer (some ⟨b2, 0, none⟩)), (4, .pointer (some ⟨b6, 0, none⟩)), (7, .int .i64 ((n : Nat) : Int)), (64, .bool false)]) rfl
                        refine xt_norm ?_
                        refine cd_cond_f hA rfl ?_
                        refine wp_skip ?_
                        refine xb_norm ?_
                        refine xt_norm ?_
                        refine wp_region_lit ?_
                        refine st_run tbOk 2 hA (e' := (40, .int .i64 (IntKind.i64.wrap (((n : Nat) : Int) + 1))) :: (39, .int .i64 ((n : Nat) : Int)) :: _) rfl ?_; clear hA; intro a hA
                        replace hA := hA.rw 40 (v' := .int .i64 ((n + 1 : Nat) : Int)) rfl (wr64 (by omega) (by omega) (by omega))
                        refine st_run tbOk 1 hA (e' := (7, .int .i64 ((n + 1 : Nat) : Int)) :: _) rfl ?_; clear hA; intro a hA
                        refine wpList_nil ?_
                        replace hA := hA.sel [3, 4, 7] (e' := [(3, .pointer (some ⟨b2, 0, none⟩)), (4, .pointer (some ⟨b6, 0, none⟩)), (7, .int .i64 ((n + 1 : Nat) : Int))]) rfl
                        replace hS := hS.front 2 (C := [(b36, rowO [.int .i64 0, .int .i64 0, .int .i64 0] 41)]) (L' := L76 :: L74 :: F) rfl rfl
                        replace hS := hS.drop1
                        replace hS := hS.front 1 (C := L74) (L' := L76 :: F) rfl rfl
                        replace hS := hS.front 1 (C := L76) (L' := L74 :: F) rfl rfl
                        replace hA := hA.rw 7 (v' := .int .i64 (((i + 1 : Nat) : Int) - 2)) rfl (vint (by omega))
                        exact lp_next _ (by omega) ⟨(i + 1), L76, L74, rfl, (hA.sel [3, 4, 7] rfl), hS, by omega, hM78, hM75⟩))
              · first
                | (exfalso; omega)
                | (replace hA := hA.rw 43 (v' := .bool false) rfl (vb_false hc64)
                   replace hA := hA.rw 44 (v' := .bool false) rfl (vb_false hc64)
                   refine st_run tbOk 8 hA (e' := (52, .bool false) :: (51, undef) :: (50, undef) :: (49, undef) :: (48, undef) :: (47, undef) :: (46, undef) :: (45, undef) :: _) rfl ?_; clear hA; intro a hA
                   refine wpList_nil ?_
                   replace hA := hA.sel [3, 4, 7, 8, 52] (e' := [(3, .pointer (some ⟨b2, 0, none⟩)), (4, .pointer (some ⟨b6, 0, none⟩)), (7, .int .i64 ((n : Nat) : Int)), (8, .pointer (some ⟨b36, 0, none⟩)), (52, .bool false)]) rfl
                   refine xt_norm ?_
                   refine cd_cond_f hA rfl ?_
                   refine wp_skip ?_
                   refine xt_norm ?_
                   refine wp_seq ?_
                   replace hS := hS.front 2 (C := D39) (L' := [(b6, rowO [.slice A39 ts.length c39, .slice B39 q.length d39] 32)] :: C39 :: [(b36, rowO [.int .i64 0, .int .i64 0, .int .i64 0] 41)] :: L3 :: F) rfl rfl
                   replace hS := hS.front 2 (C := C39) (L' := D39 :: [(b6, rowO [.slice A39 ts.length c39, .slice B39 q.length d39] 32)] :: [(b36, rowO [.int .i64 0, .int .i64 0, .int .i64 0] 41)] :: L3 :: F) rfl rfl
                   replace hS := hS.front 2 (C := [(b6, rowO [.slice A39 ts.length c39, .slice B39 q.length d39] 32)]) (L' := C39 :: D39 :: [(b36, rowO [.int .i64 0, .int .i64 0, .int .i64 0] 41)] :: L3 :: F) rfl rfl
                   obtain ⟨L79, hM80, hS⟩ : ∃ Z, TR 32 b6 (ts) (q) Z ∧ St w0 w38 (Z :: [(b36, rowO [.int .i64 0, .int .i64 0, .int .i64 0] 41)] :: L3 :: F) := ⟨_, ⟨_, _, _, _, hO39, hQ39, rfl⟩, hS.join3⟩
                   replace hS := hS.front 2 (C := L3) (L' := L79 :: [(b36, rowO [.int .i64 0, .int .i64 0, .int .i64 0] 41)] :: F) rfl rfl
                   refine wp_draw (fun w' => St w0 w' (L79 :: [(b36, rowO [.int .i64 0, .int .i64 0, .int .i64 0] 41)] :: F)) [] [(0, true), (1, true), (3, true), (2, false), (4, true)] mixed (by kernel_rfl) (by rintro c a w ⟨_, _, h, _⟩; cases h) (by rfl) (by kernel_rfl) ?_
                   replace hS := hS.drew
                   refine dr_run tbOk 2 hA (hS.tail 1 rfl) (e' := (61, .int .i64 ((n : Nat) : Int)) :: (60, .pointer (some ⟨b2, 0, none⟩)) :: _) rfl ?_; clear hA; intro a hA
                   refine dr_y hA rfl rfl rfl (by decide) (hS.tail 1 rfl) (fun w' hS' => rn_loadA tbOk hA [.int .i64 0, .int .i64 0, .int .i64 0] rfl rfl rfl rfl rfl (cells_row (hS'.heapAt 1 rfl) rfl)) ?_; clear hA; intro a hA
                   refine dr_b (o := _) rfl ?_
                   refine st_call0 hA rfl rfl rfl isfn9 rfl rfl (by decide) (get_in hS hM3 n hx) ?_
                   clear hA hS; rintro v w82 a ⟨L81, hM83, rfl, hS⟩ hA
                   refine dr_nil (.inr (hS.tail 1 rfl)) ?_
                   refine dr_y hA rfl rfl rfl (by decide) (hS.tail 1 rfl) (fun w' hS' => rn_neA tbOk hA rfl rfl rfl rfl rfl (by kernel_rfl) (by kernel_rfl) rfl) ?_; clear hA; intro a hA
                   replace hA := hA.rw 64 (v' := .bool false) rfl (by simp)
                   refine dr_end ?_
                   replace hA := hA.sel [3, 4, 7, 64] (e' := [(3, .pointer (some ⟨b2, 0, none⟩)), (4, .pointer (some ⟨b6, 0, none⟩)), (7, .int .i64 ((n : Nat) : Int)), (64, .bool false)]) rfl
                   refine xt_norm ?_
                   refine cd_cond_f hA rfl ?_
                   refine wp_skip ?_
                   refine xb_norm ?_
                   refine xt_norm ?_
                   refine wp_region_lit ?_
                   refine st_run tbOk 2 hA (e' := (40, .int .i64 (IntKind.i64.wrap (((n : Nat) : Int) + 1))) :: (39, .int .i64 ((n : Nat) : Int)) :: _) rfl ?_; clear hA; intro a hA
                   replace hA := hA.rw 40 (v' := .int .i64 ((n + 1 : Nat) : Int)) rfl (wr64 (by omega) (by omega) (by omega))
                   refine st_run tbOk 1 hA (e' := (7, .int .i64 ((n + 1 : Nat) : Int)) :: _) rfl ?_; clear hA; intro a hA
                   refine wpList_nil ?_
                   replace hA := hA.sel [3, 4, 7] (e' := [(3, .pointer (some ⟨b2, 0, none⟩)), (4, .pointer (some ⟨b6, 0, none⟩)), (7, .int .i64 ((n + 1 : Nat) : Int))]) rfl
                   replace hS := hS.front 2 (C := [(b36, rowO [.int .i64 0, .int .i64 0, .int .i64 0] 41)]) (L' := L81 :: L79 :: F) rfl rfl
                   replace hS := hS.drop1
                   replace hS := hS.front 1 (C := L79) (L' := L81 :: F) rfl rfl
                   replace hS := hS.front 1 (C := L81) (L' := L79 :: F) rfl rfl
                   replace hA := hA.rw 7 (v' := .int .i64 (((i + 1 : Nat) : Int) - 2)) rfl (vint (by omega))
                   exact lp_next _ (by omega) ⟨(i + 1), L81, L79, rfl, (hA.sel [3, 4, 7] rfl), hS, by omega, hM83, hM80⟩))
       · first
         | (exfalso; omega)
         | (replace hA := hA.rw 38 (v' := .bool false) rfl (vb_false hc35)
            refine cd_cond_f hA rfl ?_
            refine wp_exit ?_
            refine xt_exit ?_
            refine xt_exit ?_
            refine cd_exit_eq ?_
            refine xt_norm ?_
            refine wp_seq ?_
            refine wp_region_lit ?_
            refine st_run tbOk 1 hA (e' := (2, .bool true) :: _) rfl ?_; clear hA; intro a hA
            refine wpList_nil ?_
            replace hA := hA.sel [2] (e' := [(2, .bool true)]) rfl
            refine xt_norm ?_
            refine wp_ret ?_
            refine ret1 (fn := Tryd.f3) hA rfl rfl ?_
            replace hS := hS.drop1
            replace hS := hS.drop1
            exact ⟨rfl, hS⟩))

end Go.Proofs.YtglebdfenojglaaDoor
