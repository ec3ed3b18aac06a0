import Derived.Test.YtglebdfenojglaaDoorH
set_option linter.unusedVariables false
set_option linter.unusedSimpArgs false
set_option maxRecDepth 4000
namespace Go.Proofs.YtglebdfenojglaaDoor
open Go Go.SK
theorem step6 {w0 w : World} {F : List Chunk} {L Lm : Chunk} {b bm : Nat} {ts : List (Int × Int × Int)} {q : List Int} (hS : St w0 w (L :: Lm :: F)) (hg : HG w0) (hM : TR 29 b ts q L) (hN : TR 32 bm ts q Lm) (hI : Inv ts q) (o : Nat) (ho : o < 256) (id wi : Int) (hid1 : -128 ≤ id) (hid2 : id < 128) :
    Ret Tryd.prog 6 #[.pointer (some ⟨bm, 0, none⟩), .pointer (some ⟨b, 0, none⟩), .agg #[.int .u8 ((o : Nat) : Int), .int .i8 id, .int .i64 wi]] w (fun v w' => ∃ ts' q' L' Lm', TR 29 b ts' q' L' ∧ TR 32 bm ts' q' Lm' ∧ Inv ts' q' ∧ Dead ts q o ts' q' ∧ v = .bool true ∧ St w0 w' (L' :: Lm' :: F)) := by
  refine enter (vs := [.pointer (some ⟨bm, 0, none⟩), .pointer (some ⟨b, 0, none⟩), .agg #[.int .u8 ((o : Nat) : Int), .int .i8 id, .int .i64 wi]]) 246 Tryd.func6 rfl rfl (by simp) ?_; intro a hA
  have hql : q.length ≤ 64 := by have := hI.ti.len; have := hI.ti.2.2; omega
  have hT := hI.ti
  have htl := hI.ti.2.2
  refine wp_seq ?_
  refine wp_region_lit ?_
  refine st_box hA hS [.int .u8 ((o : Nat) : Int), .int .i8 id, .int .i64 wi] rfl rfl rfl rfl rfl (by decide) ?_; clear hA hS; intro b1 w2 a hS hA
  refine st_run tbOk 1 hA (e' := (6, .bool false) :: _) rfl ?_; clear hA; intro a hA
  refine wpList_nil ?_
  replace hA := hA.sel [0, 1, 5] (e' := [(0, .pointer (some ⟨bm, 0, none⟩)), (1, .pointer (some ⟨b, 0, none⟩)), (5, .pointer (some ⟨b1, 0, none⟩))]) rfl
  refine xt_norm ?_
  refine wp_seq ?_
  refine wp_region_lit ?_
  refine st_run tbOk 1 hA (e' := (21, .pointer (some ⟨b1, 1, none⟩)) :: _) rfl ?_; clear hA; intro a hA
  refine st_val hA rfl rfl (by decide) (rn_load tbOk hA rfl rfl rfl rfl (cell_row (hS.heapAt 0 rfl) rfl)) ?_; clear hA; intro a hA
  refine st_run tbOk 1 hA (e' := (23, .int .i64 (IntKind.i64.wrap id)) :: _) rfl ?_; clear hA; intro a hA
  replace hA := hA.rw 23 (v' := .int .i64 id) rfl (wr64 (by rfl) (by omega) (by omega))
  refine st_run tbOk 1 hA (e' := (7, .int .i64 id) :: _) rfl ?_; clear hA; intro a hA
  refine wpList_nil ?_
  replace hA := hA.sel [0, 1, 5, 7] (e' := [(0, .pointer (some ⟨bm, 0, none⟩)), (1, .pointer (some ⟨b, 0, none⟩)), (5, .pointer (some ⟨b1, 0, none⟩)), (7, .int .i64 id)]) rfl
  refine xt_norm ?_
  refine wp_seq ?_
  refine wp_region_lit ?_
  refine st_run tbOk 2 hA (e' := (25, .int .i64 id) :: (24, .pointer (some ⟨bm, 0, none⟩)) :: _) rfl ?_; clear hA; intro a hA
  replace hS := hS.front 2 (C := Lm) (L' := [(b1, rowO [.int .u8 ((o : Nat) : Int), .int .i8 id, .int .i64 wi] 35)] :: L :: F) rfl rfl
  refine st_call0 hA rfl rfl rfl isfn14 rfl rfl (by decide) (mstate hS hN id) ?_
  clear hA hS; rintro v w4 a ⟨L3, hM5, rfl, hS⟩ hA
  refine st_run tbOk 1 hA (e' := (8, .int .i64 (stf ts id)) :: _) rfl ?_; clear hA; intro a hA
  refine wpList_nil ?_
  replace hA := hA.sel [0, 1, 5, 7, 8] (e' := [(0, .pointer (some ⟨bm, 0, none⟩)), (1, .pointer (some ⟨b, 0, none⟩)), (5, .pointer (some ⟨b1, 0, none⟩)), (7, .int .i64 id), (8, .int .i64 (stf ts id))]) rfl
  refine xt_norm ?_
  refine wp_seq ?_
  refine wp_seq ?_
  refine wp_region_lit ?_
  refine st_run tbOk 1 hA (e' := (27, .pointer (some ⟨b1, 0, none⟩)) :: _) rfl ?_; clear hA; intro a hA
  refine st_val hA rfl rfl (by decide) (rn_load tbOk hA rfl rfl rfl rfl (cell_row (hS.heapAt 1 rfl) rfl)) ?_; clear hA; intro a hA
  refine st_run tbOk 1 hA (e' := (29, .int .u8 (((o : Nat) : Int).tmod 6)) :: _) rfl ?_; clear hA; intro a hA
  replace hA := hA.rw 29 (v' := .int .u8 ((o % 6 : Nat) : Int)) rfl (vint (Int.ofNat_tmod _ _).symm)
  refine wpList_nil ?_
  replace hA := hA.sel [0, 1, 5, 7, 8, 29] (e' := [(0, .pointer (some ⟨bm, 0, none⟩)), (1, .pointer (some ⟨b, 0, none⟩)), (5, .pointer (some ⟨b1, 0, none⟩)), (7, .int .i64 id), (8, .int .i64 (stf ts id)), (29, .int .u8 ((o % 6 : Nat) : Int))]) rfl
  refine xt_norm ?_
  refine wp_block ?_
  refine wp_seq ?_
  refine wp_region_lit ?_
  refine st_run tbOk 2 hA (e' := (30, .bool (((o % 6 : Nat) : Int) == 0)) :: (31, .bool (((o % 6 : Nat) : Int) == 0)) :: _) rfl ?_; clear hA; intro a hA
  refine wpList_nil ?_
  replace hA := hA.sel [0, 1, 5, 7, 8, 29, 30] (e' := [(0, .pointer (some ⟨bm, 0, none⟩)), (1, .pointer (some ⟨b, 0, none⟩)), (5, .pointer (some ⟨b1, 0, none⟩)), (7, .int .i64 id), (8, .int .i64 (stf ts id)), (29, .int .u8 ((o % 6 : Nat) : Int)), (30, .bool (((o % 6 : Nat) : Int) == 0))]) rfl
  refine xt_norm ?_
  by_cases hc6 : ((o % 6 : Nat) : Int) = 0
  · first
    | (exfalso; omega)
    | (replace hA := hA.rw 30 (v' := .bool true) rfl (vb_eq_t hc6)
       refine cd_cond_t hA rfl ?_
       refine wp_seq ?_
       refine wp_region_lit ?_
       refine st_run tbOk 2 hA (e' := (34, .int .i64 id) :: (33, .pointer (some ⟨b, 0, none⟩)) :: _) rfl ?_; clear hA; intro a hA
       have hop : o % 6 = 0 := by omega
       have hcs : id < 0 ∨ (0 ≤ id ∧ ts.length = 64) ∨ (0 ≤ id ∧ ts.length < 64) := by omega
       rcases hcs with h1 | ⟨h1, h2⟩ | ⟨h1, h2⟩
       · replace hS := hS.front 2 (C := L) (L' := L3 :: [(b1, rowO [.int .u8 ((o : Nat) : Int), .int .i8 id, .int .i64 wi] 35)] :: F) rfl rfl
         refine st_call0 hA rfl rfl rfl isfn10 rfl rfl (by decide) (start_arg10 hS hM id h1) ?_
         clear hA hS; rintro v w8 a ⟨L7, hM9, rfl, hS⟩ hA
         refine st_run tbOk 5 hA (e' := (10, .iface 53 (.int .i64 4)) :: (9, .int .i64 0) :: (37, .iface 53 (.int .i64 4)) :: (36, .int .i64 0) :: (32, .tuple #[.int .i64 0, .iface 53 (.int .i64 4)]) :: _) rfl ?_; clear hA; intro a hA
         refine wpList_nil ?_
         replace hA := hA.sel [0, 7, 9, 10] (e' := [(0, .pointer (some ⟨bm, 0, none⟩)), (7, .int .i64 id), (9, .int .i64 0), (10, .iface 53 (.int .i64 4))]) rfl
         refine xt_norm ?_
         refine wp_seq ?_
         refine wp_seq ?_
         refine wp_region_lit ?_
         refine st_run tbOk 2 hA (e' := (39, .bool (decide (id < 0))) :: (38, .int .i64 id) :: _) rfl ?_; clear hA; intro a hA
         refine wpList_nil ?_
         replace hA := hA.sel [0, 7, 9, 10, 39] (e' := [(0, .pointer (some ⟨bm, 0, none⟩)), (7, .int .i64 id), (9, .int .i64 0), (10, .iface 53 (.int .i64 4)), (39, .bool (decide (id < 0)))]) rfl
         refine xt_norm ?_
         by_cases hc10 : id < 0
         · first
           | (exfalso; omega)
           | (replace hA := hA.rw 39 (v' := .bool true) rfl (vb_true hc10)
              refine cd_cond_t hA rfl ?_
              refine wp_seq ?_
              refine wp_region_lit ?_
              refine st_run tbOk 4 hA (e' := (43, .iface 53 (.int .i64 4)) :: (42, .bool true) :: (41, .bool true) :: (40, .int .i64 0) :: _) rfl ?_; clear hA; intro a hA
              refine st_call0 hA rfl rfl rfl isfn15 rfl rfl (by decide) (number_hit15 hS hg 4) ?_
              clear hA hS; rintro v w11 a ⟨rfl, hS⟩ hA
              refine st_run tbOk 3 hA (e' := (6, .bool true) :: (46, .bool true) :: (45, .bool true) :: _) rfl ?_; clear hA; intro a hA
              refine wpList_nil ?_
              replace hA := hA.sel [6] (e' := [(6, .bool true)]) rfl
              refine xt_norm ?_
              refine wp_ret (xt_ret (xb_ret (xt_ret ?_)))
              refine ret1 (fn := Tryd.f6) hA rfl rfl ?_
              replace hS := hS.front 1 (C := L3) (L' := L7 :: [(b1, rowO [.int .u8 ((o : Nat) : Int), .int .i8 id, .int .i64 wi] 35)] :: F) rfl rfl
              replace hS := hS.front 1 (C := L7) (L' := L3 :: [(b1, rowO [.int .u8 ((o : Nat) : Int), .int .i8 id, .int .i64 wi] 35)] :: F) rfl rfl
              replace hS := hS.front 2 (C := [(b1, rowO [.int .u8 ((o : Nat) : Int), .int .i8 id, .int .i64 wi] 35)]) (L' := L7 :: L3 :: F) rfl rfl
              replace hS := hS.drop1
              exact ⟨ts, q, _, _, hM9, hM5, hI, (Dead.same _ _ _), rfl, hS⟩)
         · first
           | (exfalso; omega)
           | (replace hA := hA.rw 39 (v' := .bool false) rfl (vb_false hc10)
              refine cd_cond_f hA rfl ?_
              refine wp_skip ?_
              refine xt_norm ?_
              refine wp_seq ?_
              refine wp_seq ?_
              refine wp_region_lit ?_
              replace hS := hS.front 1 (C := L3) (L' := L7 :: [(b1, rowO [.int .u8 ((o : Nat) : Int), .int .i8 id, .int .i64 wi] 35)] :: F) rfl rfl
              obtain ⟨v12, C12, u12, D12, hO12, hQ12, rfl⟩ := hM5
              obtain ⟨A12, c12, rfl, hmc12, hxc12⟩ := hO12.open'
              obtain ⟨B12, d12, rfl, hmd12, hxd12⟩ := hQ12.open'
              replace hS := hS.split3
              refine st_run tbOk 3 hA (e' := (49, .pointer (some ⟨bm, 0, none⟩)) :: (48, .pointer (some ⟨bm, 0, none⟩)) :: (47, .pointer (some ⟨bm, 0, none⟩)) :: _) rfl ?_; clear hA; intro a hA
              refine st_val hA rfl rfl (by decide) (rn_load tbOk hA rfl rfl rfl rfl (cell_row (hS.heapAt 0 rfl) rfl)) ?_; clear hA; intro a hA
              refine st_run tbOk 2 hA (e' := (52, .bool (((ts.length : Nat) : Int) == 64)) :: (51, .int .i64 ((ts.length : Nat) : Int)) :: _) rfl ?_; clear hA; intro a hA
              refine wpList_nil ?_
              replace hA := hA.sel [0, 7, 9, 10, 52] (e' := [(0, .pointer (some ⟨bm, 0, none⟩)), (7, .int .i64 id), (9, .int .i64 0), (10, .iface 53 (.int .i64 4)), (52, .bool (((ts.length : Nat) : Int) == 64))]) rfl
              refine xt_norm ?_
              by_cases hc13 : ((ts.length : Nat) : Int) = 64
              · first
                | (exfalso; omega)
                | (replace hA := hA.rw 52 (v' := .bool true) rfl (vb_eq_t hc13)
                   refine cd_cond_t hA rfl ?_
                   refine wp_seq ?_
                   refine wp_region_lit ?_
                   refine st_run tbOk 4 hA (e' := (56, .iface 53 (.int .i64 4)) :: (55, .bool true) :: (54, .bool true) :: (53, .int .i64 0) :: _) rfl ?_; clear hA; intro a hA
                   refine st_call0 hA rfl rfl rfl isfn15 rfl rfl (by decide) (number_hit15 hS hg 4) ?_
                   clear hA hS; rintro v w14 a ⟨rfl, hS⟩ hA
                   refine st_run tbOk 3 hA (e' := (6, .bool false) :: (59, .bool false) :: (58, .bool false) :: _) rfl ?_; clear hA; intro a hA
                   refine wpList_nil ?_
                   replace hA := hA.sel [6] (e' := [(6, .bool false)]) rfl
                   refine xt_norm ?_
                   refine wp_ret (xt_ret (xb_ret (xt_ret ?_)))
                   refine ret1 (fn := Tryd.f6) hA rfl rfl ?_
                   exfalso; omega)
              · first
                | (exfalso; omega)
                | (replace hA := hA.rw 52 (v' := .bool false) rfl (vb_eq_f hc13)
                   refine cd_cond_f hA rfl ?_
                   refine wp_skip ?_
                   refine xt_norm ?_
                   refine wp_seq ?_
                   refine wp_region_lit ?_
                   refine st_run tbOk 4 hA (e' := (63, .pointer (some ⟨bm, 0, none⟩)) :: (62, .pointer (some ⟨bm, 0, none⟩)) :: (61, .pointer (some ⟨bm, 0, none⟩)) :: (60, .pointer (some ⟨bm, 0, none⟩)) :: _) rfl ?_; clear hA; intro a hA
                   refine st_val hA rfl rfl (by decide) (rn_load tbOk hA rfl rfl rfl rfl (cell_row (hS.heapAt 0 rfl) rfl)) ?_; clear hA; intro a hA
                   refine st_run tbOk 2 hA (e' := (66, .agg #[.int .i64 id, .int .i64 1, .int .i64 0]) :: (65, .int .i64 id) :: _) rfl ?_; clear hA; intro a hA
                   refine st_buildSlice tbOk hA hS [.int .i64 id, .int .i64 1, .int .i64 0] rfl rfl rfl rfl rfl (by decide) (by kernel_rfl) rfl rfl (by decide) ?_; clear hA hS; intro b15 w16 a hS hA
                   replace hS := hS.front 2 (C := C12) (L' := [(b15, rowO [.int .i64 id, .int .i64 1, .int .i64 0] 41)] :: [(bm, rowO [.slice A12 ts.length c12, .slice B12 q.length d12] 32)] :: D12 :: L7 :: [(b1, rowO [.int .u8 ((o : Nat) : Int), .int .i8 id, .int .i64 wi] 35)] :: F) rfl rfl
                   refine st_append tbOk hA (m := ts.length) (q := 1) (xs := rows encThread ts) (news := rows encThread ([(id, 1, 0)] : List (Int × Int × Int))) rfl rfl rfl rfl rfl rfl rfl rfl (by decide) hO12 hS ((Own.full (T := 41) (size := 3) (g := b15) (m := 1) rfl (by decide)).rd (hS.own_ 1 rfl)) (rows_one encThread_ok _) (maxLen_le (by omega)) (by show (ts.length + 1) * 24 ≤ 140737488355328; omega) rfl rfl (by decide) ?_
                   clear hA hS; intro v17 w18 C19 a hO19 hS hA
                   replace hO19 := Own.app (l := ts) (l2 := ([(id, 1, 0)] : List (Int × Int × Int))) hO19
                   obtain ⟨A20, c21, rfl, hmc21, hxc21⟩ := hO19.open'
                   refine st_run tbOk 2 hA (e' := (70, .pointer (some ⟨bm, 0, none⟩)) :: (69, .pointer (some ⟨bm, 0, none⟩)) :: _) rfl ?_; clear hA; intro a hA
                   replace hS := hS.front 2 (C := [(bm, rowO [.slice A12 ts.length c12, .slice B12 q.length d12] 32)]) (L' := C19 :: [(b15, rowO [.int .i64 id, .int .i64 1, .int .i64 0] 41)] :: D12 :: L7 :: [(b1, rowO [.int .u8 ((o : Nat) : Int), .int .i8 id, .int .i64 wi] 35)] :: F) rfl rfl
                   refine st_store tbOk hA hS [.slice A20 ((ts ++ ([(id, 1, 0)] : List (Int × Int × Int))).length) c21] [.slice A20 ((ts ++ ([(id, 1, 0)] : List (Int × Int × Int))).length) c21, .slice B12 q.length d12] rfl rfl rfl rfl rfl rfl (by intro u hu; rw [List.mem_singleton.1 hu]; rfl) (Nat.le_of_ble_eq_true rfl) rfl rfl rfl ?_; clear hS; intro w22 hS
                   refine wpList_nil ?_
                   replace hA := hA.sel [0, 9, 10] (e' := [(0, .pointer (some ⟨bm, 0, none⟩)), (9, .int .i64 0), (10, .iface 53 (.int .i64 4))]) rfl
                   refine xt_norm ?_
                   refine wp_seq ?_
                   replace hS := hS.front 3 (C := D12) (L' := [(bm, rowO [.slice A20 ((ts ++ ([(id, 1, 0)] : List (Int × Int × Int))).length) c21, .slice B12 q.length d12] 32)] :: C19 :: [(b15, rowO [.int .i64 id, .int .i64 1, .int .i64 0] 41)] :: L7 :: [(b1, rowO [.int .u8 ((o : Nat) : Int), .int .i8 id, .int .i64 wi] 35)] :: F) rfl rfl
                   refine wp_draw (fun w' => St w0 w' ([(bm, rowO [.slice A20 ((ts ++ ([(id, 1, 0)] : List (Int × Int × Int))).length) c21, .slice B12 q.length d12] 32)] :: C19 :: [(b15, rowO [.int .i64 id, .int .i64 1, .int .i64 0] 41)] :: L7 :: [(b1, rowO [.int .u8 ((o : Nat) : Int), .int .i8 id, .int .i64 wi] 35)] :: F)) [15] [(0, true), (1, true), (2, true), (3, true), (4, true), (5, true), (6, true), (7, true), (8, true), (9, true), (10, true), (11, false), (12, false), (13, true), (14, true), (15, false)] mixed (by kernel_rfl) (by rintro c a w ⟨_, _, h, _⟩; cases h) (by rfl) (by kernel_rfl) ?_
                   replace hS := hS.drew
                   refine dr_run tbOk 4 hA (hS.tail 1 rfl) (e' := (74, .pointer (some ⟨bm, 1, none⟩)) :: (73, .pointer (some ⟨bm, 0, none⟩)) :: (72, .pointer (some ⟨bm, 0, none⟩)) :: (71, .pointer (some ⟨bm, 0, none⟩)) :: _) rfl ?_; clear hA; intro a hA
                   refine dr_y hA rfl rfl rfl (by decide) (hS.tail 1 rfl) (fun w' hS' => rn_load tbOk hA rfl rfl rfl rfl (cell_row (hS'.heapAt 0 rfl) rfl)) ?_; clear hA; intro a hA
                   refine dr_run tbOk 3 hA (hS.tail 1 rfl) (e' := (78, .pointer (some ⟨bm, 0, none⟩)) :: (77, .pointer (some ⟨bm, 0, none⟩)) :: (76, .pointer (some ⟨bm, 0, none⟩)) :: _) rfl ?_; clear hA; intro a hA
                   refine dr_y hA rfl rfl rfl (by decide) (hS.tail 1 rfl) (fun w' hS' => rn_load tbOk hA rfl rfl rfl rfl (cell_row (hS'.heapAt 0 rfl) rfl)) ?_; clear hA; intro a hA
                   refine dr_run tbOk 2 hA (hS.tail 1 rfl) (e' := (81, .int .i64 (IntKind.i64.wrap ((((ts ++ ([(id, 1, 0)] : List (Int × Int × Int))).length : Nat) : Int) - 1))) :: (80, .int .i64 (((ts ++ ([(id, 1, 0)] : List (Int × Int × Int))).length : Nat) : Int)) :: _) rfl ?_; clear hA; intro a hA
                   replace hA := hA.rw 81 (v' := .int .i64 ((((ts ++ ([(id, 1, 0)] : List (Int × Int × Int))).length : Nat) : Int) - 1)) rfl (wr64 (by omega) (by omega) (by omega))
                   replace hA := hA.rw 81 (v' := .int .i64 ((ts.length : Nat) : Int)) rfl (vint (by simp))
                   refine dr_b (o := _) rfl ?_
                   refine st_buildSlice tbOk hA hS [.int .i64 ((ts.length : Nat) : Int)] rfl rfl rfl rfl rfl (by decide) (by kernel_rfl) rfl rfl (by decide) ?_; clear hA hS; intro b23 w24 a hS hA
                   refine dr_nil (.inr (hS.tail 2 rfl)) ?_
                   refine dr_b (o := _) rfl ?_
                   replace hS := hS.front 1 (C := D12) (L' := [(b23, rowO [.int .i64 ((ts.length : Nat) : Int)] 3)] :: [(bm, rowO [.slice A20 ((ts ++ ([(id, 1, 0)] : List (Int × Int × Int))).length) c21, .slice B12 q.length d12] 32)] :: C19 :: [(b15, rowO [.int .i64 id, .int .i64 1, .int .i64 0] 41)] :: L7 :: [(b1, rowO [.int .u8 ((o : Nat) : Int), .int .i8 id, .int .i64 wi] 35)] :: F) rfl rfl
                   refine st_append tbOk hA (m := q.length) (q := 1) (xs := rows encI q) (news := rows encI ([((ts.length : Nat) : Int)] : List Int)) rfl rfl rfl rfl rfl rfl rfl rfl (by decide) hQ12 hS ((Own.full (T := 3) (size := 1) (g := b23) (m := 1) rfl (by decide)).rd (hS.own_ 1 rfl)) (rows_one encI_ok _) (maxLen_le (by omega)) (by show (q.length + 1) * 8 ≤ 140737488355328; omega) rfl rfl (by decide) ?_
                   clear hA hS; intro v25 w26 C27 a hO27 hS hA
                   replace hO27 := Own.app (l := q) (l2 := ([((ts.length : Nat) : Int)] : List Int)) hO27
                   obtain ⟨A28, c29, rfl, hmc29, hxc29⟩ := hO27.open'
                   refine dr_nil (.inr (hS.tail 2 rfl)) ?_
                   refine dr_run tbOk 2 hA (hS.tail 2 rfl) (e' := (85, .pointer (some ⟨bm, 1, none⟩)) :: (84, .pointer (some ⟨bm, 0, none⟩)) :: _) rfl ?_; clear hA; intro a hA
                   refine dr_b (o := _) rfl ?_
                   replace hS := hS.front 2 (C := [(bm, rowO [.slice A20 ((ts ++ ([(id, 1, 0)] : List (Int × Int × Int))).length) c21, .slice B12 q.length d12] 32)]) (L' := C27 :: [(b23, rowO [.int .i64 ((ts.length : Nat) : Int)] 3)] :: C19 :: [(b15, rowO [.int .i64 id, .int .i64 1, .int .i64 0] 41)] :: L7 :: [(b1, rowO [.int .u8 ((o : Nat) : Int), .int .i8 id, .int .i64 wi] 35)] :: F) rfl rfl
                   refine st_store tbOk hA hS [.slice A28 ((q ++ ([((ts.length : Nat) : Int)] : List Int)).length) c29] [.slice A20 ((ts ++ ([(id, 1, 0)] : List (Int × Int × Int))).length) c21, .slice A28 ((q ++ ([((ts.length : Nat) : Int)] : List Int)).length) c29] rfl rfl rfl rfl rfl rfl (by intro u hu; rw [List.mem_singleton.1 hu]; rfl) (Nat.le_of_ble_eq_true rfl) rfl rfl rfl ?_; clear hS; intro w30 hS
                   refine dr_nil (.inl (by decide)) ?_
                   refine dr_end ?_
                   replace hA := hA.sel [0, 9, 10] (e' := [(0, .pointer (some ⟨bm, 0, none⟩)), (9, .int .i64 0), (10, .iface 53 (.int .i64 4))]) rfl
                   refine xt_norm ?_
                   refine wp_seq ?_
                   refine wp_region_lit ?_
                   refine st_run tbOk 4 hA (e' := (89, .pointer (some ⟨bm, 0, none⟩)) :: (88, .pointer (some ⟨bm, 0, none⟩)) :: (87, .pointer (some ⟨bm, 0, none⟩)) :: (86, .int .i64 0) :: _) rfl ?_; clear hA; intro a hA
                   refine st_val hA rfl rfl (by decide) (rn_load tbOk hA rfl rfl rfl rfl (cell_row (hS.heapAt 0 rfl) rfl)) ?_; clear hA; intro a hA
                   refine st_run tbOk 2 hA (e' := (92, .int .i64 (IntKind.i64.wrap ((((ts ++ ([(id, 1, 0)] : List (Int × Int × Int))).length : Nat) : Int) - 1))) :: (91, .int .i64 (((ts ++ ([(id, 1, 0)] : List (Int × Int × Int))).length : Nat) : Int)) :: _) rfl ?_; clear hA; intro a hA
                   replace hA := hA.rw 92 (v' := .int .i64 ((((ts ++ ([(id, 1, 0)] : List (Int × Int × Int))).length : Nat) : Int) - 1)) rfl (wr64 (by omega) (by omega) (by omega))
                   replace hA := hA.rw 92 (v' := .int .i64 ((ts.length : Nat) : Int)) rfl (vint (by simp))
                   refine st_run tbOk 2 hA (e' := (94, .bool (0 == ((ts.length : Nat) : Int))) :: (93, .bool (0 == ((ts.length : Nat) : Int))) :: _) rfl ?_; clear hA; intro a hA
                   by_cases hc31 : 0 = ((ts.length : Nat) : Int)
                   · first
                     | (exfalso; omega)
                     | (replace hA := hA.rw 93 (v' := .bool true) rfl (vb_eq_t hc31)
                        replace hA := hA.rw 94 (v' := .bool true) rfl (vb_eq_t hc31)
                        refine st_run tbOk 4 hA (e' := (6, .bool false) :: (97, .bool false) :: (96, .bool false) :: (95, .iface 53 (.int .i64 4)) :: _) rfl ?_; clear hA; intro a hA
                        refine wpList_nil ?_
                        replace hA := hA.sel [6] (e' := [(6, .bool false)]) rfl
                        refine xt_norm ?_
                        refine wp_ret (xb_ret (xt_ret ?_))
                        refine ret1 (fn := Tryd.f6) hA rfl rfl ?_
                        exfalso; omega)
                   · first
                     | (exfalso; omega)
                     | (replace hA := hA.rw 93 (v' := .bool false) rfl (vb_eq_f hc31)
                        replace hA := hA.rw 94 (v' := .bool false) rfl (vb_eq_f hc31)
                        refine st_run tbOk 4 hA (e' := (6, .bool false) :: (97, .bool false) :: (96, undef) :: (95, undef) :: _) rfl ?_; clear hA; intro a hA
                        refine wpList_nil ?_
                        replace hA := hA.sel [6] (e' := [(6, .bool false)]) rfl
                        refine xt_norm ?_
                        refine wp_ret (xb_ret (xt_ret ?_))
                        refine ret1 (fn := Tryd.f6) hA rfl rfl ?_
                        exfalso; omega)))
       · replace hS := hS.front 2 (C := L) (L' := L3 :: [(b1, rowO [.int .u8 ((o : Nat) : Int), .int .i8 id, .int .i64 wi] 35)] :: F) rfl rfl
         refine st_call0 hA rfl rfl rfl isfn10 rfl rfl (by decide) (start_full10 hS hM id h1 (by omega)) ?_
         clear hA hS; rintro v w33 a ⟨L32, hM34, rfl, hS⟩ hA
         refine st_run tbOk 5 hA (e' := (10, .iface 53 (.int .i64 5)) :: (9, .int .i64 0) :: (37, .iface 53 (.int .i64 5)) :: (36, .int .i64 0) :: (32, .tuple #[.int .i64 0, .iface 53 (.int .i64 5)]) :: _) rfl ?_; clear hA; intro a hA
         refine wpList_nil ?_
         replace hA := hA.sel [0, 7, 9, 10] (e' := [(0, .pointer (some ⟨bm, 0, none⟩)), (7, .int .i64 id), (9, .int .i64 0), (10, .iface 53 (.int .i64 5))]) rfl
         refine xt_norm ?_
         refine wp_seq ?_
         refine wp_seq ?_
         refine wp_region_lit ?_
         refine st_run tbOk 2 hA (e' := (39, .bool (decide (id < 0))) :: (38, .int .i64 id) :: _) rfl ?_; clear hA; intro a hA
         refine wpList_nil ?_
         replace hA := hA.sel [0, 7, 9, 10, 39] (e' := [(0, .pointer (some ⟨bm, 0, none⟩)), (7, .int .i64 id), (9, .int .i64 0), (10, .iface 53 (.int .i64 5)), (39, .bool (decide (id < 0)))]) rfl
         refine xt_norm ?_
         by_cases hc35 : id < 0
         · first
           | (exfalso; omega)
           | (replace hA := hA.rw 39 (v' := .bool true) rfl (vb_true hc35)
              refine cd_cond_t hA rfl ?_
              refine wp_seq ?_
              refine wp_region_lit ?_
              refine st_run tbOk 4 hA (e' := (43, .iface 53 (.int .i64 5)) :: (42, .bool true) :: (41, .bool true) :: (40, .int .i64 0) :: _) rfl ?_; clear hA; intro a hA
              refine st_call0 hA rfl rfl rfl isfn15 rfl rfl (by decide) (number_hit15 hS hg 5) ?_
              clear hA hS; rintro v w36 a ⟨rfl, hS⟩ hA
              refine st_run tbOk 3 hA (e' := (6, .bool false) :: (46, .bool false) :: (45, .bool false) :: _) rfl ?_; clear hA; intro a hA
              refine wpList_nil ?_
              replace hA := hA.sel [6] (e' := [(6, .bool false)]) rfl
              refine xt_norm ?_
              refine wp_ret (xt_ret (xb_ret (xt_ret ?_)))
              refine ret1 (fn := Tryd.f6) hA rfl rfl ?_
              exfalso; omega)
         · first
           | (exfalso; omega)
           | (replace hA := hA.rw 39 (v' := .bool false) rfl (vb_false hc35)
              refine cd_cond_f hA rfl ?_
              refine wp_skip ?_
              refine xt_norm ?_
              refine wp_seq ?_
              refine wp_seq ?_
              refine wp_region_lit ?_
              replace hS := hS.front 1 (C := L3) (L' := L32 :: [(b1, rowO [.int .u8 ((o : Nat) : Int), .int .i8 id, .int .i64 wi] 35)] :: F) rfl rfl
              obtain ⟨v37, C37, u37, D37, hO37, hQ37, rfl⟩ := hM5
              obtain ⟨A37, c37, rfl, hmc37, hxc37⟩ := hO37.open'
              obtain ⟨B37, d37, rfl, hmd37, hxd37⟩ := hQ37.open'
              replace hS := hS.split3
              refine st_run tbOk 3 hA (e' := (49, .pointer (some ⟨bm, 0, none⟩)) :: (48, .pointer (some ⟨bm, 0, none⟩)) :: (47, .pointer (some ⟨bm, 0, none⟩)) :: _) rfl ?_; clear hA; intro a hA
              refine st_val hA rfl rfl (by decide) (rn_load tbOk hA rfl rfl rfl rfl (cell_row (hS.heapAt 0 rfl) rfl)) ?_; clear hA; intro a hA
              refine st_run tbOk 2 hA (e' := (52, .bool (((ts.length : Nat) : Int) == 64)) :: (51, .int .i64 ((ts.length : Nat) : Int)) :: _) rfl ?_; clear hA; intro a hA
              refine wpList_nil ?_
              replace hA := hA.sel [0, 7, 9, 10, 52] (e' := [(0, .pointer (some ⟨bm, 0, none⟩)), (7, .int .i64 id), (9, .int .i64 0), (10, .iface 53 (.int .i64 5)), (52, .bool (((ts.length : Nat) : Int) == 64))]) rfl
              refine xt_norm ?_
              by_cases hc38 : ((ts.length : Nat) : Int) = 64
              · first
                | (exfalso; omega)
                | (replace hA := hA.rw 52 (v' := .bool true) rfl (vb_eq_t hc38)
                   refine cd_cond_t hA rfl ?_
                   refine wp_seq ?_
                   refine wp_region_lit ?_
                   refine st_run tbOk 4 hA (e' := (56, .iface 53 (.int .i64 5)) :: (55, .bool true) :: (54, .bool true) :: (53, .int .i64 0) :: _) rfl ?_; clear hA; intro a hA
                   refine st_call0 hA rfl rfl rfl isfn15 rfl rfl (by decide) (number_hit15 hS hg 5) ?_
                   clear hA hS; rintro v w39 a ⟨rfl, hS⟩ hA
                   refine st_run tbOk 3 hA (e' := (6, .bool true) :: (59, .bool true) :: (58, .bool true) :: _) rfl ?_; clear hA; intro a hA
                   refine wpList_nil ?_
                   replace hA := hA.sel [6] (e' := [(6, .bool true)]) rfl
                   refine xt_norm ?_
                   refine wp_ret (xt_ret (xb_ret (xt_ret ?_)))
                   refine ret1 (fn := Tryd.f6) hA rfl rfl ?_
                   replace hS := hS.front 2 (C := D37) (L' := [(bm, rowO [.slice A37 ts.length c37, .slice B37 q.length d37] 32)] :: C37 :: L32 :: [(b1, rowO [.int .u8 ((o : Nat) : Int), .int .i8 id, .int .i64 wi] 35)] :: F) rfl rfl
                   replace hS := hS.front 2 (C := C37) (L' := D37 :: [(bm, rowO [.slice A37 ts.length c37, .slice B37 q.length d37] 32)] :: L32 :: [(b1, rowO [.int .u8 ((o : Nat) : Int), .int .i8 id, .int .i64 wi] 35)] :: F) rfl rfl
                   replace hS := hS.front 2 (C := [(bm, rowO [.slice A37 ts.length c37, .slice B37 q.length d37] 32)]) (L' := C37 :: D37 :: L32 :: [(b1, rowO [.int .u8 ((o : Nat) : Int), .int .i8 id, .int .i64 wi] 35)] :: F) rfl rfl
                   obtain ⟨L40, hM41, hS⟩ : ∃ Z, TR 32 bm (ts) (q) Z ∧ St w0 w39 (Z :: L32 :: [(b1, rowO [.int .u8 ((o : Nat) : Int), .int .i8 id, .int .i64 wi] 35)] :: F) := ⟨_, ⟨_, _, _, _, hO37, hQ37, rfl⟩, hS.join3⟩
                   replace hS := hS.front 1 (C := L32) (L' := L40 :: [(b1, rowO [.int .u8 ((o : Nat) : Int), .int .i8 id, .int .i64 wi] 35)] :: F) rfl rfl
                   replace hS := hS.front 2 (C := [(b1, rowO [.int .u8 ((o : Nat) : Int), .int .i8 id, .int .i64 wi] 35)]) (L' := L32 :: L40 :: F) rfl rfl
                   replace hS := hS.drop1
                   exact ⟨ts, q, _, _, hM34, hM41, hI, (Dead.same _ _ _), rfl, hS⟩)
              · first
                | (exfalso; omega)
                | (replace hA := hA.rw 52 (v' := .bool false) rfl (vb_eq_f hc38)
                   refine cd_cond_f hA rfl ?_
                   refine wp_skip ?_
                   refine xt_norm ?_
                   refine wp_seq ?_
                   refine wp_region_lit ?_
                   refine st_run tbOk 4 hA (e' := (63, .pointer (some ⟨bm, 0, none⟩)) :: (62, .pointer (some ⟨bm, 0, none⟩)) :: (61, .pointer (some ⟨bm, 0, none⟩)) :: (60, .pointer (some ⟨bm, 0, none⟩)) :: _) rfl ?_; clear hA; intro a hA
                   refine st_val hA rfl rfl (by decide) (rn_load tbOk hA rfl rfl rfl rfl (cell_row (hS.heapAt 0 rfl) rfl)) ?_; clear hA; intro a hA
                   refine st_run tbOk 2 hA (e' := (66, .agg #[.int .i64 id, .int .i64 1, .int .i64 0]) :: (65, .int .i64 id) :: _) rfl ?_; clear hA; intro a hA
                   refine st_buildSlice tbOk hA hS [.int .i64 id, .int .i64 1, .int .i64 0] rfl rfl rfl rfl rfl (by decide) (by kernel_rfl) rfl rfl (by decide) ?_; clear hA hS; intro b42 w43 a hS hA
                   replace hS := hS.front 2 (C := C37) (L' := [(b42, rowO [.int .i64 id, .int .i64 1, .int .i64 0] 41)] :: [(bm, rowO [.slice A37 ts.length c37, .slice B37 q.length d37] 32)] :: D37 :: L32 :: [(b1, rowO [.int .u8 ((o : Nat) : Int), .int .i8 id, .int .i64 wi] 35)] :: F) rfl rfl
                   refine st_append tbOk hA (m := ts.length) (q := 1) (xs := rows encThread ts) (news := rows encThread ([(id, 1, 0)] : List (Int × Int × Int))) rfl rfl rfl rfl rfl rfl rfl rfl (by decide) hO37 hS ((Own.full (T := 41) (size := 3) (g := b42) (m := 1) rfl (by decide)).rd (hS.own_ 1 rfl)) (rows_one encThread_ok _) (maxLen_le (by omega)) (by show (ts.length + 1) * 24 ≤ 140737488355328; omega) rfl rfl (by decide) ?_
                   clear hA hS; intro v44 w45 C46 a hO46 hS hA
                   replace hO46 := Own.app (l := ts) (l2 := ([(id, 1, 0)] : List (Int × Int × Int))) hO46
                   obtain ⟨A47, c48, rfl, hmc48, hxc48⟩ := hO46.open'
                   refine st_run tbOk 2 hA (e' := (70, .pointer (some ⟨bm, 0, none⟩)) :: (69, .pointer (some ⟨bm, 0, none⟩)) :: _) rfl ?_; clear hA; intro a hA
                   replace hS := hS.front 2 (C := [(bm, rowO [.slice A37 ts.length c37, .slice B37 q.length d37] 32)]) (L' := C46 :: [(b42, rowO [.int .i64 id, .int .i64 1, .int .i64 0] 41)] :: D37 :: L32 :: [(b1, rowO [.int .u8 ((o : Nat) : Int), .int .i8 id, .int .i64 wi] 35)] :: F) rfl rfl
                   refine st_store tbOk hA hS [.slice A47 ((ts ++ ([(id, 1, 0)] : List (Int × Int × Int))).length) c48] [.slice A47 ((ts ++ ([(id, 1, 0)] : List (Int × Int × Int))).length) c48, .slice B37 q.length d37] rfl rfl rfl rfl rfl rfl (by intro u hu; rw [List.mem_singleton.1 hu]; rfl) (Nat.le_of_ble_eq_true rfl) rfl rfl rfl ?_; clear hS; intro w49 hS
                   refine wpList_nil ?_
                   replace hA := hA.sel [0, 9, 10] (e' := [(0, .pointer (some ⟨bm, 0, none⟩)), (9, .int .i64 0), (10, .iface 53 (.int .i64 5))]) rfl
                   refine xt_norm ?_
                   refine wp_seq ?_
                   replace hS := hS.front 3 (C := D37) (L' := [(bm, rowO [.slice A47 ((ts ++ ([(id, 1, 0)] : List (Int × Int × Int))).length) c48, .slice B37 q.length d37] 32)] :: C46 :: [(b42, rowO [.int .i64 id, .int .i64 1, .int .i64 0] 41)] :: L32 :: [(b1, rowO [.int .u8 ((o : Nat) : Int), .int .i8 id, .int .i64 wi] 35)] :: F) rfl rfl
                   refine wp_draw (fun w' => St w0 w' ([(bm, rowO [.slice A47 ((ts ++ ([(id, 1, 0)] : List (Int × Int × Int))).length) c48, .slice B37 q.length d37] 32)] :: C46 :: [(b42, rowO [.int .i64 id, .int .i64 1, .int .i64 0] 41)] :: L32 :: [(b1, rowO [.int .u8 ((o : Nat) : Int), .int .i8 id, .int .i64 wi] 35)] :: F)) [15] [(0, true), (1, true), (2, true), (3, true), (4, true), (5, true), (6, true), (7, true), (8, true), (9, true), (10, true), (11, false), (12, false), (13, true), (14, true), (15, false)] mixed (by kernel_rfl) (by rintro c a w ⟨_, _, h, _⟩; cases h) (by rfl) (by kernel_rfl) ?_
                   replace hS := hS.drew
                   refine dr_run tbOk 4 hA (hS.tail 1 rfl) (e' := (74, .pointer (some ⟨bm, 1, none⟩)) :: (73, .pointer (some ⟨bm, 0, none⟩)) :: (72, .pointer (some ⟨bm, 0, none⟩)) :: (71, .pointer (some ⟨bm, 0, none⟩)) :: _) rfl ?_; clear hA; intro a hA
                   refine dr_y hA rfl rfl rfl (by decide) (hS.tail 1 rfl) (fun w' hS' => rn_load tbOk hA rfl rfl rfl rfl (cell_row (hS'.heapAt 0 rfl) rfl)) ?_; clear hA; intro a hA
                   refine dr_run tbOk 3 hA (hS.tail 1 rfl) (e' := (78, .pointer (some ⟨bm, 0, none⟩)) :: (77, .pointer (some ⟨bm, 0, none⟩)) :: (76, .pointer (some ⟨bm, 0, none⟩)) :: _) rfl ?_; clear hA; intro a hA
                   refine dr_y hA rfl rfl rfl (by decide) (hS.tail 1 rfl) (fun w' hS' => rn_load tbOk hA rfl rfl rfl rfl (cell_row (hS'.heapAt 0 rfl) rfl)) ?_; clear hA; intro a hA
                   refine dr_run tbOk 2 hA (hS.tail 1 rfl) (e' := (81, .int .i64 (IntKind.i64.wrap ((((ts ++ ([(id, 1, 0)] : List (Int × Int × Int))).length : Nat) : Int) - 1))) :: (80, .int .i64 (((ts ++ ([(id, 1, 0)] : List (Int × Int × Int))).length : Nat) : Int)) :: _) rfl ?_; clear hA; intro a hA
                   replace hA := hA.rw 81 (v' := .int .i64 ((((ts ++ ([(id, 1, 0)] : List (Int × Int × Int))).length : Nat) : Int) - 1)) rfl (wr64 (by omega) (by omega) (by omega))
                   replace hA := hA.rw 81 (v' := .int .i64 ((ts.length : Nat) : Int)) rfl (vint (by simp))
                   refine dr_b (o := _) rfl ?_
                   refine st_buildSlice tbOk hA hS [.int .i64 ((ts.length : Nat) : Int)] rfl rfl rfl rfl rfl (by decide) (by kernel_rfl) rfl rfl (by decide) ?_; clear hA hS; intro b50 w51 a hS hA
                   refine dr_nil (.inr (hS.tail 2 rfl)) ?_
                   refine dr_b (o := _) rfl ?_
                   replace hS := hS.front 1 (C := D37) (L' := [(b50, rowO [.int .i64 ((ts.length : Nat) : Int)] 3)] :: [(bm, rowO [.slice A47 ((ts ++ ([(id, 1, 0)] : List (Int × Int × Int))).length) c48, .slice B37 q.length d37] 32)] :: C46 :: [(b42, rowO [.int .i64 id, .int .i64 1, .int .i64 0] 41)] :: L32 :: [(b1, rowO [.int .u8 ((o : Nat) : Int), .int .i8 id, .int .i64 wi] 35)] :: F) rfl rfl
                   refine st_append tbOk hA (m := q.length) (q := 1) (xs := rows encI q) (news := rows encI ([((ts.length : Nat) : Int)] : List Int)) rfl rfl rfl rfl rfl rfl rfl rfl (by decide) hQ37 hS ((Own.full (T := 3) (size := 1) (g := b50) (m := 1) rfl (by decide)).rd (hS.own_ 1 rfl)) (rows_one encI_ok _) (maxLen_le (by omega)) (by show (q.length + 1) * 8 ≤ 140737488355328; omega) rfl rfl (by decide) ?_
                   clear hA hS; intro v52 w53 C54 a hO54 hS hA
                   replace hO54 := Own.app (l := q) (l2 := ([((ts.length : Nat) : Int)] : List Int)) hO54
                   obtain ⟨A55, c56, rfl, hmc56, hxc56⟩ := hO54.open'
                   refine dr_nil (.inr (hS.tail 2 rfl)) ?_
                   refine dr_run tbOk 2 hA (hS.tail 2 rfl) (e' := (85, .pointer (some ⟨bm, 1, none⟩)) :: (84, .pointer (some ⟨bm, 0, none⟩)) :: _) rfl ?_; clear hA; intro a hA
                   refine dr_b (o := _) rfl ?_
                   replace hS := hS.front 2 (C := [(bm, rowO [.slice A47 ((ts ++ ([(id, 1, 0)] : List (Int × Int × Int))).length) c48, .slice B37 q.length d37] 32)]) (L' := C54 :: [(b50, rowO [.int .i64 ((ts.length : Nat) : Int)] 3)] :: C46 :: [(b42, rowO [.int .i64 id, .int .i64 1, .int .i64 0] 41)] :: L32 :: [(b1, rowO [.int .u8 ((o : Nat) : Int), .int .i8 id, .int .i64 wi] 35)] :: F) rfl rfl
                   refine st_store tbOk hA hS [.slice A55 ((q ++ ([((ts.length : Nat) : Int)] : List Int)).length) c56] [.slice A47 ((ts ++ ([(id, 1, 0)] : List (Int × Int × Int))).length) c48, .slice A55 ((q ++ ([((ts.length : Nat) : Int)] : List Int)).length) c56] rfl rfl rfl rfl rfl rfl (by intro u hu; rw [List.mem_singleton.1 hu]; rfl) (Nat.le_of_ble_eq_true rfl) rfl rfl rfl ?_; clear hS; intro w57 hS
                   refine dr_nil (.inl (by decide)) ?_
                   refine dr_end ?_
                   replace hA := hA.sel [0, 9, 10] (e' := [(0, .pointer (some ⟨bm, 0, none⟩)), (9, .int .i64 0), (10, .iface 53 (.int .i64 5))]) rfl
                   refine xt_norm ?_
                   refine wp_seq ?_
                   refine wp_region_lit ?_
                   refine st_run tbOk 4 hA (e' := (89, .pointer (some ⟨bm, 0, none⟩)) :: (88, .pointer (some ⟨bm, 0, none⟩)) :: (87, .pointer (some ⟨bm, 0, none⟩)) :: (86, .int .i64 0) :: _) rfl ?_; clear hA; intro a hA
                   refine st_val hA rfl rfl (by decide) (rn_load tbOk hA rfl rfl rfl rfl (cell_row (hS.heapAt 0 rfl) rfl)) ?_; clear hA; intro a hA
                   refine st_run tbOk 2 hA (e' := (92, .int .i64 (IntKind.i64.wrap ((((ts ++ ([(id, 1, 0)] : List (Int × Int × Int))).length : Nat) : Int) - 1))) :: (91, .int .i64 (((ts ++ ([(id, 1, 0)] : List (Int × Int × Int))).length : Nat) : Int)) :: _) rfl ?_; clear hA; intro a hA
                   replace hA := hA.rw 92 (v' := .int .i64 ((((ts ++ ([(id, 1, 0)] : List (Int × Int × Int))).length : Nat) : Int) - 1)) rfl (wr64 (by omega) (by omega) (by omega))
                   replace hA := hA.rw 92 (v' := .int .i64 ((ts.length : Nat) : Int)) rfl (vint (by simp))
                   refine st_run tbOk 2 hA (e' := (94, .bool (0 == ((ts.length : Nat) : Int))) :: (93, .bool (0 == ((ts.length : Nat) : Int))) :: _) rfl ?_; clear hA; intro a hA
                   by_cases hc58 : 0 = ((ts.length : Nat) : Int)
                   · first
                     | (exfalso; omega)
                     | (replace hA := hA.rw 93 (v' := .bool true) rfl (vb_eq_t hc58)
                        replace hA := hA.rw 94 (v' := .bool true) rfl (vb_eq_t hc58)
                        refine st_run tbOk 4 hA (e' := (6, .bool false) :: (97, .bool false) :: (96, .bool false) :: (95, .iface 53 (.int .i64 5)) :: _) rfl ?_; clear hA; intro a hA
                        refine wpList_nil ?_
                        replace hA := hA.sel [6] (e' := [(6, .bool false)]) rfl
                        refine xt_norm ?_
                        refine wp_ret (xb_ret (xt_ret ?_))
                        refine ret1 (fn := Tryd.f6) hA rfl rfl ?_
                        exfalso; omega)
                   · first
                     | (exfalso; omega)
                     | (replace hA := hA.rw 93 (v' := .bool false) rfl (vb_eq_f hc58)
                        replace hA := hA.rw 94 (v' := .bool false) rfl (vb_eq_f hc58)
                        refine st_run tbOk 4 hA (e' := (6, .bool false) :: (97, .bool false) :: (96, undef) :: (95, undef) :: _) rfl ?_; clear hA; intro a hA
                        refine wpList_nil ?_
                        replace hA := hA.sel [6] (e' := [(6, .bool false)]) rfl
                        refine xt_norm ?_
                        refine wp_ret (xb_ret (xt_ret ?_))
                        refine ret1 (fn := Tryd.f6) hA rfl rfl ?_
                        exfalso; omega)))
       · replace hS := hS.front 2 (C := L) (L' := L3 :: [(b1, rowO [.int .u8 ((o : Nat) : Int), .int .i8 id, .int .i64 wi] 35)] :: F) rfl rfl
         refine st_call0 hA rfl rfl rfl isfn10 rfl rfl (by decide) (start_ok10 hS hM id h1 h2 hT.fresh (by have := hT.len; omega)) ?_
         clear hA hS; rintro v w60 a ⟨L59, hM61, rfl, hS⟩ hA
         refine st_run tbOk 5 hA (e' := (10, .nilIface) :: (9, .int .i64 ((ts.length : Nat) : Int)) :: (37, .nilIface) :: (36, .int .i64 ((ts.length : Nat) : Int)) :: (32, .tuple #[.int .i64 ((ts.length : Nat) : Int), .nilIface]) :: _) rfl ?_; clear hA; intro a hA
         refine wpList_nil ?_
         replace hA := hA.sel [0, 7, 9, 10] (e' := [(0, .pointer (some ⟨bm, 0, none⟩)), (7, .int .i64 id), (9, .int .i64 ((ts.length : Nat) : Int)), (10, .nilIface)]) rfl
         refine xt_norm ?_
         refine wp_seq ?_
         refine wp_seq ?_
         refine wp_region_lit ?_
         refine st_run tbOk 2 hA (e' := (39, .bool (decide (id < 0))) :: (38, .int .i64 id) :: _) rfl ?_; clear hA; intro a hA
         refine wpList_nil ?_
         replace hA := hA.sel [0, 7, 9, 10, 39] (e' := [(0, .pointer (some ⟨bm, 0, none⟩)), (7, .int .i64 id), (9, .int .i64 ((ts.length : Nat) : Int)), (10, .nilIface), (39, .bool (decide (id < 0)))]) rfl
         refine xt_norm ?_
         by_cases hc62 : id < 0
         · first
           | (exfalso; omega)
           | (replace hA := hA.rw 39 (v' := .bool true) rfl (vb_true hc62)
              refine cd_cond_t hA rfl ?_
              refine wp_seq ?_
              refine wp_region_lit ?_
              refine st_run tbOk 3 hA (e' := (42, .bool (((ts.length : Nat) : Int) == 0)) :: (41, .bool (((ts.length : Nat) : Int) == 0)) :: (40, .int .i64 ((ts.length : Nat) : Int)) :: _) rfl ?_; clear hA; intro a hA
              by_cases hc63 : ((ts.length : Nat) : Int) = 0
              · first
                | (exfalso; omega)
                | (replace hA := hA.rw 41 (v' := .bool true) rfl (vb_eq_t hc63)
                   replace hA := hA.rw 42 (v' := .bool true) rfl (vb_eq_t hc63)
                   refine st_run tbOk 1 hA (e' := (43, .nilIface) :: _) rfl ?_; clear hA; intro a hA
                   refine st_call0 hA rfl rfl rfl isfn15 rfl rfl (by decide) (number_nil15 hS hg) ?_
                   clear hA hS; rintro v w64 a ⟨rfl, hS⟩ hA
                   refine st_run tbOk 3 hA (e' := (6, .bool false) :: (46, .bool false) :: (45, .bool false) :: _) rfl ?_; clear hA; intro a hA
                   refine wpList_nil ?_
                   replace hA := hA.sel [6] (e' := [(6, .bool false)]) rfl
                   refine xt_norm ?_
                   refine wp_ret (xt_ret (xb_ret (xt_ret ?_)))
                   refine ret1 (fn := Tryd.f6) hA rfl rfl ?_
                   exfalso; omega)
              · first
                | (exfalso; omega)
                | (replace hA := hA.rw 41 (v' := .bool false) rfl (vb_eq_f hc63)
                   replace hA := hA.rw 42 (v' := .bool false) rfl (vb_eq_f hc63)
                   refine st_run tbOk 5 hA (e' := (6, .bool false) :: (46, .bool false) :: (45, undef) :: (44, undef) :: (43, undef) :: _) rfl ?_; clear hA; intro a hA
                   refine wpList_nil ?_
                   replace hA := hA.sel [6] (e' := [(6, .bool false)]) rfl
                   refine xt_norm ?_
                   refine wp_ret (xt_ret (xb_ret (xt_ret ?_)))
                   refine ret1 (fn := Tryd.f6) hA rfl rfl ?_
                   exfalso; omega))
         · first
           | (exfalso; omega)
           | (replace hA := hA.rw 39 (v' := .bool false) rfl (vb_false hc62)
              refine cd_cond_f hA rfl ?_
              refine wp_skip ?_
              refine xt_norm ?_
              refine wp_seq ?_
              refine wp_seq ?_
              refine wp_region_lit ?_
              replace hS := hS.front 1 (C := L3) (L' := L59 :: [(b1, rowO [.int .u8 ((o : Nat) : Int), .int .i8 id, .int .i64 wi] 35)] :: F) rfl rfl
              obtain ⟨v65, C65, u65, D65, hO65, hQ65, rfl⟩ := hM5
              obtain ⟨A65, c65, rfl, hmc65, hxc65⟩ := hO65.open'
              obtain ⟨B65, d65, rfl, hmd65, hxd65⟩ := hQ65.open'
              replace hS := hS.split3
              refine st_run tbOk 3 hA (e' := (49, .pointer (some ⟨bm, 0, none⟩)) :: (48, .pointer (some ⟨bm, 0, none⟩)) :: (47, .pointer (some ⟨bm, 0, none⟩)) :: _) rfl ?_; clear hA; intro a hA
              refine st_val hA rfl rfl (by decide) (rn_load tbOk hA rfl rfl rfl rfl (cell_row (hS.heapAt 0 rfl) rfl)) ?_; clear hA; intro a hA
              refine st_run tbOk 2 hA (e' := (52, .bool (((ts.length : Nat) : Int) == 64)) :: (51, .int .i64 ((ts.length : Nat) : Int)) :: _) rfl ?_; clear hA; intro a hA
              refine wpList_nil ?_
              replace hA := hA.sel [0, 7, 9, 10, 52] (e' := [(0, .pointer (some ⟨bm, 0, none⟩)), (7, .int .i64 id), (9, .int .i64 ((ts.length : Nat) : Int)), (10, .nilIface), (52, .bool (((ts.length : Nat) : Int) == 64))]) rfl
              refine xt_norm ?_
              by_cases hc66 : ((ts.length : Nat) : Int) = 64
              · first
                | (exfalso; omega)
                | (replace hA := hA.rw 52 (v' := .bool true) rfl (vb_eq_t hc66)
                   refine cd_cond_t hA rfl ?_
                   refine wp_seq ?_
                   refine wp_region_lit ?_
                   refine st_run tbOk 3 hA (e' := (55, .bool (((ts.length : Nat) : Int) == 0)) :: (54, .bool (((ts.length : Nat) : Int) == 0)) :: (53, .int .i64 ((ts.length : Nat) : Int)) :: _) rfl ?_; clear hA; intro a hA
                   by_cases hc67 : ((ts.length : Nat) : Int) = 0
                   · first
                     | (exfalso; omega)
                     | (replace hA := hA.rw 54 (v' := .bool true) rfl (vb_eq_t hc67)
                        replace hA := hA.rw 55 (v' := .bool true) rfl (vb_eq_t hc67)
                        refine st_run tbOk 1 hA (e' := (56, .nilIface) :: _) rfl ?_; clear hA; intro a hA
                        refine st_call0 hA rfl rfl rfl isfn15 rfl rfl (by decide) (number_nil15 hS hg) ?_
                        clear hA hS; rintro v w68 a ⟨rfl, hS⟩ hA
                        refine st_run tbOk 3 hA (e' := (6, .bool false) :: (59, .bool false) :: (58, .bool false) :: _) rfl ?_; clear hA; intro a hA
                        refine wpList_nil ?_
                        replace hA := hA.sel [6] (e' := [(6, .bool false)]) rfl
                        refine xt_norm ?_
                        refine wp_ret (xt_ret (xb_ret (xt_ret ?_)))
                        refine ret1 (fn := Tryd.f6) hA rfl rfl ?_
                        exfalso; omega)
                   · first
                     | (exfalso; omega)
                     | (replace hA := hA.rw 54 (v' := .bool false) rfl (vb_eq_f hc67)
                        replace hA := hA.rw 55 (v' := .bool false) rfl (vb_eq_f hc67)
                        refine st_run tbOk 5 hA (e' := (6, .bool false) :: (59, .bool false) :: (58, undef) :: (57, undef) :: (56, undef) :: _) rfl ?_; clear hA; intro a hA
                        refine wpList_nil ?_
                        replace hA := hA.sel [6] (e' := [(6, .bool false)]) rfl
                        refine xt_norm ?_
                        refine wp_ret (xt_ret (xb_ret (xt_ret ?_)))
                        refine ret1 (fn := Tryd.f6) hA rfl rfl ?_
                        exfalso; omega))
              · first
                | (exfalso; omega)
                | (replace hA := hA.rw 52 (v' := .bool false) rfl (vb_eq_f hc66)
                   refine cd_cond_f hA rfl ?_
                   refine wp_skip ?_
                   refine xt_norm ?_
                   refine wp_seq ?_
                   refine wp_region_lit ?_
                   refine st_run tbOk 4 hA (e' := (63, .pointer (some ⟨bm, 0, none⟩)) :: (62, .pointer (some ⟨bm, 0, none⟩)) :: (61, .pointer (some ⟨bm, 0, none⟩)) :: (60, .pointer (some ⟨bm, 0, none⟩)) :: _) rfl ?_; clear hA; intro a hA
                   refine st_val hA rfl rfl (by decide) (rn_load tbOk hA rfl rfl rfl rfl (cell_row (hS.heapAt 0 rfl) rfl)) ?_; clear hA; intro a hA
                   refine st_run tbOk 2 hA (e' := (66, .agg #[.int .i64 id, .int .i64 1, .int .i64 0]) :: (65, .int .i64 id) :: _) rfl ?_; clear hA; intro a hA
                   refine st_buildSlice tbOk hA hS [.int .i64 id, .int .i64 1, .int .i64 0] rfl rfl rfl rfl rfl (by decide) (by kernel_rfl) rfl rfl (by decide) ?_; clear hA hS; intro b69 w70 a hS hA
                   replace hS := hS.front 2 (C := C65) (L' := [(b69, rowO [.int .i64 id, .int .i64 1, .int .i64 0] 41)] :: [(bm, rowO [.slice A65 ts.length c65, .slice B65 q.length d65] 32)] :: D65 :: L59 :: [(b1, rowO [.int .u8 ((o : Nat) : Int), .int .i8 id, .int .i64 wi] 35)] :: F) rfl rfl
                   refine st_append tbOk hA (m := ts.length) (q := 1) (xs := rows encThread ts) (news := rows encThread ([(id, 1, 0)] : List (Int × Int × Int))) rfl rfl rfl rfl rfl rfl rfl rfl (by decide) hO65 hS ((Own.full (T := 41) (size := 3) (g := b69) (m := 1) rfl (by decide)).rd (hS.own_ 1 rfl)) (rows_one encThread_ok _) (maxLen_le (by omega)) (by show (ts.length + 1) * 24 ≤ 140737488355328; omega) rfl rfl (by decide) ?_
                   clear hA hS; intro v71 w72 C73 a hO73 hS hA
                   replace hO73 := Own.app (l := ts) (l2 := ([(id, 1, 0)] : List (Int × Int × Int))) hO73
                   obtain ⟨A74, c75, rfl, hmc75, hxc75⟩ := hO73.open'
                   refine st_run tbOk 2 hA (e' := (70, .pointer (some ⟨bm, 0, none⟩)) :: (69, .pointer (some ⟨bm, 0, none⟩)) :: _) rfl ?_; clear hA; intro a hA
                   replace hS := hS.front 2 (C := [(bm, rowO [.slice A65 ts.length c65, .slice B65 q.length d65] 32)]) (L' := C73 :: [(b69, rowO [.int .i64 id, .int .i64 1, .int .i64 0] 41)] :: D65 :: L59 :: [(b1, rowO [.int .u8 ((o : Nat) : Int), .int .i8 id, .int .i64 wi] 35)] :: F) rfl rfl
                   refine st_store tbOk hA hS [.slice A74 ((ts ++ ([(id, 1, 0)] : List (Int × Int × Int))).length) c75] [.slice A74 ((ts ++ ([(id, 1, 0)] : List (Int × Int × Int))).length) c75, .slice B65 q.length d65] rfl rfl rfl rfl rfl rfl (by intro u hu; rw [List.mem_singleton.1 hu]; rfl) (Nat.le_of_ble_eq_true rfl) rfl rfl rfl ?_; clear hS; intro w76 hS
                   refine wpList_nil ?_
                   replace hA := hA.sel [0, 9, 10] (e' := [(0, .pointer (some ⟨bm, 0, none⟩)), (9, .int .i64 ((ts.length : Nat) : Int)), (10, .nilIface)]) rfl
                   refine xt_norm ?_
                   refine wp_seq ?_
                   replace hS := hS.front 3 (C := D65) (L' := [(bm, rowO [.slice A74 ((ts ++ ([(id, 1, 0)] : List (Int × Int × Int))).length) c75, .slice B65 q.length d65] 32)] :: C73 :: [(b69, rowO [.int .i64 id, .int .i64 1, .int .i64 0] 41)] :: L59 :: [(b1, rowO [.int .u8 ((o : Nat) : Int), .int .i8 id, .int .i64 wi] 35)] :: F) rfl rfl
                   refine wp_draw (fun w' => St w0 w' ([(bm, rowO [.slice A74 ((ts ++ ([(id, 1, 0)] : List (Int × Int × Int))).length) c75, .slice B65 q.length d65] 32)] :: C73 :: [(b69, rowO [.int .i64 id, .int .i64 1, .int .i64 0] 41)] :: L59 :: [(b1, rowO [.int .u8 ((o : Nat) : Int), .int .i8 id, .int .i64 wi] 35)] :: F)) [15] [(0, true), (1, true), (2, true), (3, true), (4, true), (5, true), (6, true), (7, true), (8, true), (9, true), (10, true), (11, false), (12, false), (13, true), (14, true), (15, false)] mixed (by kernel_rfl) (by rintro c a w ⟨_, _, h, _⟩; cases h) (by rfl) (by kernel_rfl) ?_
                   replace hS := hS.drew
                   refine dr_run tbOk 4 hA (hS.tail 1 rfl) (e' := (74, .pointer (some ⟨bm, 1, none⟩)) :: (73, .pointer (some ⟨bm, 0, none⟩)) :: (72, .pointer (some ⟨bm, 0, none⟩)) :: (71, .pointer (some ⟨bm, 0, none⟩)) :: _) rfl ?_; clear hA; intro a hA
                   refine dr_y hA rfl rfl rfl (by decide) (hS.tail 1 rfl) (fun w' hS' => rn_load tbOk hA rfl rfl rfl rfl (cell_row (hS'.heapAt 0 rfl) rfl)) ?_; clear hA; intro a hA
                   refine dr_run tbOk 3 hA (hS.tail 1 rfl) (e' := (78, .pointer (some ⟨bm, 0, none⟩)) :: (77, .pointer (some ⟨bm, 0, none⟩)) :: (76, .pointer (some ⟨bm, 0, none⟩)) :: _) rfl ?_; clear hA; intro a hA
                   refine dr_y hA rfl rfl rfl (by decide) (hS.tail 1 rfl) (fun w' hS' => rn_load tbOk hA rfl rfl rfl rfl (cell_row (hS'.heapAt 0 rfl) rfl)) ?_; clear hA; intro a hA
                   refine dr_run tbOk 2 hA (hS.tail 1 rfl) (e' := (81, .int .i64 (IntKind.i64.wrap ((((ts ++ ([(id, 1, 0)] : List (Int × Int × Int))).length : Nat) : Int) - 1))) :: (80, .int .i64 (((ts ++ ([(id, 1, 0)] : List (Int × Int × Int))).length : Nat) : Int)) :: _) rfl ?_; clear hA; intro a hA
                   replace hA := hA.rw 81 (v' := .int .i64 ((((ts ++ ([(id, 1, 0)] : List (Int × Int × Int))).length : Nat) : Int) - 1)) rfl (wr64 (by omega) (by omega) (by omega))
                   replace hA := hA.rw 81 (v' := .int .i64 ((ts.length : Nat) : Int)) rfl (vint (by simp))
                   refine dr_b (o := _) rfl ?_
                   refine st_buildSlice tbOk hA hS [.int .i64 ((ts.length : Nat) : Int)] rfl rfl rfl rfl rfl (by decide) (by kernel_rfl) rfl rfl (by decide) ?_; clear hA hS; intro b77 w78 a hS hA
                   refine dr_nil (.inr (hS.tail 2 rfl)) ?_
                   refine dr_b (o := _) rfl ?_
                   replace hS := hS.front 1 (C := D65) (L' := [(b77, rowO [.int .i64 ((ts.length : Nat) : Int)] 3)] :: [(bm, rowO [.slice A74 ((ts ++ ([(id, 1, 0)] : List (Int × Int × Int))).length) c75, .slice B65 q.length d65] 32)] :: C73 :: [(b69, rowO [.int .i64 id, .int .i64 1, .int .i64 0] 41)] :: L59 :: [(b1, rowO [.int .u8 ((o : Nat) : Int), .int .i8 id, .int .i64 wi] 35)] :: F) rfl rfl
                   refine st_append tbOk hA (m := q.length) (q := 1) (xs := rows encI q) (news := rows encI ([((ts.length : Nat) : Int)] : List Int)) rfl rfl rfl rfl rfl rfl rfl rfl (by decide) hQ65 hS ((Own.full (T := 3) (size := 1) (g := b77) (m := 1) rfl (by decide)).rd (hS.own_ 1 rfl)) (rows_one encI_ok _) (maxLen_le (by omega)) (by show (q.length + 1) * 8 ≤ 140737488355328; omega) rfl rfl (by decide) ?_
                   clear hA hS; intro v79 w80 C81 a hO81 hS hA
                   replace hO81 := Own.app (l := q) (l2 := ([((ts.length : Nat) : Int)] : List Int)) hO81
                   obtain ⟨A82, c83, rfl, hmc83, hxc83⟩ := hO81.open'
                   refine dr_nil (.inr (hS.tail 2 rfl)) ?_
                   refine dr_run tbOk 2 hA (hS.tail 2 rfl) (e' := (85, .pointer (some ⟨bm, 1, none⟩)) :: (84, .pointer (some ⟨bm, 0, none⟩)) :: _) rfl ?_; clear hA; intro a hA
                   refine dr_b (o := _) rfl ?_
                   replace hS := hS.front 2 (C := [(bm, rowO [.slice A74 ((ts ++ ([(id, 1, 0)] : List (Int × Int × Int))).length) c75, .slice B65 q.length d65] 32)]) (L' := C81 :: [(b77, rowO [.int .i64 ((ts.length : Nat) : Int)] 3)] :: C73 :: [(b69, rowO [.int .i64 id, .int .i64 1, .int .i64 0] 41)] :: L59 :: [(b1, rowO [.int .u8 ((o : Nat) : Int), .int .i8 id, .int .i64 wi] 35)] :: F) rfl rfl
                   refine st_store tbOk hA hS [.slice A82 ((q ++ ([((ts.length : Nat) : Int)] : List Int)).length) c83] [.slice A74 ((ts ++ ([(id, 1, 0)] : List (Int × Int × Int))).length) c75, .slice A82 ((q ++ ([((ts.length : Nat) : Int)] : List Int)).length) c83] rfl rfl rfl rfl rfl rfl (by intro u hu; rw [List.mem_singleton.1 hu]; rfl) (Nat.le_of_ble_eq_true rfl) rfl rfl rfl ?_; clear hS; intro w84 hS
                   refine dr_nil (.inl (by decide)) ?_
                   refine dr_end ?_
                   replace hA := hA.sel [0, 9, 10] (e' := [(0, .pointer (some ⟨bm, 0, none⟩)), (9, .int .i64 ((ts.length : Nat) : Int)), (10, .nilIface)]) rfl
                   refine xt_norm ?_
                   refine wp_seq ?_
                   refine wp_region_lit ?_
                   refine st_run tbOk 4 hA (e' := (89, .pointer (some ⟨bm, 0, none⟩)) :: (88, .pointer (some ⟨bm, 0, none⟩)) :: (87, .pointer (some ⟨bm, 0, none⟩)) :: (86, .int .i64 ((ts.length : Nat) : Int)) :: _) rfl ?_; clear hA; intro a hA
                   refine st_val hA rfl rfl (by decide) (rn_load tbOk hA rfl rfl rfl rfl (cell_row (hS.heapAt 0 rfl) rfl)) ?_; clear hA; intro a hA
                   refine st_run tbOk 2 hA (e' := (92, .int .i64 (IntKind.i64.wrap ((((ts ++ ([(id, 1, 0)] : List (Int × Int × Int))).length : Nat) : Int) - 1))) :: (91, .int .i64 (((ts ++ ([(id, 1, 0)] : List (Int × Int × Int))).length : Nat) : Int)) :: _) rfl ?_; clear hA; intro a hA
                   replace hA := hA.rw 92 (v' := .int .i64 ((((ts ++ ([(id, 1, 0)] : List (Int × Int × Int))).length : Nat) : Int) - 1)) rfl (wr64 (by omega) (by omega) (by omega))
                   replace hA := hA.rw 92 (v' := .int .i64 ((ts.length : Nat) : Int)) rfl (vint (by simp))
                   refine st_run tbOk 2 hA (e' := (94, .bool (((ts.length : Nat) : Int) == ((ts.length : Nat) : Int))) :: (93, .bool (((ts.length : Nat) : Int) == ((ts.length : Nat) : Int))) :: _) rfl ?_; clear hA; intro a hA
                   by_cases hc85 : ((ts.length : Nat) : Int) = ((ts.length : Nat) : Int)
                   · first
                     | (exfalso; omega)
                     | (replace hA := hA.rw 93 (v' := .bool true) rfl (vb_eq_t hc85)
                        replace hA := hA.rw 94 (v' := .bool true) rfl (vb_eq_t hc85)
                        refine st_run tbOk 4 hA (e' := (6, .bool true) :: (97, .bool true) :: (96, .bool true) :: (95, .nilIface) :: _) rfl ?_; clear hA; intro a hA
                        refine wpList_nil ?_
                        replace hA := hA.sel [6] (e' := [(6, .bool true)]) rfl
                        refine xt_norm ?_
                        refine wp_ret (xb_ret (xt_ret ?_))
                        refine ret1 (fn := Tryd.f6) hA rfl rfl ?_
                        replace hS := hS.front 1 (C := C81) (L' := [(bm, rowO [.slice A74 ((ts ++ ([(id, 1, 0)] : List (Int × Int × Int))).length) c75, .slice A82 ((q ++ ([((ts.length : Nat) : Int)] : List Int)).length) c83] 32)] :: [(b77, rowO [.int .i64 ((ts.length : Nat) : Int)] 3)] :: C73 :: [(b69, rowO [.int .i64 id, .int .i64 1, .int .i64 0] 41)] :: L59 :: [(b1, rowO [.int .u8 ((o : Nat) : Int), .int .i8 id, .int .i64 wi] 35)] :: F) rfl rfl
                        replace hS := hS.front 3 (C := C73) (L' := C81 :: [(bm, rowO [.slice A74 ((ts ++ ([(id, 1, 0)] : List (Int × Int × Int))).length) c75, .slice A82 ((q ++ ([((ts.length : Nat) : Int)] : List Int)).length) c83] 32)] :: [(b77, rowO [.int .i64 ((ts.length : Nat) : Int)] 3)] :: [(b69, rowO [.int .i64 id, .int .i64 1, .int .i64 0] 41)] :: L59 :: [(b1, rowO [.int .u8 ((o : Nat) : Int), .int .i8 id, .int .i64 wi] 35)] :: F) rfl rfl
                        replace hS := hS.front 2 (C := [(bm, rowO [.slice A74 ((ts ++ ([(id, 1, 0)] : List (Int × Int × Int))).length) c75, .slice A82 ((q ++ ([((ts.length : Nat) : Int)] : List Int)).length) c83] 32)]) (L' := C73 :: C81 :: [(b77, rowO [.int .i64 ((ts.length : Nat) : Int)] 3)] :: [(b69, rowO [.int .i64 id, .int .i64 1, .int .i64 0] 41)] :: L59 :: [(b1, rowO [.int .u8 ((o : Nat) : Int), .int .i8 id, .int .i64 wi] 35)] :: F) rfl rfl
                        obtain ⟨L86, hM87, hS⟩ : ∃ Z, TR 32 bm (ts ++ [(id, 1, 0)]) (q ++ [((ts.length : Nat) : Int)]) Z ∧ St w0 w84 (Z :: [(b77, rowO [.int .i64 ((ts.length : Nat) : Int)] 3)] :: [(b69, rowO [.int .i64 id, .int .i64 1, .int .i64 0] 41)] :: L59 :: [(b1, rowO [.int .u8 ((o : Nat) : Int), .int .i8 id, .int .i64 wi] 35)] :: F) := ⟨_, ⟨_, _, _, _, hO73, hO81, rfl⟩, hS.join3⟩
                        replace hS := hS.front 3 (C := L59) (L' := L86 :: [(b77, rowO [.int .i64 ((ts.length : Nat) : Int)] 3)] :: [(b69, rowO [.int .i64 id, .int .i64 1, .int .i64 0] 41)] :: [(b1, rowO [.int .u8 ((o : Nat) : Int), .int .i8 id, .int .i64 wi] 35)] :: F) rfl rfl
                        replace hS := hS.front 2 (C := [(b77, rowO [.int .i64 ((ts.length : Nat) : Int)] 3)]) (L' := L59 :: L86 :: [(b69, rowO [.int .i64 id, .int .i64 1, .int .i64 0] 41)] :: [(b1, rowO [.int .u8 ((o : Nat) : Int), .int .i8 id, .int .i64 wi] 35)] :: F) rfl rfl
                        replace hS := hS.drop1
                        replace hS := hS.front 2 (C := [(b69, rowO [.int .i64 id, .int .i64 1, .int .i64 0] 41)]) (L' := L59 :: L86 :: [(b1, rowO [.int .u8 ((o : Nat) : Int), .int .i8 id, .int .i64 wi] 35)] :: F) rfl rfl
                        replace hS := hS.drop1
                        replace hS := hS.front 2 (C := [(b1, rowO [.int .u8 ((o : Nat) : Int), .int .i8 id, .int .i64 wi] 35)]) (L' := L59 :: L86 :: F) rfl rfl
                        replace hS := hS.drop1
                        exact ⟨ts ++ [(id, 1, 0)], q ++ [((ts.length : Nat) : Int)], _, _, hM61, hM87, (hI.start _ h2), (Dead.zero hop _ _), rfl, hS⟩)
                   · first
                     | (exfalso; omega)
                     | (replace hA := hA.rw 93 (v' := .bool false) rfl (vb_eq_f hc85)
                        replace hA := hA.rw 94 (v' := .bool false) rfl (vb_eq_f hc85)
                        refine st_run tbOk 4 hA (e' := (6, .bool false) :: (97, .bool false) :: (96, undef) :: (95, undef) :: _) rfl ?_; clear hA; intro a hA
                        refine wpList_nil ?_
                        replace hA := hA.sel [6] (e' := [(6, .bool false)]) rfl
                        refine xt_norm ?_
                        refine wp_ret (xb_ret (xt_ret ?_))
                        refine ret1 (fn := Tryd.f6) hA rfl rfl ?_
                        exfalso; omega))))
  · first
    | (exfalso; omega)
    | (replace hA := hA.rw 30 (v' := .bool false) rfl (vb_eq_f hc6)
       refine cd_cond_f hA rfl ?_
       refine wp_seq ?_
       refine wp_region_lit ?_
       refine st_run tbOk 2 hA (e' := (98, .bool (((o % 6 : Nat) : Int) == 1)) :: (99, .bool (((o % 6 : Nat) : Int) == 1)) :: _) rfl ?_; clear hA; intro a hA
       refine wpList_nil ?_
       replace hA := hA.sel [0, 1, 5, 7, 8, 29, 98] (e' := [(0, .pointer (some ⟨bm, 0, none⟩)), (1, .pointer (some ⟨b, 0, none⟩)), (5, .pointer (some ⟨b1, 0, none⟩)), (7, .int .i64 id), (8, .int .i64 (stf ts id)), (29, .int .u8 ((o % 6 : Nat) : Int)), (98, .bool (((o % 6 : Nat) : Int) == 1))]) rfl
       refine xt_norm ?_
       by_cases hc88 : ((o % 6 : Nat) : Int) = 1
       · first
         | (exfalso; omega)
         | (replace hA := hA.rw 98 (v' := .bool true) rfl (vb_eq_t hc88)
            refine cd_cond_t hA rfl ?_
            refine wp_seq ?_
            refine wp_region_lit ?_
            refine st_run tbOk 2 hA (e' := (101, .int .i64 id) :: (100, .pointer (some ⟨b, 0, none⟩)) :: _) rfl ?_; clear hA; intro a hA
            rcases idcases id ts.length with h1 | h1 | ⟨n, hid, hn⟩
            · have hst := stf_lo (ts := ts) h1
              refine st_run tbOk 1 hA (e' := (102, .pointer (some ⟨b1, 2, none⟩)) :: _) rfl ?_; clear hA; intro a hA
              refine st_val hA rfl rfl (by decide) (rn_load tbOk hA rfl rfl rfl rfl (cell_row (hS.heapAt 1 rfl) rfl)) ?_; clear hA; intro a hA
              replace hS := hS.front 2 (C := L) (L' := L3 :: [(b1, rowO [.int .u8 ((o : Nat) : Int), .int .i8 id, .int .i64 wi] 35)] :: F) rfl rfl
              refine st_call0 hA rfl rfl rfl isfn12 rfl rfl (by decide) (block_lo12 hS hM id wi h1) ?_
              clear hA hS; rintro v w90 a ⟨L89, hM91, rfl, hS⟩ hA
              refine st_run tbOk 1 hA (e' := (11, .iface 53 (.int .i64 15)) :: _) rfl ?_; clear hA; intro a hA
              refine wpList_nil ?_
              replace hA := hA.sel [0, 5, 7, 8, 11] (e' := [(0, .pointer (some ⟨bm, 0, none⟩)), (5, .pointer (some ⟨b1, 0, none⟩)), (7, .int .i64 id), (8, .int .i64 (stf ts id)), (11, .iface 53 (.int .i64 15))]) rfl
              refine xt_norm ?_
              refine wp_seq ?_
              refine wp_seq ?_
              refine wp_region_lit ?_
              refine st_run tbOk 2 hA (e' := (106, .bool ((stf ts id) == 1)) :: (105, .int .i64 (stf ts id)) :: _) rfl ?_; clear hA; intro a hA
              refine wpList_nil ?_
              replace hA := hA.sel [0, 5, 7, 8, 11, 106] (e' := [(0, .pointer (some ⟨bm, 0, none⟩)), (5, .pointer (some ⟨b1, 0, none⟩)), (7, .int .i64 id), (8, .int .i64 (stf ts id)), (11, .iface 53 (.int .i64 15)), (106, .bool ((stf ts id) == 1))]) rfl
              refine xt_norm ?_
              by_cases hc92 : stf ts id = 1
              · first
                | (exfalso; omega)
                | (replace hA := hA.rw 106 (v' := .bool true) rfl (vb_eq_t hc92)
                   refine cd_cond_t hA rfl ?_
                   refine wp_region_lit ?_
                   refine st_run tbOk 3 hA (e' := (109, .pointer (some ⟨b1, 2, none⟩)) :: (108, .int .i64 id) :: (107, .pointer (some ⟨bm, 0, none⟩)) :: _) rfl ?_; clear hA; intro a hA
                   refine st_val hA rfl rfl (by decide) (rn_load tbOk hA rfl rfl rfl rfl (cell_row (hS.heapAt 2 rfl) rfl)) ?_; clear hA; intro a hA
                   exfalso; omega)
              · first
                | (exfalso; omega)
                | (replace hA := hA.rw 106 (v' := .bool false) rfl (vb_eq_f hc92)
                   refine cd_cond_f hA rfl ?_
                   refine wp_skip ?_
                   refine xt_norm ?_
                   refine wp_seq ?_
                   refine wp_region_lit ?_
                   refine st_run tbOk 3 hA (e' := (114, .bool ((stf ts id) == 1)) :: (113, .int .i64 (stf ts id)) :: (112, .iface 53 (.int .i64 15)) :: _) rfl ?_; clear hA; intro a hA
                   replace hA := hA.rw 114 (v' := .bool false) rfl (vb_eq_f (by omega))
                   refine st_call0 hA rfl rfl rfl isfn17 rfl rfl (by decide) (told_no17 hS hg) ?_
                   clear hA hS; rintro v w93 a ⟨rfl, hS⟩ hA
                   refine st_run tbOk 1 hA (e' := (6, .bool true) :: _) rfl ?_; clear hA; intro a hA
                   refine wpList_nil ?_
                   replace hA := hA.sel [6] (e' := [(6, .bool true)]) rfl
                   refine xt_norm ?_
                   refine wp_ret (xb_ret (xt_ret ?_))
                   refine ret1 (fn := Tryd.f6) hA rfl rfl ?_
                   replace hS := hS.front 1 (C := L3) (L' := L89 :: [(b1, rowO [.int .u8 ((o : Nat) : Int), .int .i8 id, .int .i64 wi] 35)] :: F) rfl rfl
                   replace hS := hS.front 1 (C := L89) (L' := L3 :: [(b1, rowO [.int .u8 ((o : Nat) : Int), .int .i8 id, .int .i64 wi] 35)] :: F) rfl rfl
                   replace hS := hS.front 2 (C := [(b1, rowO [.int .u8 ((o : Nat) : Int), .int .i8 id, .int .i64 wi] 35)]) (L' := L89 :: L3 :: F) rfl rfl
                   replace hS := hS.drop1
                   exact ⟨ts, q, _, _, hM91, hM5, hI, (Dead.same _ _ _), rfl, hS⟩)
            · have hst := stf_hi (ts := ts) h1
              refine st_run tbOk 1 hA (e' := (102, .pointer (some ⟨b1, 2, none⟩)) :: _) rfl ?_; clear hA; intro a hA
              refine st_val hA rfl rfl (by decide) (rn_load tbOk hA rfl rfl rfl rfl (cell_row (hS.heapAt 1 rfl) rfl)) ?_; clear hA; intro a hA
              replace hS := hS.front 2 (C := L) (L' := L3 :: [(b1, rowO [.int .u8 ((o : Nat) : Int), .int .i8 id, .int .i64 wi] 35)] :: F) rfl rfl
              refine st_call0 hA rfl rfl rfl isfn12 rfl rfl (by decide) (block_hi12 hS hM id wi h1) ?_
              clear hA hS; rintro v w95 a ⟨L94, hM96, rfl, hS⟩ hA
              refine st_run tbOk 1 hA (e' := (11, .iface 53 (.int .i64 15)) :: _) rfl ?_; clear hA; intro a hA
              refine wpList_nil ?_
              replace hA := hA.sel [0, 5, 7, 8, 11] (e' := [(0, .pointer (some ⟨bm, 0, none⟩)), (5, .pointer (some ⟨b1, 0, none⟩)), (7, .int .i64 id), (8, .int .i64 (stf ts id)), (11, .iface 53 (.int .i64 15))]) rfl
              refine xt_norm ?_
              refine wp_seq ?_
              refine wp_seq ?_
              refine wp_region_lit ?_
              refine st_run tbOk 2 hA (e' := (106, .bool ((stf ts id) == 1)) :: (105, .int .i64 (stf ts id)) :: _) rfl ?_; clear hA; intro a hA
              refine wpList_nil ?_
              replace hA := hA.sel [0, 5, 7, 8, 11, 106] (e' := [(0, .pointer (some ⟨bm, 0, none⟩)), (5, .pointer (some ⟨b1, 0, none⟩)), (7, .int .i64 id), (8, .int .i64 (stf ts id)), (11, .iface 53 (.int .i64 15)), (106, .bool ((stf ts id) == 1))]) rfl
              refine xt_norm ?_
              by_cases hc97 : stf ts id = 1
              · first
                | (exfalso; omega)
                | (replace hA := hA.rw 106 (v' := .bool true) rfl (vb_eq_t hc97)
                   refine cd_cond_t hA rfl ?_
                   refine wp_region_lit ?_
                   refine st_run tbOk 3 hA (e' := (109, .pointer (some ⟨b1, 2, none⟩)) :: (108, .int .i64 id) :: (107, .pointer (some ⟨bm, 0, none⟩)) :: _) rfl ?_; clear hA; intro a hA
                   refine st_val hA rfl rfl (by decide) (rn_load tbOk hA rfl rfl rfl rfl (cell_row (hS.heapAt 2 rfl) rfl)) ?_; clear hA; intro a hA
                   exfalso; omega)
              · first
                | (exfalso; omega)
                | (replace hA := hA.rw 106 (v' := .bool false) rfl (vb_eq_f hc97)
                   refine cd_cond_f hA rfl ?_
                   refine wp_skip ?_
                   refine xt_norm ?_
                   refine wp_seq ?_
                   refine wp_region_lit ?_
                   refine st_run tbOk 3 hA (e' := (114, .bool ((stf ts id) == 1)) :: (113, .int .i64 (stf ts id)) :: (112, .iface 53 (.int .i64 15)) :: _) rfl ?_; clear hA; intro a hA
                   replace hA := hA.rw 114 (v' := .bool false) rfl (vb_eq_f (by omega))
                   refine st_call0 hA rfl rfl rfl isfn17 rfl rfl (by decide) (told_no17 hS hg) ?_
                   clear hA hS; rintro v w98 a ⟨rfl, hS⟩ hA
                   refine st_run tbOk 1 hA (e' := (6, .bool true) :: _) rfl ?_; clear hA; intro a hA
                   refine wpList_nil ?_
                   replace hA := hA.sel [6] (e' := [(6, .bool true)]) rfl
                   refine xt_norm ?_
                   refine wp_ret (xb_ret (xt_ret ?_))
                   refine ret1 (fn := Tryd.f6) hA rfl rfl ?_
                   replace hS := hS.front 1 (C := L3) (L' := L94 :: [(b1, rowO [.int .u8 ((o : Nat) : Int), .int .i8 id, .int .i64 wi] 35)] :: F) rfl rfl
                   replace hS := hS.front 1 (C := L94) (L' := L3 :: [(b1, rowO [.int .u8 ((o : Nat) : Int), .int .i8 id, .int .i64 wi] 35)] :: F) rfl rfl
                   replace hS := hS.front 2 (C := [(b1, rowO [.int .u8 ((o : Nat) : Int), .int .i8 id, .int .i64 wi] 35)]) (L' := L94 :: L3 :: F) rfl rfl
                   replace hS := hS.drop1
                   exact ⟨ts, q, _, _, hM96, hM5, hI, (Dead.same _ _ _), rfl, hS⟩)
            · obtain ⟨⟨p, s, u⟩, hx⟩ := get_ex (l := ts) (k := n) hn
              have hs3 : 1 ≤ s ∧ s ≤ 3 := hI.si _ (List.mem_of_getElem? hx)
              have hst : stf ts id = s := by rw [hid]; exact stf_in hx
              replace hA := hA.rw 7 (v' := .int .i64 ((n : Nat) : Int)) rfl (by rw [hid])
              replace hA := hA.rw 101 (v' := .int .i64 ((n : Nat) : Int)) rfl (by rw [hid])
              refine st_run tbOk 1 hA (e' := (102, .pointer (some ⟨b1, 2, none⟩)) :: _) rfl ?_; clear hA; intro a hA
              refine st_val hA rfl rfl (by decide) (rn_load tbOk hA rfl rfl rfl rfl (cell_row (hS.heapAt 1 rfl) rfl)) ?_; clear hA; intro a hA
              by_cases hs : s = 1
              · replace hS := hS.front 2 (C := L) (L' := L3 :: [(b1, rowO [.int .u8 ((o : Nat) : Int), .int .i8 id, .int .i64 wi] 35)] :: F) rfl rfl
                refine st_call0 hA rfl rfl rfl isfn12 rfl rfl (by decide) (block_ok12 hS hM n wi hx hs hql) ?_
                clear hA hS; rintro v w100 a ⟨L99, hM101, rfl, hS⟩ hA
                refine st_run tbOk 1 hA (e' := (11, .nilIface) :: _) rfl ?_; clear hA; intro a hA
                refine wpList_nil ?_
                replace hA := hA.sel [0, 5, 7, 8, 11] (e' := [(0, .pointer (some ⟨bm, 0, none⟩)), (5, .pointer (some ⟨b1, 0, none⟩)), (7, .int .i64 ((n : Nat) : Int)), (8, .int .i64 (stf ts id)), (11, .nilIface)]) rfl
                refine xt_norm ?_
                refine wp_seq ?_
                refine wp_seq ?_
                refine wp_region_lit ?_
                refine st_run tbOk 2 hA (e' := (106, .bool ((stf ts id) == 1)) :: (105, .int .i64 (stf ts id)) :: _) rfl ?_; clear hA; intro a hA
                refine wpList_nil ?_
                replace hA := hA.sel [0, 5, 7, 8, 11, 106] (e' := [(0, .pointer (some ⟨bm, 0, none⟩)), (5, .pointer (some ⟨b1, 0, none⟩)), (7, .int .i64 ((n : Nat) : Int)), (8, .int .i64 (stf ts id)), (11, .nilIface), (106, .bool ((stf ts id) == 1))]) rfl
                refine xt_norm ?_
                by_cases hc102 : stf ts id = 1
                · first
                  | (exfalso; omega)
                  | (replace hA := hA.rw 106 (v' := .bool true) rfl (vb_eq_t hc102)
                     refine cd_cond_t hA rfl ?_
                     refine wp_region_lit ?_
                     refine st_run tbOk 3 hA (e' := (109, .pointer (some ⟨b1, 2, none⟩)) :: (108, .int .i64 ((n : Nat) : Int)) :: (107, .pointer (some ⟨bm, 0, none⟩)) :: _) rfl ?_; clear hA; intro a hA
                     refine st_val hA rfl rfl (by decide) (rn_load tbOk hA rfl rfl rfl rfl (cell_row (hS.heapAt 2 rfl) rfl)) ?_; clear hA; intro a hA
                     replace hS := hS.front 1 (C := L3) (L' := L99 :: [(b1, rowO [.int .u8 ((o : Nat) : Int), .int .i8 id, .int .i64 wi] 35)] :: F) rfl rfl
                     refine st_call0 hA rfl rfl rfl isfn16 rfl rfl (by decide) (mturn_ok16 hS hM5 n 2 wi hx hql (by decide)) ?_
                     clear hA hS; rintro v w104 a ⟨L103, hM105, rfl, hS⟩ hA
                     refine wpList_nil ?_
                     replace hA := hA.sel [8, 11] (e' := [(8, .int .i64 (stf ts id)), (11, .nilIface)]) rfl
                     refine xt_norm ?_
                     refine wp_seq ?_
                     refine wp_region_lit ?_
                     refine st_run tbOk 3 hA (e' := (114, .bool ((stf ts id) == 1)) :: (113, .int .i64 (stf ts id)) :: (112, .nilIface) :: _) rfl ?_; clear hA; intro a hA
                     replace hA := hA.rw 114 (v' := .bool true) rfl (vb_eq_t (by omega))
                     refine st_call0 hA rfl rfl rfl isfn17 rfl rfl (by decide) (told_yes17 hS hg) ?_
                     clear hA hS; rintro v w106 a ⟨rfl, hS⟩ hA
                     refine st_run tbOk 1 hA (e' := (6, .bool true) :: _) rfl ?_; clear hA; intro a hA
                     refine wpList_nil ?_
                     replace hA := hA.sel [6] (e' := [(6, .bool true)]) rfl
                     refine xt_norm ?_
                     refine wp_ret (xb_ret (xt_ret ?_))
                     refine ret1 (fn := Tryd.f6) hA rfl rfl ?_
                     replace hS := hS.front 1 (C := L99) (L' := L103 :: [(b1, rowO [.int .u8 ((o : Nat) : Int), .int .i8 id, .int .i64 wi] 35)] :: F) rfl rfl
                     replace hS := hS.front 2 (C := [(b1, rowO [.int .u8 ((o : Nat) : Int), .int .i8 id, .int .i64 wi] 35)]) (L' := L99 :: L103 :: F) rfl rfl
                     replace hS := hS.drop1
                     exact ⟨ts.set n (p, 2, wi), q.filter (fun x => !(x == ((n : Nat) : Int))), _, _, hM101, hM105, (hI.filt n _ ⟨by simp, by simp⟩), (Dead.not hx (by omega) _ _), rfl, hS⟩)
                · first
                  | (exfalso; omega)
                  | (replace hA := hA.rw 106 (v' := .bool false) rfl (vb_eq_f hc102)
                     refine cd_cond_f hA rfl ?_
                     refine wp_skip ?_
                     refine xt_norm ?_
                     refine wp_seq ?_
                     refine wp_region_lit ?_
                     refine st_run tbOk 3 hA (e' := (114, .bool ((stf ts id) == 1)) :: (113, .int .i64 (stf ts id)) :: (112, .nilIface) :: _) rfl ?_; clear hA; intro a hA
                     replace hA := hA.rw 114 (v' := .bool true) rfl (vb_eq_t (by omega))
                     refine st_call0 hA rfl rfl rfl isfn17 rfl rfl (by decide) (told_yes17 hS hg) ?_
                     clear hA hS; rintro v w107 a ⟨rfl, hS⟩ hA
                     refine st_run tbOk 1 hA (e' := (6, .bool true) :: _) rfl ?_; clear hA; intro a hA
                     refine wpList_nil ?_
                     replace hA := hA.sel [6] (e' := [(6, .bool true)]) rfl
                     refine xt_norm ?_
                     refine wp_ret (xb_ret (xt_ret ?_))
                     refine ret1 (fn := Tryd.f6) hA rfl rfl ?_
                     replace hS := hS.front 1 (C := L3) (L' := L99 :: [(b1, rowO [.int .u8 ((o : Nat) : Int), .int .i8 id, .int .i64 wi] 35)] :: F) rfl rfl
                     replace hS := hS.front 1 (C := L99) (L' := L3 :: [(b1, rowO [.int .u8 ((o : Nat) : Int), .int .i8 id, .int .i64 wi] 35)] :: F) rfl rfl
                     replace hS := hS.front 2 (C := [(b1, rowO [.int .u8 ((o : Nat) : Int), .int .i8 id, .int .i64 wi] 35)]) (L' := L99 :: L3 :: F) rfl rfl
                     replace hS := hS.drop1
                     exact ⟨ts.set n (p, 2, wi), q.filter (fun x => !(x == ((n : Nat) : Int))), _, _, hM101, hM5, (hI.filt n _ ⟨by simp, by simp⟩), (Dead.not hx (by omega) _ _), rfl, hS⟩)
              · replace hS := hS.front 2 (C := L) (L' := L3 :: [(b1, rowO [.int .u8 ((o : Nat) : Int), .int .i8 id, .int .i64 wi] 35)] :: F) rfl rfl
                refine st_call0 hA rfl rfl rfl isfn12 rfl rfl (by decide) (block_no12 hS hM n wi hx hs) ?_
                clear hA hS; rintro v w109 a ⟨L108, hM110, rfl, hS⟩ hA
                refine st_run tbOk 1 hA (e' := (11, .iface 53 (.int .i64 15)) :: _) rfl ?_; clear hA; intro a hA
                refine wpList_nil ?_
                replace hA := hA.sel [0, 5, 7, 8, 11] (e' := [(0, .pointer (some ⟨bm, 0, none⟩)), (5, .pointer (some ⟨b1, 0, none⟩)), (7, .int .i64 ((n : Nat) : Int)), (8, .int .i64 (stf ts id)), (11, .iface 53 (.int .i64 15))]) rfl
                refine xt_norm ?_
                refine wp_seq ?_
                refine wp_seq ?_
                refine wp_region_lit ?_
                refine st_run tbOk 2 hA (e' := (106, .bool ((stf ts id) == 1)) :: (105, .int .i64 (stf ts id)) :: _) rfl ?_; clear hA; intro a hA
                refine wpList_nil ?_
                replace hA := hA.sel [0, 5, 7, 8, 11, 106] (e' := [(0, .pointer (some ⟨bm, 0, none⟩)), (5, .pointer (some ⟨b1, 0, none⟩)), (7, .int .i64 ((n : Nat) : Int)), (8, .int .i64 (stf ts id)), (11, .iface 53 (.int .i64 15)), (106, .bool ((stf ts id) == 1))]) rfl
                refine xt_norm ?_
                by_cases hc111 : stf ts id = 1
                · first
                  | (exfalso; omega)
                  | (replace hA := hA.rw 106 (v' := .bool true) rfl (vb_eq_t hc111)
                     refine cd_cond_t hA rfl ?_
                     refine wp_region_lit ?_
                     refine st_run tbOk 3 hA (e' := (109, .pointer (some ⟨b1, 2, none⟩)) :: (108, .int .i64 ((n : Nat) : Int)) :: (107, .pointer (some ⟨bm, 0, none⟩)) :: _) rfl ?_; clear hA; intro a hA
                     refine st_val hA rfl rfl (by decide) (rn_load tbOk hA rfl rfl rfl rfl (cell_row (hS.heapAt 2 rfl) rfl)) ?_; clear hA; intro a hA
                     exfalso; omega)
                · first
                  | (exfalso; omega)
                  | (replace hA := hA.rw 106 (v' := .bool false) rfl (vb_eq_f hc111)
                     refine cd_cond_f hA rfl ?_
                     refine wp_skip ?_
                     refine xt_norm ?_
                     refine wp_seq ?_
                     refine wp_region_lit ?_
                     refine st_run tbOk 3 hA (e' := (114, .bool ((stf ts id) == 1)) :: (113, .int .i64 (stf ts id)) :: (112, .iface 53 (.int .i64 15)) :: _) rfl ?_; clear hA; intro a hA
                     replace hA := hA.rw 114 (v' := .bool false) rfl (vb_eq_f (by omega))
                     refine st_call0 hA rfl rfl rfl isfn17 rfl rfl (by decide) (told_no17 hS hg) ?_
                     clear hA hS; rintro v w112 a ⟨rfl, hS⟩ hA
                     refine st_run tbOk 1 hA (e' := (6, .bool true) :: _) rfl ?_; clear hA; intro a hA
                     refine wpList_nil ?_
                     replace hA := hA.sel [6] (e' := [(6, .bool true)]) rfl
                     refine xt_norm ?_
                     refine wp_ret (xb_ret (xt_ret ?_))
                     refine ret1 (fn := Tryd.f6) hA rfl rfl ?_
                     replace hS := hS.front 1 (C := L3) (L' := L108 :: [(b1, rowO [.int .u8 ((o : Nat) : Int), .int .i8 id, .int .i64 wi] 35)] :: F) rfl rfl
                     replace hS := hS.front 1 (C := L108) (L' := L3 :: [(b1, rowO [.int .u8 ((o : Nat) : Int), .int .i8 id, .int .i64 wi] 35)] :: F) rfl rfl
                     replace hS := hS.front 2 (C := [(b1, rowO [.int .u8 ((o : Nat) : Int), .int .i8 id, .int .i64 wi] 35)]) (L' := L108 :: L3 :: F) rfl rfl
                     replace hS := hS.drop1
                     exact ⟨ts, q, _, _, hM110, hM5, hI, (Dead.same _ _ _), rfl, hS⟩))
       · first
         | (exfalso; omega)
         | (replace hA := hA.rw 98 (v' := .bool false) rfl (vb_eq_f hc88)
            refine cd_cond_f hA rfl ?_
            refine wp_seq ?_
            refine wp_region_lit ?_
            refine st_run tbOk 2 hA (e' := (116, .bool (((o % 6 : Nat) : Int) == 2)) :: (117, .bool (((o % 6 : Nat) : Int) == 2)) :: _) rfl ?_; clear hA; intro a hA
            refine wpList_nil ?_
            replace hA := hA.sel [0, 1, 5, 7, 8, 29, 116] (e' := [(0, .pointer (some ⟨bm, 0, none⟩)), (1, .pointer (some ⟨b, 0, none⟩)), (5, .pointer (some ⟨b1, 0, none⟩)), (7, .int .i64 id), (8, .int .i64 (stf ts id)), (29, .int .u8 ((o % 6 : Nat) : Int)), (116, .bool (((o % 6 : Nat) : Int) == 2))]) rfl
            refine xt_norm ?_
            by_cases hc113 : ((o % 6 : Nat) : Int) = 2
            · first
              | (exfalso; omega)
              | (replace hA := hA.rw 116 (v' := .bool true) rfl (vb_eq_t hc113)
                 refine cd_cond_t hA rfl ?_
                 refine wp_seq ?_
                 refine wp_region_lit ?_
                 refine st_run tbOk 1 hA (e' := (118, .pointer (some ⟨b, 0, none⟩)) :: _) rfl ?_; clear hA; intro a hA
                 rcases idcases id ts.length with h1 | h1 | ⟨n, hid, hn⟩
                 · have hst := stf_lo (ts := ts) h1
                   refine st_run tbOk 1 hA (e' := (119, .int .i64 id) :: _) rfl ?_; clear hA; intro a hA
                   replace hS := hS.front 2 (C := L) (L' := L3 :: [(b1, rowO [.int .u8 ((o : Nat) : Int), .int .i8 id, .int .i64 wi] 35)] :: F) rfl rfl
                   refine st_call0 hA rfl rfl rfl isfn18 rfl rfl (by decide) (wake_lo18 hS hM id h1) ?_
                   clear hA hS; rintro v w115 a ⟨L114, hM116, rfl, hS⟩ hA
                   refine st_run tbOk 1 hA (e' := (12, .iface 53 (.int .i64 15)) :: _) rfl ?_; clear hA; intro a hA
                   refine wpList_nil ?_
                   replace hA := hA.sel [0, 7, 8, 12] (e' := [(0, .pointer (some ⟨bm, 0, none⟩)), (7, .int .i64 id), (8, .int .i64 (stf ts id)), (12, .iface 53 (.int .i64 15))]) rfl
                   refine xt_norm ?_
                   refine wp_seq ?_
                   refine wp_seq ?_
                   refine wp_region_lit ?_
                   refine st_run tbOk 2 hA (e' := (122, .bool ((stf ts id) == 2)) :: (121, .int .i64 (stf ts id)) :: _) rfl ?_; clear hA; intro a hA
                   refine wpList_nil ?_
                   replace hA := hA.sel [0, 7, 8, 12, 122] (e' := [(0, .pointer (some ⟨bm, 0, none⟩)), (7, .int .i64 id), (8, .int .i64 (stf ts id)), (12, .iface 53 (.int .i64 15)), (122, .bool ((stf ts id) == 2))]) rfl
                   refine xt_norm ?_
                   by_cases hc117 : stf ts id = 2
                   · first
                     | (exfalso; omega)
                     | (replace hA := hA.rw 122 (v' := .bool true) rfl (vb_eq_t hc117)
                        refine cd_cond_t hA rfl ?_
                        refine wp_region_lit ?_
                        refine st_run tbOk 2 hA (e' := (124, .int .i64 id) :: (123, .pointer (some ⟨bm, 0, none⟩)) :: _) rfl ?_; clear hA; intro a hA
                        exfalso; omega)
                   · first
                     | (exfalso; omega)
                     | (replace hA := hA.rw 122 (v' := .bool false) rfl (vb_eq_f hc117)
                        refine cd_cond_f hA rfl ?_
                        refine wp_skip ?_
                        refine xt_norm ?_
                        refine wp_seq ?_
                        refine wp_region_lit ?_
                        refine st_run tbOk 3 hA (e' := (128, .bool ((stf ts id) == 2)) :: (127, .int .i64 (stf ts id)) :: (126, .iface 53 (.int .i64 15)) :: _) rfl ?_; clear hA; intro a hA
                        replace hA := hA.rw 128 (v' := .bool false) rfl (vb_eq_f (by omega))
                        refine st_call0 hA rfl rfl rfl isfn17 rfl rfl (by decide) (told_no17 hS hg) ?_
                        clear hA hS; rintro v w118 a ⟨rfl, hS⟩ hA
                        refine st_run tbOk 1 hA (e' := (6, .bool true) :: _) rfl ?_; clear hA; intro a hA
                        refine wpList_nil ?_
                        replace hA := hA.sel [6] (e' := [(6, .bool true)]) rfl
                        refine xt_norm ?_
                        refine wp_ret (xb_ret (xt_ret ?_))
                        refine ret1 (fn := Tryd.f6) hA rfl rfl ?_
                        replace hS := hS.front 1 (C := L3) (L' := L114 :: [(b1, rowO [.int .u8 ((o : Nat) : Int), .int .i8 id, .int .i64 wi] 35)] :: F) rfl rfl
                        replace hS := hS.front 1 (C := L114) (L' := L3 :: [(b1, rowO [.int .u8 ((o : Nat) : Int), .int .i8 id, .int .i64 wi] 35)] :: F) rfl rfl
                        replace hS := hS.front 2 (C := [(b1, rowO [.int .u8 ((o : Nat) : Int), .int .i8 id, .int .i64 wi] 35)]) (L' := L114 :: L3 :: F) rfl rfl
                        replace hS := hS.drop1
                        exact ⟨ts, q, _, _, hM116, hM5, hI, (Dead.same _ _ _), rfl, hS⟩)
                 · have hst := stf_hi (ts := ts) h1
                   refine st_run tbOk 1 hA (e' := (119, .int .i64 id) :: _) rfl ?_; clear hA; intro a hA
                   replace hS := hS.front 2 (C := L) (L' := L3 :: [(b1, rowO [.int .u8 ((o : Nat) : Int), .int .i8 id, .int .i64 wi] 35)] :: F) rfl rfl
                   refine st_call0 hA rfl rfl rfl isfn18 rfl rfl (by decide) (wake_hi18 hS hM id h1) ?_
                   clear hA hS; rintro v w120 a ⟨L119, hM121, rfl, hS⟩ hA
                   refine st_run tbOk 1 hA (e' := (12, .iface 53 (.int .i64 15)) :: _) rfl ?_; clear hA; intro a hA
                   refine wpList_nil ?_
                   replace hA := hA.sel [0, 7, 8, 12] (e' := [(0, .pointer (some ⟨bm, 0, none⟩)), (7, .int .i64 id), (8, .int .i64 (stf ts id)), (12, .iface 53 (.int .i64 15))]) rfl
                   refine xt_norm ?_
                   refine wp_seq ?_
                   refine wp_seq ?_
                   refine wp_region_lit ?_
                   refine st_run tbOk 2 hA (e' := (122, .bool ((stf ts id) == 2)) :: (121, .int .i64 (stf ts id)) :: _) rfl ?_; clear hA; intro a hA
                   refine wpList_nil ?_
                   replace hA := hA.sel [0, 7, 8, 12, 122] (e' := [(0, .pointer (some ⟨bm, 0, none⟩)), (7, .int .i64 id), (8, .int .i64 (stf ts id)), (12, .iface 53 (.int .i64 15)), (122, .bool ((stf ts id) == 2))]) rfl
                   refine xt_norm ?_
                   by_cases hc122 : stf ts id = 2
                   · first
                     | (exfalso; omega)
                     | (replace hA := hA.rw 122 (v' := .bool true) rfl (vb_eq_t hc122)
                        refine cd_cond_t hA rfl ?_
                        refine wp_region_lit ?_
                        refine st_run tbOk 2 hA (e' := (124, .int .i64 id) :: (123, .pointer (some ⟨bm, 0, none⟩)) :: _) rfl ?_; clear hA; intro a hA
                        exfalso; omega)
                   · first
                     | (exfalso; omega)
                     | (replace hA := hA.rw 122 (v' := .bool false) rfl (vb_eq_f hc122)
                        refine cd_cond_f hA rfl ?_
                        refine wp_skip ?_
                        refine xt_norm ?_
                        refine wp_seq ?_
                        refine wp_region_lit ?_
                        refine st_run tbOk 3 hA (e' := (128, .bool ((stf ts id) == 2)) :: (127, .int .i64 (stf ts id)) :: (126, .iface 53 (.int .i64 15)) :: _) rfl ?_; clear hA; intro a hA
                        replace hA := hA.rw 128 (v' := .bool false) rfl (vb_eq_f (by omega))
                        refine st_call0 hA rfl rfl rfl isfn17 rfl rfl (by decide) (told_no17 hS hg) ?_
                        clear hA hS; rintro v w123 a ⟨rfl, hS⟩ hA
                        refine st_run tbOk 1 hA (e' := (6, .bool true) :: _) rfl ?_; clear hA; intro a hA
                        refine wpList_nil ?_
                        replace hA := hA.sel [6] (e' := [(6, .bool true)]) rfl
                        refine xt_norm ?_
                        refine wp_ret (xb_ret (xt_ret ?_))
                        refine ret1 (fn := Tryd.f6) hA rfl rfl ?_
                        replace hS := hS.front 1 (C := L3) (L' := L119 :: [(b1, rowO [.int .u8 ((o : Nat) : Int), .int .i8 id, .int .i64 wi] 35)] :: F) rfl rfl
                        replace hS := hS.front 1 (C := L119) (L' := L3 :: [(b1, rowO [.int .u8 ((o : Nat) : Int), .int .i8 id, .int .i64 wi] 35)] :: F) rfl rfl
                        replace hS := hS.front 2 (C := [(b1, rowO [.int .u8 ((o : Nat) : Int), .int .i8 id, .int .i64 wi] 35)]) (L' := L119 :: L3 :: F) rfl rfl
                        replace hS := hS.drop1
                        exact ⟨ts, q, _, _, hM121, hM5, hI, (Dead.same _ _ _), rfl, hS⟩)
                 · obtain ⟨⟨p, s, u⟩, hx⟩ := get_ex (l := ts) (k := n) hn
                   have hs3 : 1 ≤ s ∧ s ≤ 3 := hI.si _ (List.mem_of_getElem? hx)
                   have hst : stf ts id = s := by rw [hid]; exact stf_in hx
                   replace hA := hA.rw 7 (v' := .int .i64 ((n : Nat) : Int)) rfl (by rw [hid])
                   refine st_run tbOk 1 hA (e' := (119, .int .i64 ((n : Nat) : Int)) :: _) rfl ?_; clear hA; intro a hA
                   by_cases hs : s = 2
                   · replace hS := hS.front 2 (C := L) (L' := L3 :: [(b1, rowO [.int .u8 ((o : Nat) : Int), .int .i8 id, .int .i64 wi] 35)] :: F) rfl rfl
                     refine st_call0 hA rfl rfl rfl isfn18 rfl rfl (by decide) (wake_ok18 hS hM n hx hs hql (hT.room hn)) ?_
                     clear hA hS; rintro v w125 a ⟨L124, hM126, rfl, hS⟩ hA
                     refine st_run tbOk 1 hA (e' := (12, .nilIface) :: _) rfl ?_; clear hA; intro a hA
                     refine wpList_nil ?_
                     replace hA := hA.sel [0, 7, 8, 12] (e' := [(0, .pointer (some ⟨bm, 0, none⟩)), (7, .int .i64 ((n : Nat) : Int)), (8, .int .i64 (stf ts id)), (12, .nilIface)]) rfl
                     refine xt_norm ?_
                     refine wp_seq ?_
                     refine wp_seq ?_
                     refine wp_region_lit ?_
                     refine st_run tbOk 2 hA (e' := (122, .bool ((stf ts id) == 2)) :: (121, .int .i64 (stf ts id)) :: _) rfl ?_; clear hA; intro a hA
                     refine wpList_nil ?_
                     replace hA := hA.sel [0, 7, 8, 12, 122] (e' := [(0, .pointer (some ⟨bm, 0, none⟩)), (7, .int .i64 ((n : Nat) : Int)), (8, .int .i64 (stf ts id)), (12, .nilIface), (122, .bool ((stf ts id) == 2))]) rfl
                     refine xt_norm ?_
                     by_cases hc127 : stf ts id = 2
                     · first
                       | (exfalso; omega)
                       | (replace hA := hA.rw 122 (v' := .bool true) rfl (vb_eq_t hc127)
                          refine cd_cond_t hA rfl ?_
                          refine wp_region_lit ?_
                          refine st_run tbOk 2 hA (e' := (124, .int .i64 ((n : Nat) : Int)) :: (123, .pointer (some ⟨bm, 0, none⟩)) :: _) rfl ?_; clear hA; intro a hA
                          replace hS := hS.front 1 (C := L3) (L' := L124 :: [(b1, rowO [.int .u8 ((o : Nat) : Int), .int .i8 id, .int .i64 wi] 35)] :: F) rfl rfl
                          refine st_call0 hA rfl rfl rfl isfn16 rfl rfl (by decide) (mturn_rdy16 hS hM5 n 1 0 hx hql (by decide)) ?_
                          clear hA hS; rintro v w129 a ⟨L128, hM130, rfl, hS⟩ hA
                          refine wpList_nil ?_
                          replace hA := hA.sel [8, 12] (e' := [(8, .int .i64 (stf ts id)), (12, .nilIface)]) rfl
                          refine xt_norm ?_
                          refine wp_seq ?_
                          refine wp_region_lit ?_
                          refine st_run tbOk 3 hA (e' := (128, .bool ((stf ts id) == 2)) :: (127, .int .i64 (stf ts id)) :: (126, .nilIface) :: _) rfl ?_; clear hA; intro a hA
                          replace hA := hA.rw 128 (v' := .bool true) rfl (vb_eq_t (by omega))
                          refine st_call0 hA rfl rfl rfl isfn17 rfl rfl (by decide) (told_yes17 hS hg) ?_
                          clear hA hS; rintro v w131 a ⟨rfl, hS⟩ hA
                          refine st_run tbOk 1 hA (e' := (6, .bool true) :: _) rfl ?_; clear hA; intro a hA
                          refine wpList_nil ?_
                          replace hA := hA.sel [6] (e' := [(6, .bool true)]) rfl
                          refine xt_norm ?_
                          refine wp_ret (xb_ret (xt_ret ?_))
                          refine ret1 (fn := Tryd.f6) hA rfl rfl ?_
                          replace hS := hS.front 1 (C := L124) (L' := L128 :: [(b1, rowO [.int .u8 ((o : Nat) : Int), .int .i8 id, .int .i64 wi] 35)] :: F) rfl rfl
                          replace hS := hS.front 2 (C := [(b1, rowO [.int .u8 ((o : Nat) : Int), .int .i8 id, .int .i64 wi] 35)]) (L' := L124 :: L128 :: F) rfl rfl
                          replace hS := hS.drop1
                          exact ⟨ts.set n (p, 1, 0), q.filter (fun x => !(x == ((n : Nat) : Int))) ++ [((n : Nat) : Int)], _, _, hM126, hM130, (hI.push hn p), (Dead.not hx (by omega) _ _), rfl, hS⟩)
                     · first
                       | (exfalso; omega)
                       | (replace hA := hA.rw 122 (v' := .bool false) rfl (vb_eq_f hc127)
                          refine cd_cond_f hA rfl ?_
                          refine wp_skip ?_
                          refine xt_norm ?_
                          refine wp_seq ?_
                          refine wp_region_lit ?_
                          refine st_run tbOk 3 hA (e' := (128, .bool ((stf ts id) == 2)) :: (127, .int .i64 (stf ts id)) :: (126, .nilIface) :: _) rfl ?_; clear hA; intro a hA
                          replace hA := hA.rw 128 (v' := .bool true) rfl (vb_eq_t (by omega))
                          refine st_call0 hA rfl rfl rfl isfn17 rfl rfl (by decide) (told_yes17 hS hg) ?_
                          clear hA hS; rintro v w132 a ⟨rfl, hS⟩ hA
                          refine st_run tbOk 1 hA (e' := (6, .bool true) :: _) rfl ?_; clear hA; intro a hA
                          refine wpList_nil ?_
                          replace hA := hA.sel [6] (e' := [(6, .bool true)]) rfl
                          refine xt_norm ?_
                          refine wp_ret (xb_ret (xt_ret ?_))
                          refine ret1 (fn := Tryd.f6) hA rfl rfl ?_
                          replace hS := hS.front 1 (C := L3) (L' := L124 :: [(b1, rowO [.int .u8 ((o : Nat) : Int), .int .i8 id, .int .i64 wi] 35)] :: F) rfl rfl
                          replace hS := hS.front 1 (C := L124) (L' := L3 :: [(b1, rowO [.int .u8 ((o : Nat) : Int), .int .i8 id, .int .i64 wi] 35)] :: F) rfl rfl
                          replace hS := hS.front 2 (C := [(b1, rowO [.int .u8 ((o : Nat) : Int), .int .i8 id, .int .i64 wi] 35)]) (L' := L124 :: L3 :: F) rfl rfl
                          replace hS := hS.drop1
                          exact ⟨ts.set n (p, 1, 0), q.filter (fun x => !(x == ((n : Nat) : Int))) ++ [((n : Nat) : Int)], _, _, hM126, hM5, (hI.push hn p), (Dead.not hx (by omega) _ _), rfl, hS⟩)
                   · replace hS := hS.front 2 (C := L) (L' := L3 :: [(b1, rowO [.int .u8 ((o : Nat) : Int), .int .i8 id, .int .i64 wi] 35)] :: F) rfl rfl
                     refine st_call0 hA rfl rfl rfl isfn18 rfl rfl (by decide) (wake_no18 hS hM n hx hs) ?_
                     clear hA hS; rintro v w134 a ⟨L133, hM135, rfl, hS⟩ hA
                     refine st_run tbOk 1 hA (e' := (12, .iface 53 (.int .i64 15)) :: _) rfl ?_; clear hA; intro a hA
                     refine wpList_nil ?_
                     replace hA := hA.sel [0, 7, 8, 12] (e' := [(0, .pointer (some ⟨bm, 0, none⟩)), (7, .int .i64 ((n : Nat) : Int)), (8, .int .i64 (stf ts id)), (12, .iface 53 (.int .i64 15))]) rfl
                     refine xt_norm ?_
                     refine wp_seq ?_
                     refine wp_seq ?_
                     refine wp_region_lit ?_
                     refine st_run tbOk 2 hA (e' := (122, .bool ((stf ts id) == 2)) :: (121, .int .i64 (stf ts id)) :: _) rfl ?_; clear hA; intro a hA
                     refine wpList_nil ?_
                     replace hA := hA.sel [0, 7, 8, 12, 122] (e' := [(0, .pointer (some ⟨bm, 0, none⟩)), (7, .int .i64 ((n : Nat) : Int)), (8, .int .i64 (stf ts id)), (12, .iface 53 (.int .i64 15)), (122, .bool ((stf ts id) == 2))]) rfl
                     refine xt_norm ?_
                     by_cases hc136 : stf ts id = 2
                     · first
                       | (exfalso; omega)
                       | (replace hA := hA.rw 122 (v' := .bool true) rfl (vb_eq_t hc136)
                          refine cd_cond_t hA rfl ?_
                          refine wp_region_lit ?_
                          refine st_run tbOk 2 hA (e' := (124, .int .i64 ((n : Nat) : Int)) :: (123, .pointer (some ⟨bm, 0, none⟩)) :: _) rfl ?_; clear hA; intro a hA
                          exfalso; omega)
                     · first
                       | (exfalso; omega)
                       | (replace hA := hA.rw 122 (v' := .bool false) rfl (vb_eq_f hc136)
                          refine cd_cond_f hA rfl ?_
                          refine wp_skip ?_
                          refine xt_norm ?_
                          refine wp_seq ?_
                          refine wp_region_lit ?_
                          refine st_run tbOk 3 hA (e' := (128, .bool ((stf ts id) == 2)) :: (127, .int .i64 (stf ts id)) :: (126, .iface 53 (.int .i64 15)) :: _) rfl ?_; clear hA; intro a hA
                          replace hA := hA.rw 128 (v' := .bool false) rfl (vb_eq_f (by omega))
                          refine st_call0 hA rfl rfl rfl isfn17 rfl rfl (by decide) (told_no17 hS hg) ?_
                          clear hA hS; rintro v w137 a ⟨rfl, hS⟩ hA
                          refine st_run tbOk 1 hA (e' := (6, .bool true) :: _) rfl ?_; clear hA; intro a hA
                          refine wpList_nil ?_
                          replace hA := hA.sel [6] (e' := [(6, .bool true)]) rfl
                          refine xt_norm ?_
                          refine wp_ret (xb_ret (xt_ret ?_))
                          refine ret1 (fn := Tryd.f6) hA rfl rfl ?_
                          replace hS := hS.front 1 (C := L3) (L' := L133 :: [(b1, rowO [.int .u8 ((o : Nat) : Int), .int .i8 id, .int .i64 wi] 35)] :: F) rfl rfl
                          replace hS := hS.front 1 (C := L133) (L' := L3 :: [(b1, rowO [.int .u8 ((o : Nat) : Int), .int .i8 id, .int .i64 wi] 35)] :: F) rfl rfl
                          replace hS := hS.front 2 (C := [(b1, rowO [.int .u8 ((o : Nat) : Int), .int .i8 id, .int .i64 wi] 35)]) (L' := L133 :: L3 :: F) rfl rfl
                          replace hS := hS.drop1
                          exact ⟨ts, q, _, _, hM135, hM5, hI, (Dead.same _ _ _), rfl, hS⟩))
            · first
              | (exfalso; omega)
              | (replace hA := hA.rw 116 (v' := .bool false) rfl (vb_eq_f hc113)
                 refine cd_cond_f hA rfl ?_
                 refine wp_seq ?_
                 refine wp_region_lit ?_
                 refine st_run tbOk 2 hA (e' := (130, .bool (((o % 6 : Nat) : Int) == 3)) :: (131, .bool (((o % 6 : Nat) : Int) == 3)) :: _) rfl ?_; clear hA; intro a hA
                 refine wpList_nil ?_
                 replace hA := hA.sel [0, 1, 5, 7, 8, 29, 130] (e' := [(0, .pointer (some ⟨bm, 0, none⟩)), (1, .pointer (some ⟨b, 0, none⟩)), (5, .pointer (some ⟨b1, 0, none⟩)), (7, .int .i64 id), (8, .int .i64 (stf ts id)), (29, .int .u8 ((o % 6 : Nat) : Int)), (130, .bool (((o % 6 : Nat) : Int) == 3))]) rfl
                 refine xt_norm ?_
                 by_cases hc138 : ((o % 6 : Nat) : Int) = 3
                 · first
                   | (exfalso; omega)
                   | (replace hA := hA.rw 130 (v' := .bool true) rfl (vb_eq_t hc138)
                      refine cd_cond_t hA rfl ?_
                      refine wp_seq ?_
                      refine wp_region_lit ?_
                      refine st_run tbOk 1 hA (e' := (132, .pointer (some ⟨b, 0, none⟩)) :: _) rfl ?_; clear hA; intro a hA
                      rcases idcases id ts.length with h1 | h1 | ⟨n, hid, hn⟩
                      · have hst := stf_lo (ts := ts) h1
                        refine st_run tbOk 1 hA (e' := (133, .int .i64 id) :: _) rfl ?_; clear hA; intro a hA
                        replace hS := hS.front 2 (C := L) (L' := L3 :: [(b1, rowO [.int .u8 ((o : Nat) : Int), .int .i8 id, .int .i64 wi] 35)] :: F) rfl rfl
                        refine st_call0 hA rfl rfl rfl isfn11 rfl rfl (by decide) (exit_lo11 hS hM id h1) ?_
                        clear hA hS; rintro v w140 a ⟨L139, hM141, rfl, hS⟩ hA
                        refine st_run tbOk 1 hA (e' := (13, .iface 53 (.int .i64 15)) :: _) rfl ?_; clear hA; intro a hA
                        refine wpList_nil ?_
                        replace hA := hA.sel [0, 7, 8, 13] (e' := [(0, .pointer (some ⟨bm, 0, none⟩)), (7, .int .i64 id), (8, .int .i64 (stf ts id)), (13, .iface 53 (.int .i64 15))]) rfl
                        refine xt_norm ?_
                        refine wp_seq ?_
                        refine wp_region_lit ?_
                        refine st_run tbOk 3 hA (e' := (137, .bool ((stf ts id) == 1)) :: (136, .bool ((stf ts id) == 1)) :: (135, .int .i64 (stf ts id)) :: _) rfl ?_; clear hA; intro a hA
                        by_cases hc142 : stf ts id = 1
                        · first
                          | (exfalso; omega)
                          | (replace hA := hA.rw 136 (v' := .bool true) rfl (vb_eq_t hc142)
                             replace hA := hA.rw 137 (v' := .bool true) rfl (vb_eq_t hc142)
                             refine st_run tbOk 4 hA (e' := (14, .bool true) :: (140, .bool true) :: (139, undef) :: (138, undef) :: _) rfl ?_; clear hA; intro a hA
                             refine wpList_nil ?_
                             replace hA := hA.sel [0, 7, 13, 14] (e' := [(0, .pointer (some ⟨bm, 0, none⟩)), (7, .int .i64 id), (13, .iface 53 (.int .i64 15)), (14, .bool true)]) rfl
                             refine xt_norm ?_
                             refine wp_seq ?_
                             refine wp_seq ?_
                             refine wp_region_lit ?_
                             refine st_run tbOk 1 hA (e' := (141, .bool true) :: _) rfl ?_; clear hA; intro a hA
                             refine wpList_nil ?_
                             refine xt_norm ?_
                             refine cd_cond_t hA rfl ?_
                             refine wp_region_lit ?_
                             refine st_run tbOk 2 hA (e' := (143, .int .i64 id) :: (142, .pointer (some ⟨bm, 0, none⟩)) :: _) rfl ?_; clear hA; intro a hA
                             exfalso; omega)
                        · first
                          | (exfalso; omega)
                          | (replace hA := hA.rw 136 (v' := .bool false) rfl (vb_eq_f hc142)
                             replace hA := hA.rw 137 (v' := .bool false) rfl (vb_eq_f hc142)
                             refine st_run tbOk 4 hA (e' := (14, .bool ((stf ts id) == 2)) :: (140, .bool ((stf ts id) == 2)) :: (139, .bool ((stf ts id) == 2)) :: (138, .int .i64 (stf ts id)) :: _) rfl ?_; clear hA; intro a hA
                             refine wpList_nil ?_
                             replace hA := hA.sel [0, 7, 13, 14] (e' := [(0, .pointer (some ⟨bm, 0, none⟩)), (7, .int .i64 id), (13, .iface 53 (.int .i64 15)), (14, .bool ((stf ts id) == 2))]) rfl
                             refine xt_norm ?_
                             refine wp_seq ?_
                             refine wp_seq ?_
                             refine wp_region_lit ?_
                             refine st_run tbOk 1 hA (e' := (141, .bool ((stf ts id) == 2)) :: _) rfl ?_; clear hA; intro a hA
                             refine wpList_nil ?_
                             refine xt_norm ?_
                             by_cases hc143 : stf ts id = 2
                             · first
                               | (exfalso; omega)
                               | (replace hA := hA.rw 14 (v' := .bool true) rfl (vb_eq_t hc143)
                                  replace hA := hA.rw 141 (v' := .bool true) rfl (vb_eq_t hc143)
                                  refine cd_cond_t hA rfl ?_
                                  refine wp_region_lit ?_
                                  refine st_run tbOk 2 hA (e' := (143, .int .i64 id) :: (142, .pointer (some ⟨bm, 0, none⟩)) :: _) rfl ?_; clear hA; intro a hA
                                  exfalso; omega)
                             · first
                               | (exfalso; omega)
                               | (replace hA := hA.rw 14 (v' := .bool false) rfl (vb_eq_f hc143)
                                  replace hA := hA.rw 141 (v' := .bool false) rfl (vb_eq_f hc143)
                                  refine cd_cond_f hA rfl ?_
                                  refine wp_skip ?_
                                  refine xt_norm ?_
                                  refine wp_seq ?_
                                  refine wp_region_lit ?_
                                  refine st_run tbOk 2 hA (e' := (146, .bool false) :: (145, .iface 53 (.int .i64 15)) :: _) rfl ?_; clear hA; intro a hA
                                  refine st_call0 hA rfl rfl rfl isfn17 rfl rfl (by decide) (told_no17 hS hg) ?_
                                  clear hA hS; rintro v w144 a ⟨rfl, hS⟩ hA
                                  refine st_run tbOk 1 hA (e' := (6, .bool true) :: _) rfl ?_; clear hA; intro a hA
                                  refine wpList_nil ?_
                                  replace hA := hA.sel [6] (e' := [(6, .bool true)]) rfl
                                  refine xt_norm ?_
                                  refine wp_ret (xb_ret (xt_ret ?_))
                                  refine ret1 (fn := Tryd.f6) hA rfl rfl ?_
                                  replace hS := hS.front 1 (C := L3) (L' := L139 :: [(b1, rowO [.int .u8 ((o : Nat) : Int), .int .i8 id, .int .i64 wi] 35)] :: F) rfl rfl
                                  replace hS := hS.front 1 (C := L139) (L' := L3 :: [(b1, rowO [.int .u8 ((o : Nat) : Int), .int .i8 id, .int .i64 wi] 35)] :: F) rfl rfl
                                  replace hS := hS.front 2 (C := [(b1, rowO [.int .u8 ((o : Nat) : Int), .int .i8 id, .int .i64 wi] 35)]) (L' := L139 :: L3 :: F) rfl rfl
                                  replace hS := hS.drop1
                                  exact ⟨ts, q, _, _, hM141, hM5, hI, (Dead.same _ _ _), rfl, hS⟩))
                      · have hst := stf_hi (ts := ts) h1
                        refine st_run tbOk 1 hA (e' := (133, .int .i64 id) :: _) rfl ?_; clear hA; intro a hA
                        replace hS := hS.front 2 (C := L) (L' := L3 :: [(b1, rowO [.int .u8 ((o : Nat) : Int), .int .i8 id, .int .i64 wi] 35)] :: F) rfl rfl
                        refine st_call0 hA rfl rfl rfl isfn11 rfl rfl (by decide) (exit_hi11 hS hM id h1) ?_
                        clear hA hS; rintro v w146 a ⟨L145, hM147, rfl, hS⟩ hA
                        refine st_run tbOk 1 hA (e' := (13, .iface 53 (.int .i64 15)) :: _) rfl ?_; clear hA; intro a hA
                        refine wpList_nil ?_
                        replace hA := hA.sel [0, 7, 8, 13] (e' := [(0, .pointer (some ⟨bm, 0, none⟩)), (7, .int .i64 id), (8, .int .i64 (stf ts id)), (13, .iface 53 (.int .i64 15))]) rfl
                        refine xt_norm ?_
                        refine wp_seq ?_
                        refine wp_region_lit ?_
                        refine st_run tbOk 3 hA (e' := (137, .bool ((stf ts id) == 1)) :: (136, .bool ((stf ts id) == 1)) :: (135, .int .i64 (stf ts id)) :: _) rfl ?_; clear hA; intro a hA
                        by_cases hc148 : stf ts id = 1
                        · first
                          | (exfalso; omega)
                          | (replace hA := hA.rw 136 (v' := .bool true) rfl (vb_eq_t hc148)
                             replace hA := hA.rw 137 (v' := .bool true) rfl (vb_eq_t hc148)
                             refine st_run tbOk 4 hA (e' := (14, .bool true) :: (140, .bool true) :: (139, undef) :: (138, undef) :: _) rfl ?_; clear hA; intro a hA
                             refine wpList_nil ?_
                             replace hA := hA.sel [0, 7, 13, 14] (e' := [(0, .pointer (some ⟨bm, 0, none⟩)), (7, .int .i64 id), (13, .iface 53 (.int .i64 15)), (14, .bool true)]) rfl
                             refine xt_norm ?_
                             refine wp_seq ?_
                             refine wp_seq ?_
                             refine wp_region_lit ?_
                             refine st_run tbOk 1 hA (e' := (141, .bool true) :: _) rfl ?_; clear hA; intro a hA
                             refine wpList_nil ?_
                             refine xt_norm ?_
                             refine cd_cond_t hA rfl ?_
                             refine wp_region_lit ?_
                             refine st_run tbOk 2 hA (e' := (143, .int .i64 id) :: (142, .pointer (some ⟨bm, 0, none⟩)) :: _) rfl ?_; clear hA; intro a hA
                             exfalso; omega)
                        · first
                          | (exfalso; omega)
                          | (replace hA := hA.rw 136 (v' := .bool false) rfl (vb_eq_f hc148)
                             replace hA := hA.rw 137 (v' := .bool false) rfl (vb_eq_f hc148)
                             refine st_run tbOk 4 hA (e' := (14, .bool ((stf ts id) == 2)) :: (140, .bool ((stf ts id) == 2)) :: (139, .bool ((stf ts id) == 2)) :: (138, .int .i64 (stf ts id)) :: _) rfl ?_; clear hA; intro a hA
                             refine wpList_nil ?_
                             replace hA := hA.sel [0, 7, 13, 14] (e' := [(0, .pointer (some ⟨bm, 0, none⟩)), (7, .int .i64 id), (13, .iface 53 (.int .i64 15)), (14, .bool ((stf ts id) == 2))]) rfl
                             refine xt_norm ?_
                             refine wp_seq ?_
                             refine wp_seq ?_
                             refine wp_region_lit ?_
                             refine st_run tbOk 1 hA (e' := (141, .bool ((stf ts id) == 2)) :: _) rfl ?_; clear hA; intro a hA
                             refine wpList_nil ?_
                             refine xt_norm ?_
                             by_cases hc149 : stf ts id = 2
                             · first
                               | (exfalso; omega)
                               | (replace hA := hA.rw 14 (v' := .bool true) rfl (vb_eq_t hc149)
                                  replace hA := hA.rw 141 (v' := .bool true) rfl (vb_eq_t hc149)
                                  refine cd_cond_t hA rfl ?_
                                  refine wp_region_lit ?_
                                  refine st_run tbOk 2 hA (e' := (143, .int .i64 id) :: (142, .pointer (some ⟨bm, 0, none⟩)) :: _) rfl ?_; clear hA; intro a hA
                                  exfalso; omega)
                             · first
                               | (exfalso; omega)
                               | (replace hA := hA.rw 14 (v' := .bool false) rfl (vb_eq_f hc149)
                                  replace hA := hA.rw 141 (v' := .bool false) rfl (vb_eq_f hc149)
                                  refine cd_cond_f hA rfl ?_
                                  refine wp_skip ?_
                                  refine xt_norm ?_
                                  refine wp_seq ?_
                                  refine wp_region_lit ?_
                                  refine st_run tbOk 2 hA (e' := (146, .bool false) :: (145, .iface 53 (.int .i64 15)) :: _) rfl ?_; clear hA; intro a hA
                                  refine st_call0 hA rfl rfl rfl isfn17 rfl rfl (by decide) (told_no17 hS hg) ?_
                                  clear hA hS; rintro v w150 a ⟨rfl, hS⟩ hA
                                  refine st_run tbOk 1 hA (e' := (6, .bool true) :: _) rfl ?_; clear hA; intro a hA
                                  refine wpList_nil ?_
                                  replace hA := hA.sel [6] (e' := [(6, .bool true)]) rfl
                                  refine xt_norm ?_
                                  refine wp_ret (xb_ret (xt_ret ?_))
                                  refine ret1 (fn := Tryd.f6) hA rfl rfl ?_
                                  replace hS := hS.front 1 (C := L3) (L' := L145 :: [(b1, rowO [.int .u8 ((o : Nat) : Int), .int .i8 id, .int .i64 wi] 35)] :: F) rfl rfl
                                  replace hS := hS.front 1 (C := L145) (L' := L3 :: [(b1, rowO [.int .u8 ((o : Nat) : Int), .int .i8 id, .int .i64 wi] 35)] :: F) rfl rfl
                                  replace hS := hS.front 2 (C := [(b1, rowO [.int .u8 ((o : Nat) : Int), .int .i8 id, .int .i64 wi] 35)]) (L' := L145 :: L3 :: F) rfl rfl
                                  replace hS := hS.drop1
                                  exact ⟨ts, q, _, _, hM147, hM5, hI, (Dead.same _ _ _), rfl, hS⟩))
                      · obtain ⟨⟨p, s, u⟩, hx⟩ := get_ex (l := ts) (k := n) hn
                        have hs3 : 1 ≤ s ∧ s ≤ 3 := hI.si _ (List.mem_of_getElem? hx)
                        have hst : stf ts id = s := by rw [hid]; exact stf_in hx
                        replace hA := hA.rw 7 (v' := .int .i64 ((n : Nat) : Int)) rfl (by rw [hid])
                        refine st_run tbOk 1 hA (e' := (133, .int .i64 ((n : Nat) : Int)) :: _) rfl ?_; clear hA; intro a hA
                        by_cases hs : s = 3
                        · replace hS := hS.front 2 (C := L) (L' := L3 :: [(b1, rowO [.int .u8 ((o : Nat) : Int), .int .i8 id, .int .i64 wi] 35)] :: F) rfl rfl
                          refine st_call0 hA rfl rfl rfl isfn11 rfl rfl (by decide) (exit_dead11 hS hM n hx hs) ?_
                          clear hA hS; rintro v w152 a ⟨L151, hM153, rfl, hS⟩ hA
                          refine st_run tbOk 1 hA (e' := (13, .iface 53 (.int .i64 15)) :: _) rfl ?_; clear hA; intro a hA
                          refine wpList_nil ?_
                          replace hA := hA.sel [0, 7, 8, 13] (e' := [(0, .pointer (some ⟨bm, 0, none⟩)), (7, .int .i64 ((n : Nat) : Int)), (8, .int .i64 (stf ts id)), (13, .iface 53 (.int .i64 15))]) rfl
                          refine xt_norm ?_
                          refine wp_seq ?_
                          refine wp_region_lit ?_
                          refine st_run tbOk 3 hA (e' := (137, .bool ((stf ts id) == 1)) :: (136, .bool ((stf ts id) == 1)) :: (135, .int .i64 (stf ts id)) :: _) rfl ?_; clear hA; intro a hA
                          by_cases hc154 : stf ts id = 1
                          · first
                            | (exfalso; omega)
                            | (replace hA := hA.rw 136 (v' := .bool true) rfl (vb_eq_t hc154)
                               replace hA := hA.rw 137 (v' := .bool true) rfl (vb_eq_t hc154)
                               refine st_run tbOk 4 hA (e' := (14, .bool true) :: (140, .bool true) :: (139, undef) :: (138, undef) :: _) rfl ?_; clear hA; intro a hA
                               refine wpList_nil ?_
                               replace hA := hA.sel [0, 7, 13, 14] (e' := [(0, .pointer (some ⟨bm, 0, none⟩)), (7, .int .i64 ((n : Nat) : Int)), (13, .iface 53 (.int .i64 15)), (14, .bool true)]) rfl
                               refine xt_norm ?_
                               refine wp_seq ?_
                               refine wp_seq ?_
                               refine wp_region_lit ?_
                               refine st_run tbOk 1 hA (e' := (141, .bool true) :: _) rfl ?_; clear hA; intro a hA
                               refine wpList_nil ?_
                               refine xt_norm ?_
                               refine cd_cond_t hA rfl ?_
                               refine wp_region_lit ?_
                               refine st_run tbOk 2 hA (e' := (143, .int .i64 ((n : Nat) : Int)) :: (142, .pointer (some ⟨bm, 0, none⟩)) :: _) rfl ?_; clear hA; intro a hA
                               exfalso; omega)
                          · first
                            | (exfalso; omega)
                            | (replace hA := hA.rw 136 (v' := .bool false) rfl (vb_eq_f hc154)
                               replace hA := hA.rw 137 (v' := .bool false) rfl (vb_eq_f hc154)
                               refine st_run tbOk 4 hA (e' := (14, .bool ((stf ts id) == 2)) :: (140, .bool ((stf ts id) == 2)) :: (139, .bool ((stf ts id) == 2)) :: (138, .int .i64 (stf ts id)) :: _) rfl ?_; clear hA; intro a hA
                               refine wpList_nil ?_
                               replace hA := hA.sel [0, 7, 13, 14] (e' := [(0, .pointer (some ⟨bm, 0, none⟩)), (7, .int .i64 ((n : Nat) : Int)), (13, .iface 53 (.int .i64 15)), (14, .bool ((stf ts id) == 2))]) rfl
                               refine xt_norm ?_
                               refine wp_seq ?_
                               refine wp_seq ?_
                               refine wp_region_lit ?_
                               refine st_run tbOk 1 hA (e' := (141, .bool ((stf ts id) == 2)) :: _) rfl ?_; clear hA; intro a hA
                               refine wpList_nil ?_
                               refine xt_norm ?_
                               by_cases hc155 : stf ts id = 2
                               · first
                                 | (exfalso; omega)
                                 | (replace hA := hA.rw 14 (v' := .bool true) rfl (vb_eq_t hc155)
                                    replace hA := hA.rw 141 (v' := .bool true) rfl (vb_eq_t hc155)
                                    refine cd_cond_t hA rfl ?_
                                    refine wp_region_lit ?_
                                    refine st_run tbOk 2 hA (e' := (143, .int .i64 ((n : Nat) : Int)) :: (142, .pointer (some ⟨bm, 0, none⟩)) :: _) rfl ?_; clear hA; intro a hA
                                    exfalso; omega)
                               · first
                                 | (exfalso; omega)
                                 | (replace hA := hA.rw 14 (v' := .bool false) rfl (vb_eq_f hc155)
                                    replace hA := hA.rw 141 (v' := .bool false) rfl (vb_eq_f hc155)
                                    refine cd_cond_f hA rfl ?_
                                    refine wp_skip ?_
                                    refine xt_norm ?_
                                    refine wp_seq ?_
                                    refine wp_region_lit ?_
                                    refine st_run tbOk 2 hA (e' := (146, .bool false) :: (145, .iface 53 (.int .i64 15)) :: _) rfl ?_; clear hA; intro a hA
                                    refine st_call0 hA rfl rfl rfl isfn17 rfl rfl (by decide) (told_no17 hS hg) ?_
                                    clear hA hS; rintro v w156 a ⟨rfl, hS⟩ hA
                                    refine st_run tbOk 1 hA (e' := (6, .bool true) :: _) rfl ?_; clear hA; intro a hA
                                    refine wpList_nil ?_
                                    replace hA := hA.sel [6] (e' := [(6, .bool true)]) rfl
                                    refine xt_norm ?_
                                    refine wp_ret (xb_ret (xt_ret ?_))
                                    refine ret1 (fn := Tryd.f6) hA rfl rfl ?_
                                    replace hS := hS.front 1 (C := L3) (L' := L151 :: [(b1, rowO [.int .u8 ((o : Nat) : Int), .int .i8 id, .int .i64 wi] 35)] :: F) rfl rfl
                                    replace hS := hS.front 1 (C := L151) (L' := L3 :: [(b1, rowO [.int .u8 ((o : Nat) : Int), .int .i8 id, .int .i64 wi] 35)] :: F) rfl rfl
                                    replace hS := hS.front 2 (C := [(b1, rowO [.int .u8 ((o : Nat) : Int), .int .i8 id, .int .i64 wi] 35)]) (L' := L151 :: L3 :: F) rfl rfl
                                    replace hS := hS.drop1
                                    exact ⟨ts, q, _, _, hM153, hM5, hI, (Dead.same _ _ _), rfl, hS⟩))
                        · replace hS := hS.front 2 (C := L) (L' := L3 :: [(b1, rowO [.int .u8 ((o : Nat) : Int), .int .i8 id, .int .i64 wi] 35)] :: F) rfl rfl
                          refine st_call0 hA rfl rfl rfl isfn11 rfl rfl (by decide) (exit_ok11 hS hM n hx (by omega) hs hql) ?_
                          clear hA hS; rintro v w158 a ⟨L157, hM159, rfl, hS⟩ hA
                          refine st_run tbOk 1 hA (e' := (13, .nilIface) :: _) rfl ?_; clear hA; intro a hA
                          refine wpList_nil ?_
                          replace hA := hA.sel [0, 7, 8, 13] (e' := [(0, .pointer (some ⟨bm, 0, none⟩)), (7, .int .i64 ((n : Nat) : Int)), (8, .int .i64 (stf ts id)), (13, .nilIface)]) rfl
                          refine xt_norm ?_
                          refine wp_seq ?_
                          refine wp_region_lit ?_
                          refine st_run tbOk 3 hA (e' := (137, .bool ((stf ts id) == 1)) :: (136, .bool ((stf ts id) == 1)) :: (135, .int .i64 (stf ts id)) :: _) rfl ?_; clear hA; intro a hA
                          by_cases hc160 : stf ts id = 1
                          · first
                            | (exfalso; omega)
                            | (replace hA := hA.rw 136 (v' := .bool true) rfl (vb_eq_t hc160)
                               replace hA := hA.rw 137 (v' := .bool true) rfl (vb_eq_t hc160)
                               refine st_run tbOk 4 hA (e' := (14, .bool true) :: (140, .bool true) :: (139, undef) :: (138, undef) :: _) rfl ?_; clear hA; intro a hA
                               refine wpList_nil ?_
                               replace hA := hA.sel [0, 7, 13, 14] (e' := [(0, .pointer (some ⟨bm, 0, none⟩)), (7, .int .i64 ((n : Nat) : Int)), (13, .nilIface), (14, .bool true)]) rfl
                               refine xt_norm ?_
                               refine wp_seq ?_
                               refine wp_seq ?_
                               refine wp_region_lit ?_
                               refine st_run tbOk 1 hA (e' := (141, .bool true) :: _) rfl ?_; clear hA; intro a hA
                               refine wpList_nil ?_
                               refine xt_norm ?_
                               refine cd_cond_t hA rfl ?_
                               refine wp_region_lit ?_
                               refine st_run tbOk 2 hA (e' := (143, .int .i64 ((n : Nat) : Int)) :: (142, .pointer (some ⟨bm, 0, none⟩)) :: _) rfl ?_; clear hA; intro a hA
                               replace hS := hS.front 1 (C := L3) (L' := L157 :: [(b1, rowO [.int .u8 ((o : Nat) : Int), .int .i8 id, .int .i64 wi] 35)] :: F) rfl rfl
                               refine st_call0 hA rfl rfl rfl isfn16 rfl rfl (by decide) (mturn_ok16 hS hM5 n 3 0 hx hql (by decide)) ?_
                               clear hA hS; rintro v w162 a ⟨L161, hM163, rfl, hS⟩ hA
                               refine wpList_nil ?_
                               replace hA := hA.sel [13, 14] (e' := [(13, .nilIface), (14, .bool true)]) rfl
                               refine xt_norm ?_
                               refine wp_seq ?_
                               refine wp_region_lit ?_
                               refine st_run tbOk 2 hA (e' := (146, .bool true) :: (145, .nilIface) :: _) rfl ?_; clear hA; intro a hA
                               refine st_call0 hA rfl rfl rfl isfn17 rfl rfl (by decide) (told_yes17 hS hg) ?_
                               clear hA hS; rintro v w164 a ⟨rfl, hS⟩ hA
                               refine st_run tbOk 1 hA (e' := (6, .bool true) :: _) rfl ?_; clear hA; intro a hA
                               refine wpList_nil ?_
                               replace hA := hA.sel [6] (e' := [(6, .bool true)]) rfl
                               refine xt_norm ?_
                               refine wp_ret (xb_ret (xt_ret ?_))
                               refine ret1 (fn := Tryd.f6) hA rfl rfl ?_
                               replace hS := hS.front 1 (C := L157) (L' := L161 :: [(b1, rowO [.int .u8 ((o : Nat) : Int), .int .i8 id, .int .i64 wi] 35)] :: F) rfl rfl
                               replace hS := hS.front 2 (C := [(b1, rowO [.int .u8 ((o : Nat) : Int), .int .i8 id, .int .i64 wi] 35)]) (L' := L157 :: L161 :: F) rfl rfl
                               replace hS := hS.drop1
                               exact ⟨ts.set n (p, 3, 0), q.filter (fun x => !(x == ((n : Nat) : Int))), _, _, hM159, hM163, (hI.filt n _ ⟨by simp, by simp⟩), (Dead.not hx hs _ _), rfl, hS⟩)
                          · first
                            | (exfalso; omega)
                            | (replace hA := hA.rw 136 (v' := .bool false) rfl (vb_eq_f hc160)
                               replace hA := hA.rw 137 (v' := .bool false) rfl (vb_eq_f hc160)
                               refine st_run tbOk 4 hA (e' := (14, .bool ((stf ts id) == 2)) :: (140, .bool ((stf ts id) == 2)) :: (139, .bool ((stf ts id) == 2)) :: (138, .int .i64 (stf ts id)) :: _) rfl ?_; clear hA; intro a hA
                               refine wpList_nil ?_
                               replace hA := hA.sel [0, 7, 13, 14] (e' := [(0, .pointer (some ⟨bm, 0, none⟩)), (7, .int .i64 ((n : Nat) : Int)), (13, .nilIface), (14, .bool ((stf ts id) == 2))]) rfl
                               refine xt_norm ?_
                               refine wp_seq ?_
                               refine wp_seq ?_
                               refine wp_region_lit ?_
                               refine st_run tbOk 1 hA (e' := (141, .bool ((stf ts id) == 2)) :: _) rfl ?_; clear hA; intro a hA
                               refine wpList_nil ?_
                               refine xt_norm ?_
                               by_cases hc165 : stf ts id = 2
                               · first
                                 | (exfalso; omega)
                                 | (replace hA := hA.rw 14 (v' := .bool true) rfl (vb_eq_t hc165)
                                    replace hA := hA.rw 141 (v' := .bool true) rfl (vb_eq_t hc165)
                                    refine cd_cond_t hA rfl ?_
                                    refine wp_region_lit ?_
                                    refine st_run tbOk 2 hA (e' := (143, .int .i64 ((n : Nat) : Int)) :: (142, .pointer (some ⟨bm, 0, none⟩)) :: _) rfl ?_; clear hA; intro a hA
                                    replace hS := hS.front 1 (C := L3) (L' := L157 :: [(b1, rowO [.int .u8 ((o : Nat) : Int), .int .i8 id, .int .i64 wi] 35)] :: F) rfl rfl
                                    refine st_call0 hA rfl rfl rfl isfn16 rfl rfl (by decide) (mturn_ok16 hS hM5 n 3 0 hx hql (by decide)) ?_
                                    clear hA hS; rintro v w167 a ⟨L166, hM168, rfl, hS⟩ hA
                                    refine wpList_nil ?_
                                    replace hA := hA.sel [13, 14] (e' := [(13, .nilIface), (14, .bool true)]) rfl
                                    refine xt_norm ?_
                                    refine wp_seq ?_
                                    refine wp_region_lit ?_
                                    refine st_run tbOk 2 hA (e' := (146, .bool true) :: (145, .nilIface) :: _) rfl ?_; clear hA; intro a hA
                                    refine st_call0 hA rfl rfl rfl isfn17 rfl rfl (by decide) (told_yes17 hS hg) ?_
                                    clear hA hS; rintro v w169 a ⟨rfl, hS⟩ hA
                                    refine st_run tbOk 1 hA (e' := (6, .bool true) :: _) rfl ?_; clear hA; intro a hA
                                    refine wpList_nil ?_
                                    replace hA := hA.sel [6] (e' := [(6, .bool true)]) rfl
                                    refine xt_norm ?_
                                    refine wp_ret (xb_ret (xt_ret ?_))
                                    refine ret1 (fn := Tryd.f6) hA rfl rfl ?_
                                    replace hS := hS.front 1 (C := L157) (L' := L166 :: [(b1, rowO [.int .u8 ((o : Nat) : Int), .int .i8 id, .int .i64 wi] 35)] :: F) rfl rfl
                                    replace hS := hS.front 2 (C := [(b1, rowO [.int .u8 ((o : Nat) : Int), .int .i8 id, .int .i64 wi] 35)]) (L' := L157 :: L166 :: F) rfl rfl
                                    replace hS := hS.drop1
                                    exact ⟨ts.set n (p, 3, 0), q.filter (fun x => !(x == ((n : Nat) : Int))), _, _, hM159, hM168, (hI.filt n _ ⟨by simp, by simp⟩), (Dead.not hx hs _ _), rfl, hS⟩)
                               · first
                                 | (exfalso; omega)
                                 | (replace hA := hA.rw 14 (v' := .bool false) rfl (vb_eq_f hc165)
                                    replace hA := hA.rw 141 (v' := .bool false) rfl (vb_eq_f hc165)
                                    refine cd_cond_f hA rfl ?_
                                    refine wp_skip ?_
                                    refine xt_norm ?_
                                    refine wp_seq ?_
                                    refine wp_region_lit ?_
                                    refine st_run tbOk 2 hA (e' := (146, .bool false) :: (145, .nilIface) :: _) rfl ?_; clear hA; intro a hA
                                    refine st_call0 hA rfl rfl rfl isfn17 rfl rfl (by decide) (told_no17 hS hg) ?_
                                    clear hA hS; rintro v w170 a ⟨rfl, hS⟩ hA
                                    refine st_run tbOk 1 hA (e' := (6, .bool true) :: _) rfl ?_; clear hA; intro a hA
                                    refine wpList_nil ?_
                                    replace hA := hA.sel [6] (e' := [(6, .bool true)]) rfl
                                    refine xt_norm ?_
                                    refine wp_ret (xb_ret (xt_ret ?_))
                                    refine ret1 (fn := Tryd.f6) hA rfl rfl ?_
                                    replace hS := hS.front 1 (C := L3) (L' := L157 :: [(b1, rowO [.int .u8 ((o : Nat) : Int), .int .i8 id, .int .i64 wi] 35)] :: F) rfl rfl
                                    replace hS := hS.front 1 (C := L157) (L' := L3 :: [(b1, rowO [.int .u8 ((o : Nat) : Int), .int .i8 id, .int .i64 wi] 35)] :: F) rfl rfl
                                    replace hS := hS.front 2 (C := [(b1, rowO [.int .u8 ((o : Nat) : Int), .int .i8 id, .int .i64 wi] 35)]) (L' := L157 :: L3 :: F) rfl rfl
                                    replace hS := hS.drop1
                                    exact ⟨ts.set n (p, 3, 0), q.filter (fun x => !(x == ((n : Nat) : Int))), _, _, hM159, hM5, (hI.filt n _ ⟨by simp, by simp⟩), (Dead.not hx hs _ _), rfl, hS⟩)))
                 · first
                   | (exfalso; omega)
                   | (replace hA := hA.rw 130 (v' := .bool false) rfl (vb_eq_f hc138)
                      refine cd_cond_f hA rfl ?_
                      refine wp_seq ?_
                      refine wp_region_lit ?_
                      refine st_run tbOk 2 hA (e' := (148, .bool (((o % 6 : Nat) : Int) == 4)) :: (149, .bool (((o % 6 : Nat) : Int) == 4)) :: _) rfl ?_; clear hA; intro a hA
                      refine wpList_nil ?_
                      replace hA := hA.sel [0, 1, 5, 7, 148] (e' := [(0, .pointer (some ⟨bm, 0, none⟩)), (1, .pointer (some ⟨b, 0, none⟩)), (5, .pointer (some ⟨b1, 0, none⟩)), (7, .int .i64 id), (148, .bool (((o % 6 : Nat) : Int) == 4))]) rfl
                      refine xt_norm ?_
                      by_cases hc171 : ((o % 6 : Nat) : Int) = 4
                      · first
                        | (exfalso; omega)
                        | (replace hA := hA.rw 148 (v' := .bool true) rfl (vb_eq_t hc171)
                           refine cd_cond_t hA rfl ?_
                           refine wp_seq ?_
                           refine wp_region_lit ?_
                           refine st_run tbOk 1 hA (e' := (15, .slice none 0 0) :: _) rfl ?_; clear hA; intro a hA
                           refine wpList_nil ?_
                           replace hA := hA.sel [0, 1, 7, 15] (e' := [(0, .pointer (some ⟨bm, 0, none⟩)), (1, .pointer (some ⟨b, 0, none⟩)), (7, .int .i64 id), (15, .slice none 0 0)]) rfl
                           refine xt_norm ?_
                           refine wp_seq ?_
                           refine wp_seq ?_
                           refine wp_region_lit ?_
                           obtain ⟨v172, C172, u172, D172, hO172, hQ172, rfl⟩ := hM5
                           obtain ⟨A172, c172, rfl, hmc172, hxc172⟩ := hO172.open'
                           obtain ⟨B172, d172, rfl, hmd172, hxd172⟩ := hQ172.open'
                           replace hS := hS.split3
                           refine st_run tbOk 3 hA (e' := (152, .pointer (some ⟨bm, 0, none⟩)) :: (151, .pointer (some ⟨bm, 0, none⟩)) :: (150, .pointer (some ⟨bm, 0, none⟩)) :: _) rfl ?_; clear hA; intro a hA
                           refine st_val hA rfl rfl (by decide) (rn_load tbOk hA rfl rfl rfl rfl (cell_row (hS.heapAt 0 rfl) rfl)) ?_; clear hA; intro a hA
                           refine st_run tbOk 1 hA (e' := (154, .int .i64 ((ts.length : Nat) : Int)) :: _) rfl ?_; clear hA; intro a hA
                           replace hS := hS.front 2 (C := D172) (L' := [(bm, rowO [.slice A172 ts.length c172, .slice B172 q.length d172] 32)] :: C172 :: [(b1, rowO [.int .u8 ((o : Nat) : Int), .int .i8 id, .int .i64 wi] 35)] :: L :: F) rfl rfl
                           replace hS := hS.front 2 (C := C172) (L' := D172 :: [(bm, rowO [.slice A172 ts.length c172, .slice B172 q.length d172] 32)] :: [(b1, rowO [.int .u8 ((o : Nat) : Int), .int .i8 id, .int .i64 wi] 35)] :: L :: F) rfl rfl
                           replace hS := hS.front 2 (C := [(bm, rowO [.slice A172 ts.length c172, .slice B172 q.length d172] 32)]) (L' := C172 :: D172 :: [(b1, rowO [.int .u8 ((o : Nat) : Int), .int .i8 id, .int .i64 wi] 35)] :: L :: F) rfl rfl
                           obtain ⟨L173, hM174, hS⟩ : ∃ Z, TR 32 bm (ts) (q) Z ∧ St w0 w4 (Z :: [(b1, rowO [.int .u8 ((o : Nat) : Int), .int .i8 id, .int .i64 wi] 35)] :: L :: F) := ⟨_, ⟨_, _, _, _, hO172, hQ172, rfl⟩, hS.join3⟩
                           refine st_run tbOk 1 hA (e' := (155, .int .i64 0) :: _) rfl ?_; clear hA; intro a hA
                           refine wpList_nil ?_
                           replace hA := hA.sel [0, 1, 7, 15, 154, 155] (e' := [(0, .pointer (some ⟨bm, 0, none⟩)), (1, .pointer (some ⟨b, 0, none⟩)), (7, .int .i64 id), (15, .slice none 0 0), (154, .int .i64 ((ts.length : Nat) : Int)), (155, .int .i64 0)]) rfl
                           refine xt_norm ?_
                           refine wp_block ?_
                           replace hS := hS.nil
                           replace hS := hS.front 2 (C := [(b1, rowO [.int .u8 ((o : Nat) : Int), .int .i8 id, .int .i64 wi] 35)]) (L' := [] :: L173 :: L :: F) rfl rfl
                           replace hS := hS.drop1
                           replace hS := hS.front 2 (C := L) (L' := [] :: L173 :: F) rfl rfl
                           replace hS := hS.front 2 (C := L173) (L' := L :: [] :: F) rfl rfl
                           refine wp_loop_ghost (fun m a w => ∃ (k : Nat) (Lk : Chunk) (Ao : Option Addr) (co : Nat) (R : Chunk), m = ts.length - k ∧ Has a 246 [(0, .pointer (some ⟨bm, 0, none⟩)), (1, .pointer (some ⟨b, 0, none⟩)), (7, .int .i64 id), (15, .slice Ao ((kst ts q id k).2.2.length) co), (154, .int .i64 ((ts.length : Nat) : Int)), (155, .int .i64 ((k : Nat) : Int))] ∧ St w0 w (Lk :: L :: R :: F) ∧ (k ≤ ts.length) ∧ (TR 32 bm (kst ts q id k).1 (kst ts q id k).2.1 Lk) ∧ (Own 3 1 (.slice Ao (kst ts q id k).2.2.length co) (kst ts q id k).2.2.length (rows encI (kst ts q id k).2.2) R)) (ts.length - 0)
                             ⟨0, L173, none, 0, ([]), rfl, (hA.sel [0, 1, 7, 15, 154, 155] rfl), hS, Nat.zero_le _, hM174, (Own.nil 3 1)⟩ ?_
                           clear hA hS; rintro m0 a w175 ⟨k, Lk, Ao, co, R, rfl, hA, hS, hk, hMk, hR⟩
                           have hkl := kst_len ts q id k
                           have hkq := kst_qlen ts q id k
                           have hko := kst_out ts q id k
                           have hIk := hI.kst id k
                           refine wp_seq ?_
                           refine wp_region_lit ?_
                           refine st_run tbOk 1 hA (e' := (156, .bool (decide (((k : Nat) : Int) < ((ts.length : Nat) : Int)))) :: _) rfl ?_; clear hA; intro a hA
                           refine wpList_nil ?_
                           refine xt_norm ?_
                           refine wp_seq ?_
                           by_cases hc176 : ((k : Nat) : Int) < ((ts.length : Nat) : Int)
                           · first
                             | (exfalso; omega)
                             | (replace hA := hA.rw 156 (v' := .bool true) rfl (vb_true hc176)
                                refine cd_cond_t hA rfl ?_
                                refine wp_skip ?_
                                refine xt_norm ?_
                                refine wp_seq ?_
                                refine wp_block ?_
                                refine wp_seq ?_
                                refine wp_region_lit ?_
                                refine st_run tbOk 2 hA (e' := (16, .int .i64 ((k : Nat) : Int)) :: (157, .int .i64 ((k : Nat) : Int)) :: _) rfl ?_; clear hA; intro a hA
                                refine wpList_nil ?_
                                replace hA := hA.sel [0, 1, 7, 15, 16, 154, 155] (e' := [(0, .pointer (some ⟨bm, 0, none⟩)), (1, .pointer (some ⟨b, 0, none⟩)), (7, .int .i64 id), (15, .slice Ao ((kst ts q id k).2.2.length) co), (16, .int .i64 ((k : Nat) : Int)), (154, .int .i64 ((ts.length : Nat) : Int)), (155, .int .i64 ((k : Nat) : Int))]) rfl
                                refine xt_norm ?_
                                refine wp_seq ?_
                                refine wp_region_lit ?_
                                obtain ⟨v177, C177, u177, D177, hO177, hQ177, rfl⟩ := hMk
                                obtain ⟨A177, c177, rfl, hmc177, hxc177⟩ := hO177.open'
                                obtain ⟨B177, d177, rfl, hmd177, hxd177⟩ := hQ177.open'
                                replace hS := hS.split3
                                refine st_run tbOk 3 hA (e' := (160, .pointer (some ⟨bm, 0, none⟩)) :: (159, .pointer (some ⟨bm, 0, none⟩)) :: (158, .pointer (some ⟨bm, 0, none⟩)) :: _) rfl ?_; clear hA; intro a hA
                                refine st_val hA rfl rfl (by decide) (rn_load tbOk hA rfl rfl rfl rfl (cell_row (hS.heapAt 0 rfl) rfl)) ?_; clear hA; intro a hA
                                refine st_run tbOk 1 hA (e' := (162, .int .i64 ((k : Nat) : Int)) :: _) rfl ?_; clear hA; intro a hA
                                obtain ⟨⟨p0, s0, u0⟩, hxk⟩ := get_ex (l := (kst ts q id k).1) (k := k) (by omega)
                                have hs3 : 1 ≤ s0 ∧ s0 ≤ 3 := hIk.si _ (List.mem_of_getElem? hxk)
                                obtain ⟨b178, o179, rfl⟩ := hO177.isSome (k := k) (by omega)
                                refine st_val hA rfl rfl (by decide) (rn_indexAddr tbOk hA k (o179 + (k * 3)) rfl rfl rfl rfl rfl rfl (by rfl) (by omega) (by first | rfl | simp [Nat.mul_one, Nat.zero_add] | omega)) ?_; clear hA; intro a hA
                                refine st_run tbOk 1 hA (e' := (164, .pointer (some ⟨b178, o179 + (k * 3), none⟩)) :: _) rfl ?_; clear hA; intro a hA
                                refine st_val hA rfl rfl (by decide) (rn_load tbOk hA rfl rfl rfl rfl ((hO177.rd (hS.own_ 1 rfl)).elemf (k := k) encThread_ok hxk (j := 0) rfl)) ?_; clear hA; intro a hA
                                refine st_run tbOk 3 hA (e' := (168, .bool (((p0, s0, u0).1) == id)) :: (167, .bool (((p0, s0, u0).1) == id)) :: (166, .int .i64 id) :: _) rfl ?_; clear hA; intro a hA
                                by_cases hc180 : (p0, s0, u0).1 = id
                                · first
                                  | (exfalso; omega)
                                  | (replace hA := hA.rw 167 (v' := .bool true) rfl (vb_eq_t hc180)
                                     replace hA := hA.rw 168 (v' := .bool true) rfl (vb_eq_t hc180)
                                     refine st_run tbOk 3 hA (e' := (171, .pointer (some ⟨bm, 0, none⟩)) :: (170, .pointer (some ⟨bm, 0, none⟩)) :: (169, .pointer (some ⟨bm, 0, none⟩)) :: _) rfl ?_; clear hA; intro a hA
                                     refine st_val hA rfl rfl (by decide) (rn_load tbOk hA rfl rfl rfl rfl (cell_row (hS.heapAt 0 rfl) rfl)) ?_; clear hA; intro a hA
                                     refine st_run tbOk 1 hA (e' := (173, .int .i64 ((k : Nat) : Int)) :: _) rfl ?_; clear hA; intro a hA
                                     refine st_val hA rfl rfl (by decide) (rn_indexAddr tbOk hA k (o179 + (k * 3)) rfl rfl rfl rfl rfl rfl (by rfl) (by omega) (by first | rfl | simp [Nat.mul_one, Nat.zero_add] | omega)) ?_; clear hA; intro a hA
                                     refine st_run tbOk 1 hA (e' := (175, .pointer (some ⟨b178, o179 + (k * 3) + 1, none⟩)) :: _) rfl ?_; clear hA; intro a hA
                                     refine st_val hA rfl rfl (by decide) (rn_load tbOk hA rfl rfl rfl rfl ((hO177.rd (hS.own_ 1 rfl)).elemf (k := k) encThread_ok hxk (j := 1) rfl)) ?_; clear hA; intro a hA
                                     refine st_run tbOk 2 hA (e' := (178, .bool (((p0, s0, u0).2.1) != 3)) :: (177, .bool (((p0, s0, u0).2.1) != 3)) :: _) rfl ?_; clear hA; intro a hA
                                     refine wpList_nil ?_
                                     replace hA := hA.sel [0, 1, 7, 15, 16, 154, 155, 178] (e' := [(0, .pointer (some ⟨bm, 0, none⟩)), (1, .pointer (some ⟨b, 0, none⟩)), (7, .int .i64 id), (15, .slice Ao ((kst ts q id k).2.2.length) co), (16, .int .i64 ((k : Nat) : Int)), (154, .int .i64 ((ts.length : Nat) : Int)), (155, .int .i64 ((k : Nat) : Int)), (178, .bool (((p0, s0, u0).2.1) != 3))]) rfl
                                     refine xt_norm ?_
                                     by_cases hc181 : (p0, s0, u0).2.1 = 3
                                     · first
                                       | (exfalso; omega)
                                       | (replace hA := hA.rw 178 (v' := .bool false) rfl (vb_ne_f hc181)
                                          refine cd_cond_f hA rfl ?_
                                          refine wp_skip ?_
                                          refine xb_norm ?_
                                          refine xt_norm ?_
                                          refine wp_region_lit ?_
                                          refine st_run tbOk 1 hA (e' := (186, .int .i64 (IntKind.i64.wrap (((k : Nat) : Int) + 1))) :: _) rfl ?_; clear hA; intro a hA
                                          replace hA := hA.rw 186 (v' := .int .i64 ((k + 1 : Nat) : Int)) rfl (wr64 (by omega) (by omega) (by omega))
                                          refine st_run tbOk 1 hA (e' := (155, .int .i64 ((k + 1 : Nat) : Int)) :: _) rfl ?_; clear hA; intro a hA
                                          refine wpList_nil ?_
                                          replace hA := hA.sel [0, 1, 7, 15, 154, 155] (e' := [(0, .pointer (some ⟨bm, 0, none⟩)), (1, .pointer (some ⟨b, 0, none⟩)), (7, .int .i64 id), (15, .slice Ao ((kst ts q id k).2.2.length) co), (154, .int .i64 ((ts.length : Nat) : Int)), (155, .int .i64 ((k + 1 : Nat) : Int))]) rfl
                                          replace hS := hS.front 2 (C := D177) (L' := [(bm, rowO [.slice (some ⟨b178, o179, none⟩) (((kst ts q id k).1).length) c177, .slice B177 (((kst ts q id k).2.1).length) d177] 32)] :: C177 :: L :: R :: F) rfl rfl
                                          replace hS := hS.front 2 (C := C177) (L' := D177 :: [(bm, rowO [.slice (some ⟨b178, o179, none⟩) (((kst ts q id k).1).length) c177, .slice B177 (((kst ts q id k).2.1).length) d177] 32)] :: L :: R :: F) rfl rfl
                                          replace hS := hS.front 2 (C := [(bm, rowO [.slice (some ⟨b178, o179, none⟩) (((kst ts q id k).1).length) c177, .slice B177 (((kst ts q id k).2.1).length) d177] 32)]) (L' := C177 :: D177 :: L :: R :: F) rfl rfl
                                          obtain ⟨L182, hM183, hS⟩ : ∃ Z, TR 32 bm ((kst ts q id k).1) ((kst ts q id k).2.1) Z ∧ St w0 w175 (Z :: L :: R :: F) := ⟨_, ⟨_, _, _, _, hO177, hQ177, rfl⟩, hS.join3⟩
                                          have hk1 : kst ts q id (k + 1) = kst ts q id k := kst_no hxk (by first | exact hit_p (by assumption) | exact hit_3 (by simp only; omega))
                                          have hl : (kst ts q id k).2.2 = (kst ts q id (k + 1)).2.2 := by rw [hk1]
                                          rw [hl] at hR; rw [hl] at hA
                                          replace hS := hS.front 2 (C := R) (L' := L182 :: L :: F) rfl rfl
                                          replace hS := hS.front 2 (C := L) (L' := R :: L182 :: F) rfl rfl
                                          replace hS := hS.front 2 (C := L182) (L' := L :: R :: F) rfl rfl
                                          exact lp_next _ (by omega) ⟨(k + 1), L182, Ao, co, R, rfl, (hA.sel [0, 1, 7, 15, 154, 155] rfl), hS, by omega, (by rw [hk1]; exact hM183), hR⟩)
                                     · first
                                       | (exfalso; omega)
                                       | (replace hA := hA.rw 178 (v' := .bool true) rfl (vb_ne_t hc181)
                                          refine cd_cond_t hA rfl ?_
                                          refine wp_seq ?_
                                          refine wp_region_lit ?_
                                          replace hS := hS.front 2 (C := D177) (L' := [(bm, rowO [.slice (some ⟨b178, o179, none⟩) (((kst ts q id k).1).length) c177, .slice B177 (((kst ts q id k).2.1).length) d177] 32)] :: C177 :: L :: R :: F) rfl rfl
                                          replace hS := hS.front 2 (C := C177) (L' := D177 :: [(bm, rowO [.slice (some ⟨b178, o179, none⟩) (((kst ts q id k).1).length) c177, .slice B177 (((kst ts q id k).2.1).length) d177] 32)] :: L :: R :: F) rfl rfl
                                          replace hS := hS.front 2 (C := [(bm, rowO [.slice (some ⟨b178, o179, none⟩) (((kst ts q id k).1).length) c177, .slice B177 (((kst ts q id k).2.1).length) d177] 32)]) (L' := C177 :: D177 :: L :: R :: F) rfl rfl
                                          obtain ⟨L184, hM185, hS⟩ : ∃ Z, TR 32 bm ((kst ts q id k).1) ((kst ts q id k).2.1) Z ∧ St w0 w175 (Z :: L :: R :: F) := ⟨_, ⟨_, _, _, _, hO177, hQ177, rfl⟩, hS.join3⟩
                                          refine st_run tbOk 2 hA (e' := (180, .int .i64 ((k : Nat) : Int)) :: (179, .pointer (some ⟨bm, 0, none⟩)) :: _) rfl ?_; clear hA; intro a hA
                                          refine st_call0 hA rfl rfl rfl isfn16 rfl rfl (by decide) (mturn_ok16 hS hM185 k 3 0 hxk (by omega) (by decide)) ?_
                                          clear hA hS; rintro v w187 a ⟨L186, hM188, rfl, hS⟩ hA
                                          refine wpList_nil ?_
                                          replace hA := hA.sel [0, 1, 7, 15, 16, 154, 155] (e' := [(0, .pointer (some ⟨bm, 0, none⟩)), (1, .pointer (some ⟨b, 0, none⟩)), (7, .int .i64 id), (15, .slice Ao ((kst ts q id k).2.2.length) co), (16, .int .i64 ((k : Nat) : Int)), (154, .int .i64 ((ts.length : Nat) : Int)), (155, .int .i64 ((k : Nat) : Int))]) rfl
                                          refine xt_norm ?_
                                          refine wp_region_lit ?_
                                          refine st_run tbOk 2 hA (e' := (183, .int .i64 ((k : Nat) : Int)) :: (182, .slice Ao ((kst ts q id k).2.2.length) co) :: _) rfl ?_; clear hA; intro a hA
                                          refine st_buildSlice tbOk hA hS [.int .i64 ((k : Nat) : Int)] rfl rfl rfl rfl rfl (by decide) (by kernel_rfl) rfl rfl (by decide) ?_; clear hA hS; intro b189 w190 a hS hA
                                          replace hS := hS.front 3 (C := R) (L' := [(b189, rowO [.int .i64 ((k : Nat) : Int)] 3)] :: L186 :: L :: F) rfl rfl
                                          refine st_append tbOk hA (m := ((kst ts q id k).2.2).length) (q := 1) (xs := rows encI ((kst ts q id k).2.2)) (news := rows encI ([((k : Nat) : Int)] : List Int)) rfl rfl rfl rfl rfl rfl rfl rfl (by decide) hR hS ((Own.full (T := 3) (size := 1) (g := b189) (m := 1) rfl (by decide)).rd (hS.own_ 1 rfl)) (rows_one encI_ok _) (maxLen_le (by omega)) (by show (((kst ts q id k).2.2).length + 1) * 8 ≤ 140737488355328; omega) rfl rfl (by decide) ?_
                                          clear hA hS; intro v191 w192 C193 a hO193 hS hA
                                          replace hO193 := Own.app (l := (kst ts q id k).2.2) (l2 := ([((k : Nat) : Int)] : List Int)) hO193
                                          obtain ⟨A194, c195, rfl, hmc195, hxc195⟩ := hO193.open'
                                          refine st_run tbOk 1 hA (e' := (15, .slice A194 ((((kst ts q id k).2.2) ++ ([((k : Nat) : Int)] : List Int)).length) c195) :: _) rfl ?_; clear hA; intro a hA
                                          refine wpList_nil ?_
                                          replace hA := hA.sel [0, 1, 7, 15, 154, 155] (e' := [(0, .pointer (some ⟨bm, 0, none⟩)), (1, .pointer (some ⟨b, 0, none⟩)), (7, .int .i64 id), (15, .slice A194 ((((kst ts q id k).2.2) ++ ([((k : Nat) : Int)] : List Int)).length) c195), (154, .int .i64 ((ts.length : Nat) : Int)), (155, .int .i64 ((k : Nat) : Int))]) rfl
                                          refine xb_norm ?_
                                          refine xt_norm ?_
                                          refine wp_region_lit ?_
                                          refine st_run tbOk 1 hA (e' := (186, .int .i64 (IntKind.i64.wrap (((k : Nat) : Int) + 1))) :: _) rfl ?_; clear hA; intro a hA
                                          replace hA := hA.rw 186 (v' := .int .i64 ((k + 1 : Nat) : Int)) rfl (wr64 (by omega) (by omega) (by omega))
                                          refine st_run tbOk 1 hA (e' := (155, .int .i64 ((k + 1 : Nat) : Int)) :: _) rfl ?_; clear hA; intro a hA
                                          refine wpList_nil ?_
                                          replace hA := hA.sel [0, 1, 7, 15, 154, 155] (e' := [(0, .pointer (some ⟨bm, 0, none⟩)), (1, .pointer (some ⟨b, 0, none⟩)), (7, .int .i64 id), (15, .slice A194 ((((kst ts q id k).2.2) ++ ([((k : Nat) : Int)] : List Int)).length) c195), (154, .int .i64 ((ts.length : Nat) : Int)), (155, .int .i64 ((k + 1 : Nat) : Int))]) rfl
                                          have hk1 := kst_yes hxk (hit_yes (by assumption) (by simp only; omega) (by assumption))
                                          have hl : ((kst ts q id k).2.2) ++ ([((k : Nat) : Int)] : List Int) = (kst ts q id (k + 1)).2.2 := by rw [hk1]
                                          rw [hl] at hO193; rw [hl] at hA
                                          replace hS := hS.front 1 (C := [(b189, rowO [.int .i64 ((k : Nat) : Int)] 3)]) (L' := C193 :: L186 :: L :: F) rfl rfl
                                          replace hS := hS.drop1
                                          replace hS := hS.front 2 (C := L) (L' := C193 :: L186 :: F) rfl rfl
                                          replace hS := hS.front 2 (C := L186) (L' := L :: C193 :: F) rfl rfl
                                          exact lp_next _ (by omega) ⟨(k + 1), L186, A194, c195, C193, rfl, (hA.sel [0, 1, 7, 15, 154, 155] rfl), hS, by omega, (by rw [hk1]; exact hM188), hO193⟩))
                                · first
                                  | (exfalso; omega)
                                  | (replace hA := hA.rw 167 (v' := .bool false) rfl (vb_eq_f hc180)
                                     replace hA := hA.rw 168 (v' := .bool false) rfl (vb_eq_f hc180)
                                     refine st_run tbOk 10 hA (e' := (178, .bool false) :: (177, undef) :: (176, undef) :: (175, undef) :: (174, undef) :: (173, undef) :: (172, undef) :: (171, undef) :: (170, undef) :: (169, undef) :: _) rfl ?_; clear hA; intro a hA
                                     refine wpList_nil ?_
                                     replace hA := hA.sel [0, 1, 7, 15, 16, 154, 155, 178] (e' := [(0, .pointer (some ⟨bm, 0, none⟩)), (1, .pointer (some ⟨b, 0, none⟩)), (7, .int .i64 id), (15, .slice Ao ((kst ts q id k).2.2.length) co), (16, .int .i64 ((k : Nat) : Int)), (154, .int .i64 ((ts.length : Nat) : Int)), (155, .int .i64 ((k : Nat) : Int)), (178, .bool false)]) rfl
                                     refine xt_norm ?_
                                     refine cd_cond_f hA rfl ?_
                                     refine wp_skip ?_
                                     refine xb_norm ?_
                                     refine xt_norm ?_
                                     refine wp_region_lit ?_
                                     refine st_run tbOk 1 hA (e' := (186, .int .i64 (IntKind.i64.wrap (((k : Nat) : Int) + 1))) :: _) rfl ?_; clear hA; intro a hA
                                     replace hA := hA.rw 186 (v' := .int .i64 ((k + 1 : Nat) : Int)) rfl (wr64 (by omega) (by omega) (by omega))
                                     refine st_run tbOk 1 hA (e' := (155, .int .i64 ((k + 1 : Nat) : Int)) :: _) rfl ?_; clear hA; intro a hA
                                     refine wpList_nil ?_
                                     replace hA := hA.sel [0, 1, 7, 15, 154, 155] (e' := [(0, .pointer (some ⟨bm, 0, none⟩)), (1, .pointer (some ⟨b, 0, none⟩)), (7, .int .i64 id), (15, .slice Ao ((kst ts q id k).2.2.length) co), (154, .int .i64 ((ts.length : Nat) : Int)), (155, .int .i64 ((k + 1 : Nat) : Int))]) rfl
                                     replace hS := hS.front 2 (C := D177) (L' := [(bm, rowO [.slice (some ⟨b178, o179, none⟩) (((kst ts q id k).1).length) c177, .slice B177 (((kst ts q id k).2.1).length) d177] 32)] :: C177 :: L :: R :: F) rfl rfl
                                     replace hS := hS.front 2 (C := C177) (L' := D177 :: [(bm, rowO [.slice (some ⟨b178, o179, none⟩) (((kst ts q id k).1).length) c177, .slice B177 (((kst ts q id k).2.1).length) d177] 32)] :: L :: R :: F) rfl rfl
                                     replace hS := hS.front 2 (C := [(bm, rowO [.slice (some ⟨b178, o179, none⟩) (((kst ts q id k).1).length) c177, .slice B177 (((kst ts q id k).2.1).length) d177] 32)]) (L' := C177 :: D177 :: L :: R :: F) rfl rfl
                                     obtain ⟨L196, hM197, hS⟩ : ∃ Z, TR 32 bm ((kst ts q id k).1) ((kst ts q id k).2.1) Z ∧ St w0 w175 (Z :: L :: R :: F) := ⟨_, ⟨_, _, _, _, hO177, hQ177, rfl⟩, hS.join3⟩
                                     have hk1 : kst ts q id (k + 1) = kst ts q id k := kst_no hxk (by first | exact hit_p (by assumption) | exact hit_3 (by simp only; omega))
                                     have hl : (kst ts q id k).2.2 = (kst ts q id (k + 1)).2.2 := by rw [hk1]
                                     rw [hl] at hR; rw [hl] at hA
                                     replace hS := hS.front 2 (C := R) (L' := L196 :: L :: F) rfl rfl
                                     replace hS := hS.front 2 (C := L) (L' := R :: L196 :: F) rfl rfl
                                     replace hS := hS.front 2 (C := L196) (L' := L :: R :: F) rfl rfl
                                     exact lp_next _ (by omega) ⟨(k + 1), L196, Ao, co, R, rfl, (hA.sel [0, 1, 7, 15, 154, 155] rfl), hS, by omega, (by rw [hk1]; exact hM197), hR⟩))
                           · first
                             | (exfalso; omega)
                             | (replace hA := hA.rw 156 (v' := .bool false) rfl (vb_false hc176)
                                refine cd_cond_f hA rfl ?_
                                refine wp_exit ?_
                                refine xt_exit ?_
                                refine xt_exit ?_
                                refine cd_exit_eq ?_
                                refine xt_norm ?_
                                refine wp_seq ?_
                                refine wp_region_lit ?_
                                have hkk : k = ts.length := by omega
                                subst hkk
                                refine st_run tbOk 2 hA (e' := (188, .int .i64 id) :: (187, .pointer (some ⟨b, 0, none⟩)) :: _) rfl ?_; clear hA; intro a hA
                                replace hS := hS.front 1 (C := L) (L' := Lk :: R :: F) rfl rfl
                                refine st_call0 hA rfl rfl rfl isfn13 rfl rfl (by decide) (kill13 hS hM id (by omega) (by omega)) ?_
                                clear hA hS; rintro v201 w199 a ⟨L198, C202, hO202, hM200, hS⟩ hA
                                obtain ⟨A203, c204, rfl, hmc204, hxc204⟩ := hO202.open'
                                refine st_run tbOk 1 hA (e' := (190, .slice Ao ((kst ts q id ts.length).2.2.length) co) :: _) rfl ?_; clear hA; intro a hA
                                refine st_call0 hA rfl rfl rfl isfn7 rfl rfl (by decide) (same7 hS (xs := (kst ts q id ts.length).2.2) (ys := (kst ts q id ts.length).2.2) (RdS.own hO202 0 rfl) (RdS.own hR 3 rfl)) ?_
                                clear hA hS; rintro v w205 a ⟨rfl, hS⟩ hA
                                replace hA := hA.rw 191 (v' := .bool true) rfl (by simp)
                                refine st_run tbOk 1 hA (e' := (6, .bool true) :: _) rfl ?_; clear hA; intro a hA
                                refine wpList_nil ?_
                                replace hA := hA.sel [6] (e' := [(6, .bool true)]) rfl
                                refine xt_norm ?_
                                refine wp_ret (xb_ret (xt_ret ?_))
                                refine ret1 (fn := Tryd.f6) hA rfl rfl ?_
                                replace hS := hS.front 2 (C := Lk) (L' := C202 :: L198 :: R :: F) rfl rfl
                                replace hS := hS.front 2 (C := L198) (L' := Lk :: C202 :: R :: F) rfl rfl
                                replace hS := hS.front 2 (C := C202) (L' := L198 :: Lk :: R :: F) rfl rfl
                                replace hS := hS.drop1
                                replace hS := hS.front 2 (C := R) (L' := L198 :: Lk :: F) rfl rfl
                                replace hS := hS.drop1
                                exact ⟨(kst ts q id ts.length).1, (kst ts q id ts.length).2.1, _, _, hM200, hMk, (hI.kst _ _), (Dead.kst _ _), rfl, hS⟩))
                      · first
                        | (exfalso; omega)
                        | (replace hA := hA.rw 148 (v' := .bool false) rfl (vb_eq_f hc171)
                           refine cd_cond_f hA rfl ?_
                           refine wp_skip ?_
                           refine xb_norm ?_
                           refine xt_norm ?_
                           refine wp_seq ?_
                           refine wp_region_lit ?_
                           refine st_run tbOk 2 hA (e' := (194, .pointer (some ⟨b1, 2, none⟩)) :: (193, .pointer (some ⟨b, 0, none⟩)) :: _) rfl ?_; clear hA; intro a hA
                           refine st_val hA rfl rfl (by decide) (rn_load tbOk hA rfl rfl rfl rfl (cell_row (hS.heapAt 1 rfl) rfl)) ?_; clear hA; intro a hA
                           rcases Nat.eq_zero_or_pos q.length with h0 | h0
                           · replace hS := hS.front 2 (C := L) (L' := L3 :: [(b1, rowO [.int .u8 ((o : Nat) : Int), .int .i8 id, .int .i64 wi] 35)] :: F) rfl rfl
                             refine st_call0 hA rfl rfl rfl isfn19 rfl rfl (by decide) (pick_none19 hS hM wi h0) ?_
                             clear hA hS; rintro v w207 a ⟨L206, hM208, rfl, hS⟩ hA
                             refine st_run tbOk 5 hA (e' := (18, .iface 53 (.int .i64 12)) :: (17, .int .i64 0) :: (198, .iface 53 (.int .i64 12)) :: (197, .int .i64 0) :: (192, .tuple #[.int .i64 0, .iface 53 (.int .i64 12)]) :: _) rfl ?_; clear hA; intro a hA
                             refine wpList_nil ?_
                             replace hA := hA.sel [0, 5, 17, 18] (e' := [(0, .pointer (some ⟨bm, 0, none⟩)), (5, .pointer (some ⟨b1, 0, none⟩)), (17, .int .i64 0), (18, .iface 53 (.int .i64 12))]) rfl
                             refine xt_norm ?_
                             refine wp_seq ?_
                             refine wp_seq ?_
                             refine wp_region_lit ?_
                             replace hS := hS.front 1 (C := L3) (L' := L206 :: [(b1, rowO [.int .u8 ((o : Nat) : Int), .int .i8 id, .int .i64 wi] 35)] :: F) rfl rfl
                             obtain ⟨v209, C209, u209, D209, hO209, hQ209, rfl⟩ := hM5
                             obtain ⟨A209, c209, rfl, hmc209, hxc209⟩ := hO209.open'
                             obtain ⟨B209, d209, rfl, hmd209, hxd209⟩ := hQ209.open'
                             replace hS := hS.split3
                             refine st_run tbOk 3 hA (e' := (201, .pointer (some ⟨bm, 1, none⟩)) :: (200, .pointer (some ⟨bm, 0, none⟩)) :: (199, .pointer (some ⟨bm, 0, none⟩)) :: _) rfl ?_; clear hA; intro a hA
                             refine st_val hA rfl rfl (by decide) (rn_load tbOk hA rfl rfl rfl rfl (cell_row (hS.heapAt 0 rfl) rfl)) ?_; clear hA; intro a hA
                             refine st_run tbOk 2 hA (e' := (204, .bool (((q.length : Nat) : Int) == 0)) :: (203, .int .i64 ((q.length : Nat) : Int)) :: _) rfl ?_; clear hA; intro a hA
                             refine wpList_nil ?_
                             replace hA := hA.sel [0, 5, 17, 18, 204] (e' := [(0, .pointer (some ⟨bm, 0, none⟩)), (5, .pointer (some ⟨b1, 0, none⟩)), (17, .int .i64 0), (18, .iface 53 (.int .i64 12)), (204, .bool (((q.length : Nat) : Int) == 0))]) rfl
                             refine xt_norm ?_
                             by_cases hc210 : ((q.length : Nat) : Int) = 0
                             · first
                               | (exfalso; omega)
                               | (replace hA := hA.rw 204 (v' := .bool true) rfl (vb_eq_t hc210)
                                  refine cd_cond_t hA rfl ?_
                                  refine wp_seq ?_
                                  refine wp_region_lit ?_
                                  refine st_run tbOk 4 hA (e' := (208, .iface 53 (.int .i64 12)) :: (207, .bool true) :: (206, .bool true) :: (205, .int .i64 0) :: _) rfl ?_; clear hA; intro a hA
                                  refine st_call0 hA rfl rfl rfl isfn15 rfl rfl (by decide) (number_hit15 hS hg 12) ?_
                                  clear hA hS; rintro v w211 a ⟨rfl, hS⟩ hA
                                  refine st_run tbOk 3 hA (e' := (6, .bool true) :: (211, .bool true) :: (210, .bool true) :: _) rfl ?_; clear hA; intro a hA
                                  refine wpList_nil ?_
                                  replace hA := hA.sel [6] (e' := [(6, .bool true)]) rfl
                                  refine xt_norm ?_
                                  refine wp_ret (xt_ret ?_)
                                  refine ret1 (fn := Tryd.f6) hA rfl rfl ?_
                                  replace hS := hS.front 2 (C := D209) (L' := [(bm, rowO [.slice A209 ts.length c209, .slice B209 q.length d209] 32)] :: C209 :: L206 :: [(b1, rowO [.int .u8 ((o : Nat) : Int), .int .i8 id, .int .i64 wi] 35)] :: F) rfl rfl
                                  replace hS := hS.front 2 (C := C209) (L' := D209 :: [(bm, rowO [.slice A209 ts.length c209, .slice B209 q.length d209] 32)] :: L206 :: [(b1, rowO [.int .u8 ((o : Nat) : Int), .int .i8 id, .int .i64 wi] 35)] :: F) rfl rfl
                                  replace hS := hS.front 2 (C := [(bm, rowO [.slice A209 ts.length c209, .slice B209 q.length d209] 32)]) (L' := C209 :: D209 :: L206 :: [(b1, rowO [.int .u8 ((o : Nat) : Int), .int .i8 id, .int .i64 wi] 35)] :: F) rfl rfl
                                  obtain ⟨L212, hM213, hS⟩ : ∃ Z, TR 32 bm (ts) (q) Z ∧ St w0 w211 (Z :: L206 :: [(b1, rowO [.int .u8 ((o : Nat) : Int), .int .i8 id, .int .i64 wi] 35)] :: F) := ⟨_, ⟨_, _, _, _, hO209, hQ209, rfl⟩, hS.join3⟩
                                  replace hS := hS.front 1 (C := L206) (L' := L212 :: [(b1, rowO [.int .u8 ((o : Nat) : Int), .int .i8 id, .int .i64 wi] 35)] :: F) rfl rfl
                                  replace hS := hS.front 2 (C := [(b1, rowO [.int .u8 ((o : Nat) : Int), .int .i8 id, .int .i64 wi] 35)]) (L' := L206 :: L212 :: F) rfl rfl
                                  replace hS := hS.drop1
                                  exact ⟨ts, q, _, _, hM208, hM213, hI, (Dead.same _ _ _), rfl, hS⟩)
                             · first
                               | (exfalso; omega)
                               | (replace hA := hA.rw 204 (v' := .bool false) rfl (vb_eq_f hc210)
                                  refine cd_cond_f hA rfl ?_
                                  refine wp_skip ?_
                                  refine xt_norm ?_
                                  refine wp_seq ?_
                                  refine wp_draw (fun w' => St w0 w' ([(bm, rowO [.slice A209 ts.length c209, .slice B209 q.length d209] 32)] :: C209 :: D209 :: L206 :: [(b1, rowO [.int .u8 ((o : Nat) : Int), .int .i8 id, .int .i64 wi] 35)] :: F)) [] [(0, true), (1, true), (2, true), (3, true), (4, true), (5, true), (6, true), (7, true), (8, true)] mixed (by kernel_rfl) (by rintro c a w ⟨_, _, h, _⟩; cases h) (by rfl) (by kernel_rfl) ?_
                                  replace hS := hS.drew
                                  refine dr_run tbOk 1 hA hS (e' := (212, .pointer (some ⟨b1, 2, none⟩)) :: _) rfl ?_; clear hA; intro a hA
                                  refine dr_y hA rfl rfl rfl (by decide) hS (fun w' hS' => rn_load tbOk hA rfl rfl rfl rfl (cell_row (hS'.heapAt 4 rfl) rfl)) ?_; clear hA; intro a hA
                                  refine dr_run tbOk 3 hA hS (e' := (216, .pointer (some ⟨bm, 1, none⟩)) :: (215, .pointer (some ⟨bm, 0, none⟩)) :: (214, .pointer (some ⟨bm, 0, none⟩)) :: _) rfl ?_; clear hA; intro a hA
                                  refine dr_y hA rfl rfl rfl (by decide) hS (fun w' hS' => rn_load tbOk hA rfl rfl rfl rfl (cell_row (hS'.heapAt 0 rfl) rfl)) ?_; clear hA; intro a hA
                                  refine dr_run tbOk 1 hA hS (e' := (218, .int .i64 ((q.length : Nat) : Int)) :: _) rfl ?_; clear hA; intro a hA
                                  refine dr_y hA rfl rfl rfl (by decide) hS (fun w' hS' => rn_rem hA rfl rfl rfl (by omega)) ?_; clear hA; intro a hA
                                  refine dr_run tbOk 1 hA hS (e' := (19, .int .i64 (wi.tmod ((q.length : Nat) : Int))) :: _) rfl ?_; clear hA; intro a hA
                                  refine dr_end ?_
                                  replace hA := hA.sel [0, 17, 18, 19] (e' := [(0, .pointer (some ⟨bm, 0, none⟩)), (17, .int .i64 0), (18, .iface 53 (.int .i64 12)), (19, .int .i64 (wi.tmod ((q.length : Nat) : Int)))]) rfl
                                  refine xt_norm ?_
                                  refine wp_seq ?_
                                  refine wp_seq ?_
                                  refine wp_region_lit ?_
                                  refine st_run tbOk 2 hA (e' := (221, .bool (decide (wi.tmod ((q.length : Nat) : Int) < 0))) :: (220, .int .i64 (wi.tmod ((q.length : Nat) : Int))) :: _) rfl ?_; clear hA; intro a hA
                                  refine wpList_nil ?_
                                  replace hA := hA.sel [0, 17, 18, 19, 221] (e' := [(0, .pointer (some ⟨bm, 0, none⟩)), (17, .int .i64 0), (18, .iface 53 (.int .i64 12)), (19, .int .i64 (wi.tmod ((q.length : Nat) : Int))), (221, .bool (decide (wi.tmod ((q.length : Nat) : Int) < 0)))]) rfl
                                  refine xt_norm ?_
                                  by_cases hc214 : wi.tmod ((q.length : Nat) : Int) < 0
                                  · first
                                    | (exfalso; omega)
                                    | (replace hA := hA.rw 221 (v' := .bool true) rfl (vb_true hc214)
                                       refine cd_cond_t hA rfl ?_
                                       refine wp_region_lit ?_
                                       refine st_run tbOk 4 hA (e' := (225, .pointer (some ⟨bm, 1, none⟩)) :: (224, .pointer (some ⟨bm, 0, none⟩)) :: (223, .pointer (some ⟨bm, 0, none⟩)) :: (222, .int .i64 (wi.tmod ((q.length : Nat) : Int))) :: _) rfl ?_; clear hA; intro a hA
                                       refine st_val hA rfl rfl (by decide) (rn_load tbOk hA rfl rfl rfl rfl (cell_row (hS.heapAt 0 rfl) rfl)) ?_; clear hA; intro a hA
                                       refine st_run tbOk 2 hA (e' := (228, .int .i64 (IntKind.i64.wrap ((wi.tmod ((q.length : Nat) : Int)) + ((q.length : Nat) : Int)))) :: (227, .int .i64 ((q.length : Nat) : Int)) :: _) rfl ?_; clear hA; intro a hA
                                       replace hA := hA.rw 228 (v' := .int .i64 ((wi.tmod ((q.length : Nat) : Int)) + ((q.length : Nat) : Int))) rfl (wr64 (by omega) (by omega) (by omega))
                                       refine st_run tbOk 1 hA (e' := (19, .int .i64 ((wi.tmod ((q.length : Nat) : Int)) + ((q.length : Nat) : Int))) :: _) rfl ?_; clear hA; intro a hA
                                       refine wpList_nil ?_
                                       replace hA := hA.sel [0, 17, 18, 19] (e' := [(0, .pointer (some ⟨bm, 0, none⟩)), (17, .int .i64 0), (18, .iface 53 (.int .i64 12)), (19, .int .i64 ((wi.tmod ((q.length : Nat) : Int)) + ((q.length : Nat) : Int)))]) rfl
                                       refine xt_norm ?_
                                       refine wp_seq ?_
                                       refine wp_region_lit ?_
                                       replace hA := hA.rw 19 (v' := .int .i64 ((k2 : Nat) : Int)) rfl (vint (hn1 (by omega)))
                                       refine st_run tbOk 3 hA (e' := (231, .pointer (some ⟨bm, 1, none⟩)) :: (230, .pointer (some ⟨bm, 0, none⟩)) :: (229, .pointer (some ⟨bm, 0, none⟩)) :: _) rfl ?_; clear hA; intro a hA
                                       refine st_val hA rfl rfl (by decide) (rn_load tbOk hA rfl rfl rfl rfl (cell_row (hS.heapAt 0 rfl) rfl)) ?_; clear hA; intro a hA
                                       refine st_run tbOk 1 hA (e' := (233, .int .i64 ((k2 : Nat) : Int)) :: _) rfl ?_; clear hA; intro a hA
                                       obtain ⟨b215, o216, rfl⟩ := hQ209.isSome (k := k2) (by omega)
                                       refine st_val hA rfl rfl (by decide) (rn_indexAddr tbOk hA k2 (o216 + k2) rfl rfl rfl rfl rfl rfl (by rfl) (by omega) (by first | rfl | simp [Nat.mul_one, Nat.zero_add] | omega)) ?_; clear hA; intro a hA
                                       obtain ⟨x217, hx217⟩ := get_ex (l := q) (k := k2) (by omega)
                                       refine st_val hA rfl rfl (by decide) (rn_load tbOk hA rfl rfl rfl rfl ((hQ209.rd (hS.own_ 2 rfl)).elem0 (k := k2) encI_ok hx217 rfl)) ?_; clear hA; intro a hA
                                       refine st_run tbOk 1 hA (e' := (20, .int .i64 x217) :: _) rfl ?_; clear hA; intro a hA
                                       refine wpList_nil ?_
                                       replace hA := hA.sel [0, 17, 18, 20] (e' := [(0, .pointer (some ⟨bm, 0, none⟩)), (17, .int .i64 0), (18, .iface 53 (.int .i64 12)), (20, .int .i64 x217)]) rfl
                                       refine xt_norm ?_
                                       refine wp_seq ?_
                                       refine wp_region_lit ?_
                                       replace hS := hS.front 2 (C := D209) (L' := [(bm, rowO [.slice A209 ts.length c209, .slice (some ⟨b215, o216, none⟩) q.length d209] 32)] :: C209 :: L206 :: [(b1, rowO [.int .u8 ((o : Nat) : Int), .int .i8 id, .int .i64 wi] 35)] :: F) rfl rfl
                                       replace hS := hS.front 2 (C := C209) (L' := D209 :: [(bm, rowO [.slice A209 ts.length c209, .slice (some ⟨b215, o216, none⟩) q.length d209] 32)] :: L206 :: [(b1, rowO [.int .u8 ((o : Nat) : Int), .int .i8 id, .int .i64 wi] 35)] :: F) rfl rfl
                                       replace hS := hS.front 2 (C := [(bm, rowO [.slice A209 ts.length c209, .slice (some ⟨b215, o216, none⟩) q.length d209] 32)]) (L' := C209 :: D209 :: L206 :: [(b1, rowO [.int .u8 ((o : Nat) : Int), .int .i8 id, .int .i64 wi] 35)] :: F) rfl rfl
                                       obtain ⟨L218, hM219, hS⟩ : ∃ Z, TR 32 bm (ts) (q) Z ∧ St w0 w207.drew (Z :: L206 :: [(b1, rowO [.int .u8 ((o : Nat) : Int), .int .i8 id, .int .i64 wi] 35)] :: F) := ⟨_, ⟨_, _, _, _, hO209, hQ209, rfl⟩, hS.join3⟩
                                       replace hA := hA.rw 20 (v' := .int .i64 ((n : Nat) : Int)) rfl rfl
                                       refine st_run tbOk 2 hA (e' := (237, .int .i64 ((n : Nat) : Int)) :: (236, .pointer (some ⟨bm, 0, none⟩)) :: _) rfl ?_; clear hA; intro a hA
                                       refine st_call0 hA rfl rfl rfl isfn16 rfl rfl (by decide) (mturn_rdy16 hS hM219 n 1 0 hnx hql (by decide)) ?_
                                       clear hA hS; rintro v w221 a ⟨L220, hM222, rfl, hS⟩ hA
                                       refine wpList_nil ?_
                                       replace hA := hA.sel [17, 18, 20] (e' := [(17, .int .i64 0), (18, .iface 53 (.int .i64 12)), (20, .int .i64 ((n : Nat) : Int))]) rfl
                                       refine xt_norm ?_
                                       refine wp_seq ?_
                                       refine wp_region_lit ?_
                                       rw [set_same hnx, filt_rest hT.2.1 hx] at hM222
                                       refine st_run tbOk 4 hA (e' := (242, .bool (0 == ((n : Nat) : Int))) :: (241, .bool (0 == ((n : Nat) : Int))) :: (240, .int .i64 ((n : Nat) : Int)) :: (239, .int .i64 0) :: _) rfl ?_; clear hA; intro a hA
                                       by_cases hc223 : 0 = ((n : Nat) : Int)
                                       · first
                                         | (exfalso; omega)
                                         | (replace hA := hA.rw 241 (v' := .bool true) rfl (vb_eq_t hc223)
                                            replace hA := hA.rw 242 (v' := .bool true) rfl (vb_eq_t hc223)
                                            refine st_run tbOk 4 hA (e' := (6, .bool false) :: (245, .bool false) :: (244, .bool false) :: (243, .iface 53 (.int .i64 12)) :: _) rfl ?_; clear hA; intro a hA
                                            refine wpList_nil ?_
                                            replace hA := hA.sel [6] (e' := [(6, .bool false)]) rfl
                                            refine xt_norm ?_
                                            refine wp_ret ?_
                                            refine ret1 (fn := Tryd.f6) hA rfl rfl ?_
                                            exfalso; omega)
                                       · first
                                         | (exfalso; omega)
                                         | (replace hA := hA.rw 241 (v' := .bool false) rfl (vb_eq_f hc223)
                                            replace hA := hA.rw 242 (v' := .bool false) rfl (vb_eq_f hc223)
                                            refine st_run tbOk 4 hA (e' := (6, .bool false) :: (245, .bool false) :: (244, undef) :: (243, undef) :: _) rfl ?_; clear hA; intro a hA
                                            refine wpList_nil ?_
                                            replace hA := hA.sel [6] (e' := [(6, .bool false)]) rfl
                                            refine xt_norm ?_
                                            refine wp_ret ?_
                                            refine ret1 (fn := Tryd.f6) hA rfl rfl ?_
                                            exfalso; omega))
                                  · first
                                    | (exfalso; omega)
                                    | (replace hA := hA.rw 221 (v' := .bool false) rfl (vb_false hc214)
                                       refine cd_cond_f hA rfl ?_
                                       refine wp_skip ?_
                                       refine xt_norm ?_
                                       refine wp_seq ?_
                                       refine wp_region_lit ?_
                                       replace hA := hA.rw 19 (v' := .int .i64 ((k2 : Nat) : Int)) rfl (vint (hn2 (by omega)))
                                       refine st_run tbOk 3 hA (e' := (231, .pointer (some ⟨bm, 1, none⟩)) :: (230, .pointer (some ⟨bm, 0, none⟩)) :: (229, .pointer (some ⟨bm, 0, none⟩)) :: _) rfl ?_; clear hA; intro a hA
                                       refine st_val hA rfl rfl (by decide) (rn_load tbOk hA rfl rfl rfl rfl (cell_row (hS.heapAt 0 rfl) rfl)) ?_; clear hA; intro a hA
                                       refine st_run tbOk 1 hA (e' := (233, .int .i64 ((k2 : Nat) : Int)) :: _) rfl ?_; clear hA; intro a hA
                                       obtain ⟨b224, o225, rfl⟩ := hQ209.isSome (k := k2) (by omega)
                                       refine st_val hA rfl rfl (by decide) (rn_indexAddr tbOk hA k2 (o225 + k2) rfl rfl rfl rfl rfl rfl (by rfl) (by omega) (by first | rfl | simp [Nat.mul_one, Nat.zero_add] | omega)) ?_; clear hA; intro a hA
                                       obtain ⟨x226, hx226⟩ := get_ex (l := q) (k := k2) (by omega)
                                       refine st_val hA rfl rfl (by decide) (rn_load tbOk hA rfl rfl rfl rfl ((hQ209.rd (hS.own_ 2 rfl)).elem0 (k := k2) encI_ok hx226 rfl)) ?_; clear hA; intro a hA
                                       refine st_run tbOk 1 hA (e' := (20, .int .i64 x226) :: _) rfl ?_; clear hA; intro a hA
                                       refine wpList_nil ?_
                                       replace hA := hA.sel [0, 17, 18, 20] (e' := [(0, .pointer (some ⟨bm, 0, none⟩)), (17, .int .i64 0), (18, .iface 53 (.int .i64 12)), (20, .int .i64 x226)]) rfl
                                       refine xt_norm ?_
                                       refine wp_seq ?_
                                       refine wp_region_lit ?_
                                       replace hS := hS.front 2 (C := D209) (L' := [(bm, rowO [.slice A209 ts.length c209, .slice (some ⟨b224, o225, none⟩) q.length d209] 32)] :: C209 :: L206 :: [(b1, rowO [.int .u8 ((o : Nat) : Int), .int .i8 id, .int .i64 wi] 35)] :: F) rfl rfl
                                       replace hS := hS.front 2 (C := C209) (L' := D209 :: [(bm, rowO [.slice A209 ts.length c209, .slice (some ⟨b224, o225, none⟩) q.length d209] 32)] :: L206 :: [(b1, rowO [.int .u8 ((o : Nat) : Int), .int .i8 id, .int .i64 wi] 35)] :: F) rfl rfl
                                       replace hS := hS.front 2 (C := [(bm, rowO [.slice A209 ts.length c209, .slice (some ⟨b224, o225, none⟩) q.length d209] 32)]) (L' := C209 :: D209 :: L206 :: [(b1, rowO [.int .u8 ((o : Nat) : Int), .int .i8 id, .int .i64 wi] 35)] :: F) rfl rfl
                                       obtain ⟨L227, hM228, hS⟩ : ∃ Z, TR 32 bm (ts) (q) Z ∧ St w0 w207.drew (Z :: L206 :: [(b1, rowO [.int .u8 ((o : Nat) : Int), .int .i8 id, .int .i64 wi] 35)] :: F) := ⟨_, ⟨_, _, _, _, hO209, hQ209, rfl⟩, hS.join3⟩
                                       replace hA := hA.rw 20 (v' := .int .i64 ((n : Nat) : Int)) rfl rfl
                                       refine st_run tbOk 2 hA (e' := (237, .int .i64 ((n : Nat) : Int)) :: (236, .pointer (some ⟨bm, 0, none⟩)) :: _) rfl ?_; clear hA; intro a hA
                                       refine st_call0 hA rfl rfl rfl isfn16 rfl rfl (by decide) (mturn_rdy16 hS hM228 n 1 0 hnx hql (by decide)) ?_
                                       clear hA hS; rintro v w230 a ⟨L229, hM231, rfl, hS⟩ hA
                                       refine wpList_nil ?_
                                       replace hA := hA.sel [17, 18, 20] (e' := [(17, .int .i64 0), (18, .iface 53 (.int .i64 12)), (20, .int .i64 ((n : Nat) : Int))]) rfl
                                       refine xt_norm ?_
                                       refine wp_seq ?_
                                       refine wp_region_lit ?_
                                       rw [set_same hnx, filt_rest hT.2.1 hx] at hM231
                                       refine st_run tbOk 4 hA (e' := (242, .bool (0 == ((n : Nat) : Int))) :: (241, .bool (0 == ((n : Nat) : Int))) :: (240, .int .i64 ((n : Nat) : Int)) :: (239, .int .i64 0) :: _) rfl ?_; clear hA; intro a hA
                                       by_cases hc232 : 0 = ((n : Nat) : Int)
                                       · first
                                         | (exfalso; omega)
                                         | (replace hA := hA.rw 241 (v' := .bool true) rfl (vb_eq_t hc232)
                                            replace hA := hA.rw 242 (v' := .bool true) rfl (vb_eq_t hc232)
                                            refine st_run tbOk 4 hA (e' := (6, .bool false) :: (245, .bool false) :: (244, .bool false) :: (243, .iface 53 (.int .i64 12)) :: _) rfl ?_; clear hA; intro a hA
                                            refine wpList_nil ?_
                                            replace hA := hA.sel [6] (e' := [(6, .bool false)]) rfl
                                            refine xt_norm ?_
                                            refine wp_ret ?_
                                            refine ret1 (fn := Tryd.f6) hA rfl rfl ?_
                                            exfalso; omega)
                                       · first
                                         | (exfalso; omega)
                                         | (replace hA := hA.rw 241 (v' := .bool false) rfl (vb_eq_f hc232)
                                            replace hA := hA.rw 242 (v' := .bool false) rfl (vb_eq_f hc232)
                                            refine st_run tbOk 4 hA (e' := (6, .bool false) :: (245, .bool false) :: (244, undef) :: (243, undef) :: _) rfl ?_; clear hA; intro a hA
                                            refine wpList_nil ?_
                                            replace hA := hA.sel [6] (e' := [(6, .bool false)]) rfl
                                            refine xt_norm ?_
                                            refine wp_ret ?_
                                            refine ret1 (fn := Tryd.f6) hA rfl rfl ?_
                                            exfalso; omega)))
                           · replace hS := hS.front 2 (C := L) (L' := L3 :: [(b1, rowO [.int .u8 ((o : Nat) : Int), .int .i8 id, .int .i64 wi] 35)] :: F) rfl rfl
                             refine st_call0 hA rfl rfl rfl isfn19 rfl rfl (by decide) (pick_ok19 hS hM wi h0 hql hT.2.1) ?_
                             clear hA hS; rintro v w233 a ⟨k, x, hk, hkp, hx, L234, hM235, rfl, hS⟩ hA
                             obtain ⟨k2, hk2, hkp2, hn1, hn2⟩ := turn_round wi q.length h0
                             obtain rfl : k2 = k := by omega
                             obtain ⟨n, p, rfl, hnx⟩ := hI.qi x (List.mem_of_getElem? hx)
                             have hn := (List.getElem?_eq_some_iff.1 hnx).1
                             refine st_run tbOk 5 hA (e' := (18, .nilIface) :: (17, .int .i64 ((n : Nat) : Int)) :: (198, .nilIface) :: (197, .int .i64 ((n : Nat) : Int)) :: (192, .tuple #[.int .i64 ((n : Nat) : Int), .nilIface]) :: _) rfl ?_; clear hA; intro a hA
                             refine wpList_nil ?_
                             replace hA := hA.sel [0, 5, 17, 18] (e' := [(0, .pointer (some ⟨bm, 0, none⟩)), (5, .pointer (some ⟨b1, 0, none⟩)), (17, .int .i64 ((n : Nat) : Int)), (18, .nilIface)]) rfl
                             refine xt_norm ?_
                             refine wp_seq ?_
                             refine wp_seq ?_
                             refine wp_region_lit ?_
                             replace hS := hS.front 1 (C := L3) (L' := L234 :: [(b1, rowO [.int .u8 ((o : Nat) : Int), .int .i8 id, .int .i64 wi] 35)] :: F) rfl rfl
                             obtain ⟨v236, C236, u236, D236, hO236, hQ236, rfl⟩ := hM5
                             obtain ⟨A236, c236, rfl, hmc236, hxc236⟩ := hO236.open'
                             obtain ⟨B236, d236, rfl, hmd236, hxd236⟩ := hQ236.open'
                             replace hS := hS.split3
                             refine st_run tbOk 3 hA (e' := (201, .pointer (some ⟨bm, 1, none⟩)) :: (200, .pointer (some ⟨bm, 0, none⟩)) :: (199, .pointer (some ⟨bm, 0, none⟩)) :: _) rfl ?_; clear hA; intro a hA
                             refine st_val hA rfl rfl (by decide) (rn_load tbOk hA rfl rfl rfl rfl (cell_row (hS.heapAt 0 rfl) rfl)) ?_; clear hA; intro a hA
                             refine st_run tbOk 2 hA (e' := (204, .bool (((q.length : Nat) : Int) == 0)) :: (203, .int .i64 ((q.length : Nat) : Int)) :: _) rfl ?_; clear hA; intro a hA
                             refine wpList_nil ?_
                             replace hA := hA.sel [0, 5, 17, 18, 204] (e' := [(0, .pointer (some ⟨bm, 0, none⟩)), (5, .pointer (some ⟨b1, 0, none⟩)), (17, .int .i64 ((n : Nat) : Int)), (18, .nilIface), (204, .bool (((q.length : Nat) : Int) == 0))]) rfl
                             refine xt_norm ?_
                             by_cases hc237 : ((q.length : Nat) : Int) = 0
                             · first
                               | (exfalso; omega)
                               | (replace hA := hA.rw 204 (v' := .bool true) rfl (vb_eq_t hc237)
                                  refine cd_cond_t hA rfl ?_
                                  refine wp_seq ?_
                                  refine wp_region_lit ?_
                                  refine st_run tbOk 3 hA (e' := (207, .bool (((n : Nat) : Int) == 0)) :: (206, .bool (((n : Nat) : Int) == 0)) :: (205, .int .i64 ((n : Nat) : Int)) :: _) rfl ?_; clear hA; intro a hA
                                  by_cases hc238 : ((n : Nat) : Int) = 0
                                  · first
                                    | (exfalso; omega)
                                    | (replace hA := hA.rw 206 (v' := .bool true) rfl (vb_eq_t hc238)
                                       replace hA := hA.rw 207 (v' := .bool true) rfl (vb_eq_t hc238)
                                       refine st_run tbOk 1 hA (e' := (208, .nilIface) :: _) rfl ?_; clear hA; intro a hA
                                       refine st_call0 hA rfl rfl rfl isfn15 rfl rfl (by decide) (number_nil15 hS hg) ?_
                                       clear hA hS; rintro v w239 a ⟨rfl, hS⟩ hA
                                       refine st_run tbOk 3 hA (e' := (6, .bool false) :: (211, .bool false) :: (210, .bool false) :: _) rfl ?_; clear hA; intro a hA
                                       refine wpList_nil ?_
                                       replace hA := hA.sel [6] (e' := [(6, .bool false)]) rfl
                                       refine xt_norm ?_
                                       refine wp_ret (xt_ret ?_)
                                       refine ret1 (fn := Tryd.f6) hA rfl rfl ?_
                                       exfalso; omega)
                                  · first
                                    | (exfalso; omega)
                                    | (replace hA := hA.rw 206 (v' := .bool false) rfl (vb_eq_f hc238)
                                       replace hA := hA.rw 207 (v' := .bool false) rfl (vb_eq_f hc238)
                                       refine st_run tbOk 5 hA (e' := (6, .bool false) :: (211, .bool false) :: (210, undef) :: (209, undef) :: (208, undef) :: _) rfl ?_; clear hA; intro a hA
                                       refine wpList_nil ?_
                                       replace hA := hA.sel [6] (e' := [(6, .bool false)]) rfl
                                       refine xt_norm ?_
                                       refine wp_ret (xt_ret ?_)
                                       refine ret1 (fn := Tryd.f6) hA rfl rfl ?_
                                       exfalso; omega))
                             · first
                               | (exfalso; omega)
                               | (replace hA := hA.rw 204 (v' := .bool false) rfl (vb_eq_f hc237)
                                  refine cd_cond_f hA rfl ?_
                                  refine wp_skip ?_
                                  refine xt_norm ?_
                                  refine wp_seq ?_
                                  refine wp_draw (fun w' => St w0 w' ([(bm, rowO [.slice A236 ts.length c236, .slice B236 q.length d236] 32)] :: C236 :: D236 :: L234 :: [(b1, rowO [.int .u8 ((o : Nat) : Int), .int .i8 id, .int .i64 wi] 35)] :: F)) [] [(0, true), (1, true), (2, true), (3, true), (4, true), (5, true), (6, true), (7, true), (8, true)] mixed (by kernel_rfl) (by rintro c a w ⟨_, _, h, _⟩; cases h) (by rfl) (by kernel_rfl) ?_
                                  replace hS := hS.drew
                                  refine dr_run tbOk 1 hA hS (e' := (212, .pointer (some ⟨b1, 2, none⟩)) :: _) rfl ?_; clear hA; intro a hA
                                  refine dr_y hA rfl rfl rfl (by decide) hS (fun w' hS' => rn_load tbOk hA rfl rfl rfl rfl (cell_row (hS'.heapAt 4 rfl) rfl)) ?_; clear hA; intro a hA
                                  refine dr_run tbOk 3 hA hS (e' := (216, .pointer (some ⟨bm, 1, none⟩)) :: (215, .pointer (some ⟨bm, 0, none⟩)) :: (214, .pointer (some ⟨bm, 0, none⟩)) :: _) rfl ?_; clear hA; intro a hA
                                  refine dr_y hA rfl rfl rfl (by decide) hS (fun w' hS' => rn_load tbOk hA rfl rfl rfl rfl (cell_row (hS'.heapAt 0 rfl) rfl)) ?_; clear hA; intro a hA
                                  refine dr_run tbOk 1 hA hS (e' := (218, .int .i64 ((q.length : Nat) : Int)) :: _) rfl ?_; clear hA; intro a hA
                                  refine dr_y hA rfl rfl rfl (by decide) hS (fun w' hS' => rn_rem hA rfl rfl rfl (by omega)) ?_; clear hA; intro a hA
                                  refine dr_run tbOk 1 hA hS (e' := (19, .int .i64 (wi.tmod ((q.length : Nat) : Int))) :: _) rfl ?_; clear hA; intro a hA
                                  refine dr_end ?_
                                  replace hA := hA.sel [0, 17, 18, 19] (e' := [(0, .pointer (some ⟨bm, 0, none⟩)), (17, .int .i64 ((n : Nat) : Int)), (18, .nilIface), (19, .int .i64 (wi.tmod ((q.length : Nat) : Int)))]) rfl
                                  refine xt_norm ?_
                                  refine wp_seq ?_
                                  refine wp_seq ?_
                                  refine wp_region_lit ?_
                                  refine st_run tbOk 2 hA (e' := (221, .bool (decide (wi.tmod ((q.length : Nat) : Int) < 0))) :: (220, .int .i64 (wi.tmod ((q.length : Nat) : Int))) :: _) rfl ?_; clear hA; intro a hA
                                  refine wpList_nil ?_
                                  replace hA := hA.sel [0, 17, 18, 19, 221] (e' := [(0, .pointer (some ⟨bm, 0, none⟩)), (17, .int .i64 ((n : Nat) : Int)), (18, .nilIface), (19, .int .i64 (wi.tmod ((q.length : Nat) : Int))), (221, .bool (decide (wi.tmod ((q.length : Nat) : Int) < 0)))]) rfl
                                  refine xt_norm ?_
                                  by_cases hc240 : wi.tmod ((q.length : Nat) : Int) < 0
                                  · first
                                    | (exfalso; omega)
                                    | (replace hA := hA.rw 221 (v' := .bool true) rfl (vb_true hc240)
                                       refine cd_cond_t hA rfl ?_
                                       refine wp_region_lit ?_
                                       refine st_run tbOk 4 hA (e' := (225, .pointer (some ⟨bm, 1, none⟩)) :: (224, .pointer (some ⟨bm, 0, none⟩)) :: (223, .pointer (some ⟨bm, 0, none⟩)) :: (222, .int .i64 (wi.tmod ((q.length : Nat) : Int))) :: _) rfl ?_; clear hA; intro a hA
                                       refine st_val hA rfl rfl (by decide) (rn_load tbOk hA rfl rfl rfl rfl (cell_row (hS.heapAt 0 rfl) rfl)) ?_; clear hA; intro a hA
                                       refine st_run tbOk 2 hA (e' := (228, .int .i64 (IntKind.i64.wrap ((wi.tmod ((q.length : Nat) : Int)) + ((q.length : Nat) : Int)))) :: (227, .int .i64 ((q.length : Nat) : Int)) :: _) rfl ?_; clear hA; intro a hA
                                       replace hA := hA.rw 228 (v' := .int .i64 ((wi.tmod ((q.length : Nat) : Int)) + ((q.length : Nat) : Int))) rfl (wr64 (by omega) (by omega) (by omega))
                                       refine st_run tbOk 1 hA (e' := (19, .int .i64 ((wi.tmod ((q.length : Nat) : Int)) + ((q.length : Nat) : Int))) :: _) rfl ?_; clear hA; intro a hA
                                       refine wpList_nil ?_
                                       replace hA := hA.sel [0, 17, 18, 19] (e' := [(0, .pointer (some ⟨bm, 0, none⟩)), (17, .int .i64 ((n : Nat) : Int)), (18, .nilIface), (19, .int .i64 ((wi.tmod ((q.length : Nat) : Int)) + ((q.length : Nat) : Int)))]) rfl
                                       refine xt_norm ?_
                                       refine wp_seq ?_
                                       refine wp_region_lit ?_
                                       replace hA := hA.rw 19 (v' := .int .i64 ((k2 : Nat) : Int)) rfl (vint (hn1 (by omega)))
                                       refine st_run tbOk 3 hA (e' := (231, .pointer (some ⟨bm, 1, none⟩)) :: (230, .pointer (some ⟨bm, 0, none⟩)) :: (229, .pointer (some ⟨bm, 0, none⟩)) :: _) rfl ?_; clear hA; intro a hA
                                       refine st_val hA rfl rfl (by decide) (rn_load tbOk hA rfl rfl rfl rfl (cell_row (hS.heapAt 0 rfl) rfl)) ?_; clear hA; intro a hA
                                       refine st_run tbOk 1 hA (e' := (233, .int .i64 ((k2 : Nat) : Int)) :: _) rfl ?_; clear hA; intro a hA
                                       obtain ⟨b241, o242, rfl⟩ := hQ236.isSome (k := k2) (by omega)
                                       refine st_val hA rfl rfl (by decide) (rn_indexAddr tbOk hA k2 (o242 + k2) rfl rfl rfl rfl rfl rfl (by rfl) (by omega) (by first | rfl | simp [Nat.mul_one, Nat.zero_add] | omega)) ?_; clear hA; intro a hA
                                       refine st_val hA rfl rfl (by decide) (rn_load tbOk hA rfl rfl rfl rfl ((hQ236.rd (hS.own_ 2 rfl)).elem0 (k := k2) encI_ok hx rfl)) ?_; clear hA; intro a hA
                                       refine st_run tbOk 1 hA (e' := (20, .int .i64 ((n : Nat) : Int)) :: _) rfl ?_; clear hA; intro a hA
                                       refine wpList_nil ?_
                                       replace hA := hA.sel [0, 17, 18, 20] (e' := [(0, .pointer (some ⟨bm, 0, none⟩)), (17, .int .i64 ((n : Nat) : Int)), (18, .nilIface), (20, .int .i64 ((n : Nat) : Int))]) rfl
                                       refine xt_norm ?_
                                       refine wp_seq ?_
                                       refine wp_region_lit ?_
                                       replace hS := hS.front 2 (C := D236) (L' := [(bm, rowO [.slice A236 ts.length c236, .slice (some ⟨b241, o242, none⟩) q.length d236] 32)] :: C236 :: L234 :: [(b1, rowO [.int .u8 ((o : Nat) : Int), .int .i8 id, .int .i64 wi] 35)] :: F) rfl rfl
                                       replace hS := hS.front 2 (C := C236) (L' := D236 :: [(bm, rowO [.slice A236 ts.length c236, .slice (some ⟨b241, o242, none⟩) q.length d236] 32)] :: L234 :: [(b1, rowO [.int .u8 ((o : Nat) : Int), .int .i8 id, .int .i64 wi] 35)] :: F) rfl rfl
                                       replace hS := hS.front 2 (C := [(bm, rowO [.slice A236 ts.length c236, .slice (some ⟨b241, o242, none⟩) q.length d236] 32)]) (L' := C236 :: D236 :: L234 :: [(b1, rowO [.int .u8 ((o : Nat) : Int), .int .i8 id, .int .i64 wi] 35)] :: F) rfl rfl
                                       obtain ⟨L243, hM244, hS⟩ : ∃ Z, TR 32 bm (ts) (q) Z ∧ St w0 w233.drew (Z :: L234 :: [(b1, rowO [.int .u8 ((o : Nat) : Int), .int .i8 id, .int .i64 wi] 35)] :: F) := ⟨_, ⟨_, _, _, _, hO236, hQ236, rfl⟩, hS.join3⟩
                                       replace hA := hA.rw 20 (v' := .int .i64 ((n : Nat) : Int)) rfl rfl
                                       refine st_run tbOk 2 hA (e' := (237, .int .i64 ((n : Nat) : Int)) :: (236, .pointer (some ⟨bm, 0, none⟩)) :: _) rfl ?_; clear hA; intro a hA
                                       refine st_call0 hA rfl rfl rfl isfn16 rfl rfl (by decide) (mturn_rdy16 hS hM244 n 1 0 hnx hql (by decide)) ?_
                                       clear hA hS; rintro v w246 a ⟨L245, hM247, rfl, hS⟩ hA
                                       refine wpList_nil ?_
                                       replace hA := hA.sel [17, 18, 20] (e' := [(17, .int .i64 ((n : Nat) : Int)), (18, .nilIface), (20, .int .i64 ((n : Nat) : Int))]) rfl
                                       refine xt_norm ?_
                                       refine wp_seq ?_
                                       refine wp_region_lit ?_
                                       rw [set_same hnx, filt_rest hT.2.1 hx] at hM247
                                       refine st_run tbOk 4 hA (e' := (242, .bool (((n : Nat) : Int) == ((n : Nat) : Int))) :: (241, .bool (((n : Nat) : Int) == ((n : Nat) : Int))) :: (240, .int .i64 ((n : Nat) : Int)) :: (239, .int .i64 ((n : Nat) : Int)) :: _) rfl ?_; clear hA; intro a hA
                                       by_cases hc248 : ((n : Nat) : Int) = ((n : Nat) : Int)
                                       · first
                                         | (exfalso; omega)
                                         | (replace hA := hA.rw 241 (v' := .bool true) rfl (vb_eq_t hc248)
                                            replace hA := hA.rw 242 (v' := .bool true) rfl (vb_eq_t hc248)
                                            refine st_run tbOk 4 hA (e' := (6, .bool true) :: (245, .bool true) :: (244, .bool true) :: (243, .nilIface) :: _) rfl ?_; clear hA; intro a hA
                                            refine wpList_nil ?_
                                            replace hA := hA.sel [6] (e' := [(6, .bool true)]) rfl
                                            refine xt_norm ?_
                                            refine wp_ret ?_
                                            refine ret1 (fn := Tryd.f6) hA rfl rfl ?_
                                            replace hS := hS.front 1 (C := L234) (L' := L245 :: [(b1, rowO [.int .u8 ((o : Nat) : Int), .int .i8 id, .int .i64 wi] 35)] :: F) rfl rfl
                                            replace hS := hS.front 2 (C := [(b1, rowO [.int .u8 ((o : Nat) : Int), .int .i8 id, .int .i64 wi] 35)]) (L' := L234 :: L245 :: F) rfl rfl
                                            replace hS := hS.drop1
                                            exact ⟨ts, q.take k2 ++ q.drop (k2 + 1) ++ [((n : Nat) : Int)], _, _, hM235, hM247, (by have := hI.push hn p; rw [set_same hnx, filt_rest hT.2.1 hx] at this; exact this), (Dead.nq h0 _ _), rfl, hS⟩)
                                       · first
                                         | (exfalso; omega)
                                         | (replace hA := hA.rw 241 (v' := .bool false) rfl (vb_eq_f hc248)
                                            replace hA := hA.rw 242 (v' := .bool false) rfl (vb_eq_f hc248)
                                            refine st_run tbOk 4 hA (e' := (6, .bool false) :: (245, .bool false) :: (244, undef) :: (243, undef) :: _) rfl ?_; clear hA; intro a hA
                                            refine wpList_nil ?_
                                            replace hA := hA.sel [6] (e' := [(6, .bool false)]) rfl
                                            refine xt_norm ?_
                                            refine wp_ret ?_
                                            refine ret1 (fn := Tryd.f6) hA rfl rfl ?_
                                            exfalso; omega))
                                  · first
                                    | (exfalso; omega)
                                    | (replace hA := hA.rw 221 (v' := .bool false) rfl (vb_false hc240)
                                       refine cd_cond_f hA rfl ?_
                                       refine wp_skip ?_
                                       refine xt_norm ?_
                                       refine wp_seq ?_
                                       refine wp_region_lit ?_
                                       replace hA := hA.rw 19 (v' := .int .i64 ((k2 : Nat) : Int)) rfl (vint (hn2 (by omega)))
                                       refine st_run tbOk 3 hA (e' := (231, .pointer (some ⟨bm, 1, none⟩)) :: (230, .pointer (some ⟨bm, 0, none⟩)) :: (229, .pointer (some ⟨bm, 0, none⟩)) :: _) rfl ?_; clear hA; intro a hA
                                       refine st_val hA rfl rfl (by decide) (rn_load tbOk hA rfl rfl rfl rfl (cell_row (hS.heapAt 0 rfl) rfl)) ?_; clear hA; intro a hA
                                       refine st_run tbOk 1 hA (e' := (233, .int .i64 ((k2 : Nat) : Int)) :: _) rfl ?_; clear hA; intro a hA
                                       obtain ⟨b249, o250, rfl⟩ := hQ236.isSome (k := k2) (by omega)
                                       refine st_val hA rfl rfl (by decide) (rn_indexAddr tbOk hA k2 (o250 + k2) rfl rfl rfl rfl rfl rfl (by rfl) (by omega) (by first | rfl | simp [Nat.mul_one, Nat.zero_add] | omega)) ?_; clear hA; intro a hA
                                       refine st_val hA rfl rfl (by decide) (rn_load tbOk hA rfl rfl rfl rfl ((hQ236.rd (hS.own_ 2 rfl)).elem0 (k := k2) encI_ok hx rfl)) ?_; clear hA; intro a hA
                                       refine st_run tbOk 1 hA (e' := (20, .int .i64 ((n : Nat) : Int)) :: _) rfl ?_; clear hA; intro a hA
                                       refine wpList_nil ?_
                                       replace hA := hA.sel [0, 17, 18, 20] (e' := [(0, .pointer (some ⟨bm, 0, none⟩)), (17, .int .i64 ((n : Nat) : Int)), (18, .nilIface), (20, .int .i64 ((n : Nat) : Int))]) rfl
                                       refine xt_norm ?_
                                       refine wp_seq ?_
                                       refine wp_region_lit ?_
                                       replace hS := hS.front 2 (C := D236) (L' := [(bm, rowO [.slice A236 ts.length c236, .slice (some ⟨b249, o250, none⟩) q.length d236] 32)] :: C236 :: L234 :: [(b1, rowO [.int .u8 ((o : Nat) : Int), .int .i8 id, .int .i64 wi] 35)] :: F) rfl rfl
                                       replace hS := hS.front 2 (C := C236) (L' := D236 :: [(bm, rowO [.slice A236 ts.length c236, .slice (some ⟨b249, o250, none⟩) q.length d236] 32)] :: L234 :: [(b1, rowO [.int .u8 ((o : Nat) : Int), .int .i8 id, .int .i64 wi] 35)] :: F) rfl rfl
                                       replace hS := hS.front 2 (C := [(bm, rowO [.slice A236 ts.length c236, .slice (some ⟨b249, o250, none⟩) q.length d236] 32)]) (L' := C236 :: D236 :: L234 :: [(b1, rowO [.int .u8 ((o : Nat) : Int), .int .i8 id, .int .i64 wi] 35)] :: F) rfl rfl
                                       obtain ⟨L251, hM252, hS⟩ : ∃ Z, TR 32 bm (ts) (q) Z ∧ St w0 w233.drew (Z :: L234 :: [(b1, rowO [.int .u8 ((o : Nat) : Int), .int .i8 id, .int .i64 wi] 35)] :: F) := ⟨_, ⟨_, _, _, _, hO236, hQ236, rfl⟩, hS.join3⟩
                                       replace hA := hA.rw 20 (v' := .int .i64 ((n : Nat) : Int)) rfl rfl
                                       refine st_run tbOk 2 hA (e' := (237, .int .i64 ((n : Nat) : Int)) :: (236, .pointer (some ⟨bm, 0, none⟩)) :: _) rfl ?_; clear hA; intro a hA
                                       refine st_call0 hA rfl rfl rfl isfn16 rfl rfl (by decide) (mturn_rdy16 hS hM252 n 1 0 hnx hql (by decide)) ?_
                                       clear hA hS; rintro v w254 a ⟨L253, hM255, rfl, hS⟩ hA
                                       refine wpList_nil ?_
                                       replace hA := hA.sel [17, 18, 20] (e' := [(17, .int .i64 ((n : Nat) : Int)), (18, .nilIface), (20, .int .i64 ((n : Nat) : Int))]) rfl
                                       refine xt_norm ?_
                                       refine wp_seq ?_
                                       refine wp_region_lit ?_
                                       rw [set_same hnx, filt_rest hT.2.1 hx] at hM255
                                       refine st_run tbOk 4 hA (e' := (242, .bool (((n : Nat) : Int) == ((n : Nat) : Int))) :: (241, .bool (((n : Nat) : Int) == ((n : Nat) : Int))) :: (240, .int .i64 ((n : Nat) : Int)) :: (239, .int .i64 ((n : Nat) : Int)) :: _) rfl ?_; clear hA; intro a hA
                                       by_cases hc256 : ((n : Nat) : Int) = ((n : Nat) : Int)
                                       · first
                                         | (exfalso; omega)
                                         | (replace hA := hA.rw 241 (v' := .bool true) rfl (vb_eq_t hc256)
                                            replace hA := hA.rw 242 (v' := .bool true) rfl (vb_eq_t hc256)
                                            refine st_run tbOk 4 hA (e' := (6, .bool true) :: (245, .bool true) :: (244, .bool true) :: (243, .nilIface) :: _) rfl ?_; clear hA; intro a hA
                                            refine wpList_nil ?_
                                            replace hA := hA.sel [6] (e' := [(6, .bool true)]) rfl
                                            refine xt_norm ?_
                                            refine wp_ret ?_
                                            refine ret1 (fn := Tryd.f6) hA rfl rfl ?_
                                            replace hS := hS.front 1 (C := L234) (L' := L253 :: [(b1, rowO [.int .u8 ((o : Nat) : Int), .int .i8 id, .int .i64 wi] 35)] :: F) rfl rfl
                                            replace hS := hS.front 2 (C := [(b1, rowO [.int .u8 ((o : Nat) : Int), .int .i8 id, .int .i64 wi] 35)]) (L' := L234 :: L253 :: F) rfl rfl
                                            replace hS := hS.drop1
                                            exact ⟨ts, q.take k2 ++ q.drop (k2 + 1) ++ [((n : Nat) : Int)], _, _, hM235, hM255, (by have := hI.push hn p; rw [set_same hnx, filt_rest hT.2.1 hx] at this; exact this), (Dead.nq h0 _ _), rfl, hS⟩)
                                       · first
                                         | (exfalso; omega)
                                         | (replace hA := hA.rw 241 (v' := .bool false) rfl (vb_eq_f hc256)
                                            replace hA := hA.rw 242 (v' := .bool false) rfl (vb_eq_f hc256)
                                            refine st_run tbOk 4 hA (e' := (6, .bool false) :: (245, .bool false) :: (244, undef) :: (243, undef) :: _) rfl ?_; clear hA; intro a hA
                                            refine wpList_nil ?_
                                            replace hA := hA.sel [6] (e' := [(6, .bool false)]) rfl
                                            refine xt_norm ?_
                                            refine wp_ret ?_
                                            refine ret1 (fn := Tryd.f6) hA rfl rfl ?_
                                            exfalso; omega))))))))

theorem stepI {w0 w : World} {F : List Chunk} {L Lm : Chunk} {b bm : Nat} {ts : List (Int × Int × Int)} {q : List Int} (hS : St w0 w (L :: Lm :: F)) (hg : HG w0) (hM : TR 29 b ts q L) (hN : TR 32 bm ts q Lm) (hI : Inv ts q) (o id wi : Int) (ho1 : 0 ≤ o) (ho2 : o < 256) (hid1 : -128 ≤ id) (hid2 : id < 128) :
    Ret Tryd.prog 6 #[.pointer (some ⟨bm, 0, none⟩), .pointer (some ⟨b, 0, none⟩), .agg #[.int .u8 o, .int .i8 id, .int .i64 wi]] w (fun v w' => ∃ ts' q' L' Lm', TR 29 b ts' q' L' ∧ TR 32 bm ts' q' Lm' ∧ Inv ts' q' ∧ Dead ts q o.toNat ts' q' ∧ v = .bool true ∧ St w0 w' (L' :: Lm' :: F)) := by
  obtain ⟨n, rfl⟩ := Int.eq_ofNat_of_zero_le ho1
  exact step6 hS hg hM hN hI n (by omega) id wi hid1 hid2
theorem dead4 {w0 w : World} {F : List Chunk} (hS : St w0 w F) (hg : HG w0) {v : Value} {l : List (Int × Int × Int)} (hr : RdS w0 F 3 v l.length (rows encAct l)) (hw : ∀ x ∈ l, encAct_good x) (u : Int) (hu : 0 ≤ u) (hu2 : u < 256) :
    Ret Tryd.prog 4 #[v, .int .u8 u] w (fun v w' => v = .bool true ∧ St w0 w' F) := by
  obtain ⟨A, c, rfl, hmc, hcx⟩ := (hr w hS).open'
  refine enter (vs := [.slice A l.length c, .int .u8 u]) 74 Tryd.func4 rfl rfl (by simp) ?_; intro a hA
  refine wp_seq ?_
  refine wp_region_lit ?_
  refine st_run tbOk 1 hA (e' := (4, .bool false) :: _) rfl ?_; clear hA; intro a hA
  refine wpList_nil ?_
  replace hA := hA.sel [0, 1] (e' := [(0, .slice A l.length c), (1, .int .u8 u)]) rfl
  refine xt_norm ?_
  refine wp_seq ?_
  refine wp_seq ?_
  refine wp_region_lit ?_
  refine st_call0 hA rfl rfl rfl isfn5 rfl rfl (by decide) (awake5 hS) ?_
  clear hA hS; rintro v w1 a ⟨rfl, hS⟩ hA
  refine st_run tbOk 1 hA (e' := (13, .bool false) :: _) rfl ?_; clear hA; intro a hA
  refine wpList_nil ?_
  replace hA := hA.sel [0, 1, 13] (e' := [(0, .slice A l.length c), (1, .int .u8 u), (13, .bool false)]) rfl
  refine xt_norm ?_
  refine cd_cond_f hA rfl ?_
  refine wp_skip ?_
  refine xt_norm ?_
  refine wp_seq ?_
  refine wp_region_lit ?_
  refine st_run tbOk 1 hA (e' := (14, .agg #[.slice none 0 0, .slice none 0 0]) :: _) rfl ?_; clear hA; intro a hA
  refine st_box hA hS [.slice none 0 0, .slice none 0 0] rfl rfl rfl rfl rfl (by decide) ?_; clear hA hS; intro b2 w3 a hS hA
  obtain ⟨L4, hM5, hS⟩ : ∃ Z, TR 29 b2 [] [] Z ∧ St w0 w3 (Z :: F) := ⟨_, TR.new _ _, hS⟩
  refine st_run tbOk 1 hA (e' := (5, .pointer (some ⟨b2, 0, none⟩)) :: _) rfl ?_; clear hA; intro a hA
  refine wpList_nil ?_
  replace hA := hA.sel [0, 1, 5] (e' := [(0, .slice A l.length c), (1, .int .u8 u), (5, .pointer (some ⟨b2, 0, none⟩))]) rfl
  refine xt_norm ?_
  refine wp_seq ?_
  refine wp_region_lit ?_
  refine st_run tbOk 3 hA (e' := (19, .int .i64 (IntKind.i64.wrap u)) :: (18, .int .u8 u) :: (17, .pointer (some ⟨b2, 0, none⟩)) :: _) rfl ?_; clear hA; intro a hA
  replace hA := hA.rw 19 (v' := .int .i64 u) rfl (wr64 (by rfl) (by omega) (by omega))
  refine st_call0 hA rfl rfl rfl isfn10 rfl rfl (by decide) (start_ok10 hS hM5 u (by omega) (by decide) (by rfl) (by decide)) ?_
  clear hA hS; rintro v w7 a ⟨L6, hM8, rfl, hS⟩ hA
  refine st_run tbOk 5 hA (e' := (7, .nilIface) :: (6, .int .i64 ((([] : List (Int × Int × Int)).length : Nat) : Int)) :: (22, .nilIface) :: (21, .int .i64 ((([] : List (Int × Int × Int)).length : Nat) : Int)) :: (16, .tuple #[.int .i64 ((([] : List (Int × Int × Int)).length : Nat) : Int), .nilIface]) :: _) rfl ?_; clear hA; intro a hA
  refine wpList_nil ?_
  replace hA := hA.sel [0, 1, 5, 6, 7] (e' := [(0, .slice A l.length c), (1, .int .u8 u), (5, .pointer (some ⟨b2, 0, none⟩)), (6, .int .i64 ((([] : List (Int × Int × Int)).length : Nat) : Int)), (7, .nilIface)]) rfl
  refine xt_norm ?_
  refine wp_seq ?_
  refine wp_region_lit ?_
  replace hA := hA.rw 6 (v' := .int .i64 0) rfl (by rfl)
  refine st_run tbOk 2 hA (e' := (24, .int .i64 0) :: (23, .pointer (some ⟨b2, 0, none⟩)) :: _) rfl ?_; clear hA; intro a hA
  refine st_call0 hA rfl rfl rfl isfn11 rfl rfl (by decide) (exit_ok11 hS hM8 0 (p := u) (s := 1) (u1 := 0) rfl (by decide) (by decide) (by decide)) ?_
  clear hA hS; rintro v w10 a ⟨L9, hM11, rfl, hS⟩ hA
  replace hM11 : TR 29 b2 [(u, 3, 0)] [] L9 := hM11
  refine st_run tbOk 1 hA (e' := (8, .nilIface) :: _) rfl ?_; clear hA; intro a hA
  refine wpList_nil ?_
  replace hA := hA.sel [0, 1, 5, 6, 7, 8] (e' := [(0, .slice A l.length c), (1, .int .u8 u), (5, .pointer (some ⟨b2, 0, none⟩)), (6, .int .i64 0), (7, .nilIface), (8, .nilIface)]) rfl
  refine xt_norm ?_
  refine wp_seq ?_
  refine wp_seq ?_
  refine wp_region_lit ?_
  refine st_run tbOk 3 hA (e' := (28, .int .i64 0) :: (27, .int .i64 ((l.length : Nat) : Int)) :: (26, .slice A l.length c) :: _) rfl ?_; clear hA; intro a hA
  refine wpList_nil ?_
  replace hA := hA.sel [1, 5, 6, 7, 8, 26, 27, 28] (e' := [(1, .int .u8 u), (5, .pointer (some ⟨b2, 0, none⟩)), (6, .int .i64 0), (7, .nilIface), (8, .nilIface), (26, .slice A l.length c), (27, .int .i64 ((l.length : Nat) : Int)), (28, .int .i64 0)]) rfl
  refine xt_norm ?_
  refine wp_block ?_
  have hI : Inv [(u, 3, 0)] [] := ⟨⟨by simp, by simp, by simp⟩, fun x hx => by rw [List.mem_singleton.1 hx]; exact ⟨by simp, by simp⟩, fun y hy => by simp at hy⟩
  refine wp_loop_ghost (fun m a w => ∃ (k : Nat) (L : Chunk), m = l.length - k ∧ Has a 74 [(1, .int .u8 u), (5, .pointer (some ⟨b2, 0, none⟩)), (6, .int .i64 0), (7, .nilIface), (8, .nilIface), (26, .slice A l.length c), (27, .int .i64 ((l.length : Nat) : Int)), (28, .int .i64 ((k : Nat) : Int))] ∧ St w0 w (L :: F) ∧ (k ≤ l.length) ∧ (TR 29 b2 [(u, 3, 0)] [] L)) (l.length - 0)
    ⟨0, L9, rfl, (hA.sel [1, 5, 6, 7, 8, 26, 27, 28] rfl), hS, Nat.zero_le _, hM11⟩ ?_
  clear hA hS; rintro m0 a w12 ⟨k, L, rfl, hA, hS, hk, hM⟩
  refine wp_seq ?_
  refine wp_region_lit ?_
  refine st_run tbOk 1 hA (e' := (29, .bool (decide (((k : Nat) : Int) < ((l.length : Nat) : Int)))) :: _) rfl ?_; clear hA; intro a hA
  refine wpList_nil ?_
  refine xt_norm ?_
  refine wp_seq ?_
  by_cases hc13 : ((k : Nat) : Int) < ((l.length : Nat) : Int)
  · first
    | (exfalso; omega)
    | (replace hA := hA.rw 29 (v' := .bool true) rfl (vb_true hc13)
       refine cd_cond_t hA rfl ?_
       refine wp_skip ?_
       refine xt_norm ?_
       refine wp_seq ?_
       refine wp_block ?_
       refine wp_seq ?_
       refine wp_region_lit ?_
       obtain ⟨b14, o15, rfl⟩ := (hr _ (hS.tail 1 rfl)).isSome (k := k) (by omega)
       refine st_val hA rfl rfl (by decide) (rn_indexAddr tbOk hA k (o15 + (k * 3)) rfl rfl rfl rfl rfl rfl (by rfl) (by omega) (by first | rfl | simp [Nat.mul_one, Nat.zero_add] | omega)) ?_; clear hA; intro a hA
       obtain ⟨x16, hx16⟩ := get_ex (l := l) (k := k) (by omega)
       obtain ⟨⟨hgx16_0, hkx16_0⟩, ⟨hgx16_1, hkx16_1⟩, ⟨hgx16_2, hkx16_2⟩⟩ := hw x16 (List.mem_of_getElem? hx16)
       refine st_val hA rfl rfl (by decide) (rn_loadA tbOk hA ([.int .u8 x16.1, .int .i8 x16.2.1, .int .i64 x16.2.2]) rfl rfl rfl rfl (by rfl) ((hr _ (hS.tail 1 rfl)).elem (k := k) encAct_ok hx16)) ?_; clear hA; intro a hA
       refine st_alloc tbOk hA hS [.int .u8 0, .int .i8 0, .int .i64 0] rfl rfl rfl rfl rfl (by decide) ?_; clear hA hS; intro b17 w18 a hS hA
       refine st_store tbOk hA hS [.int .u8 x16.1, .int .i8 x16.2.1, .int .i64 x16.2.2] [.int .u8 x16.1, .int .i8 x16.2.1, .int .i64 x16.2.2] rfl rfl rfl rfl rfl rfl (by simp [Value.oneCell']) (Nat.le_of_ble_eq_true rfl) rfl rfl rfl ?_; clear hS; intro w19 hS
       refine wpList_nil ?_
       replace hA := hA.sel [1, 5, 6, 7, 8, 10, 26, 27, 28] (e' := [(1, .int .u8 u), (5, .pointer (some ⟨b2, 0, none⟩)), (6, .int .i64 0), (7, .nilIface), (8, .nilIface), (10, .pointer (some ⟨b17, 0, none⟩)), (26, .slice (some ⟨b14, o15, none⟩) l.length c), (27, .int .i64 ((l.length : Nat) : Int)), (28, .int .i64 ((k : Nat) : Int))]) rfl
       refine xt_norm ?_
       refine wp_seq ?_
       refine wp_seq ?_
       refine wp_region_lit ?_
       refine st_run tbOk 1 hA (e' := (32, .pointer (some ⟨b17, 0, none⟩)) :: _) rfl ?_; clear hA; intro a hA
       refine st_val hA rfl rfl (by decide) (rn_load tbOk hA rfl rfl rfl rfl (cell_row (hS.heapAt 0 rfl) rfl)) ?_; clear hA; intro a hA
       refine st_run tbOk 1 hA (e' := (34, .int .u8 (x16.1.tmod 6)) :: _) rfl ?_; clear hA; intro a hA
       refine st_run tbOk 1 hA (e' := (35, .bool ((x16.1.tmod 6) == 0)) :: _) rfl ?_; clear hA; intro a hA
       refine wpList_nil ?_
       replace hA := hA.sel [1, 5, 6, 7, 8, 10, 26, 27, 28, 35] (e' := [(1, .int .u8 u), (5, .pointer (some ⟨b2, 0, none⟩)), (6, .int .i64 0), (7, .nilIface), (8, .nilIface), (10, .pointer (some ⟨b17, 0, none⟩)), (26, .slice (some ⟨b14, o15, none⟩) l.length c), (27, .int .i64 ((l.length : Nat) : Int)), (28, .int .i64 ((k : Nat) : Int)), (35, .bool ((x16.1.tmod 6) == 0))]) rfl
       refine xt_norm ?_
       by_cases hc20 : x16.1.tmod 6 = 0
       · first
         | (exfalso; omega)
         | (replace hA := hA.rw 35 (v' := .bool true) rfl (vb_eq_t hc20)
            refine cd_cond_t hA rfl ?_
            refine wp_exit ?_
            refine xt_exit ?_
            refine cd_exit_eq ?_
            refine xt_norm ?_
            refine wp_region_lit ?_
            refine st_run tbOk 1 hA (e' := (54, .int .i64 (IntKind.i64.wrap (((k : Nat) : Int) + 1))) :: _) rfl ?_; clear hA; intro a hA
            replace hA := hA.rw 54 (v' := .int .i64 ((k + 1 : Nat) : Int)) rfl (wr64 (by omega) (by omega) (by omega))
            refine st_run tbOk 1 hA (e' := (28, .int .i64 ((k + 1 : Nat) : Int)) :: _) rfl ?_; clear hA; intro a hA
            refine wpList_nil ?_
            replace hA := hA.sel [1, 5, 6, 7, 8, 26, 27, 28] (e' := [(1, .int .u8 u), (5, .pointer (some ⟨b2, 0, none⟩)), (6, .int .i64 0), (7, .nilIface), (8, .nilIface), (26, .slice (some ⟨b14, o15, none⟩) l.length c), (27, .int .i64 ((l.length : Nat) : Int)), (28, .int .i64 ((k + 1 : Nat) : Int))]) rfl
            replace hS := hS.drop1
            exact lp_next _ (by omega) ⟨(k + 1), L, rfl, (hA.sel [1, 5, 6, 7, 8, 26, 27, 28] rfl), hS, by omega, hM⟩)
       · first
         | (exfalso; omega)
         | (replace hA := hA.rw 35 (v' := .bool false) rfl (vb_eq_f hc20)
            refine cd_cond_f hA rfl ?_
            refine wp_skip ?_
            refine xt_norm ?_
            refine wp_seq ?_
            refine wp_region_lit ?_
            refine st_run tbOk 2 hA (e' := (37, .int .i64 (IntKind.i64.wrap u)) :: (36, .int .u8 u) :: _) rfl ?_; clear hA; intro a hA
            replace hA := hA.rw 37 (v' := .int .i64 u) rfl (wr64 (by rfl) (by omega) (by omega))
            refine st_run tbOk 1 hA (e' := (38, .agg #[.int .i64 u, .int .i64 3, .int .i64 0]) :: _) rfl ?_; clear hA; intro a hA
            refine st_buildSlice tbOk hA hS [.int .i64 u, .int .i64 3, .int .i64 0] rfl rfl rfl rfl rfl (by decide) (by kernel_rfl) rfl rfl (by decide) ?_; clear hA hS; intro b21 w22 a hS hA
            refine st_run tbOk 1 hA (e' := (40, .agg #[.slice (some ⟨b21, 0, none⟩) 1 1, .slice none 0 0]) :: _) rfl ?_; clear hA; intro a hA
            refine st_box hA hS [.slice (some ⟨b21, 0, none⟩) 1 1, .slice none 0 0] rfl rfl rfl rfl rfl (by decide) ?_; clear hA hS; intro b23 w24 a hS hA
            refine st_run tbOk 1 hA (e' := (11, .pointer (some ⟨b23, 0, none⟩)) :: _) rfl ?_; clear hA; intro a hA
            refine wpList_nil ?_
            replace hA := hA.sel [1, 5, 6, 7, 8, 10, 11, 26, 27, 28] (e' := [(1, .int .u8 u), (5, .pointer (some ⟨b2, 0, none⟩)), (6, .int .i64 0), (7, .nilIface), (8, .nilIface), (10, .pointer (some ⟨b17, 0, none⟩)), (11, .pointer (some ⟨b23, 0, none⟩)), (26, .slice (some ⟨b14, o15, none⟩) l.length c), (27, .int .i64 ((l.length : Nat) : Int)), (28, .int .i64 ((k : Nat) : Int))]) rfl
            refine xt_norm ?_
            refine wp_seq ?_
            refine wp_region_lit ?_
            replace hS := hS.front 1 (C := [(b21, rowO [.int .i64 u, .int .i64 3, .int .i64 0] 41)]) (L' := [(b23, rowO [.slice (some ⟨b21, 0, none⟩) 1 1, .slice none 0 0] 32)] :: [(b17, rowO [.int .u8 x16.1, .int .i8 x16.2.1, .int .i64 x16.2.2] 35)] :: L :: F) rfl rfl
            replace hS := hS.front 1 (C := [(b23, rowO [.slice (some ⟨b21, 0, none⟩) 1 1, .slice none 0 0] 32)]) (L' := [(b21, rowO [.int .i64 u, .int .i64 3, .int .i64 0] 41)] :: [(b17, rowO [.int .u8 x16.1, .int .i8 x16.2.1, .int .i64 x16.2.2] 35)] :: L :: F) rfl rfl
            obtain ⟨Lm25, hN26, hS⟩ : ∃ Z, TR 32 b23 [(u, 3, 0)] [] Z ∧ St w0 w24 (Z :: [(b17, rowO [.int .u8 x16.1, .int .i8 x16.2.1, .int .i64 x16.2.2] 35)] :: L :: F) := ⟨_, ⟨_, _, _, [], Own.full (T := 41) (size := 3) (g := b21) (m := 1) (xs := rows encThread [(u, 3, 0)]) rfl (by decide), Own.nil _ _, rfl⟩, hS.cast (by simp [rows, encThread])⟩
            refine st_run tbOk 1 hA (e' := (42, .pointer (some ⟨b17, 1, none⟩)) :: _) rfl ?_; clear hA; intro a hA
            replace hS := hS.front 1 (C := [(b17, rowO [.int .u8 x16.1, .int .i8 x16.2.1, .int .i64 x16.2.2] 35)]) (L' := Lm25 :: L :: F) rfl rfl
            refine st_store tbOk hA hS [.int .i8 0] [.int .u8 x16.1, .int .i8 0, .int .i64 x16.2.2] rfl rfl rfl rfl rfl rfl (by intro u hu; rw [List.mem_singleton.1 hu]; rfl) (Nat.le_of_ble_eq_true rfl) rfl rfl rfl ?_; clear hS; intro w27 hS
            refine wpList_nil ?_
            replace hA := hA.sel [1, 5, 6, 7, 8, 10, 11, 26, 27, 28] (e' := [(1, .int .u8 u), (5, .pointer (some ⟨b2, 0, none⟩)), (6, .int .i64 0), (7, .nilIface), (8, .nilIface), (10, .pointer (some ⟨b17, 0, none⟩)), (11, .pointer (some ⟨b23, 0, none⟩)), (26, .slice (some ⟨b14, o15, none⟩) l.length c), (27, .int .i64 ((l.length : Nat) : Int)), (28, .int .i64 ((k : Nat) : Int))]) rfl
            refine xt_norm ?_
            refine wp_seq ?_
            refine wp_region_lit ?_
            refine st_run tbOk 2 hA (e' := (44, .pointer (some ⟨b2, 0, none⟩)) :: (43, .pointer (some ⟨b23, 0, none⟩)) :: _) rfl ?_; clear hA; intro a hA
            refine st_val hA rfl rfl (by decide) (rn_loadA tbOk hA [.int .u8 x16.1, .int .i8 0, .int .i64 x16.2.2] rfl rfl rfl rfl rfl (cells_row (hS.heapAt 0 rfl) rfl)) ?_; clear hA; intro a hA
            replace hS := hS.front 1 (C := Lm25) (L' := [(b17, rowO [.int .u8 x16.1, .int .i8 0, .int .i64 x16.2.2] 35)] :: L :: F) rfl rfl
            replace hS := hS.front 2 (C := L) (L' := Lm25 :: [(b17, rowO [.int .u8 x16.1, .int .i8 0, .int .i64 x16.2.2] 35)] :: F) rfl rfl
            have htm : x16.1.tmod 6 = x16.1 % 6 := Int.tmod_eq_emod_of_nonneg (by omega)
            refine st_call0 hA rfl rfl rfl isfn6 rfl rfl (by decide) (stepI hS hg hM hN26 hI x16.1 0 x16.2.2 (by omega) (by omega) (by omega) (by omega)) ?_
            clear hA hS; rintro v w30 a ⟨ts2, q2, L28, L29, hM31, hN32, hI2, hD, rfl, hS⟩ hA
            obtain ⟨rfl, rfl⟩ := hD (by simp) rfl (by omega)
            refine st_run tbOk 7 hA (e' := (53, .bool false) :: (52, undef) :: (51, undef) :: (50, undef) :: (49, undef) :: (48, .bool false) :: (47, .bool false) :: _) rfl ?_; clear hA; intro a hA
            refine wpList_nil ?_
            replace hA := hA.sel [1, 5, 6, 7, 8, 26, 27, 28, 53] (e' := [(1, .int .u8 u), (5, .pointer (some ⟨b2, 0, none⟩)), (6, .int .i64 0), (7, .nilIface), (8, .nilIface), (26, .slice (some ⟨b14, o15, none⟩) l.length c), (27, .int .i64 ((l.length : Nat) : Int)), (28, .int .i64 ((k : Nat) : Int)), (53, .bool false)]) rfl
            refine xt_norm ?_
            refine cd_cond_f hA rfl ?_
            refine wp_skip ?_
            refine xb_norm ?_
            refine xt_norm ?_
            refine wp_region_lit ?_
            refine st_run tbOk 1 hA (e' := (54, .int .i64 (IntKind.i64.wrap (((k : Nat) : Int) + 1))) :: _) rfl ?_; clear hA; intro a hA
            replace hA := hA.rw 54 (v' := .int .i64 ((k + 1 : Nat) : Int)) rfl (wr64 (by omega) (by omega) (by omega))
            refine st_run tbOk 1 hA (e' := (28, .int .i64 ((k + 1 : Nat) : Int)) :: _) rfl ?_; clear hA; intro a hA
            refine wpList_nil ?_
            replace hA := hA.sel [1, 5, 6, 7, 8, 26, 27, 28] (e' := [(1, .int .u8 u), (5, .pointer (some ⟨b2, 0, none⟩)), (6, .int .i64 0), (7, .nilIface), (8, .nilIface), (26, .slice (some ⟨b14, o15, none⟩) l.length c), (27, .int .i64 ((l.length : Nat) : Int)), (28, .int .i64 ((k + 1 : Nat) : Int))]) rfl
            replace hS := hS.front 1 (C := L29) (L' := L28 :: [(b17, rowO [.int .u8 x16.1, .int .i8 0, .int .i64 x16.2.2] 35)] :: F) rfl rfl
            replace hS := hS.drop1
            replace hS := hS.front 1 (C := [(b17, rowO [.int .u8 x16.1, .int .i8 0, .int .i64 x16.2.2] 35)]) (L' := L28 :: F) rfl rfl
            replace hS := hS.drop1
            exact lp_next _ (by omega) ⟨(k + 1), L28, rfl, (hA.sel [1, 5, 6, 7, 8, 26, 27, 28] rfl), hS, by omega, hM31⟩))
  · first
    | (exfalso; omega)
    | (replace hA := hA.rw 29 (v' := .bool false) rfl (vb_false hc13)
       refine cd_cond_f hA rfl ?_
       refine wp_exit ?_
       refine xt_exit ?_
       refine xt_exit ?_
       refine cd_exit_eq ?_
       refine xt_norm ?_
       refine wp_seq ?_
       refine wp_region_lit ?_
       refine st_run tbOk 9 hA (e' := (63, .int .i64 0) :: (62, .pointer (some ⟨b2, 0, none⟩)) :: (61, .bool true) :: (60, .bool true) :: (59, .bool true) :: (58, .nilIface) :: (57, .bool true) :: (56, .bool true) :: (55, .nilIface) :: _) rfl ?_; clear hA; intro a hA
       refine st_call0 hA rfl rfl rfl isfn9 rfl rfl (by decide) (get_in hS hM 0 (x := (u, 3, 0)) rfl) ?_
       clear hA hS; rintro v w34 a ⟨L33, hM35, rfl, hS⟩ hA
       refine st_run tbOk 5 hA (e' := (69, .pointer (some ⟨b2, 0, none⟩)) :: (68, .bool true) :: (67, .bool true) :: (66, .bool true) :: (65, .int .i64 3) :: _) rfl ?_; clear hA; intro a hA
       refine st_call0 hA rfl rfl rfl isfn8 rfl rfl (by decide) (ready8 hS hM35 (by decide)) ?_
       clear hA hS; rintro v39 w37 a ⟨L36, C40, hO40, hM38, hS⟩ hA
       obtain ⟨A41, c42, rfl, hmc42, hxc42⟩ := hO40.open'
       refine st_run tbOk 1 hA (e' := (71, .int .i64 ((([] : List Int).length : Nat) : Int)) :: _) rfl ?_; clear hA; intro a hA
       replace hA := hA.rw 71 (v' := .int .i64 0) rfl (by rfl)
       refine st_run tbOk 3 hA (e' := (4, .bool true) :: (73, .bool true) :: (72, .bool true) :: _) rfl ?_; clear hA; intro a hA
       refine wpList_nil ?_
       replace hA := hA.sel [4] (e' := [(4, .bool true)]) rfl
       refine xt_norm ?_
       refine wp_ret ?_
       refine ret1 (fn := Tryd.f4) hA rfl rfl ?_
       replace hS := hS.drop1
       replace hS := hS.drop1
       exact ⟨rfl, hS⟩)

end Go.Proofs.YtglebdfenojglaaDoor
