import Derived.Test.YtglebdfenojglaaDoorG
set_option linter.unusedVariables false
set_option linter.unusedSimpArgs false
set_option maxRecDepth 4000
namespace Go.Proofs.YtglebdfenojglaaDoor
open Go Go.SK
theorem mturn_ok16 {w0 w : World} {F : List Chunk} {L : Chunk} {b : Nat} {ts : List (Int × Int × Int)} {q : List Int} (hS : St w0 w (L :: F)) (hM : TR 32 b ts q L) (n : Nat) (to wt : Int) {p s u : Int} (hx : ts[n]? = some (p, s, u)) (hql : q.length ≤ 64) (h3 : ¬ to = 1) :
    Ret Tryd.prog 16 #[.pointer (some ⟨b, 0, none⟩), .int .i64 ((n : Nat) : Int), .int .i64 to, .int .i64 wt] w (fun v w' => ∃ L', TR 32 b (ts.set n (p, to, wt)) (q.filter (fun x => !(x == ((n : Nat) : Int)))) L' ∧ v = .tuple #[] ∧ St w0 w' (L' :: F)) := by
  obtain ⟨v, C, v2, C2, hO, hQ, rfl⟩ := hM
  obtain ⟨A, c, rfl, hmc, hcx⟩ := hO.open'
  obtain ⟨A2, c2, rfl, hmc2, hcx2⟩ := hQ.open'
  replace hS : St w0 w ([(b, rowO [.slice A ts.length c, .slice A2 q.length c2] 32)] :: C :: C2 :: F) := hS.split3
  have hn := (List.getElem?_eq_some_iff.1 hx).1
  refine enter (vs := [.pointer (some ⟨b, 0, none⟩), .int .i64 ((n : Nat) : Int), .int .i64 to, .int .i64 wt]) 54 Tryd.func16 rfl rfl (by simp) ?_; intro a hA
  refine wp_seq ?_
  obtain ⟨b1, o2, rfl⟩ := hO.isSome (k := n) (by omega)
  replace hS := hS.front 1 (C := C) (L' := [(b, rowO [.slice (some ⟨b1, o2, none⟩) ts.length c, .slice A2 q.length c2] 32)] :: C2 :: F) rfl rfl
  refine wp_draw (fun w' => St w0 w' ([(b, rowO [.slice (some ⟨b1, o2, none⟩) ts.length c, .slice A2 q.length c2] 32)] :: C2 :: F)) [] [(0, true), (1, true), (2, true), (3, true), (4, true), (5, true), (6, true), (7, true), (8, true), (9, true), (10, true), (11, true), (12, true), (13, true), (14, false), (15, true), (16, true), (17, false)] mixed (by kernel_rfl) (by rintro c a w ⟨_, _, h, _⟩; cases h) (by rfl) (by kernel_rfl) ?_
  replace hS := hS.drew
  refine dr_run tbOk 3 hA (hS.tail 1 rfl) (e' := (13, .pointer (some ⟨b, 0, none⟩)) :: (12, .pointer (some ⟨b, 0, none⟩)) :: (11, .pointer (some ⟨b, 0, none⟩)) :: _) rfl ?_; clear hA; intro a hA
  refine dr_y hA rfl rfl rfl (by decide) (hS.tail 1 rfl) (fun w' hS' => rn_load tbOk hA rfl rfl rfl rfl (cell_row (hS'.heapAt 0 rfl) rfl)) ?_; clear hA; intro a hA
  refine dr_run tbOk 4 hA (hS.tail 1 rfl) (e' := (18, .pointer (some ⟨b, 0, none⟩)) :: (17, .pointer (some ⟨b, 0, none⟩)) :: (16, .pointer (some ⟨b, 0, none⟩)) :: (15, .int .i64 ((n : Nat) : Int)) :: _) rfl ?_; clear hA; intro a hA
  refine dr_y hA rfl rfl rfl (by decide) (hS.tail 1 rfl) (fun w' hS' => rn_load tbOk hA rfl rfl rfl rfl (cell_row (hS'.heapAt 0 rfl) rfl)) ?_; clear hA; intro a hA
  refine dr_run tbOk 3 hA (hS.tail 1 rfl) (e' := (22, .int .i64 wt) :: (21, .int .i64 to) :: (20, .int .i64 ((n : Nat) : Int)) :: _) rfl ?_; clear hA; intro a hA
  refine dr_y hA rfl rfl rfl (by decide) (hS.tail 1 rfl) (fun w' hS' => rn_indexAddr tbOk hA n (o2 + (n * 3)) rfl rfl rfl rfl rfl rfl (by rfl) (by omega) (by first | rfl | simp [Nat.mul_one, Nat.zero_add] | omega)) ?_; clear hA; intro a hA
  refine dr_run tbOk 1 hA (hS.tail 1 rfl) (e' := (24, .pointer (some ⟨b1, o2 + (n * 3) + 1, none⟩)) :: _) rfl ?_; clear hA; intro a hA
  refine dr_b (o := _) rfl ?_
  refine st_store_own tbOk hA hO hS ((n * 3) + 1) (o2 + (n * 3) + 1) [.int .i64 to] (rows encThread (ts.set n (p, to, u))) rfl rfl rfl rfl (by rfl) rfl rfl (by first | (intro u hu; rw [List.mem_singleton.1 hu]; rfl) | simp [Value.oneCell']) (by simp only [rows_length encThread_ok]; simp; omega) (rows_setf encThread_ok (p, to, u) hx 1 [.int .i64 to] (Nat.le_of_ble_eq_true rfl) rfl) rfl rfl ?_; clear hS; intro w3 C4 hO4 hS
  refine dr_nil (.inr (hS.tail 1 rfl)) ?_
  refine dr_y hA rfl rfl rfl (by decide) (hS.tail 1 rfl) (fun w' hS' => rn_indexAddr tbOk hA n (o2 + (n * 3)) rfl rfl rfl rfl rfl rfl (by rfl) (by omega) (by first | rfl | simp [Nat.mul_one, Nat.zero_add] | omega)) ?_; clear hA; intro a hA
  refine dr_run tbOk 1 hA (hS.tail 1 rfl) (e' := (26, .pointer (some ⟨b1, o2 + (n * 3) + 2, none⟩)) :: _) rfl ?_; clear hA; intro a hA
  refine dr_b (o := _) rfl ?_
  refine st_store_own tbOk hA hO4 hS ((n * 3) + 2) (o2 + (n * 3) + 2) [.int .i64 wt] (rows encThread ((ts.set n (p, to, u)).set n (p, to, wt))) rfl rfl rfl rfl (by rfl) rfl rfl (by first | (intro u hu; rw [List.mem_singleton.1 hu]; rfl) | simp [Value.oneCell']) (by simp only [rows_length encThread_ok]; simp; omega) (rows_setf encThread_ok (p, to, wt) (List.getElem?_set_self hn) 2 [.int .i64 wt] (Nat.le_of_ble_eq_true rfl) rfl) rfl rfl ?_; clear hS; intro w5 C6 hO6 hS
  refine dr_nil (.inr (hS.tail 1 rfl)) ?_
  refine dr_end ?_
  replace hA := hA.sel [0, 1, 2] (e' := [(0, .pointer (some ⟨b, 0, none⟩)), (1, .int .i64 ((n : Nat) : Int)), (2, .int .i64 to)]) rfl
  refine xt_norm ?_
  refine wp_seq ?_
  refine wp_region_lit ?_
  have hss : (ts.set n (p, to, u)).set n (p, to, wt) = ts.set n (p, to, wt) := by rw [List.set_set]
  rw [hss] at hO6; clear hss
  refine st_run tbOk 1 hA (e' := (8, .slice none 0 0) :: _) rfl ?_; clear hA; intro a hA
  refine wpList_nil ?_
  refine xt_norm ?_
  refine wp_seq ?_
  refine wp_seq ?_
  refine wp_region_lit ?_
  refine st_run tbOk 3 hA (e' := (29, .pointer (some ⟨b, 1, none⟩)) :: (28, .pointer (some ⟨b, 0, none⟩)) :: (27, .pointer (some ⟨b, 0, none⟩)) :: _) rfl ?_; clear hA; intro a hA
  refine st_val hA rfl rfl (by decide) (rn_load tbOk hA rfl rfl rfl rfl (cell_row (hS.heapAt 1 rfl) rfl)) ?_; clear hA; intro a hA
  refine st_run tbOk 2 hA (e' := (32, .int .i64 0) :: (31, .int .i64 ((q.length : Nat) : Int)) :: _) rfl ?_; clear hA; intro a hA
  refine wpList_nil ?_
  replace hA := hA.sel [0, 1, 2, 8, 30, 31, 32] (e' := [(0, .pointer (some ⟨b, 0, none⟩)), (1, .int .i64 ((n : Nat) : Int)), (2, .int .i64 to), (8, .slice none 0 0), (30, .slice A2 q.length c2), (31, .int .i64 ((q.length : Nat) : Int)), (32, .int .i64 0)]) rfl
  refine xt_norm ?_
  refine wp_block ?_
  replace hS := hS.nil
  refine wp_loop_ghost (fun m a w => ∃ (k : Nat) (A1 : Option Addr) (c1 : Nat) (C1 : Chunk), m = q.length - k ∧ Has a 54 [(0, .pointer (some ⟨b, 0, none⟩)), (1, .int .i64 ((n : Nat) : Int)), (2, .int .i64 to), (8, .slice A1 ((wo q ((n : Nat) : Int) k).length) c1), (30, .slice A2 q.length c2), (31, .int .i64 ((q.length : Nat) : Int)), (32, .int .i64 ((k : Nat) : Int))] ∧ St w0 w (C1 :: C6 :: [(b, rowO [.slice (some ⟨b1, o2, none⟩) ts.length c, .slice A2 q.length c2] 32)] :: C2 :: F) ∧ (k ≤ q.length) ∧ (Own 3 1 (.slice A1 (wo q ((n : Nat) : Int) k).length c1) (wo q ((n : Nat) : Int) k).length (rows encI (wo q ((n : Nat) : Int) k)) C1)) (q.length - 0)
    ⟨0, none, 0, ([]), rfl, (hA.sel [0, 1, 2, 8, 30, 31, 32] rfl), hS, Nat.zero_le _, (Own.nil 3 1)⟩ ?_
  clear hA hS; rintro m0 a w7 ⟨k, A1, c1, C1, rfl, hA, hS, hk, hW⟩
  have hwl := wo_le q ((n : Nat) : Int) k
  refine wp_seq ?_
  refine wp_region_lit ?_
  refine st_run tbOk 1 hA (e' := (33, .bool (decide (((k : Nat) : Int) < ((q.length : Nat) : Int)))) :: _) rfl ?_; clear hA; intro a hA
  refine wpList_nil ?_
  refine xt_norm ?_
  refine wp_seq ?_
  by_cases hc8 : ((k : Nat) : Int) < ((q.length : Nat) : Int)
  · first
    | (exfalso; omega)
    | (replace hA := hA.rw 33 (v' := .bool true) rfl (vb_true hc8)
       refine cd_cond_t hA rfl ?_
       refine wp_skip ?_
       refine xt_norm ?_
       refine wp_seq ?_
       refine wp_block ?_
       refine wp_seq ?_
       refine wp_region_lit ?_
       obtain ⟨b9, o10, rfl⟩ := hQ.isSome (k := k) (by omega)
       refine st_val hA rfl rfl (by decide) (rn_indexAddr tbOk hA k (o10 + k) rfl rfl rfl rfl rfl rfl (by rfl) (by omega) (by first | rfl | simp [Nat.mul_one, Nat.zero_add] | omega)) ?_; clear hA; intro a hA
       obtain ⟨x11, hx11⟩ := get_ex (l := q) (k := k) (by omega)
       refine st_val hA rfl rfl (by decide) (rn_load tbOk hA rfl rfl rfl rfl ((hQ.rd (hS.own_ 3 rfl)).elem0 (k := k) encI_ok hx11 rfl)) ?_; clear hA; intro a hA
       refine st_run tbOk 1 hA (e' := (10, .int .i64 x11) :: _) rfl ?_; clear hA; intro a hA
       refine wpList_nil ?_
       replace hA := hA.sel [0, 1, 2, 8, 10, 30, 31, 32] (e' := [(0, .pointer (some ⟨b, 0, none⟩)), (1, .int .i64 ((n : Nat) : Int)), (2, .int .i64 to), (8, .slice A1 ((wo q ((n : Nat) : Int) k).length) c1), (10, .int .i64 x11), (30, .slice (some ⟨b9, o10, none⟩) q.length c2), (31, .int .i64 ((q.length : Nat) : Int)), (32, .int .i64 ((k : Nat) : Int))]) rfl
       refine xt_norm ?_
       refine wp_seq ?_
       refine wp_region_lit ?_
       refine st_run tbOk 3 hA (e' := (38, .bool (x11 != ((n : Nat) : Int))) :: (37, .int .i64 ((n : Nat) : Int)) :: (36, .int .i64 x11) :: _) rfl ?_; clear hA; intro a hA
       refine wpList_nil ?_
       replace hA := hA.sel [0, 1, 2, 8, 10, 30, 31, 32, 38] (e' := [(0, .pointer (some ⟨b, 0, none⟩)), (1, .int .i64 ((n : Nat) : Int)), (2, .int .i64 to), (8, .slice A1 ((wo q ((n : Nat) : Int) k).length) c1), (10, .int .i64 x11), (30, .slice (some ⟨b9, o10, none⟩) q.length c2), (31, .int .i64 ((q.length : Nat) : Int)), (32, .int .i64 ((k : Nat) : Int)), (38, .bool (x11 != ((n : Nat) : Int)))]) rfl
       refine xt_norm ?_
       by_cases hc12 : x11 = ((n : Nat) : Int)
       · first
         | (exfalso; omega)
         | (replace hA := hA.rw 38 (v' := .bool false) rfl (vb_ne_f hc12)
            refine cd_cond_f hA rfl ?_
            refine wp_skip ?_
            refine xb_norm ?_
            refine xt_norm ?_
            refine wp_region_lit ?_
            refine st_run tbOk 1 hA (e' := (43, .int .i64 (IntKind.i64.wrap (((k : Nat) : Int) + 1))) :: _) rfl ?_; clear hA; intro a hA
            replace hA := hA.rw 43 (v' := .int .i64 ((k + 1 : Nat) : Int)) rfl (wr64 (by omega) (by omega) (by omega))
            refine st_run tbOk 1 hA (e' := (32, .int .i64 ((k + 1 : Nat) : Int)) :: _) rfl ?_; clear hA; intro a hA
            refine wpList_nil ?_
            replace hA := hA.sel [0, 1, 2, 8, 30, 31, 32] (e' := [(0, .pointer (some ⟨b, 0, none⟩)), (1, .int .i64 ((n : Nat) : Int)), (2, .int .i64 to), (8, .slice A1 ((wo q ((n : Nat) : Int) k).length) c1), (30, .slice (some ⟨b9, o10, none⟩) q.length c2), (31, .int .i64 ((q.length : Nat) : Int)), (32, .int .i64 ((k + 1 : Nat) : Int))]) rfl
            have hw1 : wo q ((n : Nat) : Int) k = wo q ((n : Nat) : Int) (k + 1) := wo_no hx11 (by omega)
            rw [hw1] at hW hA
            exact lp_next _ (by omega) ⟨(k + 1), A1, c1, C1, rfl, (hA.sel [0, 1, 2, 8, 30, 31, 32] rfl), hS, by omega, hW⟩)
       · first
         | (exfalso; omega)
         | (replace hA := hA.rw 38 (v' := .bool true) rfl (vb_ne_t hc12)
            refine cd_cond_t hA rfl ?_
            refine wp_region_lit ?_
            refine st_run tbOk 2 hA (e' := (40, .int .i64 x11) :: (39, .slice A1 ((wo q ((n : Nat) : Int) k).length) c1) :: _) rfl ?_; clear hA; intro a hA
            refine st_buildSlice tbOk hA hS [.int .i64 x11] rfl rfl rfl rfl rfl (by decide) (by kernel_rfl) rfl rfl (by decide) ?_; clear hA hS; intro b13 w14 a hS hA
            replace hS := hS.front 1 (C := C1) (L' := [(b13, rowO [.int .i64 x11] 3)] :: C6 :: [(b, rowO [.slice (some ⟨b1, o2, none⟩) ts.length c, .slice (some ⟨b9, o10, none⟩) q.length c2] 32)] :: C2 :: F) rfl rfl
            refine st_append tbOk hA (m := (wo q ((n : Nat) : Int) k).length) (q := 1) (xs := rows encI (wo q ((n : Nat) : Int) k)) (news := rows encI ([x11] : List Int)) rfl rfl rfl rfl rfl rfl rfl rfl (by decide) hW hS ((Own.full (T := 3) (size := 1) (g := b13) (m := 1) rfl (by decide)).rd (hS.own_ 1 rfl)) (rows_one encI_ok _) (maxLen_le (by omega)) (by show ((wo q ((n : Nat) : Int) k).length + 1) * 8 ≤ 140737488355328; omega) rfl rfl (by decide) ?_
            clear hA hS; intro v15 w16 C17 a hO17 hS hA
            replace hO17 := Own.app (l := wo q ((n : Nat) : Int) k) (l2 := ([x11] : List Int)) hO17
            obtain ⟨A18, c19, rfl, hmc19, hxc19⟩ := hO17.open'
            refine st_run tbOk 1 hA (e' := (8, .slice A18 (((wo q ((n : Nat) : Int) k) ++ ([x11] : List Int)).length) c19) :: _) rfl ?_; clear hA; intro a hA
            refine wpList_nil ?_
            replace hA := hA.sel [0, 1, 2, 8, 30, 31, 32] (e' := [(0, .pointer (some ⟨b, 0, none⟩)), (1, .int .i64 ((n : Nat) : Int)), (2, .int .i64 to), (8, .slice A18 (((wo q ((n : Nat) : Int) k) ++ ([x11] : List Int)).length) c19), (30, .slice (some ⟨b9, o10, none⟩) q.length c2), (31, .int .i64 ((q.length : Nat) : Int)), (32, .int .i64 ((k : Nat) : Int))]) rfl
            refine xb_norm ?_
            refine xt_norm ?_
            refine wp_region_lit ?_
            refine st_run tbOk 1 hA (e' := (43, .int .i64 (IntKind.i64.wrap (((k : Nat) : Int) + 1))) :: _) rfl ?_; clear hA; intro a hA
            replace hA := hA.rw 43 (v' := .int .i64 ((k + 1 : Nat) : Int)) rfl (wr64 (by omega) (by omega) (by omega))
            refine st_run tbOk 1 hA (e' := (32, .int .i64 ((k + 1 : Nat) : Int)) :: _) rfl ?_; clear hA; intro a hA
            refine wpList_nil ?_
            replace hA := hA.sel [0, 1, 2, 8, 30, 31, 32] (e' := [(0, .pointer (some ⟨b, 0, none⟩)), (1, .int .i64 ((n : Nat) : Int)), (2, .int .i64 to), (8, .slice A18 (((wo q ((n : Nat) : Int) k) ++ ([x11] : List Int)).length) c19), (30, .slice (some ⟨b9, o10, none⟩) q.length c2), (31, .int .i64 ((q.length : Nat) : Int)), (32, .int .i64 ((k + 1 : Nat) : Int))]) rfl
            have hl : (wo q ((n : Nat) : Int) k) ++ ([x11] : List Int) = wo q ((n : Nat) : Int) (k + 1) := wo_yes hx11 (by omega)
            rw [hl] at hO17; rw [hl] at hA
            replace hS := hS.front 1 (C := [(b13, rowO [.int .i64 x11] 3)]) (L' := C17 :: C6 :: [(b, rowO [.slice (some ⟨b1, o2, none⟩) ts.length c, .slice (some ⟨b9, o10, none⟩) q.length c2] 32)] :: C2 :: F) rfl rfl
            replace hS := hS.drop1
            exact lp_next _ (by omega) ⟨(k + 1), A18, c19, C17, rfl, (hA.sel [0, 1, 2, 8, 30, 31, 32] rfl), hS, by omega, hO17⟩))
  · first
    | (exfalso; omega)
    | (replace hA := hA.rw 33 (v' := .bool false) rfl (vb_false hc8)
       refine cd_cond_f hA rfl ?_
       refine wp_exit ?_
       refine xt_exit ?_
       refine xt_exit ?_
       refine cd_exit_eq ?_
       refine xt_norm ?_
       refine wp_seq ?_
       refine wp_seq ?_
       refine wp_region_lit ?_
       have hkl : k = q.length := by omega
       have hl : wo q ((n : Nat) : Int) k = q.filter (fun x => !(x == ((n : Nat) : Int))) := by rw [hkl]; exact wo_all _ _
       rw [hl] at hW; rw [hl] at hA
       have hfl : (q.filter (fun x => !(x == ((n : Nat) : Int)))).length ≤ q.length := List.length_filter_le _ _
       refine st_run tbOk 2 hA (e' := (45, .bool (to == 1)) :: (44, .int .i64 to) :: _) rfl ?_; clear hA; intro a hA
       refine wpList_nil ?_
       replace hA := hA.sel [0, 1, 8, 45] (e' := [(0, .pointer (some ⟨b, 0, none⟩)), (1, .int .i64 ((n : Nat) : Int)), (8, .slice A1 ((q.filter (fun x => !(x == ((n : Nat) : Int)))).length) c1), (45, .bool (to == 1))]) rfl
       refine xt_norm ?_
       have hc20 : ¬ (to = 1) := h3
       replace hA := hA.rw 45 (v' := .bool false) rfl (vb_eq_f hc20)
       refine cd_cond_f hA rfl ?_
       refine wp_skip ?_
       refine xt_norm ?_
       refine wp_region_lit ?_
       refine st_run tbOk 4 hA (e' := (53, .pointer (some ⟨b, 1, none⟩)) :: (52, .pointer (some ⟨b, 0, none⟩)) :: (51, .slice A1 ((q.filter (fun x => !(x == ((n : Nat) : Int)))).length) c1) :: (50, .pointer (some ⟨b, 0, none⟩)) :: _) rfl ?_; clear hA; intro a hA
       replace hS := hS.front 2 (C := [(b, rowO [.slice (some ⟨b1, o2, none⟩) ts.length c, .slice A2 q.length c2] 32)]) (L' := C1 :: C6 :: C2 :: F) rfl rfl
       refine st_store tbOk hA hS [.slice A1 ((q.filter (fun x => !(x == ((n : Nat) : Int)))).length) c1] [.slice (some ⟨b1, o2, none⟩) ts.length c, .slice A1 ((q.filter (fun x => !(x == ((n : Nat) : Int)))).length) c1] rfl rfl rfl rfl rfl rfl (by intro u hu; rw [List.mem_singleton.1 hu]; rfl) (Nat.le_of_ble_eq_true rfl) rfl rfl rfl ?_; clear hS; intro w21 hS
       refine wpList_nil ?_
       replace hA := hA.sel [] (e' := []) rfl
       refine ret0n (fn := Tryd.f16) hA rfl ?_
       replace hS := hS.front 1 (C := C1) (L' := [(b, rowO [.slice (some ⟨b1, o2, none⟩) ts.length c, .slice A1 ((q.filter (fun x => !(x == ((n : Nat) : Int)))).length) c1] 32)] :: C6 :: C2 :: F) rfl rfl
       replace hS := hS.front 2 (C := C6) (L' := C1 :: [(b, rowO [.slice (some ⟨b1, o2, none⟩) ts.length c, .slice A1 ((q.filter (fun x => !(x == ((n : Nat) : Int)))).length) c1] 32)] :: C2 :: F) rfl rfl
       replace hS := hS.front 2 (C := [(b, rowO [.slice (some ⟨b1, o2, none⟩) ts.length c, .slice A1 ((q.filter (fun x => !(x == ((n : Nat) : Int)))).length) c1] 32)]) (L' := C6 :: C1 :: C2 :: F) rfl rfl
       replace hS := (hS.front 3 rfl rfl).drop1
       replace hS := hS.join3
       exact ⟨_, ⟨_, _, _, _, (by rw [List.length_set]; exact hO6), hW, rfl⟩, rfl, hS⟩)

theorem mturn_rdy16 {w0 w : World} {F : List Chunk} {L : Chunk} {b : Nat} {ts : List (Int × Int × Int)} {q : List Int} (hS : St w0 w (L :: F)) (hM : TR 32 b ts q L) (n : Nat) (to wt : Int) {p s u : Int} (hx : ts[n]? = some (p, s, u)) (hql : q.length ≤ 64) (h3 : to = 1) :
    Ret Tryd.prog 16 #[.pointer (some ⟨b, 0, none⟩), .int .i64 ((n : Nat) : Int), .int .i64 to, .int .i64 wt] w (fun v w' => ∃ L', TR 32 b (ts.set n (p, to, wt)) (q.filter (fun x => !(x == ((n : Nat) : Int))) ++ [((n : Nat) : Int)]) L' ∧ v = .tuple #[] ∧ St w0 w' (L' :: F)) := by
  obtain ⟨v, C, v2, C2, hO, hQ, rfl⟩ := hM
  obtain ⟨A, c, rfl, hmc, hcx⟩ := hO.open'
  obtain ⟨A2, c2, rfl, hmc2, hcx2⟩ := hQ.open'
  replace hS : St w0 w ([(b, rowO [.slice A ts.length c, .slice A2 q.length c2] 32)] :: C :: C2 :: F) := hS.split3
  have hn := (List.getElem?_eq_some_iff.1 hx).1
  refine enter (vs := [.pointer (some ⟨b, 0, none⟩), .int .i64 ((n : Nat) : Int), .int .i64 to, .int .i64 wt]) 54 Tryd.func16 rfl rfl (by simp) ?_; intro a hA
  refine wp_seq ?_
  obtain ⟨b1, o2, rfl⟩ := hO.isSome (k := n) (by omega)
  replace hS := hS.front 1 (C := C) (L' := [(b, rowO [.slice (some ⟨b1, o2, none⟩) ts.length c, .slice A2 q.length c2] 32)] :: C2 :: F) rfl rfl
  refine wp_draw (fun w' => St w0 w' ([(b, rowO [.slice (some ⟨b1, o2, none⟩) ts.length c, .slice A2 q.length c2] 32)] :: C2 :: F)) [] [(0, true), (1, true), (2, true), (3, true), (4, true), (5, true), (6, true), (7, true), (8, true), (9, true), (10, true), (11, true), (12, true), (13, true), (14, false), (15, true), (16, true), (17, false)] mixed (by kernel_rfl) (by rintro c a w ⟨_, _, h, _⟩; cases h) (by rfl) (by kernel_rfl) ?_
  replace hS := hS.drew
  refine dr_run tbOk 3 hA (hS.tail 1 rfl) (e' := (13, .pointer (some ⟨b, 0, none⟩)) :: (12, .pointer (some ⟨b, 0, none⟩)) :: (11, .pointer (some ⟨b, 0, none⟩)) :: _) rfl ?_; clear hA; intro a hA
  refine dr_y hA rfl rfl rfl (by decide) (hS.tail 1 rfl) (fun w' hS' => rn_load tbOk hA rfl rfl rfl rfl (cell_row (hS'.heapAt 0 rfl) rfl)) ?_; clear hA; intro a hA
  refine dr_run tbOk 4 hA (hS.tail 1 rfl) (e' := (18, .pointer (some ⟨b, 0, none⟩)) :: (17, .pointer (some ⟨b, 0, none⟩)) :: (16, .pointer (some ⟨b, 0, none⟩)) :: (15, .int .i64 ((n : Nat) : Int)) :: _) rfl ?_; clear hA; intro a hA
  refine dr_y hA rfl rfl rfl (by decide) (hS.tail 1 rfl) (fun w' hS' => rn_load tbOk hA rfl rfl rfl rfl (cell_row (hS'.heapAt 0 rfl) rfl)) ?_; clear hA; intro a hA
  refine dr_run tbOk 3 hA (hS.tail 1 rfl) (e' := (22, .int .i64 wt) :: (21, .int .i64 to) :: (20, .int .i64 ((n : Nat) : Int)) :: _) rfl ?_; clear hA; intro a hA
  refine dr_y hA rfl rfl rfl (by decide) (hS.tail 1 rfl) (fun w' hS' => rn_indexAddr tbOk hA n (o2 + (n * 3)) rfl rfl rfl rfl rfl rfl (by rfl) (by omega) (by first | rfl | simp [Nat.mul_one, Nat.zero_add] | omega)) ?_; clear hA; intro a hA
  refine dr_run tbOk 1 hA (hS.tail 1 rfl) (e' := (24, .pointer (some ⟨b1, o2 + (n * 3) + 1, none⟩)) :: _) rfl ?_; clear hA; intro a hA
  refine dr_b (o := _) rfl ?_
  refine st_store_own tbOk hA hO hS ((n * 3) + 1) (o2 + (n * 3) + 1) [.int .i64 to] (rows encThread (ts.set n (p, to, u))) rfl rfl rfl rfl (by rfl) rfl rfl (by first | (intro u hu; rw [List.mem_singleton.1 hu]; rfl) | simp [Value.oneCell']) (by simp only [rows_length encThread_ok]; simp; omega) (rows_setf encThread_ok (p, to, u) hx 1 [.int .i64 to] (Nat.le_of_ble_eq_true rfl) rfl) rfl rfl ?_; clear hS; intro w3 C4 hO4 hS
  refine dr_nil (.inr (hS.tail 1 rfl)) ?_
  refine dr_y hA rfl rfl rfl (by decide) (hS.tail 1 rfl) (fun w' hS' => rn_indexAddr tbOk hA n (o2 + (n * 3)) rfl rfl rfl rfl rfl rfl (by rfl) (by omega) (by first | rfl | simp [Nat.mul_one, Nat.zero_add] | omega)) ?_; clear hA; intro a hA
  refine dr_run tbOk 1 hA (hS.tail 1 rfl) (e' := (26, .pointer (some ⟨b1, o2 + (n * 3) + 2, none⟩)) :: _) rfl ?_; clear hA; intro a hA
  refine dr_b (o := _) rfl ?_
  refine st_store_own tbOk hA hO4 hS ((n * 3) + 2) (o2 + (n * 3) + 2) [.int .i64 wt] (rows encThread ((ts.set n (p, to, u)).set n (p, to, wt))) rfl rfl rfl rfl (by rfl) rfl rfl (by first | (intro u hu; rw [List.mem_singleton.1 hu]; rfl) | simp [Value.oneCell']) (by simp only [rows_length encThread_ok]; simp; omega) (rows_setf encThread_ok (p, to, wt) (List.getElem?_set_self hn) 2 [.int .i64 wt] (Nat.le_of_ble_eq_true rfl) rfl) rfl rfl ?_; clear hS; intro w5 C6 hO6 hS
  refine dr_nil (.inr (hS.tail 1 rfl)) ?_
  refine dr_end ?_
  replace hA := hA.sel [0, 1, 2] (e' := [(0, .pointer (some ⟨b, 0, none⟩)), (1, .int .i64 ((n : Nat) : Int)), (2, .int .i64 to)]) rfl
  refine xt_norm ?_
  refine wp_seq ?_
  refine wp_region_lit ?_
  have hss : (ts.set n (p, to, u)).set n (p, to, wt) = ts.set n (p, to, wt) := by rw [List.set_set]
  rw [hss] at hO6; clear hss
  refine st_run tbOk 1 hA (e' := (8, .slice none 0 0) :: _) rfl ?_; clear hA; intro a hA
  refine wpList_nil ?_
  refine xt_norm ?_
  refine wp_seq ?_
  refine wp_seq ?_
  refine wp_region_lit ?_
  refine st_run tbOk 3 hA (e' := (29, .pointer (some ⟨b, 1, none⟩)) :: (28, .pointer (some ⟨b, 0, none⟩)) :: (27, .pointer (some ⟨b, 0, none⟩)) :: _) rfl ?_; clear hA; intro a hA
  refine st_val hA rfl rfl (by decide) (rn_load tbOk hA rfl rfl rfl rfl (cell_row (hS.heapAt 1 rfl) rfl)) ?_; clear hA; intro a hA
  refine st_run tbOk 2 hA (e' := (32, .int .i64 0) :: (31, .int .i64 ((q.length : Nat) : Int)) :: _) rfl ?_; clear hA; intro a hA
  refine wpList_nil ?_
  replace hA := hA.sel [0, 1, 2, 8, 30, 31, 32] (e' := [(0, .pointer (some ⟨b, 0, none⟩)), (1, .int .i64 ((n : Nat) : Int)), (2, .int .i64 to), (8, .slice none 0 0), (30, .slice A2 q.length c2), (31, .int .i64 ((q.length : Nat) : Int)), (32, .int .i64 0)]) rfl
  refine xt_norm ?_
  refine wp_block ?_
  replace hS := hS.nil
  refine wp_loop_ghost (fun m a w => ∃ (k : Nat) (A1 : Option Addr) (c1 : Nat) (C1 : Chunk), m = q.length - k ∧ Has a 54 [(0, .pointer (some ⟨b, 0, none⟩)), (1, .int .i64 ((n : Nat) : Int)), (2, .int .i64 to), (8, .slice A1 ((wo q ((n : Nat) : Int) k).length) c1), (30, .slice A2 q.length c2), (31, .int .i64 ((q.length : Nat) : Int)), (32, .int .i64 ((k : Nat) : Int))] ∧ St w0 w (C1 :: C6 :: [(b, rowO [.slice (some ⟨b1, o2, none⟩) ts.length c, .slice A2 q.length c2] 32)] :: C2 :: F) ∧ (k ≤ q.length) ∧ (Own 3 1 (.slice A1 (wo q ((n : Nat) : Int) k).length c1) (wo q ((n : Nat) : Int) k).length (rows encI (wo q ((n : Nat) : Int) k)) C1)) (q.length - 0)
    ⟨0, none, 0, ([]), rfl, (hA.sel [0, 1, 2, 8, 30, 31, 32] rfl), hS, Nat.zero_le _, (Own.nil 3 1)⟩ ?_
  clear hA hS; rintro m0 a w7 ⟨k, A1, c1, C1, rfl, hA, hS, hk, hW⟩
  have hwl := wo_le q ((n : Nat) : Int) k
  refine wp_seq ?_
  refine wp_region_lit ?_
  refine st_run tbOk 1 hA (e' := (33, .bool (decide (((k : Nat) : Int) < ((q.length : Nat) : Int)))) :: _) rfl ?_; clear hA; intro a hA
  refine wpList_nil ?_
  refine xt_norm ?_
  refine wp_seq ?_
  by_cases hc8 : ((k : Nat) : Int) < ((q.length : Nat) : Int)
  · first
    | (exfalso; omega)
    | (replace hA := hA.rw 33 (v' := .bool true) rfl (vb_true hc8)
       refine cd_cond_t hA rfl ?_
       refine wp_skip ?_
       refine xt_norm ?_
       refine wp_seq ?_
       refine wp_block ?_
       refine wp_seq ?_
       refine wp_region_lit ?_
       obtain ⟨b9, o10, rfl⟩ := hQ.isSome (k := k) (by omega)
       refine st_val hA rfl rfl (by decide) (rn_indexAddr tbOk hA k (o10 + k) rfl rfl rfl rfl rfl rfl (by rfl) (by omega) (by first | rfl | simp [Nat.mul_one, Nat.zero_add] | omega)) ?_; clear hA; intro a hA
       obtain ⟨x11, hx11⟩ := get_ex (l := q) (k := k) (by omega)
       refine st_val hA rfl rfl (by decide) (rn_load tbOk hA rfl rfl rfl rfl ((hQ.rd (hS.own_ 3 rfl)).elem0 (k := k) encI_ok hx11 rfl)) ?_; clear hA; intro a hA
       refine st_run tbOk 1 hA (e' := (10, .int .i64 x11) :: _) rfl ?_; clear hA; intro a hA
       refine wpList_nil ?_
       replace hA := hA.sel [0, 1, 2, 8, 10, 30, 31, 32] (e' := [(0, .pointer (some ⟨b, 0, none⟩)), (1, .int .i64 ((n : Nat) : Int)), (2, .int .i64 to), (8, .slice A1 ((wo q ((n : Nat) : Int) k).length) c1), (10, .int .i64 x11), (30, .slice (some ⟨b9, o10, none⟩) q.length c2), (31, .int .i64 ((q.length : Nat) : Int)), (32, .int .i64 ((k : Nat) : Int))]) rfl
       refine xt_norm ?_
       refine wp_seq ?_
       refine wp_region_lit ?_
       refine st_run tbOk 3 hA (e' := (38, .bool (x11 != ((n : Nat) : Int))) :: (37, .int .i64 ((n : Nat) : Int)) :: (36, .int .i64 x11) :: _) rfl ?_; clear hA; intro a hA
       refine wpList_nil ?_
       replace hA := hA.sel [0, 1, 2, 8, 10, 30, 31, 32, 38] (e' := [(0, .pointer (some ⟨b, 0, none⟩)), (1, .int .i64 ((n : Nat) : Int)), (2, .int .i64 to), (8, .slice A1 ((wo q ((n : Nat) : Int) k).length) c1), (10, .int .i64 x11), (30, .slice (some ⟨b9, o10, none⟩) q.length c2), (31, .int .i64 ((q.length : Nat) : Int)), (32, .int .i64 ((k : Nat) : Int)), (38, .bool (x11 != ((n : Nat) : Int)))]) rfl
       refine xt_norm ?_
       by_cases hc12 : x11 = ((n : Nat) : Int)
       · first
         | (exfalso; omega)
         | (replace hA := hA.rw 38 (v' := .bool false) rfl (vb_ne_f hc12)
            refine cd_cond_f hA rfl ?_
            refine wp_skip ?_
            refine xb_norm ?_
            refine xt_norm ?_
            refine wp_region_lit ?_
            refine st_run tbOk 1 hA (e' := (43, .int .i64 (IntKind.i64.wrap (((k : Nat) : Int) + 1))) :: _) rfl ?_; clear hA; intro a hA
            replace hA := hA.rw 43 (v' := .int .i64 ((k + 1 : Nat) : Int)) rfl (wr64 (by omega) (by omega) (by omega))
            refine st_run tbOk 1 hA (e' := (32, .int .i64 ((k + 1 : Nat) : Int)) :: _) rfl ?_; clear hA; intro a hA
            refine wpList_nil ?_
            replace hA := hA.sel [0, 1, 2, 8, 30, 31, 32] (e' := [(0, .pointer (some ⟨b, 0, none⟩)), (1, .int .i64 ((n : Nat) : Int)), (2, .int .i64 to), (8, .slice A1 ((wo q ((n : Nat) : Int) k).length) c1), (30, .slice (some ⟨b9, o10, none⟩) q.length c2), (31, .int .i64 ((q.length : Nat) : Int)), (32, .int .i64 ((k + 1 : Nat) : Int))]) rfl
            have hw1 : wo q ((n : Nat) : Int) k = wo q ((n : Nat) : Int) (k + 1) := wo_no hx11 (by omega)
            rw [hw1] at hW hA
            exact lp_next _ (by omega) ⟨(k + 1), A1, c1, C1, rfl, (hA.sel [0, 1, 2, 8, 30, 31, 32] rfl), hS, by omega, hW⟩)
       · first
         | (exfalso; omega)
         | (replace hA := hA.rw 38 (v' := .bool true) rfl (vb_ne_t hc12)
            refine cd_cond_t hA rfl ?_
            refine wp_region_lit ?_
            refine st_run tbOk 2 hA (e' := (40, .int .i64 x11) :: (39, .slice A1 ((wo q ((n : Nat) : Int) k).length) c1) :: _) rfl ?_; clear hA; intro a hA
            refine st_buildSlice tbOk hA hS [.int .i64 x11] rfl rfl rfl rfl rfl (by decide) (by kernel_rfl) rfl rfl (by decide) ?_; clear hA hS; intro b13 w14 a hS hA
            replace hS := hS.front 1 (C := C1) (L' := [(b13, rowO [.int .i64 x11] 3)] :: C6 :: [(b, rowO [.slice (some ⟨b1, o2, none⟩) ts.length c, .slice (some ⟨b9, o10, none⟩) q.length c2] 32)] :: C2 :: F) rfl rfl
            refine st_append tbOk hA (m := (wo q ((n : Nat) : Int) k).length) (q := 1) (xs := rows encI (wo q ((n : Nat) : Int) k)) (news := rows encI ([x11] : List Int)) rfl rfl rfl rfl rfl rfl rfl rfl (by decide) hW hS ((Own.full (T := 3) (size := 1) (g := b13) (m := 1) rfl (by decide)).rd (hS.own_ 1 rfl)) (rows_one encI_ok _) (maxLen_le (by omega)) (by show ((wo q ((n : Nat) : Int) k).length + 1) * 8 ≤ 140737488355328; omega) rfl rfl (by decide) ?_
            clear hA hS; intro v15 w16 C17 a hO17 hS hA
            replace hO17 := Own.app (l := wo q ((n : Nat) : Int) k) (l2 := ([x11] : List Int)) hO17
            obtain ⟨A18, c19, rfl, hmc19, hxc19⟩ := hO17.open'
            refine st_run tbOk 1 hA (e' := (8, .slice A18 (((wo q ((n : Nat) : Int) k) ++ ([x11] : List Int)).length) c19) :: _) rfl ?_; clear hA; intro a hA
            refine wpList_nil ?_
            replace hA := hA.sel [0, 1, 2, 8, 30, 31, 32] (e' := [(0, .pointer (some ⟨b, 0, none⟩)), (1, .int .i64 ((n : Nat) : Int)), (2, .int .i64 to), (8, .slice A18 (((wo q ((n : Nat) : Int) k) ++ ([x11] : List Int)).length) c19), (30, .slice (some ⟨b9, o10, none⟩) q.length c2), (31, .int .i64 ((q.length : Nat) : Int)), (32, .int .i64 ((k : Nat) : Int))]) rfl
            refine xb_norm ?_
            refine xt_norm ?_
            refine wp_region_lit ?_
            refine st_run tbOk 1 hA (e' := (43, .int .i64 (IntKind.i64.wrap (((k : Nat) : Int) + 1))) :: _) rfl ?_; clear hA; intro a hA
            replace hA := hA.rw 43 (v' := .int .i64 ((k + 1 : Nat) : Int)) rfl (wr64 (by omega) (by omega) (by omega))
            refine st_run tbOk 1 hA (e' := (32, .int .i64 ((k + 1 : Nat) : Int)) :: _) rfl ?_; clear hA; intro a hA
            refine wpList_nil ?_
            replace hA := hA.sel [0, 1, 2, 8, 30, 31, 32] (e' := [(0, .pointer (some ⟨b, 0, none⟩)), (1, .int .i64 ((n : Nat) : Int)), (2, .int .i64 to), (8, .slice A18 (((wo q ((n : Nat) : Int) k) ++ ([x11] : List Int)).length) c19), (30, .slice (some ⟨b9, o10, none⟩) q.length c2), (31, .int .i64 ((q.length : Nat) : Int)), (32, .int .i64 ((k + 1 : Nat) : Int))]) rfl
            have hl : (wo q ((n : Nat) : Int) k) ++ ([x11] : List Int) = wo q ((n : Nat) : Int) (k + 1) := wo_yes hx11 (by omega)
            rw [hl] at hO17; rw [hl] at hA
            replace hS := hS.front 1 (C := [(b13, rowO [.int .i64 x11] 3)]) (L' := C17 :: C6 :: [(b, rowO [.slice (some ⟨b1, o2, none⟩) ts.length c, .slice (some ⟨b9, o10, none⟩) q.length c2] 32)] :: C2 :: F) rfl rfl
            replace hS := hS.drop1
            exact lp_next _ (by omega) ⟨(k + 1), A18, c19, C17, rfl, (hA.sel [0, 1, 2, 8, 30, 31, 32] rfl), hS, by omega, hO17⟩))
  · first
    | (exfalso; omega)
    | (replace hA := hA.rw 33 (v' := .bool false) rfl (vb_false hc8)
       refine cd_cond_f hA rfl ?_
       refine wp_exit ?_
       refine xt_exit ?_
       refine xt_exit ?_
       refine cd_exit_eq ?_
       refine xt_norm ?_
       refine wp_seq ?_
       refine wp_seq ?_
       refine wp_region_lit ?_
       have hkl : k = q.length := by omega
       have hl : wo q ((n : Nat) : Int) k = q.filter (fun x => !(x == ((n : Nat) : Int))) := by rw [hkl]; exact wo_all _ _
       rw [hl] at hW; rw [hl] at hA
       have hfl : (q.filter (fun x => !(x == ((n : Nat) : Int)))).length ≤ q.length := List.length_filter_le _ _
       refine st_run tbOk 2 hA (e' := (45, .bool (to == 1)) :: (44, .int .i64 to) :: _) rfl ?_; clear hA; intro a hA
       refine wpList_nil ?_
       replace hA := hA.sel [0, 1, 8, 45] (e' := [(0, .pointer (some ⟨b, 0, none⟩)), (1, .int .i64 ((n : Nat) : Int)), (8, .slice A1 ((q.filter (fun x => !(x == ((n : Nat) : Int)))).length) c1), (45, .bool (to == 1))]) rfl
       refine xt_norm ?_
       have hc20 : to = 1 := h3
       replace hA := hA.rw 45 (v' := .bool true) rfl (vb_eq_t hc20)
       refine cd_cond_t hA rfl ?_
       refine wp_region_lit ?_
       refine st_run tbOk 2 hA (e' := (47, .int .i64 ((n : Nat) : Int)) :: (46, .slice A1 ((q.filter (fun x => !(x == ((n : Nat) : Int)))).length) c1) :: _) rfl ?_; clear hA; intro a hA
       refine st_buildSlice tbOk hA hS [.int .i64 ((n : Nat) : Int)] rfl rfl rfl rfl rfl (by decide) (by kernel_rfl) rfl rfl (by decide) ?_; clear hA hS; intro b21 w22 a hS hA
       replace hS := hS.front 1 (C := C1) (L' := [(b21, rowO [.int .i64 ((n : Nat) : Int)] 3)] :: C6 :: [(b, rowO [.slice (some ⟨b1, o2, none⟩) ts.length c, .slice A2 q.length c2] 32)] :: C2 :: F) rfl rfl
       refine st_append tbOk hA (m := (q.filter (fun x => !(x == ((n : Nat) : Int)))).length) (q := 1) (xs := rows encI (q.filter (fun x => !(x == ((n : Nat) : Int))))) (news := rows encI ([((n : Nat) : Int)] : List Int)) rfl rfl rfl rfl rfl rfl rfl rfl (by decide) hW hS ((Own.full (T := 3) (size := 1) (g := b21) (m := 1) rfl (by decide)).rd (hS.own_ 1 rfl)) (rows_one encI_ok _) (maxLen_le (by omega)) (by show ((q.filter (fun x => !(x == ((n : Nat) : Int)))).length + 1) * 8 ≤ 140737488355328; omega) rfl rfl (by decide) ?_
       clear hA hS; intro v23 w24 C25 a hO25 hS hA
       replace hO25 := Own.app (l := q.filter (fun x => !(x == ((n : Nat) : Int)))) (l2 := ([((n : Nat) : Int)] : List Int)) hO25
       obtain ⟨A26, c27, rfl, hmc27, hxc27⟩ := hO25.open'
       refine st_run tbOk 1 hA (e' := (8, .slice A26 (((q.filter (fun x => !(x == ((n : Nat) : Int)))) ++ ([((n : Nat) : Int)] : List Int)).length) c27) :: _) rfl ?_; clear hA; intro a hA
       refine wpList_nil ?_
       replace hA := hA.sel [0, 8] (e' := [(0, .pointer (some ⟨b, 0, none⟩)), (8, .slice A26 (((q.filter (fun x => !(x == ((n : Nat) : Int)))) ++ ([((n : Nat) : Int)] : List Int)).length) c27)]) rfl
       refine xt_norm ?_
       refine wp_region_lit ?_
       refine st_run tbOk 4 hA (e' := (53, .pointer (some ⟨b, 1, none⟩)) :: (52, .pointer (some ⟨b, 0, none⟩)) :: (51, .slice A26 (((q.filter (fun x => !(x == ((n : Nat) : Int)))) ++ ([((n : Nat) : Int)] : List Int)).length) c27) :: (50, .pointer (some ⟨b, 0, none⟩)) :: _) rfl ?_; clear hA; intro a hA
       replace hS := hS.front 3 (C := [(b, rowO [.slice (some ⟨b1, o2, none⟩) ts.length c, .slice A2 q.length c2] 32)]) (L' := C25 :: [(b21, rowO [.int .i64 ((n : Nat) : Int)] 3)] :: C6 :: C2 :: F) rfl rfl
       refine st_store tbOk hA hS [.slice A26 (((q.filter (fun x => !(x == ((n : Nat) : Int)))) ++ ([((n : Nat) : Int)] : List Int)).length) c27] [.slice (some ⟨b1, o2, none⟩) ts.length c, .slice A26 (((q.filter (fun x => !(x == ((n : Nat) : Int)))) ++ ([((n : Nat) : Int)] : List Int)).length) c27] rfl rfl rfl rfl rfl rfl (by intro u hu; rw [List.mem_singleton.1 hu]; rfl) (Nat.le_of_ble_eq_true rfl) rfl rfl rfl ?_; clear hS; intro w28 hS
       refine wpList_nil ?_
       replace hA := hA.sel [] (e' := []) rfl
       refine ret0n (fn := Tryd.f16) hA rfl ?_
       replace hS := hS.front 1 (C := C25) (L' := [(b, rowO [.slice (some ⟨b1, o2, none⟩) ts.length c, .slice A26 (((q.filter (fun x => !(x == ((n : Nat) : Int)))) ++ ([((n : Nat) : Int)] : List Int)).length) c27] 32)] :: [(b21, rowO [.int .i64 ((n : Nat) : Int)] 3)] :: C6 :: C2 :: F) rfl rfl
       replace hS := hS.front 3 (C := C6) (L' := C25 :: [(b, rowO [.slice (some ⟨b1, o2, none⟩) ts.length c, .slice A26 (((q.filter (fun x => !(x == ((n : Nat) : Int)))) ++ ([((n : Nat) : Int)] : List Int)).length) c27] 32)] :: [(b21, rowO [.int .i64 ((n : Nat) : Int)] 3)] :: C2 :: F) rfl rfl
       replace hS := hS.front 2 (C := [(b, rowO [.slice (some ⟨b1, o2, none⟩) ts.length c, .slice A26 (((q.filter (fun x => !(x == ((n : Nat) : Int)))) ++ ([((n : Nat) : Int)] : List Int)).length) c27] 32)]) (L' := C6 :: C25 :: [(b21, rowO [.int .i64 ((n : Nat) : Int)] 3)] :: C2 :: F) rfl rfl
       replace hS := (hS.front 3 rfl rfl).drop1
       replace hS := (hS.front 3 rfl rfl).drop1
       replace hS := hS.join3
       exact ⟨_, ⟨_, _, _, _, (by rw [List.length_set]; exact hO6), hO25, rfl⟩, rfl, hS⟩)

theorem told_yes17 {w0 w : World} {F : List Chunk} (hS : St w0 w F) (hg : HG w0) :
    Ret Tryd.prog 17 #[.nilIface, .bool true] w (fun v w' => v = .bool true ∧ St w0 w' F) := by
  refine enter (vs := [.nilIface, .bool true]) 19 Tryd.func17 rfl rfl (by simp) ?_; intro a hA
  refine wp_seq ?_
  refine wp_region_lit ?_
  refine st_run tbOk 1 hA (e' := (4, .bool false) :: _) rfl ?_; clear hA; intro a hA
  refine wpList_nil ?_
  replace hA := hA.sel [0, 1] (e' := [(0, .nilIface), (1, .bool true)]) rfl
  refine xt_norm ?_
  refine wp_seq ?_
  refine wp_region_lit ?_
  refine st_run tbOk 15 hA (e' := (4, .bool true) :: (18, .bool true) :: (17, undef) :: (16, undef) :: (15, undef) :: (14, undef) :: (13, undef) :: (12, undef) :: (11, undef) :: (10, .bool true) :: (9, .bool true) :: (8, .bool true) :: (7, .nilIface) :: (6, .bool true) :: (5, .bool true) :: _) rfl ?_; clear hA; intro a hA
  refine wpList_nil ?_
  replace hA := hA.sel [4] (e' := [(4, .bool true)]) rfl
  refine xt_norm ?_
  refine wp_ret ?_
  refine ret1 (fn := Tryd.f17) hA rfl rfl ?_
  exact ⟨rfl, hS⟩

theorem told_no17 {w0 w : World} {F : List Chunk} (hS : St w0 w F) (hg : HG w0) :
    Ret Tryd.prog 17 #[.iface 53 (.int .i64 15), .bool false] w (fun v w' => v = .bool true ∧ St w0 w' F) := by
  refine enter (vs := [.iface 53 (.int .i64 15), .bool false]) 19 Tryd.func17 rfl rfl (by simp) ?_; intro a hA
  refine wp_seq ?_
  refine wp_region_lit ?_
  refine st_run tbOk 1 hA (e' := (4, .bool false) :: _) rfl ?_; clear hA; intro a hA
  refine wpList_nil ?_
  replace hA := hA.sel [0, 1] (e' := [(0, .iface 53 (.int .i64 15)), (1, .bool false)]) rfl
  refine xt_norm ?_
  refine wp_seq ?_
  refine wp_region_lit ?_
  refine st_run tbOk 10 hA (e' := (14, .iface 53 (.int .i64 15)) :: (13, .bool true) :: (12, .bool true) :: (11, .bool false) :: (10, .bool false) :: (9, .bool false) :: (8, undef) :: (7, undef) :: (6, .bool false) :: (5, .bool false) :: _) rfl ?_; clear hA; intro a hA
  refine st_call0 hA rfl rfl rfl isfn15 rfl rfl (by decide) (number_hit15 hS hg 15) ?_
  clear hA hS; rintro v w1 a ⟨rfl, hS⟩ hA
  refine st_run tbOk 4 hA (e' := (4, .bool true) :: (18, .bool true) :: (17, .bool true) :: (16, .bool true) :: _) rfl ?_; clear hA; intro a hA
  refine wpList_nil ?_
  replace hA := hA.sel [4] (e' := [(4, .bool true)]) rfl
  refine xt_norm ?_
  refine wp_ret ?_
  refine ret1 (fn := Tryd.f17) hA rfl rfl ?_
  exact ⟨rfl, hS⟩

def stf (ts : List (Int × Int × Int)) (id : Int) : Int := if 0 ≤ id then ((ts[id.toNat]?).map (fun x => x.2.1)).getD 0 else 0
theorem stf_lo {ts : List (Int × Int × Int)} {id : Int} (h : id < 0) : stf ts id = 0 := by rw [stf, if_neg (by omega)]
theorem stf_hi {ts : List (Int × Int × Int)} {id : Int} (h : ((ts.length : Nat) : Int) ≤ id) : stf ts id = 0 := by
  rw [stf, if_pos (by omega), List.getElem?_eq_none (by omega)]; rfl
theorem stf_in {ts : List (Int × Int × Int)} {n : Nat} {p s u : Int} (h : ts[n]? = some (p, s, u)) : stf ts ((n : Nat) : Int) = s := by
  rw [stf, if_pos (by omega), Int.toNat_natCast, h]; rfl
theorem idcases (id : Int) (len : Nat) : id < 0 ∨ ((len : Nat) : Int) ≤ id ∨ ∃ n : Nat, id = ((n : Nat) : Int) ∧ n < len := by
  rcases Int.lt_or_le id 0 with h | h
  · exact .inl h
  · rcases Int.lt_or_le id len with h2 | h2
    · exact .inr (.inr ⟨id.toNat, by omega, by omega⟩)
    · exact .inr (.inl h2)
theorem mstate {w0 w : World} {F : List Chunk} {L : Chunk} {b : Nat} {ts : List (Int × Int × Int)} {q : List Int} (hS : St w0 w (L :: F)) (hM : TR 32 b ts q L) (id : Int) : Ret Tryd.prog 14 #[.pointer (some ⟨b, 0, none⟩), .int .i64 id] w (fun v w' => ∃ L', TR 32 b ts q L' ∧ v = .int .i64 (stf ts id) ∧ St w0 w' (L' :: F)) := by
  rcases idcases id ts.length with h | h | ⟨n, rfl, hn⟩
  · rw [stf_lo h]; exact mstate_lo14 hS hM id h
  · rw [stf_hi h]; exact mstate_hi14 hS hM id h
  · obtain ⟨⟨p, s, u⟩, hx⟩ := get_ex (l := ts) (k := n) hn
    rw [stf_in hx]; exact mstate_in14 hS hM n hx

end Go.Proofs.YtglebdfenojglaaDoor
