import Derived.Test.YtplhgbfibiinaaaDoorJ
set_option linter.unusedVariables false
set_option linter.unusedSimpArgs false
set_option maxRecDepth 4000
namespace Go.Proofs.YtplhgbfibiinaaaDoor
open Go Go.SK
theorem bounds5 {w0 w : World} {F : List Chunk} (hg : HG w0) (hS : St w0 w F) {v : Value} {l : List Area} (hr : RdS w0 F 5 v l.length (rows encArea l)) (t1 n1 : Int) (wr : Bool) (h1 : -9223372036854775808 ≤ t1 ∧ t1 < 9223372036854775808) (h2 : -9223372036854775808 ≤ n1 ∧ n1 < 9223372036854775808) :
    Ret Tryd.prog 5 #[v, .int .i64 t1, .int .i64 n1, .bool wr] w (fun v w' => v = .bool true ∧ St w0 w' F) := by
  obtain ⟨A, c, rfl, hmc, hcx⟩ := (hr w hS).open'
  refine enter (vs := [.slice A l.length c, .int .i64 t1, .int .i64 n1, .bool wr]) 106 Tryd.func5 rfl rfl (by simp) ?_; intro a hA
  refine wp_seq ?_
  refine wp_region_lit ?_
  refine st_run tbOk 1 hA (e' := (8, .bool false) :: _) rfl ?_; clear hA; intro a hA
  refine wpList_nil ?_
  replace hA := hA.sel [0, 1, 2, 3] (e' := [(0, .slice A l.length c), (1, .int .i64 t1), (2, .int .i64 n1), (3, .bool wr)]) rfl
  refine xt_norm ?_
  refine wp_seq ?_
  refine wp_seq ?_
  refine wp_region_lit ?_
  refine st_call0 hA rfl rfl rfl isfn8 rfl rfl (by decide) (awake8 hS hg) ?_
  clear hA hS; rintro v w1 a ⟨rfl, hS⟩ hA
  refine st_run tbOk 1 hA (e' := (18, .bool false) :: _) rfl ?_; clear hA; intro a hA
  refine wpList_nil ?_
  replace hA := hA.sel [0, 1, 2, 3, 18] (e' := [(0, .slice A l.length c), (1, .int .i64 t1), (2, .int .i64 n1), (3, .bool wr), (18, .bool false)]) rfl
  refine xt_norm ?_
  refine cd_cond_f hA rfl ?_
  refine wp_skip ?_
  refine xt_norm ?_
  refine wp_seq ?_
  refine wp_region_lit ?_
  refine st_run tbOk 1 hA (e' := (19, .slice A l.length c) :: _) rfl ?_; clear hA; intro a hA
  refine st_call0 hA rfl rfl rfl isfn9 rfl rfl (by decide) (make9 hS (l := l) (fun w' h => (hr _ h))) ?_
  clear hA hS; rintro v3 w2 a ⟨ms, C4, hM, hO4, hS⟩ hA
  obtain ⟨A5, c6, rfl, hmc6, hxc6⟩ := hO4.open'
  have hml := hM.n
  refine st_run tbOk 1 hA (e' := (9, .slice A5 ms.length c6) :: _) rfl ?_; clear hA; intro a hA
  refine wpList_nil ?_
  replace hA := hA.sel [1, 2, 3, 9] (e' := [(1, .int .i64 t1), (2, .int .i64 n1), (3, .bool wr), (9, .slice A5 ms.length c6)]) rfl
  refine xt_norm ?_
  refine wp_seq ?_
  refine wp_region_lit ?_
  refine st_run tbOk 2 hA (e' := (23, .int .i64 t1) :: (22, .slice A5 ms.length c6) :: _) rfl ?_; clear hA; intro a hA
  refine st_call0 hA rfl rfl rfl isfn16 rfl rfl (by decide) (rest16 hS t1 1073741824 (by decide)) ?_
  clear hA hS; rintro _ w7 a ⟨r8, hrr8, hsr8, rfl, hS⟩ hA
  obtain ⟨g, rfl⟩ := Int.eq_ofNat_of_zero_le hrr8
  refine st_run tbOk 1 hA (e' := (25, .bool wr) :: _) rfl ?_; clear hA; intro a hA
  refine st_call0 hA rfl rfl rfl isfn14 rfl rfl (by decide) (pieces_ok14 hS (l := ms) (RdS.own hO4 0 rfl) g 0 wr hM (by omega) (by omega) (fun k hk => absurd hk (by omega))) ?_
  clear hA hS; rintro _ w9 a ⟨v10, C11, hO11, rfl, hS⟩ hA
  obtain ⟨A12, c13, rfl, hmc13, hxc13⟩ := hO11.open'
  refine st_run tbOk 5 hA (e' := (11, .nilIface) :: (10, .slice A12 ((pa ms g 0).length) c13) :: (28, .nilIface) :: (27, .slice A12 ((pa ms g 0).length) c13) :: (21, .tuple #[.slice A12 ((pa ms g 0).length) c13, .nilIface]) :: _) rfl ?_; clear hA; intro a hA
  refine wpList_nil ?_
  replace hA := hA.sel [1, 2, 3, 9, 10, 11] (e' := [(1, .int .i64 t1), (2, .int .i64 n1), (3, .bool wr), (9, .slice A5 ms.length c6), (10, .slice A12 ((pa ms g 0).length) c13), (11, .nilIface)]) rfl
  refine xt_norm ?_
  refine wp_seq ?_
  refine wp_region_lit ?_
  refine st_run tbOk 4 hA (e' := (33, .bool wr) :: (32, .int .i64 n1) :: (31, .int .i64 t1) :: (30, .slice A5 ms.length c6) :: _) rfl ?_; clear hA; intro a hA
  rcases four ms wr t1 n1 with hbd | ⟨t, n, rfl, rfl, ht, hn, hf | ⟨j0, hj0, hf, hbad | ⟨b, hb1, hb2, hb3⟩⟩⟩
  · refine st_call0 hA rfl rfl rfl isfn14 rfl rfl (by decide) (pieces_bad14 hS (l := ms) (RdS.own hO4 1 rfl) t1 n1 wr hbd) ?_
    clear hA hS; rintro v w14 a ⟨rfl, hS⟩ hA
    refine st_run tbOk 5 hA (e' := (13, .iface 30 (.int .i64 13)) :: (12, .slice none 0 0) :: (36, .iface 30 (.int .i64 13)) :: (35, .slice none 0 0) :: (29, .tuple #[.slice none 0 0, .iface 30 (.int .i64 13)]) :: _) rfl ?_; clear hA; intro a hA
    refine wpList_nil ?_
    replace hA := hA.sel [1, 2, 10, 11, 12, 13] (e' := [(1, .int .i64 t1), (2, .int .i64 n1), (10, .slice A12 ((pa ms g 0).length) c13), (11, .nilIface), (12, .slice none 0 0), (13, .iface 30 (.int .i64 13))]) rfl
    refine xt_norm ?_
    refine wp_seq ?_
    refine wp_seq ?_
    refine wp_region_lit ?_
    refine st_run tbOk 3 hA (e' := (39, .bool (decide (n1 < 0))) :: (38, .bool (decide (n1 < 0))) :: (37, .int .i64 n1) :: _) rfl ?_; clear hA; intro a hA
    by_cases hc15 : n1 < 0
    · first
      | (exfalso; omega)
      | (replace hA := hA.rw 38 (v' := .bool true) rfl (vb_true hc15)
         replace hA := hA.rw 39 (v' := .bool true) rfl (vb_true hc15)
         refine st_run tbOk 13 hA (e' := (52, .bool true) :: (51, undef) :: (50, undef) :: (49, undef) :: (48, undef) :: (47, .bool true) :: (46, .bool true) :: (45, undef) :: (44, undef) :: (43, .bool true) :: (42, .bool true) :: (41, undef) :: (40, undef) :: _) rfl ?_; clear hA; intro a hA
         refine wpList_nil ?_
         replace hA := hA.sel [2, 10, 11, 12, 13, 52] (e' := [(2, .int .i64 n1), (10, .slice A12 ((pa ms g 0).length) c13), (11, .nilIface), (12, .slice none 0 0), (13, .iface 30 (.int .i64 13)), (52, .bool true)]) rfl
         refine xt_norm ?_
         refine cd_cond_t hA rfl ?_
         refine wp_seq ?_
         refine wp_region_lit ?_
         refine st_run tbOk 5 hA (e' := (57, .iface 30 (.int .i64 13)) :: (56, .bool true) :: (55, .bool true) :: (54, .int .i64 0) :: (53, .slice none 0 0) :: _) rfl ?_; clear hA; intro a hA
         refine st_call0 hA rfl rfl rfl isfn13 rfl rfl (by decide) (number_hit13 hS hg 13) ?_
         clear hA hS; rintro v w16 a ⟨rfl, hS⟩ hA
         refine st_run tbOk 9 hA (e' := (67, .int .i64 (((pa ms g 0).length : Nat) : Int)) :: (66, .slice A12 ((pa ms g 0).length) c13) :: (65, .bool true) :: (64, .bool true) :: (63, .bool true) :: (62, .nilIface) :: (61, .bool true) :: (60, .bool true) :: (59, .bool true) :: _) rfl ?_; clear hA; intro a hA
         replace hA := hA.rw 67 (v' := .int .i64 0) rfl (by rfl)
         refine st_run tbOk 3 hA (e' := (8, .bool true) :: (69, .bool true) :: (68, .bool true) :: _) rfl ?_; clear hA; intro a hA
         refine wpList_nil ?_
         replace hA := hA.sel [8] (e' := [(8, .bool true)]) rfl
         refine xt_norm ?_
         refine wp_ret (xt_ret ?_)
         refine ret1 (fn := Tryd.f5) hA rfl rfl ?_
         replace hS := hS.drop1
         replace hS := hS.drop1
         exact ⟨rfl, hS⟩)
    · first
      | (exfalso; omega)
      | (replace hA := hA.rw 38 (v' := .bool false) rfl (vb_false hc15)
         replace hA := hA.rw 39 (v' := .bool false) rfl (vb_false hc15)
         refine st_run tbOk 4 hA (e' := (43, .bool (decide (t1 < 0))) :: (42, .bool (decide (t1 < 0))) :: (41, .bool (decide (t1 < 0))) :: (40, .int .i64 t1) :: _) rfl ?_; clear hA; intro a hA
         by_cases hc17 : t1 < 0
         · first
           | (exfalso; omega)
           | (replace hA := hA.rw 41 (v' := .bool true) rfl (vb_true hc17)
              replace hA := hA.rw 42 (v' := .bool true) rfl (vb_true hc17)
              replace hA := hA.rw 43 (v' := .bool true) rfl (vb_true hc17)
              refine st_run tbOk 9 hA (e' := (52, .bool true) :: (51, undef) :: (50, undef) :: (49, undef) :: (48, undef) :: (47, .bool true) :: (46, .bool true) :: (45, undef) :: (44, undef) :: _) rfl ?_; clear hA; intro a hA
              refine wpList_nil ?_
              replace hA := hA.sel [2, 10, 11, 12, 13, 52] (e' := [(2, .int .i64 n1), (10, .slice A12 ((pa ms g 0).length) c13), (11, .nilIface), (12, .slice none 0 0), (13, .iface 30 (.int .i64 13)), (52, .bool true)]) rfl
              refine xt_norm ?_
              refine cd_cond_t hA rfl ?_
              refine wp_seq ?_
              refine wp_region_lit ?_
              refine st_run tbOk 5 hA (e' := (57, .iface 30 (.int .i64 13)) :: (56, .bool true) :: (55, .bool true) :: (54, .int .i64 0) :: (53, .slice none 0 0) :: _) rfl ?_; clear hA; intro a hA
              refine st_call0 hA rfl rfl rfl isfn13 rfl rfl (by decide) (number_hit13 hS hg 13) ?_
              clear hA hS; rintro v w18 a ⟨rfl, hS⟩ hA
              refine st_run tbOk 9 hA (e' := (67, .int .i64 (((pa ms g 0).length : Nat) : Int)) :: (66, .slice A12 ((pa ms g 0).length) c13) :: (65, .bool true) :: (64, .bool true) :: (63, .bool true) :: (62, .nilIface) :: (61, .bool true) :: (60, .bool true) :: (59, .bool true) :: _) rfl ?_; clear hA; intro a hA
              replace hA := hA.rw 67 (v' := .int .i64 0) rfl (by rfl)
              refine st_run tbOk 3 hA (e' := (8, .bool true) :: (69, .bool true) :: (68, .bool true) :: _) rfl ?_; clear hA; intro a hA
              refine wpList_nil ?_
              replace hA := hA.sel [8] (e' := [(8, .bool true)]) rfl
              refine xt_norm ?_
              refine wp_ret (xt_ret ?_)
              refine ret1 (fn := Tryd.f5) hA rfl rfl ?_
              replace hS := hS.drop1
              replace hS := hS.drop1
              exact ⟨rfl, hS⟩)
         · first
           | (exfalso; omega)
           | (replace hA := hA.rw 41 (v' := .bool false) rfl (vb_false hc17)
              replace hA := hA.rw 42 (v' := .bool false) rfl (vb_false hc17)
              replace hA := hA.rw 43 (v' := .bool false) rfl (vb_false hc17)
              refine st_run tbOk 4 hA (e' := (47, .bool (decide (t1 > 1073741824))) :: (46, .bool (decide (t1 > 1073741824))) :: (45, .bool (decide (t1 > 1073741824))) :: (44, .int .i64 t1) :: _) rfl ?_; clear hA; intro a hA
              by_cases hc19 : t1 > 1073741824
              · first
                | (exfalso; omega)
                | (replace hA := hA.rw 45 (v' := .bool true) rfl (vb_true hc19)
                   replace hA := hA.rw 46 (v' := .bool true) rfl (vb_true hc19)
                   replace hA := hA.rw 47 (v' := .bool true) rfl (vb_true hc19)
                   refine st_run tbOk 5 hA (e' := (52, .bool true) :: (51, undef) :: (50, undef) :: (49, undef) :: (48, undef) :: _) rfl ?_; clear hA; intro a hA
                   refine wpList_nil ?_
                   replace hA := hA.sel [2, 10, 11, 12, 13, 52] (e' := [(2, .int .i64 n1), (10, .slice A12 ((pa ms g 0).length) c13), (11, .nilIface), (12, .slice none 0 0), (13, .iface 30 (.int .i64 13)), (52, .bool true)]) rfl
                   refine xt_norm ?_
                   refine cd_cond_t hA rfl ?_
                   refine wp_seq ?_
                   refine wp_region_lit ?_
                   refine st_run tbOk 5 hA (e' := (57, .iface 30 (.int .i64 13)) :: (56, .bool true) :: (55, .bool true) :: (54, .int .i64 0) :: (53, .slice none 0 0) :: _) rfl ?_; clear hA; intro a hA
                   refine st_call0 hA rfl rfl rfl isfn13 rfl rfl (by decide) (number_hit13 hS hg 13) ?_
                   clear hA hS; rintro v w20 a ⟨rfl, hS⟩ hA
                   refine st_run tbOk 9 hA (e' := (67, .int .i64 (((pa ms g 0).length : Nat) : Int)) :: (66, .slice A12 ((pa ms g 0).length) c13) :: (65, .bool true) :: (64, .bool true) :: (63, .bool true) :: (62, .nilIface) :: (61, .bool true) :: (60, .bool true) :: (59, .bool true) :: _) rfl ?_; clear hA; intro a hA
                   replace hA := hA.rw 67 (v' := .int .i64 0) rfl (by rfl)
                   refine st_run tbOk 3 hA (e' := (8, .bool true) :: (69, .bool true) :: (68, .bool true) :: _) rfl ?_; clear hA; intro a hA
                   refine wpList_nil ?_
                   replace hA := hA.sel [8] (e' := [(8, .bool true)]) rfl
                   refine xt_norm ?_
                   refine wp_ret (xt_ret ?_)
                   refine ret1 (fn := Tryd.f5) hA rfl rfl ?_
                   replace hS := hS.drop1
                   replace hS := hS.drop1
                   exact ⟨rfl, hS⟩)
              · first
                | (exfalso; omega)
                | (replace hA := hA.rw 45 (v' := .bool false) rfl (vb_false hc19)
                   replace hA := hA.rw 46 (v' := .bool false) rfl (vb_false hc19)
                   replace hA := hA.rw 47 (v' := .bool false) rfl (vb_false hc19)
                   refine st_run tbOk 3 hA (e' := (50, .int .i64 (IntKind.i64.wrap (1073741824 - t1))) :: (49, .int .i64 t1) :: (48, .int .i64 n1) :: _) rfl ?_; clear hA; intro a hA
                   replace hA := hA.rw 50 (v' := .int .i64 (1073741824 - t1)) rfl (wr64 (by omega) (by omega) (by omega))
                   refine st_run tbOk 2 hA (e' := (52, .bool (decide (n1 > 1073741824 - t1))) :: (51, .bool (decide (n1 > 1073741824 - t1))) :: _) rfl ?_; clear hA; intro a hA
                   refine wpList_nil ?_
                   replace hA := hA.sel [2, 10, 11, 12, 13, 52] (e' := [(2, .int .i64 n1), (10, .slice A12 ((pa ms g 0).length) c13), (11, .nilIface), (12, .slice none 0 0), (13, .iface 30 (.int .i64 13)), (52, .bool (decide (n1 > 1073741824 - t1)))]) rfl
                   refine xt_norm ?_
                   by_cases hc21 : n1 > 1073741824 - t1
                   · first
                     | (exfalso; omega)
                     | (replace hA := hA.rw 52 (v' := .bool true) rfl (vb_true hc21)
                        refine cd_cond_t hA rfl ?_
                        refine wp_seq ?_
                        refine wp_region_lit ?_
                        refine st_run tbOk 5 hA (e' := (57, .iface 30 (.int .i64 13)) :: (56, .bool true) :: (55, .bool true) :: (54, .int .i64 0) :: (53, .slice none 0 0) :: _) rfl ?_; clear hA; intro a hA
                        refine st_call0 hA rfl rfl rfl isfn13 rfl rfl (by decide) (number_hit13 hS hg 13) ?_
                        clear hA hS; rintro v w22 a ⟨rfl, hS⟩ hA
                        refine st_run tbOk 9 hA (e' := (67, .int .i64 (((pa ms g 0).length : Nat) : Int)) :: (66, .slice A12 ((pa ms g 0).length) c13) :: (65, .bool true) :: (64, .bool true) :: (63, .bool true) :: (62, .nilIface) :: (61, .bool true) :: (60, .bool true) :: (59, .bool true) :: _) rfl ?_; clear hA; intro a hA
                        replace hA := hA.rw 67 (v' := .int .i64 0) rfl (by rfl)
                        refine st_run tbOk 3 hA (e' := (8, .bool true) :: (69, .bool true) :: (68, .bool true) :: _) rfl ?_; clear hA; intro a hA
                        refine wpList_nil ?_
                        replace hA := hA.sel [8] (e' := [(8, .bool true)]) rfl
                        refine xt_norm ?_
                        refine wp_ret (xt_ret ?_)
                        refine ret1 (fn := Tryd.f5) hA rfl rfl ?_
                        replace hS := hS.drop1
                        replace hS := hS.drop1
                        exact ⟨rfl, hS⟩)
                   · first
                     | (exfalso; omega)
                     | (replace hA := hA.rw 52 (v' := .bool false) rfl (vb_false hc21)
                        refine cd_cond_f hA rfl ?_
                        refine wp_skip ?_
                        refine xt_norm ?_
                        refine wp_seq ?_
                        refine wp_region_lit ?_
                        refine st_run tbOk 1 hA (e' := (14, .int .i64 0) :: _) rfl ?_; clear hA; intro a hA
                        refine wpList_nil ?_
                        replace hA := hA.sel [2, 10, 11, 12, 13, 14] (e' := [(2, .int .i64 n1), (10, .slice A12 ((pa ms g 0).length) c13), (11, .nilIface), (12, .slice none 0 0), (13, .iface 30 (.int .i64 13)), (14, .int .i64 0)]) rfl
                        refine xt_norm ?_
                        refine wp_seq ?_
                        refine wp_seq ?_
                        refine wp_region_lit ?_
                        refine st_run tbOk 3 hA (e' := (72, .int .i64 0) :: (71, .int .i64 0) :: (70, .slice none 0 0) :: _) rfl ?_; clear hA; intro a hA
                        refine wpList_nil ?_
                        refine xt_norm ?_
                        refine wp_block ?_
                        refine wp_loop_ghost (fun m a w => ∃ (i : Nat), m = 0 - i ∧ Has a 106 [(2, .int .i64 n1), (10, .slice A12 ((pa ms g 0).length) c13), (11, .nilIface), (12, .slice none 0 0), (13, .iface 30 (.int .i64 13)), (14, .int .i64 0), (70, .slice none 0 0), (71, .int .i64 0), (72, .int .i64 ((i : Nat) : Int))] ∧ St w0 w (C11 :: C4 :: F) ∧ (i ≤ 0)) (0 - 0)
                          ⟨0, rfl, (hA.sel [2, 10, 11, 12, 13, 14, 70, 71, 72] rfl), hS, Nat.zero_le _⟩ ?_
                        clear hA hS; rintro m0 a w23 ⟨i, rfl, hA, hS, hi⟩
                        refine wp_seq ?_
                        refine wp_region_lit ?_
                        refine st_run tbOk 1 hA (e' := (73, .bool (decide (((i : Nat) : Int) < 0))) :: _) rfl ?_; clear hA; intro a hA
                        refine wpList_nil ?_
                        refine xt_norm ?_
                        refine wp_seq ?_
                        by_cases hc24 : ((i : Nat) : Int) < 0
                        · first
                          | (exfalso; omega)
                          | (replace hA := hA.rw 73 (v' := .bool true) rfl (vb_true hc24)
                             refine cd_cond_t hA rfl ?_
                             refine wp_skip ?_
                             refine xt_norm ?_
                             refine wp_seq ?_
                             refine wp_block ?_
                             refine wp_seq ?_
                             exfalso; omega)
                        · first
                          | (exfalso; omega)
                          | (replace hA := hA.rw 73 (v' := .bool false) rfl (vb_false hc24)
                             refine cd_cond_f hA rfl ?_
                             refine wp_exit ?_
                             refine xt_exit ?_
                             refine xt_exit ?_
                             refine cd_exit_eq ?_
                             refine xt_norm ?_
                             refine wp_seq ?_
                             refine wp_region_lit ?_
                             refine st_run tbOk 5 hA (e' := (85, .int .i64 (((pa ms g 0).length : Nat) : Int)) :: (84, .slice A12 ((pa ms g 0).length) c13) :: (83, .bool true) :: (82, .bool true) :: (81, .nilIface) :: _) rfl ?_; clear hA; intro a hA
                             replace hA := hA.rw 85 (v' := .int .i64 0) rfl (by rfl)
                             refine st_run tbOk 21 hA (e' := (8, .bool true) :: (105, .bool true) :: (104, .bool true) :: (103, .bool true) :: (102, .bool true) :: (101, .int .i64 0) :: (100, .slice none 0 0) :: (99, .bool true) :: (98, .bool true) :: (97, .iface 30 (.int .i64 13)) :: (96, .bool false) :: (95, .bool false) :: (94, undef) :: (93, undef) :: (92, undef) :: (91, .bool false) :: (90, .bool false) :: (89, .iface 30 (.int .i64 13)) :: (88, .bool true) :: (87, .bool true) :: (86, .bool true) :: _) rfl ?_; clear hA; intro a hA
                             refine wpList_nil ?_
                             replace hA := hA.sel [8] (e' := [(8, .bool true)]) rfl
                             refine xt_norm ?_
                             refine wp_ret ?_
                             refine ret1 (fn := Tryd.f5) hA rfl rfl ?_
                             replace hS := hS.drop1
                             replace hS := hS.drop1
                             exact ⟨rfl, hS⟩)))))
  · have hfx : ∀ i : Nat, i < n → ∃ a, fnd ms ((t + i : Nat) : Int) = some a := fun i hi => (hf i hi).ex
    have hpl := pa_le ms t n
    refine st_call0 hA rfl rfl rfl isfn14 rfl rfl (by decide) (pieces_ok14 hS (l := ms) (RdS.own hO4 1 rfl) t n wr hM (by omega) (by omega) hf) ?_
    clear hA hS; rintro _ w25 a ⟨v26, C27, hO27, rfl, hS⟩ hA
    obtain ⟨A28, c29, rfl, hmc29, hxc29⟩ := hO27.open'
    refine st_run tbOk 5 hA (e' := (13, .nilIface) :: (12, .slice A28 ((pa ms t n).length) c29) :: (36, .nilIface) :: (35, .slice A28 ((pa ms t n).length) c29) :: (29, .tuple #[.slice A28 ((pa ms t n).length) c29, .nilIface]) :: _) rfl ?_; clear hA; intro a hA
    refine wpList_nil ?_
    replace hA := hA.sel [1, 2, 10, 11, 12, 13] (e' := [(1, .int .i64 ((t : Nat) : Int)), (2, .int .i64 ((n : Nat) : Int)), (10, .slice A12 ((pa ms g 0).length) c13), (11, .nilIface), (12, .slice A28 ((pa ms t n).length) c29), (13, .nilIface)]) rfl
    refine xt_norm ?_
    refine wp_seq ?_
    refine wp_seq ?_
    refine wp_region_lit ?_
    refine st_run tbOk 3 hA (e' := (39, .bool (decide (((n : Nat) : Int) < 0))) :: (38, .bool (decide (((n : Nat) : Int) < 0))) :: (37, .int .i64 ((n : Nat) : Int)) :: _) rfl ?_; clear hA; intro a hA
    by_cases hc30 : ((n : Nat) : Int) < 0
    · first
      | (exfalso; omega)
      | (replace hA := hA.rw 38 (v' := .bool true) rfl (vb_true hc30)
         replace hA := hA.rw 39 (v' := .bool true) rfl (vb_true hc30)
         refine st_run tbOk 13 hA (e' := (52, .bool true) :: (51, undef) :: (50, undef) :: (49, undef) :: (48, undef) :: (47, .bool true) :: (46, .bool true) :: (45, undef) :: (44, undef) :: (43, .bool true) :: (42, .bool true) :: (41, undef) :: (40, undef) :: _) rfl ?_; clear hA; intro a hA
         refine wpList_nil ?_
         replace hA := hA.sel [2, 10, 11, 12, 13, 52] (e' := [(2, .int .i64 ((n : Nat) : Int)), (10, .slice A12 ((pa ms g 0).length) c13), (11, .nilIface), (12, .slice A28 ((pa ms t n).length) c29), (13, .nilIface), (52, .bool true)]) rfl
         refine xt_norm ?_
         refine cd_cond_t hA rfl ?_
         refine wp_seq ?_
         refine wp_region_lit ?_
         refine st_run tbOk 4 hA (e' := (56, .bool ((((pa ms t n).length : Nat) : Int) == 0)) :: (55, .bool ((((pa ms t n).length : Nat) : Int) == 0)) :: (54, .int .i64 (((pa ms t n).length : Nat) : Int)) :: (53, .slice A28 ((pa ms t n).length) c29) :: _) rfl ?_; clear hA; intro a hA
         by_cases hc31 : (((pa ms t n).length : Nat) : Int) = 0
         · first
           | (exfalso; omega)
           | (replace hA := hA.rw 55 (v' := .bool true) rfl (vb_eq_t hc31)
              replace hA := hA.rw 56 (v' := .bool true) rfl (vb_eq_t hc31)
              refine st_run tbOk 1 hA (e' := (57, .nilIface) :: _) rfl ?_; clear hA; intro a hA
              refine st_call0 hA rfl rfl rfl isfn13 rfl rfl (by decide) (number_nil13 hS hg) ?_
              clear hA hS; rintro v w32 a ⟨rfl, hS⟩ hA
              refine st_run tbOk 9 hA (e' := (67, undef) :: (66, undef) :: (65, .bool false) :: (64, .bool false) :: (63, undef) :: (62, undef) :: (61, .bool false) :: (60, .bool false) :: (59, .bool false) :: _) rfl ?_; clear hA; intro a hA
              replace hA := hA.rw 67 (v' := .int .i64 0) rfl (by rfl)
              refine st_run tbOk 3 hA (e' := (8, .bool false) :: (69, .bool false) :: (68, undef) :: _) rfl ?_; clear hA; intro a hA
              refine wpList_nil ?_
              replace hA := hA.sel [8] (e' := [(8, .bool false)]) rfl
              refine xt_norm ?_
              refine wp_ret (xt_ret ?_)
              refine ret1 (fn := Tryd.f5) hA rfl rfl ?_
              exfalso; omega)
         · first
           | (exfalso; omega)
           | (replace hA := hA.rw 55 (v' := .bool false) rfl (vb_eq_f hc31)
              replace hA := hA.rw 56 (v' := .bool false) rfl (vb_eq_f hc31)
              refine st_run tbOk 11 hA (e' := (67, undef) :: (66, undef) :: (65, .bool false) :: (64, .bool false) :: (63, undef) :: (62, undef) :: (61, .bool false) :: (60, .bool false) :: (59, undef) :: (58, undef) :: (57, undef) :: _) rfl ?_; clear hA; intro a hA
              replace hA := hA.rw 67 (v' := .int .i64 0) rfl (by rfl)
              refine st_run tbOk 3 hA (e' := (8, .bool false) :: (69, .bool false) :: (68, undef) :: _) rfl ?_; clear hA; intro a hA
              refine wpList_nil ?_
              replace hA := hA.sel [8] (e' := [(8, .bool false)]) rfl
              refine xt_norm ?_
              refine wp_ret (xt_ret ?_)
              refine ret1 (fn := Tryd.f5) hA rfl rfl ?_
              exfalso; omega))
    · first
      | (exfalso; omega)
      | (replace hA := hA.rw 38 (v' := .bool false) rfl (vb_false hc30)
         replace hA := hA.rw 39 (v' := .bool false) rfl (vb_false hc30)
         refine st_run tbOk 4 hA (e' := (43, .bool (decide (((t : Nat) : Int) < 0))) :: (42, .bool (decide (((t : Nat) : Int) < 0))) :: (41, .bool (decide (((t : Nat) : Int) < 0))) :: (40, .int .i64 ((t : Nat) : Int)) :: _) rfl ?_; clear hA; intro a hA
         by_cases hc33 : ((t : Nat) : Int) < 0
         · first
           | (exfalso; omega)
           | (replace hA := hA.rw 41 (v' := .bool true) rfl (vb_true hc33)
              replace hA := hA.rw 42 (v' := .bool true) rfl (vb_true hc33)
              replace hA := hA.rw 43 (v' := .bool true) rfl (vb_true hc33)
              refine st_run tbOk 9 hA (e' := (52, .bool true) :: (51, undef) :: (50, undef) :: (49, undef) :: (48, undef) :: (47, .bool true) :: (46, .bool true) :: (45, undef) :: (44, undef) :: _) rfl ?_; clear hA; intro a hA
              refine wpList_nil ?_
              replace hA := hA.sel [2, 10, 11, 12, 13, 52] (e' := [(2, .int .i64 ((n : Nat) : Int)), (10, .slice A12 ((pa ms g 0).length) c13), (11, .nilIface), (12, .slice A28 ((pa ms t n).length) c29), (13, .nilIface), (52, .bool true)]) rfl
              refine xt_norm ?_
              refine cd_cond_t hA rfl ?_
              refine wp_seq ?_
              refine wp_region_lit ?_
              refine st_run tbOk 4 hA (e' := (56, .bool ((((pa ms t n).length : Nat) : Int) == 0)) :: (55, .bool ((((pa ms t n).length : Nat) : Int) == 0)) :: (54, .int .i64 (((pa ms t n).length : Nat) : Int)) :: (53, .slice A28 ((pa ms t n).length) c29) :: _) rfl ?_; clear hA; intro a hA
              by_cases hc34 : (((pa ms t n).length : Nat) : Int) = 0
              · first
                | (exfalso; omega)
                | (replace hA := hA.rw 55 (v' := .bool true) rfl (vb_eq_t hc34)
                   replace hA := hA.rw 56 (v' := .bool true) rfl (vb_eq_t hc34)
                   refine st_run tbOk 1 hA (e' := (57, .nilIface) :: _) rfl ?_; clear hA; intro a hA
                   refine st_call0 hA rfl rfl rfl isfn13 rfl rfl (by decide) (number_nil13 hS hg) ?_
                   clear hA hS; rintro v w35 a ⟨rfl, hS⟩ hA
                   refine st_run tbOk 9 hA (e' := (67, undef) :: (66, undef) :: (65, .bool false) :: (64, .bool false) :: (63, undef) :: (62, undef) :: (61, .bool false) :: (60, .bool false) :: (59, .bool false) :: _) rfl ?_; clear hA; intro a hA
                   replace hA := hA.rw 67 (v' := .int .i64 0) rfl (by rfl)
                   refine st_run tbOk 3 hA (e' := (8, .bool false) :: (69, .bool false) :: (68, undef) :: _) rfl ?_; clear hA; intro a hA
                   refine wpList_nil ?_
                   replace hA := hA.sel [8] (e' := [(8, .bool false)]) rfl
                   refine xt_norm ?_
                   refine wp_ret (xt_ret ?_)
                   refine ret1 (fn := Tryd.f5) hA rfl rfl ?_
                   exfalso; omega)
              · first
                | (exfalso; omega)
                | (replace hA := hA.rw 55 (v' := .bool false) rfl (vb_eq_f hc34)
                   replace hA := hA.rw 56 (v' := .bool false) rfl (vb_eq_f hc34)
                   refine st_run tbOk 11 hA (e' := (67, undef) :: (66, undef) :: (65, .bool false) :: (64, .bool false) :: (63, undef) :: (62, undef) :: (61, .bool false) :: (60, .bool false) :: (59, undef) :: (58, undef) :: (57, undef) :: _) rfl ?_; clear hA; intro a hA
                   replace hA := hA.rw 67 (v' := .int .i64 0) rfl (by rfl)
                   refine st_run tbOk 3 hA (e' := (8, .bool false) :: (69, .bool false) :: (68, undef) :: _) rfl ?_; clear hA; intro a hA
                   refine wpList_nil ?_
                   replace hA := hA.sel [8] (e' := [(8, .bool false)]) rfl
                   refine xt_norm ?_
                   refine wp_ret (xt_ret ?_)
                   refine ret1 (fn := Tryd.f5) hA rfl rfl ?_
                   exfalso; omega))
         · first
           | (exfalso; omega)
           | (replace hA := hA.rw 41 (v' := .bool false) rfl (vb_false hc33)
              replace hA := hA.rw 42 (v' := .bool false) rfl (vb_false hc33)
              replace hA := hA.rw 43 (v' := .bool false) rfl (vb_false hc33)
              refine st_run tbOk 4 hA (e' := (47, .bool (decide (((t : Nat) : Int) > 1073741824))) :: (46, .bool (decide (((t : Nat) : Int) > 1073741824))) :: (45, .bool (decide (((t : Nat) : Int) > 1073741824))) :: (44, .int .i64 ((t : Nat) : Int)) :: _) rfl ?_; clear hA; intro a hA
              by_cases hc36 : ((t : Nat) : Int) > 1073741824
              · first
                | (exfalso; omega)
                | (replace hA := hA.rw 45 (v' := .bool true) rfl (vb_true hc36)
                   replace hA := hA.rw 46 (v' := .bool true) rfl (vb_true hc36)
                   replace hA := hA.rw 47 (v' := .bool true) rfl (vb_true hc36)
                   refine st_run tbOk 5 hA (e' := (52, .bool true) :: (51, undef) :: (50, undef) :: (49, undef) :: (48, undef) :: _) rfl ?_; clear hA; intro a hA
                   refine wpList_nil ?_
                   replace hA := hA.sel [2, 10, 11, 12, 13, 52] (e' := [(2, .int .i64 ((n : Nat) : Int)), (10, .slice A12 ((pa ms g 0).length) c13), (11, .nilIface), (12, .slice A28 ((pa ms t n).length) c29), (13, .nilIface), (52, .bool true)]) rfl
                   refine xt_norm ?_
                   refine cd_cond_t hA rfl ?_
                   refine wp_seq ?_
                   refine wp_region_lit ?_
                   refine st_run tbOk 4 hA (e' := (56, .bool ((((pa ms t n).length : Nat) : Int) == 0)) :: (55, .bool ((((pa ms t n).length : Nat) : Int) == 0)) :: (54, .int .i64 (((pa ms t n).length : Nat) : Int)) :: (53, .slice A28 ((pa ms t n).length) c29) :: _) rfl ?_; clear hA; intro a hA
                   by_cases hc37 : (((pa ms t n).length : Nat) : Int) = 0
                   · first
                     | (exfalso; omega)
                     | (replace hA := hA.rw 55 (v' := .bool true) rfl (vb_eq_t hc37)
                        replace hA := hA.rw 56 (v' := .bool true) rfl (vb_eq_t hc37)
                        refine st_run tbOk 1 hA (e' := (57, .nilIface) :: _) rfl ?_; clear hA; intro a hA
                        refine st_call0 hA rfl rfl rfl isfn13 rfl rfl (by decide) (number_nil13 hS hg) ?_
                        clear hA hS; rintro v w38 a ⟨rfl, hS⟩ hA
                        refine st_run tbOk 9 hA (e' := (67, undef) :: (66, undef) :: (65, .bool false) :: (64, .bool false) :: (63, undef) :: (62, undef) :: (61, .bool false) :: (60, .bool false) :: (59, .bool false) :: _) rfl ?_; clear hA; intro a hA
                        replace hA := hA.rw 67 (v' := .int .i64 0) rfl (by rfl)
                        refine st_run tbOk 3 hA (e' := (8, .bool false) :: (69, .bool false) :: (68, undef) :: _) rfl ?_; clear hA; intro a hA
                        refine wpList_nil ?_
                        replace hA := hA.sel [8] (e' := [(8, .bool false)]) rfl
                        refine xt_norm ?_
                        refine wp_ret (xt_ret ?_)
                        refine ret1 (fn := Tryd.f5) hA rfl rfl ?_
                        exfalso; omega)
                   · first
                     | (exfalso; omega)
                     | (replace hA := hA.rw 55 (v' := .bool false) rfl (vb_eq_f hc37)
                        replace hA := hA.rw 56 (v' := .bool false) rfl (vb_eq_f hc37)
                        refine st_run tbOk 11 hA (e' := (67, undef) :: (66, undef) :: (65, .bool false) :: (64, .bool false) :: (63, undef) :: (62, undef) :: (61, .bool false) :: (60, .bool false) :: (59, undef) :: (58, undef) :: (57, undef) :: _) rfl ?_; clear hA; intro a hA
                        replace hA := hA.rw 67 (v' := .int .i64 0) rfl (by rfl)
                        refine st_run tbOk 3 hA (e' := (8, .bool false) :: (69, .bool false) :: (68, undef) :: _) rfl ?_; clear hA; intro a hA
                        refine wpList_nil ?_
                        replace hA := hA.sel [8] (e' := [(8, .bool false)]) rfl
                        refine xt_norm ?_
                        refine wp_ret (xt_ret ?_)
                        refine ret1 (fn := Tryd.f5) hA rfl rfl ?_
                        exfalso; omega))
              · first
                | (exfalso; omega)
                | (replace hA := hA.rw 45 (v' := .bool false) rfl (vb_false hc36)
                   replace hA := hA.rw 46 (v' := .bool false) rfl (vb_false hc36)
                   replace hA := hA.rw 47 (v' := .bool false) rfl (vb_false hc36)
                   refine st_run tbOk 3 hA (e' := (50, .int .i64 (IntKind.i64.wrap (1073741824 - ((t : Nat) : Int)))) :: (49, .int .i64 ((t : Nat) : Int)) :: (48, .int .i64 ((n : Nat) : Int)) :: _) rfl ?_; clear hA; intro a hA
                   replace hA := hA.rw 50 (v' := .int .i64 (1073741824 - ((t : Nat) : Int))) rfl (wr64 (by omega) (by omega) (by omega))
                   refine st_run tbOk 2 hA (e' := (52, .bool (decide (((n : Nat) : Int) > 1073741824 - ((t : Nat) : Int)))) :: (51, .bool (decide (((n : Nat) : Int) > 1073741824 - ((t : Nat) : Int)))) :: _) rfl ?_; clear hA; intro a hA
                   refine wpList_nil ?_
                   replace hA := hA.sel [2, 10, 11, 12, 13, 52] (e' := [(2, .int .i64 ((n : Nat) : Int)), (10, .slice A12 ((pa ms g 0).length) c13), (11, .nilIface), (12, .slice A28 ((pa ms t n).length) c29), (13, .nilIface), (52, .bool (decide (((n : Nat) : Int) > 1073741824 - ((t : Nat) : Int))))]) rfl
                   refine xt_norm ?_
                   by_cases hc39 : ((n : Nat) : Int) > 1073741824 - ((t : Nat) : Int)
                   · first
                     | (exfalso; omega)
                     | (replace hA := hA.rw 52 (v' := .bool true) rfl (vb_true hc39)
                        refine cd_cond_t hA rfl ?_
                        refine wp_seq ?_
                        refine wp_region_lit ?_
                        refine st_run tbOk 4 hA (e' := (56, .bool ((((pa ms t n).length : Nat) : Int) == 0)) :: (55, .bool ((((pa ms t n).length : Nat) : Int) == 0)) :: (54, .int .i64 (((pa ms t n).length : Nat) : Int)) :: (53, .slice A28 ((pa ms t n).length) c29) :: _) rfl ?_; clear hA; intro a hA
                        by_cases hc40 : (((pa ms t n).length : Nat) : Int) = 0
                        · first
                          | (exfalso; omega)
                          | (replace hA := hA.rw 55 (v' := .bool true) rfl (vb_eq_t hc40)
                             replace hA := hA.rw 56 (v' := .bool true) rfl (vb_eq_t hc40)
                             refine st_run tbOk 1 hA (e' := (57, .nilIface) :: _) rfl ?_; clear hA; intro a hA
                             refine st_call0 hA rfl rfl rfl isfn13 rfl rfl (by decide) (number_nil13 hS hg) ?_
                             clear hA hS; rintro v w41 a ⟨rfl, hS⟩ hA
                             refine st_run tbOk 9 hA (e' := (67, undef) :: (66, undef) :: (65, .bool false) :: (64, .bool false) :: (63, undef) :: (62, undef) :: (61, .bool false) :: (60, .bool false) :: (59, .bool false) :: _) rfl ?_; clear hA; intro a hA
                             replace hA := hA.rw 67 (v' := .int .i64 0) rfl (by rfl)
                             refine st_run tbOk 3 hA (e' := (8, .bool false) :: (69, .bool false) :: (68, undef) :: _) rfl ?_; clear hA; intro a hA
                             refine wpList_nil ?_
                             replace hA := hA.sel [8] (e' := [(8, .bool false)]) rfl
                             refine xt_norm ?_
                             refine wp_ret (xt_ret ?_)
                             refine ret1 (fn := Tryd.f5) hA rfl rfl ?_
                             exfalso; omega)
                        · first
                          | (exfalso; omega)
                          | (replace hA := hA.rw 55 (v' := .bool false) rfl (vb_eq_f hc40)
                             replace hA := hA.rw 56 (v' := .bool false) rfl (vb_eq_f hc40)
                             refine st_run tbOk 11 hA (e' := (67, undef) :: (66, undef) :: (65, .bool false) :: (64, .bool false) :: (63, undef) :: (62, undef) :: (61, .bool false) :: (60, .bool false) :: (59, undef) :: (58, undef) :: (57, undef) :: _) rfl ?_; clear hA; intro a hA
                             replace hA := hA.rw 67 (v' := .int .i64 0) rfl (by rfl)
                             refine st_run tbOk 3 hA (e' := (8, .bool false) :: (69, .bool false) :: (68, undef) :: _) rfl ?_; clear hA; intro a hA
                             refine wpList_nil ?_
                             replace hA := hA.sel [8] (e' := [(8, .bool false)]) rfl
                             refine xt_norm ?_
                             refine wp_ret (xt_ret ?_)
                             refine ret1 (fn := Tryd.f5) hA rfl rfl ?_
                             exfalso; omega))
                   · first
                     | (exfalso; omega)
                     | (replace hA := hA.rw 52 (v' := .bool false) rfl (vb_false hc39)
                        refine cd_cond_f hA rfl ?_
                        refine wp_skip ?_
                        refine xt_norm ?_
                        refine wp_seq ?_
                        refine wp_region_lit ?_
                        refine st_run tbOk 1 hA (e' := (14, .int .i64 0) :: _) rfl ?_; clear hA; intro a hA
                        refine wpList_nil ?_
                        replace hA := hA.sel [2, 10, 11, 12, 13, 14] (e' := [(2, .int .i64 ((n : Nat) : Int)), (10, .slice A12 ((pa ms g 0).length) c13), (11, .nilIface), (12, .slice A28 ((pa ms t n).length) c29), (13, .nilIface), (14, .int .i64 0)]) rfl
                        refine xt_norm ?_
                        refine wp_seq ?_
                        refine wp_seq ?_
                        refine wp_region_lit ?_
                        refine st_run tbOk 3 hA (e' := (72, .int .i64 0) :: (71, .int .i64 (((pa ms t n).length : Nat) : Int)) :: (70, .slice A28 ((pa ms t n).length) c29) :: _) rfl ?_; clear hA; intro a hA
                        refine wpList_nil ?_
                        refine xt_norm ?_
                        refine wp_block ?_
                        have hsum := pa_sum (l := ms) (t0 := t) hfx
                        have hpp := pa_pos (l := ms) (t0 := t) hfx
                        replace hA := hA.rw 14 (v' := .int .i64 (psum ((pa ms t n).take 0))) rfl (by rfl)
                        refine wp_loop_ghost (fun m a w => ∃ (i : Nat), m = (pa ms t n).length - i ∧ Has a 106 [(2, .int .i64 ((n : Nat) : Int)), (10, .slice A12 ((pa ms g 0).length) c13), (11, .nilIface), (12, .slice A28 ((pa ms t n).length) c29), (13, .nilIface), (14, .int .i64 (psum ((pa ms t n).take i))), (70, .slice A28 ((pa ms t n).length) c29), (71, .int .i64 (((pa ms t n).length : Nat) : Int)), (72, .int .i64 ((i : Nat) : Int))] ∧ St w0 w (C27 :: C11 :: C4 :: F) ∧ (i ≤ (pa ms t n).length)) ((pa ms t n).length - 0)
                          ⟨0, rfl, (hA.sel [2, 10, 11, 12, 13, 14, 70, 71, 72] rfl), hS, Nat.zero_le _⟩ ?_
                        clear hA hS; rintro m0 a w42 ⟨i, rfl, hA, hS, hi⟩
                        refine wp_seq ?_
                        refine wp_region_lit ?_
                        refine st_run tbOk 1 hA (e' := (73, .bool (decide (((i : Nat) : Int) < (((pa ms t n).length : Nat) : Int)))) :: _) rfl ?_; clear hA; intro a hA
                        refine wpList_nil ?_
                        refine xt_norm ?_
                        refine wp_seq ?_
                        by_cases hc43 : ((i : Nat) : Int) < (((pa ms t n).length : Nat) : Int)
                        · first
                          | (exfalso; omega)
                          | (replace hA := hA.rw 73 (v' := .bool true) rfl (vb_true hc43)
                             refine cd_cond_t hA rfl ?_
                             refine wp_skip ?_
                             refine xt_norm ?_
                             refine wp_seq ?_
                             refine wp_block ?_
                             refine wp_seq ?_
                             refine wp_region_lit ?_
                             obtain ⟨b44, o45, rfl⟩ := hO27.isSome (k := i) (by omega)
                             refine st_val hA rfl rfl (by decide) (rn_indexAddr tbOk hA i (o45 + (i * 3)) rfl rfl rfl rfl rfl rfl (by rfl) (by omega) (by first | rfl | simp [Nat.mul_one, Nat.zero_add] | omega)) ?_; clear hA; intro a hA
                             obtain ⟨x46, hx46⟩ := get_ex (l := pa ms t n) (k := i) (by omega)
                             obtain ⟨x46f0, x46f1, x46f2⟩ := x46
                             refine st_val hA rfl rfl (by decide) (rn_loadA tbOk hA ([.int .i64 x46f0, .int .i64 x46f1, .int .i64 x46f2]) rfl rfl rfl rfl (by rfl) ((hO27.rd (hS.own_ 0 rfl)).elem (k := i) encPiece_ok hx46)) ?_; clear hA; intro a hA
                             refine st_alloc tbOk hA hS [.int .i64 0, .int .i64 0, .int .i64 0] rfl rfl rfl rfl rfl (by decide) ?_; clear hA hS; intro b47 w48 a hS hA
                             refine st_store tbOk hA hS [.int .i64 x46f0, .int .i64 x46f1, .int .i64 x46f2] [.int .i64 x46f0, .int .i64 x46f1, .int .i64 x46f2] rfl rfl rfl rfl rfl rfl (by simp [Value.oneCell']) (Nat.le_of_ble_eq_true rfl) rfl rfl rfl ?_; clear hS; intro w49 hS
                             refine wpList_nil ?_
                             replace hA := hA.sel [2, 10, 11, 12, 13, 14, 16, 70, 71, 72] (e' := [(2, .int .i64 ((n : Nat) : Int)), (10, .slice A12 ((pa ms g 0).length) c13), (11, .nilIface), (12, .slice (some ⟨b44, o45, none⟩) ((pa ms t n).length) c29), (13, .nilIface), (14, .int .i64 (psum ((pa ms t n).take i))), (16, .pointer (some ⟨b47, 0, none⟩)), (70, .slice (some ⟨b44, o45, none⟩) ((pa ms t n).length) c29), (71, .int .i64 (((pa ms t n).length : Nat) : Int)), (72, .int .i64 ((i : Nat) : Int))]) rfl
                             refine xt_norm ?_
                             refine wp_region_lit ?_
                             have h5 := psum_le hpp i; have h6 := psum_le hpp (i + 1); have h7 := psum_take hx46; dsimp only at h7; rw [hsum] at h5 h6
                             refine st_run tbOk 2 hA (e' := (77, .pointer (some ⟨b47, 2, none⟩)) :: (76, .int .i64 (psum ((pa ms t n).take i))) :: _) rfl ?_; clear hA; intro a hA
                             refine st_val hA rfl rfl (by decide) (rn_load tbOk hA rfl rfl rfl rfl (cell_row (hS.heapAt 0 rfl) rfl)) ?_; clear hA; intro a hA
                             refine st_run tbOk 1 hA (e' := (79, .int .i64 (IntKind.i64.wrap ((psum ((pa ms t n).take i)) + x46f2))) :: _) rfl ?_; clear hA; intro a hA
                             replace hA := hA.rw 79 (v' := .int .i64 ((psum ((pa ms t n).take i)) + x46f2)) rfl (wr64 (by omega) (by omega) (by omega))
                             refine st_run tbOk 1 hA (e' := (14, .int .i64 ((psum ((pa ms t n).take i)) + x46f2)) :: _) rfl ?_; clear hA; intro a hA
                             refine wpList_nil ?_
                             replace hA := hA.sel [2, 10, 11, 12, 13, 14, 70, 71, 72] (e' := [(2, .int .i64 ((n : Nat) : Int)), (10, .slice A12 ((pa ms g 0).length) c13), (11, .nilIface), (12, .slice (some ⟨b44, o45, none⟩) ((pa ms t n).length) c29), (13, .nilIface), (14, .int .i64 ((psum ((pa ms t n).take i)) + x46f2)), (70, .slice (some ⟨b44, o45, none⟩) ((pa ms t n).length) c29), (71, .int .i64 (((pa ms t n).length : Nat) : Int)), (72, .int .i64 ((i : Nat) : Int))]) rfl
                             refine xb_norm ?_
                             refine xt_norm ?_
                             refine wp_region_lit ?_
                             refine st_run tbOk 1 hA (e' := (80, .int .i64 (IntKind.i64.wrap (((i : Nat) : Int) + 1))) :: _) rfl ?_; clear hA; intro a hA
                             replace hA := hA.rw 80 (v' := .int .i64 ((i + 1 : Nat) : Int)) rfl (wr64 (by omega) (by omega) (by omega))
                             refine st_run tbOk 1 hA (e' := (72, .int .i64 ((i + 1 : Nat) : Int)) :: _) rfl ?_; clear hA; intro a hA
                             refine wpList_nil ?_
                             replace hA := hA.sel [2, 10, 11, 12, 13, 14, 70, 71, 72] (e' := [(2, .int .i64 ((n : Nat) : Int)), (10, .slice A12 ((pa ms g 0).length) c13), (11, .nilIface), (12, .slice (some ⟨b44, o45, none⟩) ((pa ms t n).length) c29), (13, .nilIface), (14, .int .i64 ((psum ((pa ms t n).take i)) + x46f2)), (70, .slice (some ⟨b44, o45, none⟩) ((pa ms t n).length) c29), (71, .int .i64 (((pa ms t n).length : Nat) : Int)), (72, .int .i64 ((i + 1 : Nat) : Int))]) rfl
                             replace hS := hS.drop1
                             replace hS := hS.front 2 (C := C4) (L' := C27 :: C11 :: F) rfl rfl
                             replace hS := hS.front 2 (C := C11) (L' := C4 :: C27 :: F) rfl rfl
                             replace hS := hS.front 2 (C := C27) (L' := C11 :: C4 :: F) rfl rfl
                             replace hA := hA.rw 14 (v' := .int .i64 (psum ((pa ms t n).take (i + 1)))) rfl (vint (by omega))
                             exact lp_next _ (by omega) ⟨(i + 1), rfl, (hA.sel [2, 10, 11, 12, 13, 14, 70, 71, 72] rfl), hS, by omega⟩)
                        · first
                          | (exfalso; omega)
                          | (replace hA := hA.rw 73 (v' := .bool false) rfl (vb_false hc43)
                             refine cd_cond_f hA rfl ?_
                             refine wp_exit ?_
                             refine xt_exit ?_
                             refine xt_exit ?_
                             refine cd_exit_eq ?_
                             refine xt_norm ?_
                             refine wp_seq ?_
                             refine wp_region_lit ?_
                             replace hA := hA.rw 14 (v' := .int .i64 ((n : Nat) : Int)) rfl (vint (by rw [show i = (pa ms t n).length by omega, List.take_length]; exact hsum))
                             refine st_run tbOk 5 hA (e' := (85, .int .i64 (((pa ms g 0).length : Nat) : Int)) :: (84, .slice A12 ((pa ms g 0).length) c13) :: (83, .bool true) :: (82, .bool true) :: (81, .nilIface) :: _) rfl ?_; clear hA; intro a hA
                             replace hA := hA.rw 85 (v' := .int .i64 0) rfl (by rfl)
                             refine st_run tbOk 11 hA (e' := (96, .bool (((n : Nat) : Int) == ((n : Nat) : Int))) :: (95, .bool (((n : Nat) : Int) == ((n : Nat) : Int))) :: (94, .bool (((n : Nat) : Int) == ((n : Nat) : Int))) :: (93, .int .i64 ((n : Nat) : Int)) :: (92, .int .i64 ((n : Nat) : Int)) :: (91, .bool true) :: (90, .bool true) :: (89, .nilIface) :: (88, .bool true) :: (87, .bool true) :: (86, .bool true) :: _) rfl ?_; clear hA; intro a hA
                             by_cases hc50 : ((n : Nat) : Int) = ((n : Nat) : Int)
                             · first
                               | (exfalso; omega)
                               | (replace hA := hA.rw 94 (v' := .bool true) rfl (vb_eq_t hc50)
                                  replace hA := hA.rw 95 (v' := .bool true) rfl (vb_eq_t hc50)
                                  replace hA := hA.rw 96 (v' := .bool true) rfl (vb_eq_t hc50)
                                  refine st_run tbOk 10 hA (e' := (8, .bool true) :: (105, .bool true) :: (104, .bool true) :: (103, undef) :: (102, undef) :: (101, undef) :: (100, undef) :: (99, undef) :: (98, undef) :: (97, undef) :: _) rfl ?_; clear hA; intro a hA
                                  refine wpList_nil ?_
                                  replace hA := hA.sel [8] (e' := [(8, .bool true)]) rfl
                                  refine xt_norm ?_
                                  refine wp_ret ?_
                                  refine ret1 (fn := Tryd.f5) hA rfl rfl ?_
                                  replace hS := hS.drop1
                                  replace hS := hS.drop1
                                  replace hS := hS.drop1
                                  exact ⟨rfl, hS⟩)
                             · first
                               | (exfalso; omega)
                               | (replace hA := hA.rw 94 (v' := .bool false) rfl (vb_eq_f hc50)
                                  replace hA := hA.rw 95 (v' := .bool false) rfl (vb_eq_f hc50)
                                  replace hA := hA.rw 96 (v' := .bool false) rfl (vb_eq_f hc50)
                                  refine st_run tbOk 10 hA (e' := (8, .bool false) :: (105, .bool false) :: (104, .bool false) :: (103, .bool false) :: (102, undef) :: (101, undef) :: (100, undef) :: (99, .bool false) :: (98, .bool false) :: (97, .nilIface) :: _) rfl ?_; clear hA; intro a hA
                                  refine wpList_nil ?_
                                  replace hA := hA.sel [8] (e' := [(8, .bool false)]) rfl
                                  refine xt_norm ?_
                                  refine wp_ret ?_
                                  refine ret1 (fn := Tryd.f5) hA rfl rfl ?_
                                  exfalso; omega))))))
  · refine st_call0 hA rfl rfl rfl isfn14 rfl rfl (by decide) (pieces_none14 hS (l := ms) (RdS.own hO4 1 rfl) t n wr hM (by omega) (by omega) hj0 hf hbad) ?_
    clear hA hS; rintro v w51 a ⟨rfl, hS⟩ hA
    refine st_run tbOk 5 hA (e' := (13, .iface 30 (.int .i64 13)) :: (12, .slice none 0 0) :: (36, .iface 30 (.int .i64 13)) :: (35, .slice none 0 0) :: (29, .tuple #[.slice none 0 0, .iface 30 (.int .i64 13)]) :: _) rfl ?_; clear hA; intro a hA
    refine wpList_nil ?_
    replace hA := hA.sel [1, 2, 10, 11, 12, 13] (e' := [(1, .int .i64 ((t : Nat) : Int)), (2, .int .i64 ((n : Nat) : Int)), (10, .slice A12 ((pa ms g 0).length) c13), (11, .nilIface), (12, .slice none 0 0), (13, .iface 30 (.int .i64 13))]) rfl
    refine xt_norm ?_
    refine wp_seq ?_
    refine wp_seq ?_
    refine wp_region_lit ?_
    refine st_run tbOk 3 hA (e' := (39, .bool (decide (((n : Nat) : Int) < 0))) :: (38, .bool (decide (((n : Nat) : Int) < 0))) :: (37, .int .i64 ((n : Nat) : Int)) :: _) rfl ?_; clear hA; intro a hA
    by_cases hc52 : ((n : Nat) : Int) < 0
    · first
      | (exfalso; omega)
      | (replace hA := hA.rw 38 (v' := .bool true) rfl (vb_true hc52)
         replace hA := hA.rw 39 (v' := .bool true) rfl (vb_true hc52)
         refine st_run tbOk 13 hA (e' := (52, .bool true) :: (51, undef) :: (50, undef) :: (49, undef) :: (48, undef) :: (47, .bool true) :: (46, .bool true) :: (45, undef) :: (44, undef) :: (43, .bool true) :: (42, .bool true) :: (41, undef) :: (40, undef) :: _) rfl ?_; clear hA; intro a hA
         refine wpList_nil ?_
         replace hA := hA.sel [2, 10, 11, 12, 13, 52] (e' := [(2, .int .i64 ((n : Nat) : Int)), (10, .slice A12 ((pa ms g 0).length) c13), (11, .nilIface), (12, .slice none 0 0), (13, .iface 30 (.int .i64 13)), (52, .bool true)]) rfl
         refine xt_norm ?_
         refine cd_cond_t hA rfl ?_
         refine wp_seq ?_
         refine wp_region_lit ?_
         refine st_run tbOk 5 hA (e' := (57, .iface 30 (.int .i64 13)) :: (56, .bool true) :: (55, .bool true) :: (54, .int .i64 0) :: (53, .slice none 0 0) :: _) rfl ?_; clear hA; intro a hA
         refine st_call0 hA rfl rfl rfl isfn13 rfl rfl (by decide) (number_hit13 hS hg 13) ?_
         clear hA hS; rintro v w53 a ⟨rfl, hS⟩ hA
         refine st_run tbOk 9 hA (e' := (67, .int .i64 (((pa ms g 0).length : Nat) : Int)) :: (66, .slice A12 ((pa ms g 0).length) c13) :: (65, .bool true) :: (64, .bool true) :: (63, .bool true) :: (62, .nilIface) :: (61, .bool true) :: (60, .bool true) :: (59, .bool true) :: _) rfl ?_; clear hA; intro a hA
         replace hA := hA.rw 67 (v' := .int .i64 0) rfl (by rfl)
         refine st_run tbOk 3 hA (e' := (8, .bool true) :: (69, .bool true) :: (68, .bool true) :: _) rfl ?_; clear hA; intro a hA
         refine wpList_nil ?_
         replace hA := hA.sel [8] (e' := [(8, .bool true)]) rfl
         refine xt_norm ?_
         refine wp_ret (xt_ret ?_)
         refine ret1 (fn := Tryd.f5) hA rfl rfl ?_
         replace hS := hS.drop1
         replace hS := hS.drop1
         exact ⟨rfl, hS⟩)
    · first
      | (exfalso; omega)
      | (replace hA := hA.rw 38 (v' := .bool false) rfl (vb_false hc52)
         replace hA := hA.rw 39 (v' := .bool false) rfl (vb_false hc52)
         refine st_run tbOk 4 hA (e' := (43, .bool (decide (((t : Nat) : Int) < 0))) :: (42, .bool (decide (((t : Nat) : Int) < 0))) :: (41, .bool (decide (((t : Nat) : Int) < 0))) :: (40, .int .i64 ((t : Nat) : Int)) :: _) rfl ?_; clear hA; intro a hA
         by_cases hc54 : ((t : Nat) : Int) < 0
         · first
           | (exfalso; omega)
           | (replace hA := hA.rw 41 (v' := .bool true) rfl (vb_true hc54)
              replace hA := hA.rw 42 (v' := .bool true) rfl (vb_true hc54)
              replace hA := hA.rw 43 (v' := .bool true) rfl (vb_true hc54)
              refine st_run tbOk 9 hA (e' := (52, .bool true) :: (51, undef) :: (50, undef) :: (49, undef) :: (48, undef) :: (47, .bool true) :: (46, .bool true) :: (45, undef) :: (44, undef) :: _) rfl ?_; clear hA; intro a hA
              refine wpList_nil ?_
              replace hA := hA.sel [2, 10, 11, 12, 13, 52] (e' := [(2, .int .i64 ((n : Nat) : Int)), (10, .slice A12 ((pa ms g 0).length) c13), (11, .nilIface), (12, .slice none 0 0), (13, .iface 30 (.int .i64 13)), (52, .bool true)]) rfl
              refine xt_norm ?_
              refine cd_cond_t hA rfl ?_
              refine wp_seq ?_
              refine wp_region_lit ?_
              refine st_run tbOk 5 hA (e' := (57, .iface 30 (.int .i64 13)) :: (56, .bool true) :: (55, .bool true) :: (54, .int .i64 0) :: (53, .slice none 0 0) :: _) rfl ?_; clear hA; intro a hA
              refine st_call0 hA rfl rfl rfl isfn13 rfl rfl (by decide) (number_hit13 hS hg 13) ?_
              clear hA hS; rintro v w55 a ⟨rfl, hS⟩ hA
              refine st_run tbOk 9 hA (e' := (67, .int .i64 (((pa ms g 0).length : Nat) : Int)) :: (66, .slice A12 ((pa ms g 0).length) c13) :: (65, .bool true) :: (64, .bool true) :: (63, .bool true) :: (62, .nilIface) :: (61, .bool true) :: (60, .bool true) :: (59, .bool true) :: _) rfl ?_; clear hA; intro a hA
              replace hA := hA.rw 67 (v' := .int .i64 0) rfl (by rfl)
              refine st_run tbOk 3 hA (e' := (8, .bool true) :: (69, .bool true) :: (68, .bool true) :: _) rfl ?_; clear hA; intro a hA
              refine wpList_nil ?_
              replace hA := hA.sel [8] (e' := [(8, .bool true)]) rfl
              refine xt_norm ?_
              refine wp_ret (xt_ret ?_)
              refine ret1 (fn := Tryd.f5) hA rfl rfl ?_
              replace hS := hS.drop1
              replace hS := hS.drop1
              exact ⟨rfl, hS⟩)
         · first
           | (exfalso; omega)
           | (replace hA := hA.rw 41 (v' := .bool false) rfl (vb_false hc54)
              replace hA := hA.rw 42 (v' := .bool false) rfl (vb_false hc54)
              replace hA := hA.rw 43 (v' := .bool false) rfl (vb_false hc54)
              refine st_run tbOk 4 hA (e' := (47, .bool (decide (((t : Nat) : Int) > 1073741824))) :: (46, .bool (decide (((t : Nat) : Int) > 1073741824))) :: (45, .bool (decide (((t : Nat) : Int) > 1073741824))) :: (44, .int .i64 ((t : Nat) : Int)) :: _) rfl ?_; clear hA; intro a hA
              by_cases hc56 : ((t : Nat) : Int) > 1073741824
              · first
                | (exfalso; omega)
                | (replace hA := hA.rw 45 (v' := .bool true) rfl (vb_true hc56)
                   replace hA := hA.rw 46 (v' := .bool true) rfl (vb_true hc56)
                   replace hA := hA.rw 47 (v' := .bool true) rfl (vb_true hc56)
                   refine st_run tbOk 5 hA (e' := (52, .bool true) :: (51, undef) :: (50, undef) :: (49, undef) :: (48, undef) :: _) rfl ?_; clear hA; intro a hA
                   refine wpList_nil ?_
                   replace hA := hA.sel [2, 10, 11, 12, 13, 52] (e' := [(2, .int .i64 ((n : Nat) : Int)), (10, .slice A12 ((pa ms g 0).length) c13), (11, .nilIface), (12, .slice none 0 0), (13, .iface 30 (.int .i64 13)), (52, .bool true)]) rfl
                   refine xt_norm ?_
                   refine cd_cond_t hA rfl ?_
                   refine wp_seq ?_
                   refine wp_region_lit ?_
                   refine st_run tbOk 5 hA (e' := (57, .iface 30 (.int .i64 13)) :: (56, .bool true) :: (55, .bool true) :: (54, .int .i64 0) :: (53, .slice none 0 0) :: _) rfl ?_; clear hA; intro a hA
                   refine st_call0 hA rfl rfl rfl isfn13 rfl rfl (by decide) (number_hit13 hS hg 13) ?_
                   clear hA hS; rintro v w57 a ⟨rfl, hS⟩ hA
                   refine st_run tbOk 9 hA (e' := (67, .int .i64 (((pa ms g 0).length : Nat) : Int)) :: (66, .slice A12 ((pa ms g 0).length) c13) :: (65, .bool true) :: (64, .bool true) :: (63, .bool true) :: (62, .nilIface) :: (61, .bool true) :: (60, .bool true) :: (59, .bool true) :: _) rfl ?_; clear hA; intro a hA
                   replace hA := hA.rw 67 (v' := .int .i64 0) rfl (by rfl)
                   refine st_run tbOk 3 hA (e' := (8, .bool true) :: (69, .bool true) :: (68, .bool true) :: _) rfl ?_; clear hA; intro a hA
                   refine wpList_nil ?_
                   replace hA := hA.sel [8] (e' := [(8, .bool true)]) rfl
                   refine xt_norm ?_
                   refine wp_ret (xt_ret ?_)
                   refine ret1 (fn := Tryd.f5) hA rfl rfl ?_
                   replace hS := hS.drop1
                   replace hS := hS.drop1
                   exact ⟨rfl, hS⟩)
              · first
                | (exfalso; omega)
                | (replace hA := hA.rw 45 (v' := .bool false) rfl (vb_false hc56)
                   replace hA := hA.rw 46 (v' := .bool false) rfl (vb_false hc56)
                   replace hA := hA.rw 47 (v' := .bool false) rfl (vb_false hc56)
                   refine st_run tbOk 3 hA (e' := (50, .int .i64 (IntKind.i64.wrap (1073741824 - ((t : Nat) : Int)))) :: (49, .int .i64 ((t : Nat) : Int)) :: (48, .int .i64 ((n : Nat) : Int)) :: _) rfl ?_; clear hA; intro a hA
                   replace hA := hA.rw 50 (v' := .int .i64 (1073741824 - ((t : Nat) : Int))) rfl (wr64 (by omega) (by omega) (by omega))
                   refine st_run tbOk 2 hA (e' := (52, .bool (decide (((n : Nat) : Int) > 1073741824 - ((t : Nat) : Int)))) :: (51, .bool (decide (((n : Nat) : Int) > 1073741824 - ((t : Nat) : Int)))) :: _) rfl ?_; clear hA; intro a hA
                   refine wpList_nil ?_
                   replace hA := hA.sel [2, 10, 11, 12, 13, 52] (e' := [(2, .int .i64 ((n : Nat) : Int)), (10, .slice A12 ((pa ms g 0).length) c13), (11, .nilIface), (12, .slice none 0 0), (13, .iface 30 (.int .i64 13)), (52, .bool (decide (((n : Nat) : Int) > 1073741824 - ((t : Nat) : Int))))]) rfl
                   refine xt_norm ?_
                   by_cases hc58 : ((n : Nat) : Int) > 1073741824 - ((t : Nat) : Int)
                   · first
                     | (exfalso; omega)
                     | (replace hA := hA.rw 52 (v' := .bool true) rfl (vb_true hc58)
                        refine cd_cond_t hA rfl ?_
                        refine wp_seq ?_
                        refine wp_region_lit ?_
                        refine st_run tbOk 5 hA (e' := (57, .iface 30 (.int .i64 13)) :: (56, .bool true) :: (55, .bool true) :: (54, .int .i64 0) :: (53, .slice none 0 0) :: _) rfl ?_; clear hA; intro a hA
                        refine st_call0 hA rfl rfl rfl isfn13 rfl rfl (by decide) (number_hit13 hS hg 13) ?_
                        clear hA hS; rintro v w59 a ⟨rfl, hS⟩ hA
                        refine st_run tbOk 9 hA (e' := (67, .int .i64 (((pa ms g 0).length : Nat) : Int)) :: (66, .slice A12 ((pa ms g 0).length) c13) :: (65, .bool true) :: (64, .bool true) :: (63, .bool true) :: (62, .nilIface) :: (61, .bool true) :: (60, .bool true) :: (59, .bool true) :: _) rfl ?_; clear hA; intro a hA
                        replace hA := hA.rw 67 (v' := .int .i64 0) rfl (by rfl)
                        refine st_run tbOk 3 hA (e' := (8, .bool true) :: (69, .bool true) :: (68, .bool true) :: _) rfl ?_; clear hA; intro a hA
                        refine wpList_nil ?_
                        replace hA := hA.sel [8] (e' := [(8, .bool true)]) rfl
                        refine xt_norm ?_
                        refine wp_ret (xt_ret ?_)
                        refine ret1 (fn := Tryd.f5) hA rfl rfl ?_
                        replace hS := hS.drop1
                        replace hS := hS.drop1
                        exact ⟨rfl, hS⟩)
                   · first
                     | (exfalso; omega)
                     | (replace hA := hA.rw 52 (v' := .bool false) rfl (vb_false hc58)
                        refine cd_cond_f hA rfl ?_
                        refine wp_skip ?_
                        refine xt_norm ?_
                        refine wp_seq ?_
                        refine wp_region_lit ?_
                        refine st_run tbOk 1 hA (e' := (14, .int .i64 0) :: _) rfl ?_; clear hA; intro a hA
                        refine wpList_nil ?_
                        replace hA := hA.sel [2, 10, 11, 12, 13, 14] (e' := [(2, .int .i64 ((n : Nat) : Int)), (10, .slice A12 ((pa ms g 0).length) c13), (11, .nilIface), (12, .slice none 0 0), (13, .iface 30 (.int .i64 13)), (14, .int .i64 0)]) rfl
                        refine xt_norm ?_
                        refine wp_seq ?_
                        refine wp_seq ?_
                        refine wp_region_lit ?_
                        refine st_run tbOk 3 hA (e' := (72, .int .i64 0) :: (71, .int .i64 0) :: (70, .slice none 0 0) :: _) rfl ?_; clear hA; intro a hA
                        refine wpList_nil ?_
                        refine xt_norm ?_
                        refine wp_block ?_
                        refine wp_loop_ghost (fun m a w => ∃ (i : Nat), m = 0 - i ∧ Has a 106 [(2, .int .i64 ((n : Nat) : Int)), (10, .slice A12 ((pa ms g 0).length) c13), (11, .nilIface), (12, .slice none 0 0), (13, .iface 30 (.int .i64 13)), (14, .int .i64 0), (70, .slice none 0 0), (71, .int .i64 0), (72, .int .i64 ((i : Nat) : Int))] ∧ St w0 w (C11 :: C4 :: F) ∧ (i ≤ 0)) (0 - 0)
                          ⟨0, rfl, (hA.sel [2, 10, 11, 12, 13, 14, 70, 71, 72] rfl), hS, Nat.zero_le _⟩ ?_
                        clear hA hS; rintro m0 a w60 ⟨i, rfl, hA, hS, hi⟩
                        refine wp_seq ?_
                        refine wp_region_lit ?_
                        refine st_run tbOk 1 hA (e' := (73, .bool (decide (((i : Nat) : Int) < 0))) :: _) rfl ?_; clear hA; intro a hA
                        refine wpList_nil ?_
                        refine xt_norm ?_
                        refine wp_seq ?_
                        by_cases hc61 : ((i : Nat) : Int) < 0
                        · first
                          | (exfalso; omega)
                          | (replace hA := hA.rw 73 (v' := .bool true) rfl (vb_true hc61)
                             refine cd_cond_t hA rfl ?_
                             refine wp_skip ?_
                             refine xt_norm ?_
                             refine wp_seq ?_
                             refine wp_block ?_
                             refine wp_seq ?_
                             exfalso; omega)
                        · first
                          | (exfalso; omega)
                          | (replace hA := hA.rw 73 (v' := .bool false) rfl (vb_false hc61)
                             refine cd_cond_f hA rfl ?_
                             refine wp_exit ?_
                             refine xt_exit ?_
                             refine xt_exit ?_
                             refine cd_exit_eq ?_
                             refine xt_norm ?_
                             refine wp_seq ?_
                             refine wp_region_lit ?_
                             refine st_run tbOk 5 hA (e' := (85, .int .i64 (((pa ms g 0).length : Nat) : Int)) :: (84, .slice A12 ((pa ms g 0).length) c13) :: (83, .bool true) :: (82, .bool true) :: (81, .nilIface) :: _) rfl ?_; clear hA; intro a hA
                             replace hA := hA.rw 85 (v' := .int .i64 0) rfl (by rfl)
                             refine st_run tbOk 21 hA (e' := (8, .bool true) :: (105, .bool true) :: (104, .bool true) :: (103, .bool true) :: (102, .bool true) :: (101, .int .i64 0) :: (100, .slice none 0 0) :: (99, .bool true) :: (98, .bool true) :: (97, .iface 30 (.int .i64 13)) :: (96, .bool false) :: (95, .bool false) :: (94, undef) :: (93, undef) :: (92, undef) :: (91, .bool false) :: (90, .bool false) :: (89, .iface 30 (.int .i64 13)) :: (88, .bool true) :: (87, .bool true) :: (86, .bool true) :: _) rfl ?_; clear hA; intro a hA
                             refine wpList_nil ?_
                             replace hA := hA.sel [8] (e' := [(8, .bool true)]) rfl
                             refine xt_norm ?_
                             refine wp_ret ?_
                             refine ret1 (fn := Tryd.f5) hA rfl rfl ?_
                             replace hS := hS.drop1
                             replace hS := hS.drop1
                             exact ⟨rfl, hS⟩)))))
  · subst hb2
    refine st_call0 hA rfl rfl rfl isfn14 rfl rfl (by decide) (pieces_right14 hS (l := ms) (RdS.own hO4 1 rfl) t n  hM (by omega) (by omega) hj0 hf ⟨b, hb1, hb3⟩) ?_
    clear hA hS; rintro v w62 a ⟨rfl, hS⟩ hA
    refine st_run tbOk 5 hA (e' := (13, .iface 30 (.int .i64 2)) :: (12, .slice none 0 0) :: (36, .iface 30 (.int .i64 2)) :: (35, .slice none 0 0) :: (29, .tuple #[.slice none 0 0, .iface 30 (.int .i64 2)]) :: _) rfl ?_; clear hA; intro a hA
    refine wpList_nil ?_
    replace hA := hA.sel [1, 2, 10, 11, 12, 13] (e' := [(1, .int .i64 ((t : Nat) : Int)), (2, .int .i64 ((n : Nat) : Int)), (10, .slice A12 ((pa ms g 0).length) c13), (11, .nilIface), (12, .slice none 0 0), (13, .iface 30 (.int .i64 2))]) rfl
    refine xt_norm ?_
    refine wp_seq ?_
    refine wp_seq ?_
    refine wp_region_lit ?_
    refine st_run tbOk 3 hA (e' := (39, .bool (decide (((n : Nat) : Int) < 0))) :: (38, .bool (decide (((n : Nat) : Int) < 0))) :: (37, .int .i64 ((n : Nat) : Int)) :: _) rfl ?_; clear hA; intro a hA
    by_cases hc63 : ((n : Nat) : Int) < 0
    · first
      | (exfalso; omega)
      | (replace hA := hA.rw 38 (v' := .bool true) rfl (vb_true hc63)
         replace hA := hA.rw 39 (v' := .bool true) rfl (vb_true hc63)
         refine st_run tbOk 13 hA (e' := (52, .bool true) :: (51, undef) :: (50, undef) :: (49, undef) :: (48, undef) :: (47, .bool true) :: (46, .bool true) :: (45, undef) :: (44, undef) :: (43, .bool true) :: (42, .bool true) :: (41, undef) :: (40, undef) :: _) rfl ?_; clear hA; intro a hA
         refine wpList_nil ?_
         replace hA := hA.sel [2, 10, 11, 12, 13, 52] (e' := [(2, .int .i64 ((n : Nat) : Int)), (10, .slice A12 ((pa ms g 0).length) c13), (11, .nilIface), (12, .slice none 0 0), (13, .iface 30 (.int .i64 2)), (52, .bool true)]) rfl
         refine xt_norm ?_
         refine cd_cond_t hA rfl ?_
         refine wp_seq ?_
         refine wp_region_lit ?_
         refine st_run tbOk 5 hA (e' := (57, .iface 30 (.int .i64 2)) :: (56, .bool true) :: (55, .bool true) :: (54, .int .i64 0) :: (53, .slice none 0 0) :: _) rfl ?_; clear hA; intro a hA
         refine st_call0 hA rfl rfl rfl isfn13 rfl rfl (by decide) (number_hit13 hS hg 2) ?_
         clear hA hS; rintro v w64 a ⟨rfl, hS⟩ hA
         refine st_run tbOk 9 hA (e' := (67, undef) :: (66, undef) :: (65, .bool false) :: (64, .bool false) :: (63, undef) :: (62, undef) :: (61, .bool false) :: (60, .bool false) :: (59, .bool false) :: _) rfl ?_; clear hA; intro a hA
         replace hA := hA.rw 67 (v' := .int .i64 0) rfl (by rfl)
         refine st_run tbOk 3 hA (e' := (8, .bool false) :: (69, .bool false) :: (68, undef) :: _) rfl ?_; clear hA; intro a hA
         refine wpList_nil ?_
         replace hA := hA.sel [8] (e' := [(8, .bool false)]) rfl
         refine xt_norm ?_
         refine wp_ret (xt_ret ?_)
         refine ret1 (fn := Tryd.f5) hA rfl rfl ?_
         exfalso; omega)
    · first
      | (exfalso; omega)
      | (replace hA := hA.rw 38 (v' := .bool false) rfl (vb_false hc63)
         replace hA := hA.rw 39 (v' := .bool false) rfl (vb_false hc63)
         refine st_run tbOk 4 hA (e' := (43, .bool (decide (((t : Nat) : Int) < 0))) :: (42, .bool (decide (((t : Nat) : Int) < 0))) :: (41, .bool (decide (((t : Nat) : Int) < 0))) :: (40, .int .i64 ((t : Nat) : Int)) :: _) rfl ?_; clear hA; intro a hA
         by_cases hc65 : ((t : Nat) : Int) < 0
         · first
           | (exfalso; omega)
           | (replace hA := hA.rw 41 (v' := .bool true) rfl (vb_true hc65)
              replace hA := hA.rw 42 (v' := .bool true) rfl (vb_true hc65)
              replace hA := hA.rw 43 (v' := .bool true) rfl (vb_true hc65)
              refine st_run tbOk 9 hA (e' := (52, .bool true) :: (51, undef) :: (50, undef) :: (49, undef) :: (48, undef) :: (47, .bool true) :: (46, .bool true) :: (45, undef) :: (44, undef) :: _) rfl ?_; clear hA; intro a hA
              refine wpList_nil ?_
              replace hA := hA.sel [2, 10, 11, 12, 13, 52] (e' := [(2, .int .i64 ((n : Nat) : Int)), (10, .slice A12 ((pa ms g 0).length) c13), (11, .nilIface), (12, .slice none 0 0), (13, .iface 30 (.int .i64 2)), (52, .bool true)]) rfl
              refine xt_norm ?_
              refine cd_cond_t hA rfl ?_
              refine wp_seq ?_
              refine wp_region_lit ?_
              refine st_run tbOk 5 hA (e' := (57, .iface 30 (.int .i64 2)) :: (56, .bool true) :: (55, .bool true) :: (54, .int .i64 0) :: (53, .slice none 0 0) :: _) rfl ?_; clear hA; intro a hA
              refine st_call0 hA rfl rfl rfl isfn13 rfl rfl (by decide) (number_hit13 hS hg 2) ?_
              clear hA hS; rintro v w66 a ⟨rfl, hS⟩ hA
              refine st_run tbOk 9 hA (e' := (67, undef) :: (66, undef) :: (65, .bool false) :: (64, .bool false) :: (63, undef) :: (62, undef) :: (61, .bool false) :: (60, .bool false) :: (59, .bool false) :: _) rfl ?_; clear hA; intro a hA
              replace hA := hA.rw 67 (v' := .int .i64 0) rfl (by rfl)
              refine st_run tbOk 3 hA (e' := (8, .bool false) :: (69, .bool false) :: (68, undef) :: _) rfl ?_; clear hA; intro a hA
              refine wpList_nil ?_
              replace hA := hA.sel [8] (e' := [(8, .bool false)]) rfl
              refine xt_norm ?_
              refine wp_ret (xt_ret ?_)
              refine ret1 (fn := Tryd.f5) hA rfl rfl ?_
              exfalso; omega)
         · first
           | (exfalso; omega)
           | (replace hA := hA.rw 41 (v' := .bool false) rfl (vb_false hc65)
              replace hA := hA.rw 42 (v' := .bool false) rfl (vb_false hc65)
              replace hA := hA.rw 43 (v' := .bool false) rfl (vb_false hc65)
              refine st_run tbOk 4 hA (e' := (47, .bool (decide (((t : Nat) : Int) > 1073741824))) :: (46, .bool (decide (((t : Nat) : Int) > 1073741824))) :: (45, .bool (decide (((t : Nat) : Int) > 1073741824))) :: (44, .int .i64 ((t : Nat) : Int)) :: _) rfl ?_; clear hA; intro a hA
              by_cases hc67 : ((t : Nat) : Int) > 1073741824
              · first
                | (exfalso; omega)
                | (replace hA := hA.rw 45 (v' := .bool true) rfl (vb_true hc67)
                   replace hA := hA.rw 46 (v' := .bool true) rfl (vb_true hc67)
                   replace hA := hA.rw 47 (v' := .bool true) rfl (vb_true hc67)
                   refine st_run tbOk 5 hA (e' := (52, .bool true) :: (51, undef) :: (50, undef) :: (49, undef) :: (48, undef) :: _) rfl ?_; clear hA; intro a hA
                   refine wpList_nil ?_
                   replace hA := hA.sel [2, 10, 11, 12, 13, 52] (e' := [(2, .int .i64 ((n : Nat) : Int)), (10, .slice A12 ((pa ms g 0).length) c13), (11, .nilIface), (12, .slice none 0 0), (13, .iface 30 (.int .i64 2)), (52, .bool true)]) rfl
                   refine xt_norm ?_
                   refine cd_cond_t hA rfl ?_
                   refine wp_seq ?_
                   refine wp_region_lit ?_
                   refine st_run tbOk 5 hA (e' := (57, .iface 30 (.int .i64 2)) :: (56, .bool true) :: (55, .bool true) :: (54, .int .i64 0) :: (53, .slice none 0 0) :: _) rfl ?_; clear hA; intro a hA
                   refine st_call0 hA rfl rfl rfl isfn13 rfl rfl (by decide) (number_hit13 hS hg 2) ?_
                   clear hA hS; rintro v w68 a ⟨rfl, hS⟩ hA
                   refine st_run tbOk 9 hA (e' := (67, undef) :: (66, undef) :: (65, .bool false) :: (64, .bool false) :: (63, undef) :: (62, undef) :: (61, .bool false) :: (60, .bool false) :: (59, .bool false) :: _) rfl ?_; clear hA; intro a hA
                   replace hA := hA.rw 67 (v' := .int .i64 0) rfl (by rfl)
                   refine st_run tbOk 3 hA (e' := (8, .bool false) :: (69, .bool false) :: (68, undef) :: _) rfl ?_; clear hA; intro a hA
                   refine wpList_nil ?_
                   replace hA := hA.sel [8] (e' := [(8, .bool false)]) rfl
                   refine xt_norm ?_
                   refine wp_ret (xt_ret ?_)
                   refine ret1 (fn := Tryd.f5) hA rfl rfl ?_
                   exfalso; omega)
              · first
                | (exfalso; omega)
                | (replace hA := hA.rw 45 (v' := .bool false) rfl (vb_false hc67)
                   replace hA := hA.rw 46 (v' := .bool false) rfl (vb_false hc67)
                   replace hA := hA.rw 47 (v' := .bool false) rfl (vb_false hc67)
                   refine st_run tbOk 3 hA (e' := (50, .int .i64 (IntKind.i64.wrap (1073741824 - ((t : Nat) : Int)))) :: (49, .int .i64 ((t : Nat) : Int)) :: (48, .int .i64 ((n : Nat) : Int)) :: _) rfl ?_; clear hA; intro a hA
                   replace hA := hA.rw 50 (v' := .int .i64 (1073741824 - ((t : Nat) : Int))) rfl (wr64 (by omega) (by omega) (by omega))
                   refine st_run tbOk 2 hA (e' := (52, .bool (decide (((n : Nat) : Int) > 1073741824 - ((t : Nat) : Int)))) :: (51, .bool (decide (((n : Nat) : Int) > 1073741824 - ((t : Nat) : Int)))) :: _) rfl ?_; clear hA; intro a hA
                   refine wpList_nil ?_
                   replace hA := hA.sel [2, 10, 11, 12, 13, 52] (e' := [(2, .int .i64 ((n : Nat) : Int)), (10, .slice A12 ((pa ms g 0).length) c13), (11, .nilIface), (12, .slice none 0 0), (13, .iface 30 (.int .i64 2)), (52, .bool (decide (((n : Nat) : Int) > 1073741824 - ((t : Nat) : Int))))]) rfl
                   refine xt_norm ?_
                   by_cases hc69 : ((n : Nat) : Int) > 1073741824 - ((t : Nat) : Int)
                   · first
                     | (exfalso; omega)
                     | (replace hA := hA.rw 52 (v' := .bool true) rfl (vb_true hc69)
                        refine cd_cond_t hA rfl ?_
                        refine wp_seq ?_
                        refine wp_region_lit ?_
                        refine st_run tbOk 5 hA (e' := (57, .iface 30 (.int .i64 2)) :: (56, .bool true) :: (55, .bool true) :: (54, .int .i64 0) :: (53, .slice none 0 0) :: _) rfl ?_; clear hA; intro a hA
                        refine st_call0 hA rfl rfl rfl isfn13 rfl rfl (by decide) (number_hit13 hS hg 2) ?_
                        clear hA hS; rintro v w70 a ⟨rfl, hS⟩ hA
                        refine st_run tbOk 9 hA (e' := (67, undef) :: (66, undef) :: (65, .bool false) :: (64, .bool false) :: (63, undef) :: (62, undef) :: (61, .bool false) :: (60, .bool false) :: (59, .bool false) :: _) rfl ?_; clear hA; intro a hA
                        replace hA := hA.rw 67 (v' := .int .i64 0) rfl (by rfl)
                        refine st_run tbOk 3 hA (e' := (8, .bool false) :: (69, .bool false) :: (68, undef) :: _) rfl ?_; clear hA; intro a hA
                        refine wpList_nil ?_
                        replace hA := hA.sel [8] (e' := [(8, .bool false)]) rfl
                        refine xt_norm ?_
                        refine wp_ret (xt_ret ?_)
                        refine ret1 (fn := Tryd.f5) hA rfl rfl ?_
                        exfalso; omega)
                   · first
                     | (exfalso; omega)
                     | (replace hA := hA.rw 52 (v' := .bool false) rfl (vb_false hc69)
                        refine cd_cond_f hA rfl ?_
                        refine wp_skip ?_
                        refine xt_norm ?_
                        refine wp_seq ?_
                        refine wp_region_lit ?_
                        refine st_run tbOk 1 hA (e' := (14, .int .i64 0) :: _) rfl ?_; clear hA; intro a hA
                        refine wpList_nil ?_
                        replace hA := hA.sel [2, 10, 11, 12, 13, 14] (e' := [(2, .int .i64 ((n : Nat) : Int)), (10, .slice A12 ((pa ms g 0).length) c13), (11, .nilIface), (12, .slice none 0 0), (13, .iface 30 (.int .i64 2)), (14, .int .i64 0)]) rfl
                        refine xt_norm ?_
                        refine wp_seq ?_
                        refine wp_seq ?_
                        refine wp_region_lit ?_
                        refine st_run tbOk 3 hA (e' := (72, .int .i64 0) :: (71, .int .i64 0) :: (70, .slice none 0 0) :: _) rfl ?_; clear hA; intro a hA
                        refine wpList_nil ?_
                        refine xt_norm ?_
                        refine wp_block ?_
                        refine wp_loop_ghost (fun m a w => ∃ (i : Nat), m = 0 - i ∧ Has a 106 [(2, .int .i64 ((n : Nat) : Int)), (10, .slice A12 ((pa ms g 0).length) c13), (11, .nilIface), (12, .slice none 0 0), (13, .iface 30 (.int .i64 2)), (14, .int .i64 0), (70, .slice none 0 0), (71, .int .i64 0), (72, .int .i64 ((i : Nat) : Int))] ∧ St w0 w (C11 :: C4 :: F) ∧ (i ≤ 0)) (0 - 0)
                          ⟨0, rfl, (hA.sel [2, 10, 11, 12, 13, 14, 70, 71, 72] rfl), hS, Nat.zero_le _⟩ ?_
                        clear hA hS; rintro m0 a w71 ⟨i, rfl, hA, hS, hi⟩
                        refine wp_seq ?_
                        refine wp_region_lit ?_
                        refine st_run tbOk 1 hA (e' := (73, .bool (decide (((i : Nat) : Int) < 0))) :: _) rfl ?_; clear hA; intro a hA
                        refine wpList_nil ?_
                        refine xt_norm ?_
                        refine wp_seq ?_
                        by_cases hc72 : ((i : Nat) : Int) < 0
                        · first
                          | (exfalso; omega)
                          | (replace hA := hA.rw 73 (v' := .bool true) rfl (vb_true hc72)
                             refine cd_cond_t hA rfl ?_
                             refine wp_skip ?_
                             refine xt_norm ?_
                             refine wp_seq ?_
                             refine wp_block ?_
                             refine wp_seq ?_
                             exfalso; omega)
                        · first
                          | (exfalso; omega)
                          | (replace hA := hA.rw 73 (v' := .bool false) rfl (vb_false hc72)
                             refine cd_cond_f hA rfl ?_
                             refine wp_exit ?_
                             refine xt_exit ?_
                             refine xt_exit ?_
                             refine cd_exit_eq ?_
                             refine xt_norm ?_
                             refine wp_seq ?_
                             refine wp_region_lit ?_
                             refine st_run tbOk 5 hA (e' := (85, .int .i64 (((pa ms g 0).length : Nat) : Int)) :: (84, .slice A12 ((pa ms g 0).length) c13) :: (83, .bool true) :: (82, .bool true) :: (81, .nilIface) :: _) rfl ?_; clear hA; intro a hA
                             replace hA := hA.rw 85 (v' := .int .i64 0) rfl (by rfl)
                             refine st_run tbOk 21 hA (e' := (8, .bool true) :: (105, .bool true) :: (104, .bool true) :: (103, .bool true) :: (102, .bool true) :: (101, .int .i64 0) :: (100, .slice none 0 0) :: (99, .bool true) :: (98, .bool true) :: (97, .iface 30 (.int .i64 2)) :: (96, .bool false) :: (95, .bool false) :: (94, undef) :: (93, undef) :: (92, undef) :: (91, .bool false) :: (90, .bool false) :: (89, .iface 30 (.int .i64 2)) :: (88, .bool true) :: (87, .bool true) :: (86, .bool true) :: _) rfl ?_; clear hA; intro a hA
                             refine wpList_nil ?_
                             replace hA := hA.sel [8] (e' := [(8, .bool true)]) rfl
                             refine xt_norm ?_
                             refine wp_ret ?_
                             refine ret1 (fn := Tryd.f5) hA rfl rfl ?_
                             replace hS := hS.drop1
                             replace hS := hS.drop1
                             exact ⟨rfl, hS⟩)))))
end Go.Proofs.YtplhgbfibiinaaaDoor
