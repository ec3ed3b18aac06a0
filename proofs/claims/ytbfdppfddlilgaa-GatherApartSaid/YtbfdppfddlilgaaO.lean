import Derived.Test.YtbfdppfddlilgaaK
set_option linter.unusedVariables false
set_option linter.unusedSimpArgs false
set_option maxRecDepth 4000
namespace Go.Proofs.Ytbfdppfddlilgaa
open Go Go.SK
set_option maxHeartbeats 4000000 in
theorem apart4 {w0 w : World} {F : List Chunk} (hS : St w0 w F) {v v2 u : Value} {l l2 : List UInt8} {ms : List Bool} (hr : RdS w0 F 1 v l.length (rows encB l)) (hb : l.length * 1 ≤ 140737488351232) (hr2 : RdS w0 F 1 v2 l2.length (rows encB l2)) (hb2 : l2.length * 1 ≤ 140737488351232) (a2 : Int) (h1 : 0 ≤ a2) (hb1 : a2 < 256) (hq : RdS w0 F 1 u ms.length (rows encBo ms)) :
    Ret Try.prog 4 #[v, v2, .int .u8 a2, u] w (fun v w' => v = .bool true ∧ St w0 w' F) := by
  obtain ⟨z, rfl⟩ := Int.eq_ofNat_of_zero_le h1
  obtain ⟨A, c, rfl, hmc, hxc⟩ := (hr w hS).open'
  obtain ⟨A2, c2, rfl, hmc2, hxc2⟩ := (hr2 w hS).open'
  obtain ⟨Aq, cq, rfl, hmcq, hxcq⟩ := (hq w hS).open'
  refine enter (vs := [.slice A l.length c, .slice A2 l2.length c2, .int .u8 ((z : Nat) : Int), .slice Aq ms.length cq]) 144 Try.func4 rfl rfl (by simp) ?_; intro a hA
  refine wp_seq ?_
  refine wp_region_lit ?_
  refine st_run tbOk 1 hA (e' := (8, .bool false) :: _) rfl ?_; clear hA; intro a hA
  refine wpList_nil ?_
  replace hA := hA.sel [0, 1, 2, 3] (e' := [(0, .slice A l.length c), (1, .slice A2 l2.length c2), (2, .int .u8 ((z : Nat) : Int)), (3, .slice Aq ms.length cq)]) rfl
  refine xt_norm ?_
  refine wp_seq ?_
  refine wp_seq ?_
  refine wp_region_lit ?_
  refine st_call0 hA rfl rfl rfl isfn7 rfl rfl (by decide) (awake7 hS) ?_
  clear hA hS; rintro v w1 a ⟨rfl, hS⟩ hA
  refine st_run tbOk 1 hA (e' := (23, .bool false) :: _) rfl ?_; clear hA; intro a hA
  refine wpList_nil ?_
  replace hA := hA.sel [0, 1, 2, 3, 23] (e' := [(0, .slice A l.length c), (1, .slice A2 l2.length c2), (2, .int .u8 ((z : Nat) : Int)), (3, .slice Aq ms.length cq), (23, .bool false)]) rfl
  refine xt_norm ?_
  refine cd_cond_f hA rfl ?_
  refine wp_skip ?_
  refine xt_norm ?_
  refine wp_seq ?_
  refine wp_region_lit ?_
  refine st_run tbOk 2 hA (e' := (25, .int .u8 (((z : Nat) : Int).tmod 40)) :: (24, .int .u8 ((z : Nat) : Int)) :: _) rfl ?_; clear hA; intro a hA
  replace hA := hA.rw 25 (v' := .int .u8 ((z % 40 : Nat) : Int)) rfl (vint (Int.ofNat_tmod _ _).symm)
  refine st_run tbOk 1 hA (e' := (26, .int .i64 (IntKind.i64.wrap ((z % 40 : Nat) : Int))) :: _) rfl ?_; clear hA; intro a hA
  replace hA := hA.rw 26 (v' := .int .i64 ((z % 40 : Nat) : Int)) rfl (wr64 (by rfl) (by omega) (by omega))
  refine st_run tbOk 1 hA (e' := (27, .int .i64 (IntKind.i64.wrap (1 + ((z % 40 : Nat) : Int)))) :: _) rfl ?_; clear hA; intro a hA
  replace hA := hA.rw 27 (v' := .int .i64 ((1 + (z % 40) : Nat) : Int)) rfl (wr64 (by omega) (by omega) (by omega))
  refine st_run tbOk 1 hA (e' := (9, .int .i64 ((1 + (z % 40) : Nat) : Int)) :: _) rfl ?_; clear hA; intro a hA
  refine wpList_nil ?_
  replace hA := hA.sel [0, 1, 3, 9] (e' := [(0, .slice A l.length c), (1, .slice A2 l2.length c2), (3, .slice Aq ms.length cq), (9, .int .i64 ((1 + (z % 40) : Nat) : Int))]) rfl
  refine xt_norm ?_
  refine wp_seq ?_
  refine wp_region_lit ?_
  obtain ⟨s, hs⟩ : ∃ s, s = 1 + z % 40 := ⟨_, rfl⟩
  replace hA := hA.rw 9 (v' := .int .i64 ((s : Nat) : Int)) rfl (by rw [hs])
  refine st_run tbOk 2 hA (e' := (30, .int .i64 ((s : Nat) : Int)) :: (29, .slice A l.length c) :: _) rfl ?_; clear hA; intro a hA
  have hnp1 := nP_pos l s; have hnp2 := nP_pos l2 s
  rcases Nat.lt_or_ge 256 (nP l s) with h3 | h3
  · have h9 := nP_many (by omega) h3
    refine st_call0 hA rfl rfl rfl isfn8 rfl rfl (by decide) (split_many8 hS (l := l) (fun w' h => (hr _ h)) 0 1 5 s (by omega) (by omega) h3 (by omega)) ?_
    clear hA hS; rintro v w2 a ⟨rfl, hS⟩ hA
    refine st_run tbOk 5 hA (e' := (11, .iface 51 (.int .i64 13)) :: (10, .slice none 0 0) :: (33, .iface 51 (.int .i64 13)) :: (32, .slice none 0 0) :: (28, .tuple #[.slice none 0 0, .iface 51 (.int .i64 13)]) :: _) rfl ?_; clear hA; intro a hA
    refine wpList_nil ?_
    replace hA := hA.sel [0, 1, 3, 9, 10, 11] (e' := [(0, .slice A l.length c), (1, .slice A2 l2.length c2), (3, .slice Aq ms.length cq), (9, .int .i64 ((s : Nat) : Int)), (10, .slice none 0 0), (11, .iface 51 (.int .i64 13))]) rfl
    refine xt_norm ?_
    refine wp_seq ?_
    refine wp_region_lit ?_
    refine st_run tbOk 2 hA (e' := (36, .int .i64 ((s : Nat) : Int)) :: (35, .slice A2 l2.length c2) :: _) rfl ?_; clear hA; intro a hA
    rcases Nat.lt_or_ge 256 (nP l2 s) with h4 | h4
    · have h10 := nP_many (by omega) h4
      refine st_call0 hA rfl rfl rfl isfn8 rfl rfl (by decide) (split_many8 hS (l := l2) (fun w' h => (hr2 _ h)) 0 1 6 s (by omega) (by omega) h4 (by omega)) ?_
      clear hA hS; rintro v w3 a ⟨rfl, hS⟩ hA
      refine st_run tbOk 5 hA (e' := (13, .iface 51 (.int .i64 13)) :: (12, .slice none 0 0) :: (39, .iface 51 (.int .i64 13)) :: (38, .slice none 0 0) :: (34, .tuple #[.slice none 0 0, .iface 51 (.int .i64 13)]) :: _) rfl ?_; clear hA; intro a hA
      refine wpList_nil ?_
      replace hA := hA.sel [0, 1, 3, 10, 11, 12, 13] (e' := [(0, .slice A l.length c), (1, .slice A2 l2.length c2), (3, .slice Aq ms.length cq), (10, .slice none 0 0), (11, .iface 51 (.int .i64 13)), (12, .slice none 0 0), (13, .iface 51 (.int .i64 13))]) rfl
      refine xt_norm ?_
      refine wp_seq ?_
      refine wp_seq ?_
      refine wp_region_lit ?_
      refine st_run tbOk 6 hA (e' := (45, .bool true) :: (44, undef) :: (43, undef) :: (42, .bool true) :: (41, .bool true) :: (40, .iface 51 (.int .i64 13)) :: _) rfl ?_; clear hA; intro a hA
      refine wpList_nil ?_
      replace hA := hA.sel [0, 1, 3, 10, 12, 45] (e' := [(0, .slice A l.length c), (1, .slice A2 l2.length c2), (3, .slice Aq ms.length cq), (10, .slice none 0 0), (12, .slice none 0 0), (45, .bool true)]) rfl
      refine xt_norm ?_
      refine cd_cond_t hA rfl ?_
      refine wp_seq ?_
      refine wp_region_lit ?_
      refine st_run tbOk 4 hA (e' := (49, .bool (decide (((l.length : Nat) : Int) > 256))) :: (48, .bool (decide (((l.length : Nat) : Int) > 256))) :: (47, .int .i64 ((l.length : Nat) : Int)) :: (46, .slice A l.length c) :: _) rfl ?_; clear hA; intro a hA
      by_cases hc4 : ((l.length : Nat) : Int) > 256
      · first
        | (exfalso; omega)
        | (replace hA := hA.rw 48 (v' := .bool true) rfl (vb_true hc4)
           replace hA := hA.rw 49 (v' := .bool true) rfl (vb_true hc4)
           refine st_run tbOk 5 hA (e' := (8, .bool true) :: (53, .bool true) :: (52, undef) :: (51, undef) :: (50, undef) :: _) rfl ?_; clear hA; intro a hA
           refine wpList_nil ?_
           replace hA := hA.sel [8] (e' := [(8, .bool true)]) rfl
           refine xt_norm ?_
           refine wp_ret (xt_ret ?_)
           refine ret1 (fn := Try.f4) hA rfl rfl ?_
           exact ⟨rfl, hS⟩)
      · first
        | (exfalso; omega)
        | (replace hA := hA.rw 48 (v' := .bool false) rfl (vb_false hc4)
           replace hA := hA.rw 49 (v' := .bool false) rfl (vb_false hc4)
           refine st_run tbOk 5 hA (e' := (8, .bool (decide (((l2.length : Nat) : Int) > 256))) :: (53, .bool (decide (((l2.length : Nat) : Int) > 256))) :: (52, .bool (decide (((l2.length : Nat) : Int) > 256))) :: (51, .int .i64 ((l2.length : Nat) : Int)) :: (50, .slice A2 l2.length c2) :: _) rfl ?_; clear hA; intro a hA
           refine wpList_nil ?_
           replace hA := hA.sel [8] (e' := [(8, .bool (decide (((l2.length : Nat) : Int) > 256)))]) rfl
           refine xt_norm ?_
           refine wp_ret (xt_ret ?_)
           refine ret1 (fn := Try.f4) hA rfl rfl ?_
           exact ⟨congrArg Value.bool (decide_eq_true (by omega)), hS⟩)
    · refine st_call0 hA rfl rfl rfl isfn8 rfl rfl (by decide) (split_ok8 hS (l := l2) (fun w' h => (hr2 _ h)) 0 1 6 s (by omega) (by omega) h4 (by omega)) ?_
      clear hA hS; rintro _ w5 a ⟨v6, psq, C7, D8, hOC7, hplq, hpkq, hddq, rfl, hS⟩ hA
      obtain ⟨A9, c10, rfl, hmc10, hxc10⟩ := hOC7.open'
      refine st_run tbOk 5 hA (e' := (13, .nilIface) :: (12, .slice A9 psq.length c10) :: (39, .nilIface) :: (38, .slice A9 psq.length c10) :: (34, .tuple #[.slice A9 psq.length c10, .nilIface]) :: _) rfl ?_; clear hA; intro a hA
      refine wpList_nil ?_
      replace hA := hA.sel [0, 1, 3, 10, 11, 12, 13] (e' := [(0, .slice A l.length c), (1, .slice A2 l2.length c2), (3, .slice Aq ms.length cq), (10, .slice none 0 0), (11, .iface 51 (.int .i64 13)), (12, .slice A9 psq.length c10), (13, .nilIface)]) rfl
      refine xt_norm ?_
      refine wp_seq ?_
      refine wp_seq ?_
      refine wp_region_lit ?_
      refine st_run tbOk 6 hA (e' := (45, .bool true) :: (44, undef) :: (43, undef) :: (42, .bool true) :: (41, .bool true) :: (40, .iface 51 (.int .i64 13)) :: _) rfl ?_; clear hA; intro a hA
      refine wpList_nil ?_
      replace hA := hA.sel [0, 1, 3, 10, 12, 45] (e' := [(0, .slice A l.length c), (1, .slice A2 l2.length c2), (3, .slice Aq ms.length cq), (10, .slice none 0 0), (12, .slice A9 psq.length c10), (45, .bool true)]) rfl
      refine xt_norm ?_
      refine cd_cond_t hA rfl ?_
      refine wp_seq ?_
      refine wp_region_lit ?_
      refine st_run tbOk 4 hA (e' := (49, .bool (decide (((l.length : Nat) : Int) > 256))) :: (48, .bool (decide (((l.length : Nat) : Int) > 256))) :: (47, .int .i64 ((l.length : Nat) : Int)) :: (46, .slice A l.length c) :: _) rfl ?_; clear hA; intro a hA
      by_cases hc11 : ((l.length : Nat) : Int) > 256
      · first
        | (exfalso; omega)
        | (replace hA := hA.rw 48 (v' := .bool true) rfl (vb_true hc11)
           replace hA := hA.rw 49 (v' := .bool true) rfl (vb_true hc11)
           refine st_run tbOk 5 hA (e' := (8, .bool true) :: (53, .bool true) :: (52, undef) :: (51, undef) :: (50, undef) :: _) rfl ?_; clear hA; intro a hA
           refine wpList_nil ?_
           replace hA := hA.sel [8] (e' := [(8, .bool true)]) rfl
           refine xt_norm ?_
           refine wp_ret (xt_ret ?_)
           refine ret1 (fn := Try.f4) hA rfl rfl ?_
           replace hS := hS.drop1
           replace hS := hS.drop1
           exact ⟨rfl, hS⟩)
      · first
        | (exfalso; omega)
        | (replace hA := hA.rw 48 (v' := .bool false) rfl (vb_false hc11)
           replace hA := hA.rw 49 (v' := .bool false) rfl (vb_false hc11)
           refine st_run tbOk 5 hA (e' := (8, .bool (decide (((l2.length : Nat) : Int) > 256))) :: (53, .bool (decide (((l2.length : Nat) : Int) > 256))) :: (52, .bool (decide (((l2.length : Nat) : Int) > 256))) :: (51, .int .i64 ((l2.length : Nat) : Int)) :: (50, .slice A2 l2.length c2) :: _) rfl ?_; clear hA; intro a hA
           refine wpList_nil ?_
           replace hA := hA.sel [8] (e' := [(8, .bool (decide (((l2.length : Nat) : Int) > 256)))]) rfl
           refine xt_norm ?_
           refine wp_ret (xt_ret ?_)
           refine ret1 (fn := Try.f4) hA rfl rfl ?_
           replace hS := hS.drop1
           replace hS := hS.drop1
           exact ⟨congrArg Value.bool (decide_eq_true (by omega)), hS⟩)
  · have hnp := nP_pos l s
    refine st_call0 hA rfl rfl rfl isfn8 rfl rfl (by decide) (split_ok8 hS (l := l) (fun w' h => (hr _ h)) 0 1 5 s (by omega) (by omega) h3 (by omega)) ?_
    clear hA hS; rintro _ w12 a ⟨v13, ps, C14, D15, hOC14, hpl, hpk, hdd, rfl, hS⟩ hA
    obtain ⟨A16, c17, rfl, hmc17, hxc17⟩ := hOC14.open'
    refine st_run tbOk 5 hA (e' := (11, .nilIface) :: (10, .slice A16 ps.length c17) :: (33, .nilIface) :: (32, .slice A16 ps.length c17) :: (28, .tuple #[.slice A16 ps.length c17, .nilIface]) :: _) rfl ?_; clear hA; intro a hA
    refine wpList_nil ?_
    replace hA := hA.sel [0, 1, 3, 9, 10, 11] (e' := [(0, .slice A l.length c), (1, .slice A2 l2.length c2), (3, .slice Aq ms.length cq), (9, .int .i64 ((s : Nat) : Int)), (10, .slice A16 ps.length c17), (11, .nilIface)]) rfl
    refine xt_norm ?_
    refine wp_seq ?_
    refine wp_region_lit ?_
    refine st_run tbOk 2 hA (e' := (36, .int .i64 ((s : Nat) : Int)) :: (35, .slice A2 l2.length c2) :: _) rfl ?_; clear hA; intro a hA
    rcases Nat.lt_or_ge 256 (nP l2 s) with h4 | h4
    · have h10 := nP_many (by omega) h4
      refine st_call0 hA rfl rfl rfl isfn8 rfl rfl (by decide) (split_many8 hS (l := l2) (fun w' h => (hr2 _ (h.tail 2 rfl))) 0 1 6 s (by omega) (by omega) h4 (by omega)) ?_
      clear hA hS; rintro v w18 a ⟨rfl, hS⟩ hA
      refine st_run tbOk 5 hA (e' := (13, .iface 51 (.int .i64 13)) :: (12, .slice none 0 0) :: (39, .iface 51 (.int .i64 13)) :: (38, .slice none 0 0) :: (34, .tuple #[.slice none 0 0, .iface 51 (.int .i64 13)]) :: _) rfl ?_; clear hA; intro a hA
      refine wpList_nil ?_
      replace hA := hA.sel [0, 1, 3, 10, 11, 12, 13] (e' := [(0, .slice A l.length c), (1, .slice A2 l2.length c2), (3, .slice Aq ms.length cq), (10, .slice A16 ps.length c17), (11, .nilIface), (12, .slice none 0 0), (13, .iface 51 (.int .i64 13))]) rfl
      refine xt_norm ?_
      refine wp_seq ?_
      refine wp_seq ?_
      refine wp_region_lit ?_
      refine st_run tbOk 6 hA (e' := (45, .bool true) :: (44, .bool true) :: (43, .iface 51 (.int .i64 13)) :: (42, .bool false) :: (41, .bool false) :: (40, .nilIface) :: _) rfl ?_; clear hA; intro a hA
      refine wpList_nil ?_
      replace hA := hA.sel [0, 1, 3, 10, 12, 45] (e' := [(0, .slice A l.length c), (1, .slice A2 l2.length c2), (3, .slice Aq ms.length cq), (10, .slice A16 ps.length c17), (12, .slice none 0 0), (45, .bool true)]) rfl
      refine xt_norm ?_
      refine cd_cond_t hA rfl ?_
      refine wp_seq ?_
      refine wp_region_lit ?_
      refine st_run tbOk 4 hA (e' := (49, .bool (decide (((l.length : Nat) : Int) > 256))) :: (48, .bool (decide (((l.length : Nat) : Int) > 256))) :: (47, .int .i64 ((l.length : Nat) : Int)) :: (46, .slice A l.length c) :: _) rfl ?_; clear hA; intro a hA
      by_cases hc19 : ((l.length : Nat) : Int) > 256
      · first
        | (exfalso; omega)
        | (replace hA := hA.rw 48 (v' := .bool true) rfl (vb_true hc19)
           replace hA := hA.rw 49 (v' := .bool true) rfl (vb_true hc19)
           refine st_run tbOk 5 hA (e' := (8, .bool true) :: (53, .bool true) :: (52, undef) :: (51, undef) :: (50, undef) :: _) rfl ?_; clear hA; intro a hA
           refine wpList_nil ?_
           replace hA := hA.sel [8] (e' := [(8, .bool true)]) rfl
           refine xt_norm ?_
           refine wp_ret (xt_ret ?_)
           refine ret1 (fn := Try.f4) hA rfl rfl ?_
           replace hS := hS.drop1
           replace hS := hS.drop1
           exact ⟨rfl, hS⟩)
      · first
        | (exfalso; omega)
        | (replace hA := hA.rw 48 (v' := .bool false) rfl (vb_false hc19)
           replace hA := hA.rw 49 (v' := .bool false) rfl (vb_false hc19)
           refine st_run tbOk 5 hA (e' := (8, .bool (decide (((l2.length : Nat) : Int) > 256))) :: (53, .bool (decide (((l2.length : Nat) : Int) > 256))) :: (52, .bool (decide (((l2.length : Nat) : Int) > 256))) :: (51, .int .i64 ((l2.length : Nat) : Int)) :: (50, .slice A2 l2.length c2) :: _) rfl ?_; clear hA; intro a hA
           refine wpList_nil ?_
           replace hA := hA.sel [8] (e' := [(8, .bool (decide (((l2.length : Nat) : Int) > 256)))]) rfl
           refine xt_norm ?_
           refine wp_ret (xt_ret ?_)
           refine ret1 (fn := Try.f4) hA rfl rfl ?_
           replace hS := hS.drop1
           replace hS := hS.drop1
           exact ⟨congrArg Value.bool (decide_eq_true (by omega)), hS⟩)
    · refine st_call0 hA rfl rfl rfl isfn8 rfl rfl (by decide) (split_ok8 hS (l := l2) (fun w' h => (hr2 _ (h.tail 2 rfl))) 0 1 6 s (by omega) (by omega) h4 (by omega)) ?_
      clear hA hS; rintro _ w20 a ⟨v21, psq, C22, D23, hOC22, hplq, hpkq, hddq, rfl, hS⟩ hA
      obtain ⟨A24, c25, rfl, hmc25, hxc25⟩ := hOC22.open'
      refine st_run tbOk 5 hA (e' := (13, .nilIface) :: (12, .slice A24 psq.length c25) :: (39, .nilIface) :: (38, .slice A24 psq.length c25) :: (34, .tuple #[.slice A24 psq.length c25, .nilIface]) :: _) rfl ?_; clear hA; intro a hA
      refine wpList_nil ?_
      replace hA := hA.sel [0, 1, 3, 10, 11, 12, 13] (e' := [(0, .slice A l.length c), (1, .slice A2 l2.length c2), (3, .slice Aq ms.length cq), (10, .slice A16 ps.length c17), (11, .nilIface), (12, .slice A24 psq.length c25), (13, .nilIface)]) rfl
      refine xt_norm ?_
      refine wp_seq ?_
      refine wp_seq ?_
      refine wp_region_lit ?_
      refine st_run tbOk 6 hA (e' := (45, .bool false) :: (44, .bool false) :: (43, .nilIface) :: (42, .bool false) :: (41, .bool false) :: (40, .nilIface) :: _) rfl ?_; clear hA; intro a hA
      refine wpList_nil ?_
      replace hA := hA.sel [0, 1, 3, 10, 12, 45] (e' := [(0, .slice A l.length c), (1, .slice A2 l2.length c2), (3, .slice Aq ms.length cq), (10, .slice A16 ps.length c17), (12, .slice A24 psq.length c25), (45, .bool false)]) rfl
      refine xt_norm ?_
      refine cd_cond_f hA rfl ?_
      refine wp_skip ?_
      refine xt_norm ?_
      refine wp_seq ?_
      refine wp_region_lit ?_
      refine st_run tbOk 1 hA (e' := (54, .agg #[.slice none 0 0]) :: _) rfl ?_; clear hA; intro a hA
      refine st_box hA hS [.slice none 0 0] rfl rfl rfl rfl rfl (by decide) ?_; clear hA hS; intro b26 w27 a hS hA
      obtain ⟨L28, hM29, hS⟩ : ∃ Z, GS w0 b26 [] Z [] ∧ St w0 w27 (Z :: C22 :: D23 :: C14 :: D15 :: F) := ⟨_, GS.new _ _, hS⟩
      replace hS := hS.nil
      refine st_run tbOk 1 hA (e' := (14, .pointer (some ⟨b26, 0, none⟩)) :: _) rfl ?_; clear hA; intro a hA
      refine wpList_nil ?_
      replace hA := hA.sel [0, 1, 3, 10, 12, 14] (e' := [(0, .slice A l.length c), (1, .slice A2 l2.length c2), (3, .slice Aq ms.length cq), (10, .slice A16 ps.length c17), (12, .slice A24 psq.length c25), (14, .pointer (some ⟨b26, 0, none⟩))]) rfl
      refine xt_norm ?_
      refine wp_seq ?_
      refine wp_region_lit ?_
      refine st_run tbOk 1 hA (e' := (15, .int .i64 0) :: _) rfl ?_; clear hA; intro a hA
      refine wpList_nil ?_
      refine xt_norm ?_
      refine wp_seq ?_
      refine wp_seq ?_
      refine wp_region_lit ?_
      refine st_run tbOk 1 hA (e' := (16, .int .i64 0) :: _) rfl ?_; clear hA; intro a hA
      refine wpList_nil ?_
      refine xt_norm ?_
      refine wp_block ?_
      replace hS := hS.front 3 (C := D23) (L' := [] :: L28 :: C22 :: C14 :: D15 :: F) rfl rfl
      replace hS := hS.front 3 (C := C22) (L' := D23 :: [] :: L28 :: C14 :: D15 :: F) rfl rfl
      replace hS := hS.front 5 (C := D15) (L' := C22 :: D23 :: [] :: L28 :: C14 :: F) rfl rfl
      replace hS := hS.front 5 (C := C14) (L' := D15 :: C22 :: D23 :: [] :: L28 :: F) rfl rfl
      replace hS := hS.front 4 (C := []) (L' := C14 :: D15 :: C22 :: D23 :: L28 :: F) rfl rfl
      replace hS := hS.front 5 (C := L28) (L' := [] :: C14 :: D15 :: C22 :: D23 :: F) rfl rfl
      replace hA := hA.rw 15 (v' := .int .i64 ((0 + 0 : Nat) : Int)) rfl (by rfl)
      replace hA := hA.rw 16 (v' := .int .i64 ((0 + 0 : Nat) : Int)) rfl (by rfl)
      replace hA := hA.rw 10 (v' := .slice A16 ((ps.drop 0).length) c17) rfl (by rw [List.drop_zero])
      replace hA := hA.rw 12 (v' := .slice A24 ((psq.drop 0).length) c25) rfl (by rw [List.drop_zero])
      refine wp_loop_ghost (fun m a w => ∃ (i : Nat) (j : Nat) (vs : List GV) (L1 : Chunk) (D1 : Chunk) (B1 : Option Addr) (e1 : Nat) (B2 : Option Addr) (e2 : Nat), m = (ps.length - i) + (psq.length - j) ∧ Has a 144 [(0, .slice A l.length c), (1, .slice A2 l2.length c2), (3, .slice Aq ms.length cq), (10, .slice B1 ((ps.drop i).length) e1), (12, .slice B2 ((psq.drop j).length) e2), (14, .pointer (some ⟨b26, 0, none⟩)), (15, .int .i64 ((i + j : Nat) : Int)), (16, .int .i64 ((i + j : Nat) : Int))] ∧ St w0 w (L1 :: D1 :: C14 :: D15 :: C22 :: D23 :: F) ∧ (i ≤ ps.length) ∧ (j ≤ psq.length) ∧ (ST (PV 0 1 5 l s) (PV 0 1 6 l2 s) (nP l s) (nP l2 s) i j vs) ∧ (GS w0 b26 vs L1 D1) ∧ (Own 38 6 (.slice B1 (ps.drop i).length e1) (ps.drop i).length (rows encPacket (ps.drop i)) C14) ∧ (Own 38 6 (.slice B2 (psq.drop j).length e2) (psq.drop j).length (rows encPacket (psq.drop j)) C22)) ((ps.length - 0) + (psq.length - 0))
        ⟨0, 0, ([]), L28, ([]), A16, c17, A24, c25, rfl, (hA.sel [0, 1, 3, 10, 12, 14, 15, 16] rfl), hS, Nat.zero_le _, Nat.zero_le _, .inl ⟨rfl, .inl rfl, .inl rfl⟩, hM29, hOC14, hOC22⟩ ?_
      clear hA hS; rintro m0 a w30 ⟨i, j, vs, L1, D1, B1, e1, B2, e2, rfl, hA, hS, hi, hj, hst, hM1, hP1, hP2⟩
      have hd1 : (ps.drop i).length = ps.length - i := List.length_drop; have hd2 : (psq.drop j).length = psq.length - j := List.length_drop
      have hc1 := hP1.cap; have hc2 := hP2.cap
      refine wp_seq ?_
      refine wp_seq ?_
      refine wp_region_lit ?_
      refine st_run tbOk 5 hA (e' := (60, .int .i64 (IntKind.i64.wrap ((((ps.drop i).length : Nat) : Int) + (((psq.drop j).length : Nat) : Int)))) :: (59, .int .i64 (((psq.drop j).length : Nat) : Int)) :: (58, .slice B2 ((psq.drop j).length) e2) :: (57, .int .i64 (((ps.drop i).length : Nat) : Int)) :: (56, .slice B1 ((ps.drop i).length) e1) :: _) rfl ?_; clear hA; intro a hA
      replace hA := hA.rw 60 (v' := .int .i64 ((((ps.drop i).length) + ((psq.drop j).length) : Nat) : Int)) rfl (wr64 (by omega) (by omega) (by omega))
      refine st_run tbOk 1 hA (e' := (61, .bool (decide (((((ps.drop i).length) + ((psq.drop j).length) : Nat) : Int) > 0))) :: _) rfl ?_; clear hA; intro a hA
      refine wpList_nil ?_
      replace hA := hA.sel [0, 1, 3, 10, 12, 14, 15, 16, 61] (e' := [(0, .slice A l.length c), (1, .slice A2 l2.length c2), (3, .slice Aq ms.length cq), (10, .slice B1 ((ps.drop i).length) e1), (12, .slice B2 ((psq.drop j).length) e2), (14, .pointer (some ⟨b26, 0, none⟩)), (15, .int .i64 ((i + j : Nat) : Int)), (16, .int .i64 ((i + j : Nat) : Int)), (61, .bool (decide (((((ps.drop i).length) + ((psq.drop j).length) : Nat) : Int) > 0)))]) rfl
      refine xt_norm ?_
      by_cases hc31 : ((((ps.drop i).length) + ((psq.drop j).length) : Nat) : Int) > 0
      · first
        | (exfalso; omega)
        | (replace hA := hA.rw 61 (v' := .bool true) rfl (vb_true hc31)
           refine cd_cond_t hA rfl ?_
           refine wp_skip ?_
           refine xt_norm ?_
           refine wp_seq ?_
           refine wp_block ?_
           refine wp_seq ?_
           refine wp_region_lit ?_
           refine st_run tbOk 5 hA (e' := (68, .bool (decide (((i + j : Nat) : Int) < ((ms.length : Nat) : Int)))) :: (67, .bool (decide (((i + j : Nat) : Int) < ((ms.length : Nat) : Int)))) :: (66, .int .i64 ((ms.length : Nat) : Int)) :: (65, .slice Aq ms.length cq) :: (64, .int .i64 ((i + j : Nat) : Int)) :: _) rfl ?_; clear hA; intro a hA
           by_cases hc32 : ((i + j : Nat) : Int) < ((ms.length : Nat) : Int)
           · first
             | (exfalso; omega)
             | (replace hA := hA.rw 67 (v' := .bool true) rfl (vb_true hc32)
                replace hA := hA.rw 68 (v' := .bool true) rfl (vb_true hc32)
                refine st_run tbOk 2 hA (e' := (70, .int .i64 ((i + j : Nat) : Int)) :: (69, .slice Aq ms.length cq) :: _) rfl ?_; clear hA; intro a hA
                obtain ⟨b33, o34, rfl⟩ := (hq _ (hS.tail 6 rfl)).isSome (k := (i + j)) (by omega)
                refine st_val hA rfl rfl (by decide) (rn_indexAddr tbOk hA (i + j) (o34 + (i + j)) rfl rfl rfl rfl rfl rfl (by rfl) (by omega) (by first | rfl | simp [Nat.mul_one, Nat.zero_add] | omega)) ?_; clear hA; intro a hA
                obtain ⟨x35, hx35⟩ := get_ex (l := ms) (k := i + j) (by omega)
                refine st_val hA rfl rfl (by decide) (rn_load tbOk hA rfl rfl rfl rfl ((hq _ (hS.tail 6 rfl)).elem0 (k := i + j) encBo_ok hx35 rfl)) ?_; clear hA; intro a hA
                refine st_run tbOk 2 hA (e' := (17, .bool x35) :: (73, .bool x35) :: _) rfl ?_; clear hA; intro a hA
                refine wpList_nil ?_
                replace hA := hA.sel [0, 1, 3, 10, 12, 14, 15, 16, 17] (e' := [(0, .slice A l.length c), (1, .slice A2 l2.length c2), (3, .slice (some ⟨b33, o34, none⟩) ms.length cq), (10, .slice B1 ((ps.drop i).length) e1), (12, .slice B2 ((psq.drop j).length) e2), (14, .pointer (some ⟨b26, 0, none⟩)), (15, .int .i64 ((i + j : Nat) : Int)), (16, .int .i64 ((i + j : Nat) : Int)), (17, .bool x35)]) rfl
                refine xt_norm ?_
                refine wp_seq ?_
                refine wp_seq_join (fun a w => ∃ (g : Bool), Has a 144 [(0, .slice A l.length c), (1, .slice A2 l2.length c2), (3, .slice (some ⟨b33, o34, none⟩) ms.length cq), (10, .slice B1 ((ps.drop i).length) e1), (12, .slice B2 ((psq.drop j).length) e2), (14, .pointer (some ⟨b26, 0, none⟩)), (15, .int .i64 ((i + j : Nat) : Int)), (16, .int .i64 ((i + j : Nat) : Int)), (84, .bool g)] ∧ St w0 w (L1 :: D1 :: C14 :: D15 :: C22 :: D23 :: F) ∧ ((g = true → 0 < (ps.drop i).length) ∧ (g = false → 0 < (psq.drop j).length))) ?_ ?_
                · refine wp_region_lit ?_
                  refine st_run tbOk 4 hA (e' := (77, .bool ((((psq.drop j).length : Nat) : Int) == 0)) :: (76, .bool ((((psq.drop j).length : Nat) : Int) == 0)) :: (75, .int .i64 (((psq.drop j).length : Nat) : Int)) :: (74, .slice B2 ((psq.drop j).length) e2) :: _) rfl ?_; clear hA; intro a hA
                  by_cases hc36 : (((psq.drop j).length : Nat) : Int) = 0
                  · first
                    | (exfalso; omega)
                    | (replace hA := hA.rw 76 (v' := .bool true) rfl (vb_eq_t hc36)
                       replace hA := hA.rw 77 (v' := .bool true) rfl (vb_eq_t hc36)
                       refine st_run tbOk 7 hA (e' := (84, .bool true) :: (83, undef) :: (82, undef) :: (81, undef) :: (80, undef) :: (79, undef) :: (78, undef) :: _) rfl ?_; clear hA; intro a hA
                       refine wpList_nil ?_
                       replace hA := hA.sel [0, 1, 3, 10, 12, 14, 15, 16, 84] (e' := [(0, .slice A l.length c), (1, .slice A2 l2.length c2), (3, .slice (some ⟨b33, o34, none⟩) ms.length cq), (10, .slice B1 ((ps.drop i).length) e1), (12, .slice B2 ((psq.drop j).length) e2), (14, .pointer (some ⟨b26, 0, none⟩)), (15, .int .i64 ((i + j : Nat) : Int)), (16, .int .i64 ((i + j : Nat) : Int)), (84, .bool true)]) rfl
                       refine xt_norm ?_
                       exact ⟨true, (hA.sel [0, 1, 3, 10, 12, 14, 15, 16, 84] rfl), hS, ⟨fun _ => (by omega), fun h => (by cases h)⟩⟩)
                  · first
                    | (exfalso; omega)
                    | (replace hA := hA.rw 76 (v' := .bool false) rfl (vb_eq_f hc36)
                       replace hA := hA.rw 77 (v' := .bool false) rfl (vb_eq_f hc36)
                       refine st_run tbOk 2 hA (e' := (79, .bool x35) :: (78, .bool x35) :: _) rfl ?_; clear hA; intro a hA
                       by_cases hc37 : x35 = true
                       · first
                         | (exfalso; omega)
                         | (replace hA := hA.rw 17 (v' := .bool true) rfl (vb_t hc37)
                            replace hA := hA.rw 78 (v' := .bool true) rfl (vb_t hc37)
                            replace hA := hA.rw 79 (v' := .bool true) rfl (vb_t hc37)
                            refine st_run tbOk 5 hA (e' := (84, .bool (decide ((((ps.drop i).length : Nat) : Int) > 0))) :: (83, .bool (decide ((((ps.drop i).length : Nat) : Int) > 0))) :: (82, .bool (decide ((((ps.drop i).length : Nat) : Int) > 0))) :: (81, .int .i64 (((ps.drop i).length : Nat) : Int)) :: (80, .slice B1 ((ps.drop i).length) e1) :: _) rfl ?_; clear hA; intro a hA
                            refine wpList_nil ?_
                            replace hA := hA.sel [0, 1, 3, 10, 12, 14, 15, 16, 84] (e' := [(0, .slice A l.length c), (1, .slice A2 l2.length c2), (3, .slice (some ⟨b33, o34, none⟩) ms.length cq), (10, .slice B1 ((ps.drop i).length) e1), (12, .slice B2 ((psq.drop j).length) e2), (14, .pointer (some ⟨b26, 0, none⟩)), (15, .int .i64 ((i + j : Nat) : Int)), (16, .int .i64 ((i + j : Nat) : Int)), (84, .bool (decide ((((ps.drop i).length : Nat) : Int) > 0)))]) rfl
                            refine xt_norm ?_
                            exact ⟨(decide ((((ps.drop i).length : Nat) : Int) > 0)), (hA.sel [0, 1, 3, 10, 12, 14, 15, 16, 84] rfl), hS, ⟨fun h => by have h7 := of_decide_eq_true h; omega, fun _ => by omega⟩⟩)
                       · first
                         | (exfalso; omega)
                         | (replace hA := hA.rw 17 (v' := .bool false) rfl (vb_f hc37)
                            replace hA := hA.rw 78 (v' := .bool false) rfl (vb_f hc37)
                            replace hA := hA.rw 79 (v' := .bool false) rfl (vb_f hc37)
                            refine st_run tbOk 5 hA (e' := (84, .bool false) :: (83, .bool false) :: (82, undef) :: (81, undef) :: (80, undef) :: _) rfl ?_; clear hA; intro a hA
                            refine wpList_nil ?_
                            replace hA := hA.sel [0, 1, 3, 10, 12, 14, 15, 16, 84] (e' := [(0, .slice A l.length c), (1, .slice A2 l2.length c2), (3, .slice (some ⟨b33, o34, none⟩) ms.length cq), (10, .slice B1 ((ps.drop i).length) e1), (12, .slice B2 ((psq.drop j).length) e2), (14, .pointer (some ⟨b26, 0, none⟩)), (15, .int .i64 ((i + j : Nat) : Int)), (16, .int .i64 ((i + j : Nat) : Int)), (84, .bool false)]) rfl
                            refine xt_norm ?_
                            exact ⟨false, (hA.sel [0, 1, 3, 10, 12, 14, 15, 16, 84] rfl), hS, ⟨fun h => (by cases h), fun _ => (by omega)⟩⟩))
                · clear hA hS; rintro a w38 ⟨g, hA, hS, hg⟩
                  by_cases hc39 : g = true
                  · first
                    | (exfalso; omega)
                    | (replace hA := hA.rw 84 (v' := .bool true) rfl (vb_t hc39)
                       refine cd_cond_t hA rfl ?_
                       refine wp_seq ?_
                       refine wp_region_lit ?_
                       have hpos : 0 < (ps.drop i).length := hg.1 (by assumption)
                       obtain ⟨y40, hy40⟩ := get_ex (l := ps) (k := i) (by omega)
                       obtain ⟨B41, d42, rfl⟩ := hpk i y40 hy40
                       have hdy40 := hdd _ (List.mem_of_getElem? hy40)
                       have hpcy40 := piece_le l s i
                       refine st_run tbOk 2 hA (e' := (87, .slice B1 ((ps.drop i).length) e1) :: (86, .pointer (some ⟨b26, 0, none⟩)) :: _) rfl ?_; clear hA; intro a hA
                       obtain ⟨b43, o44, rfl⟩ := hP1.isSome (k := 0) (by omega)
                       refine st_val hA rfl rfl (by decide) (rn_indexAddr tbOk hA 0 o44 rfl rfl rfl rfl rfl rfl (by rfl) (by omega) (by first | rfl | simp [Nat.mul_one, Nat.zero_add] | omega)) ?_; clear hA; intro a hA
                       refine st_val hA rfl rfl (by decide) (rn_loadA tbOk hA ([.int .i64 0, .int .i64 1, .int .u64 5, .int .i64 ((i : Nat) : Int), .int .i64 ((nP l s : Nat) : Int), .slice B41 ((piece l s i).length) d42]) rfl rfl rfl rfl (by rfl) ((hP1.rd (hS.own_ 2 rfl)).elem (k := 0) encPacket_ok (show (ps.drop i)[0]? = some (0, 1, 5, ((i : Nat) : Int), ((nP l s : Nat) : Int), B41, d42, piece l s i) from by rw [List.getElem?_drop, Nat.add_zero]; exact hy40))) ?_; clear hA; intro a hA
                       replace hS := hS.front 1 (C := D1) (L' := L1 :: C14 :: D15 :: C22 :: D23 :: F) rfl rfl
                       replace hS := hS.front 1 (C := L1) (L' := D1 :: C14 :: D15 :: C22 :: D23 :: F) rfl rfl
                       refine st_call0 hA rfl rfl rfl isfn9 rfl rfl (by decide) (addST hS hM1 (by decide) hst (fun w' h => (hdy40 _ (h.only 2 rfl))) (by omega) (by omega) (by omega) (by omega)) ?_
                       clear hA hS; rintro v9 w45 a ⟨vs', L2, E2, hst', hM2, hres⟩ hA
                       rcases hres with ⟨hn, rfl, hS⟩ | ⟨hn, C9, v1, hO9, rfl, hS⟩
                       · refine st_run tbOk 5 hA (e' := (19, .bool false) :: (18, .slice none 0 0) :: (92, .bool false) :: (91, .slice none 0 0) :: (85, .tuple #[.slice none 0 0, .bool false]) :: _) rfl ?_; clear hA; intro a hA
                         refine wpList_nil ?_
                         replace hA := hA.sel [0, 1, 3, 10, 12, 14, 15, 16, 18, 19] (e' := [(0, .slice A l.length c), (1, .slice A2 l2.length c2), (3, .slice (some ⟨b33, o34, none⟩) ms.length cq), (10, .slice (some ⟨b43, o44, none⟩) ((ps.drop i).length) e1), (12, .slice B2 ((psq.drop j).length) e2), (14, .pointer (some ⟨b26, 0, none⟩)), (15, .int .i64 ((i + j : Nat) : Int)), (16, .int .i64 ((i + j : Nat) : Int)), (18, .slice none 0 0), (19, .bool false)]) rfl
                         refine xt_norm ?_
                         refine wp_seq ?_
                         refine wp_region_lit ?_
                         refine st_run tbOk 1 hA (e' := (93, .slice (some ⟨b43, o44, none⟩) ((ps.drop i).length) e1) :: _) rfl ?_; clear hA; intro a hA
                         refine st_val hA rfl rfl (by decide) (rn_slice_l tbOk hA 1 rfl rfl rfl rfl rfl rfl (by rfl) (by omega)) ?_; clear hA; intro a hA
                         obtain ⟨A46, c47, hs49, hmc47, hxc47⟩ := (hP1.rslv encPacket_ok 1 ((ps.drop i).length) e1 (by omega) (by omega) (by omega) (Nat.le_refl _)).open'
                         have hO48 : Own 38 6 (.slice A46 (ps.drop (i + 1)).length c47) (ps.drop (i + 1)).length (rows encPacket (ps.drop (i + 1))) C14 := by have h9 := (hP1.rslv encPacket_ok 1 ((ps.drop i).length) e1 (by omega) (by omega) (by omega) (Nat.le_refl _)); rw [hs49, show ((ps.drop i).take ((ps.drop i).length)).drop 1 = ps.drop (i + 1) from by rw [List.take_length, List.drop_drop]] at h9; exact h9
                         replace hA := hA.rw 94 (v' := .slice A46 ((ps.drop (i + 1)).length) c47) rfl (by rw [hs49, show ((ps.drop i).take ((ps.drop i).length)).drop 1 = ps.drop (i + 1) from by rw [List.take_length, List.drop_drop]])
                         have hd3 : (ps.drop (i + 1)).length = ps.length - (i + 1) := List.length_drop
                         refine st_run tbOk 1 hA (e' := (10, .slice A46 ((ps.drop (i + 1)).length) c47) :: _) rfl ?_; clear hA; intro a hA
                         refine wpList_nil ?_
                         replace hA := hA.sel [0, 1, 3, 10, 12, 14, 15, 16, 18, 19] (e' := [(0, .slice A l.length c), (1, .slice A2 l2.length c2), (3, .slice (some ⟨b33, o34, none⟩) ms.length cq), (10, .slice A46 ((ps.drop (i + 1)).length) c47), (12, .slice B2 ((psq.drop j).length) e2), (14, .pointer (some ⟨b26, 0, none⟩)), (15, .int .i64 ((i + j : Nat) : Int)), (16, .int .i64 ((i + j : Nat) : Int)), (18, .slice none 0 0), (19, .bool false)]) rfl
                         refine xt_norm ?_
                         refine wp_seq ?_
                         refine wp_region_lit ?_
                         refine st_run tbOk 4 hA (e' := (98, .bool ((((ps.drop (i + 1)).length : Nat) : Int) == 0)) :: (97, .int .i64 (((ps.drop (i + 1)).length : Nat) : Int)) :: (96, .slice A46 ((ps.drop (i + 1)).length) c47) :: (95, .bool false) :: _) rfl ?_; clear hA; intro a hA
                         by_cases hc50 : (((ps.drop (i + 1)).length : Nat) : Int) = 0
                         · first
                           | (exfalso; omega)
                           | (replace hA := hA.rw 98 (v' := .bool true) rfl (vb_eq_t hc50)
                              refine st_run tbOk 9 hA (e' := (107, undef) :: (106, undef) :: (105, undef) :: (104, undef) :: (103, undef) :: (102, undef) :: (101, undef) :: (100, .bool true) :: (99, .bool true) :: _) rfl ?_; clear hA; intro a hA
                              refine st_run tbOk 2 hA (e' := (109, .bool true) :: (108, undef) :: _) rfl ?_; clear hA; intro a hA
                              refine wpList_nil ?_
                              replace hA := hA.sel [0, 1, 3, 10, 12, 14, 15, 16, 109] (e' := [(0, .slice A l.length c), (1, .slice A2 l2.length c2), (3, .slice (some ⟨b33, o34, none⟩) ms.length cq), (10, .slice A46 ((ps.drop (i + 1)).length) c47), (12, .slice B2 ((psq.drop j).length) e2), (14, .pointer (some ⟨b26, 0, none⟩)), (15, .int .i64 ((i + j : Nat) : Int)), (16, .int .i64 ((i + j : Nat) : Int)), (109, .bool true)]) rfl
                              refine xt_norm ?_
                              refine cd_cond_t hA rfl ?_
                              refine wp_seq ?_
                              refine wp_region_lit ?_
                              refine st_run tbOk 1 hA (e' := (8, .bool false) :: _) rfl ?_; clear hA; intro a hA
                              refine wpList_nil ?_
                              replace hA := hA.sel [8] (e' := [(8, .bool false)]) rfl
                              refine xt_norm ?_
                              refine wp_ret (xt_ret (xb_ret (xt_ret (xt_ret (xb_ret (xt_ret ?_))))))
                              refine ret1 (fn := Try.f4) hA rfl rfl ?_
                              exfalso; omega)
                         · first
                           | (exfalso; omega)
                           | (replace hA := hA.rw 98 (v' := .bool false) rfl (vb_eq_f hc50)
                              refine st_run tbOk 9 hA (e' := (107, undef) :: (106, undef) :: (105, undef) :: (104, undef) :: (103, undef) :: (102, .bool false) :: (101, .bool false) :: (100, .bool false) :: (99, .bool false) :: _) rfl ?_; clear hA; intro a hA
                              refine st_run tbOk 2 hA (e' := (109, .bool false) :: (108, .bool false) :: _) rfl ?_; clear hA; intro a hA
                              refine wpList_nil ?_
                              replace hA := hA.sel [0, 1, 3, 10, 12, 14, 15, 16, 109] (e' := [(0, .slice A l.length c), (1, .slice A2 l2.length c2), (3, .slice (some ⟨b33, o34, none⟩) ms.length cq), (10, .slice A46 ((ps.drop (i + 1)).length) c47), (12, .slice B2 ((psq.drop j).length) e2), (14, .pointer (some ⟨b26, 0, none⟩)), (15, .int .i64 ((i + j : Nat) : Int)), (16, .int .i64 ((i + j : Nat) : Int)), (109, .bool false)]) rfl
                              refine xt_norm ?_
                              refine cd_cond_f hA rfl ?_
                              refine wp_skip ?_
                              refine xt_norm ?_
                              refine wp_region_lit ?_
                              refine st_run tbOk 2 hA (e' := (136, .int .i64 (IntKind.i64.wrap (((i + j : Nat) : Int) + 1))) :: (135, .int .i64 ((i + j : Nat) : Int)) :: _) rfl ?_; clear hA; intro a hA
                              replace hA := hA.rw 136 (v' := .int .i64 (((i + j) + 1 : Nat) : Int)) rfl (wr64 (by omega) (by omega) (by omega))
                              refine st_run tbOk 1 hA (e' := (15, .int .i64 (((i + j) + 1 : Nat) : Int)) :: _) rfl ?_; clear hA; intro a hA
                              refine wpList_nil ?_
                              replace hA := hA.sel [0, 1, 3, 10, 12, 14, 15, 16] (e' := [(0, .slice A l.length c), (1, .slice A2 l2.length c2), (3, .slice (some ⟨b33, o34, none⟩) ms.length cq), (10, .slice A46 ((ps.drop (i + 1)).length) c47), (12, .slice B2 ((psq.drop j).length) e2), (14, .pointer (some ⟨b26, 0, none⟩)), (15, .int .i64 (((i + j) + 1 : Nat) : Int)), (16, .int .i64 ((i + j : Nat) : Int))]) rfl
                              refine xb_norm ?_
                              refine xt_norm ?_
                              refine wp_region_lit ?_
                              refine st_run tbOk 2 hA (e' := (63, .int .i64 (IntKind.i64.wrap (((i + j : Nat) : Int) + 1))) :: (62, .int .i64 ((i + j : Nat) : Int)) :: _) rfl ?_; clear hA; intro a hA
                              replace hA := hA.rw 63 (v' := .int .i64 (((i + j) + 1 : Nat) : Int)) rfl (wr64 (by omega) (by omega) (by omega))
                              refine st_run tbOk 1 hA (e' := (16, .int .i64 (((i + j) + 1 : Nat) : Int)) :: _) rfl ?_; clear hA; intro a hA
                              refine wpList_nil ?_
                              replace hA := hA.sel [0, 1, 3, 10, 12, 14, 15, 16] (e' := [(0, .slice A l.length c), (1, .slice A2 l2.length c2), (3, .slice (some ⟨b33, o34, none⟩) ms.length cq), (10, .slice A46 ((ps.drop (i + 1)).length) c47), (12, .slice B2 ((psq.drop j).length) e2), (14, .pointer (some ⟨b26, 0, none⟩)), (15, .int .i64 (((i + j) + 1 : Nat) : Int)), (16, .int .i64 (((i + j) + 1 : Nat) : Int))]) rfl
                              replace hS := hS.front 5 (C := D23) (L' := L2 :: (E2 ++ D1) :: C14 :: D15 :: C22 :: F) rfl rfl
                              replace hS := hS.front 5 (C := C22) (L' := D23 :: L2 :: (E2 ++ D1) :: C14 :: D15 :: F) rfl rfl
                              replace hS := hS.front 5 (C := D15) (L' := C22 :: D23 :: L2 :: (E2 ++ D1) :: C14 :: F) rfl rfl
                              replace hS := hS.front 5 (C := C14) (L' := D15 :: C22 :: D23 :: L2 :: (E2 ++ D1) :: F) rfl rfl
                              replace hS := hS.front 5 (C := (E2 ++ D1)) (L' := C14 :: D15 :: C22 :: D23 :: L2 :: F) rfl rfl
                              replace hS := hS.front 5 (C := L2) (L' := (E2 ++ D1) :: C14 :: D15 :: C22 :: D23 :: F) rfl rfl
                              replace hA := hA.rw 16 (v' := .int .i64 (((i + 1) + j : Nat) : Int)) rfl (vint (by omega))
                              replace hA := hA.rw 15 (v' := .int .i64 (((i + 1) + j : Nat) : Int)) rfl (vint (by omega))
                              exact lp_next _ (by omega) ⟨(i + 1), j, vs', L2, (E2 ++ D1), A46, c47, B2, e2, rfl, (hA.sel [0, 1, 3, 10, 12, 14, 15, 16] rfl), hS, by omega, by omega, hst', hM2, hO48, hP2⟩)
                       · obtain ⟨A9, c9, rfl, hm9, hx9⟩ := hO9.open'
                         refine st_run tbOk 5 hA (e' := (19, .bool true) :: (18, .slice A9 l.length c9) :: (92, .bool true) :: (91, .slice A9 l.length c9) :: (85, .tuple #[.slice A9 l.length c9, .bool true]) :: _) rfl ?_; clear hA; intro a hA
                         refine wpList_nil ?_
                         replace hA := hA.sel [0, 1, 3, 10, 12, 14, 15, 16, 18, 19] (e' := [(0, .slice A l.length c), (1, .slice A2 l2.length c2), (3, .slice (some ⟨b33, o34, none⟩) ms.length cq), (10, .slice (some ⟨b43, o44, none⟩) ((ps.drop i).length) e1), (12, .slice B2 ((psq.drop j).length) e2), (14, .pointer (some ⟨b26, 0, none⟩)), (15, .int .i64 ((i + j : Nat) : Int)), (16, .int .i64 ((i + j : Nat) : Int)), (18, .slice A9 l.length c9), (19, .bool true)]) rfl
                         refine xt_norm ?_
                         refine wp_seq ?_
                         refine wp_region_lit ?_
                         refine st_run tbOk 1 hA (e' := (93, .slice (some ⟨b43, o44, none⟩) ((ps.drop i).length) e1) :: _) rfl ?_; clear hA; intro a hA
                         refine st_val hA rfl rfl (by decide) (rn_slice_l tbOk hA 1 rfl rfl rfl rfl rfl rfl (by rfl) (by omega)) ?_; clear hA; intro a hA
                         obtain ⟨A51, c52, hs54, hmc52, hxc52⟩ := (hP1.rslv encPacket_ok 1 ((ps.drop i).length) e1 (by omega) (by omega) (by omega) (Nat.le_refl _)).open'
                         have hO53 : Own 38 6 (.slice A51 (ps.drop (i + 1)).length c52) (ps.drop (i + 1)).length (rows encPacket (ps.drop (i + 1))) C14 := by have h9 := (hP1.rslv encPacket_ok 1 ((ps.drop i).length) e1 (by omega) (by omega) (by omega) (Nat.le_refl _)); rw [hs54, show ((ps.drop i).take ((ps.drop i).length)).drop 1 = ps.drop (i + 1) from by rw [List.take_length, List.drop_drop]] at h9; exact h9
                         replace hA := hA.rw 94 (v' := .slice A51 ((ps.drop (i + 1)).length) c52) rfl (by rw [hs54, show ((ps.drop i).take ((ps.drop i).length)).drop 1 = ps.drop (i + 1) from by rw [List.take_length, List.drop_drop]])
                         have hd3 : (ps.drop (i + 1)).length = ps.length - (i + 1) := List.length_drop
                         refine st_run tbOk 1 hA (e' := (10, .slice A51 ((ps.drop (i + 1)).length) c52) :: _) rfl ?_; clear hA; intro a hA
                         refine wpList_nil ?_
                         replace hA := hA.sel [0, 1, 3, 10, 12, 14, 15, 16, 18, 19] (e' := [(0, .slice A l.length c), (1, .slice A2 l2.length c2), (3, .slice (some ⟨b33, o34, none⟩) ms.length cq), (10, .slice A51 ((ps.drop (i + 1)).length) c52), (12, .slice B2 ((psq.drop j).length) e2), (14, .pointer (some ⟨b26, 0, none⟩)), (15, .int .i64 ((i + j : Nat) : Int)), (16, .int .i64 ((i + j : Nat) : Int)), (18, .slice A9 l.length c9), (19, .bool true)]) rfl
                         refine xt_norm ?_
                         refine wp_seq ?_
                         refine wp_region_lit ?_
                         refine st_run tbOk 4 hA (e' := (98, .bool ((((ps.drop (i + 1)).length : Nat) : Int) == 0)) :: (97, .int .i64 (((ps.drop (i + 1)).length : Nat) : Int)) :: (96, .slice A51 ((ps.drop (i + 1)).length) c52) :: (95, .bool true) :: _) rfl ?_; clear hA; intro a hA
                         by_cases hc55 : (((ps.drop (i + 1)).length : Nat) : Int) = 0
                         · first
                           | (exfalso; omega)
                           | (replace hA := hA.rw 98 (v' := .bool true) rfl (vb_eq_t hc55)
                              refine st_run tbOk 5 hA (e' := (103, .slice A9 l.length c9) :: (102, .bool true) :: (101, .bool true) :: (100, .bool false) :: (99, .bool false) :: _) rfl ?_; clear hA; intro a hA
                              refine st_val hA rfl rfl (by decide) (rn_bstr tbOk hA (bs := l) rfl rfl rfl rfl rfl rfl rfl rfl (hO9.rd (hS.own_ 2 rfl)).x) ?_; clear hA; intro a hA
                              refine st_run tbOk 1 hA (e' := (105, .slice A l.length c) :: _) rfl ?_; clear hA; intro a hA
                              refine st_val hA rfl rfl (by decide) (rn_bstr tbOk hA (bs := l) rfl rfl rfl rfl rfl rfl rfl rfl (hr _ (hS.tail 7 rfl)).x) ?_; clear hA; intro a hA
                              refine st_run tbOk 1 hA (e' := (107, .bool (!((bsv l).toList == (bsv l).toList))) :: _) rfl ?_; clear hA; intro a hA
                              replace hA := hA.rw 107 (v' := .bool false) rfl (congrArg Value.bool (by simp))
                              refine st_run tbOk 2 hA (e' := (109, .bool false) :: (108, .bool false) :: _) rfl ?_; clear hA; intro a hA
                              refine wpList_nil ?_
                              replace hA := hA.sel [0, 1, 3, 10, 12, 14, 15, 16, 109] (e' := [(0, .slice A l.length c), (1, .slice A2 l2.length c2), (3, .slice (some ⟨b33, o34, none⟩) ms.length cq), (10, .slice A51 ((ps.drop (i + 1)).length) c52), (12, .slice B2 ((psq.drop j).length) e2), (14, .pointer (some ⟨b26, 0, none⟩)), (15, .int .i64 ((i + j : Nat) : Int)), (16, .int .i64 ((i + j : Nat) : Int)), (109, .bool false)]) rfl
                              refine xt_norm ?_
                              refine cd_cond_f hA rfl ?_
                              refine wp_skip ?_
                              refine xt_norm ?_
                              refine wp_region_lit ?_
                              refine st_run tbOk 2 hA (e' := (136, .int .i64 (IntKind.i64.wrap (((i + j : Nat) : Int) + 1))) :: (135, .int .i64 ((i + j : Nat) : Int)) :: _) rfl ?_; clear hA; intro a hA
                              replace hA := hA.rw 136 (v' := .int .i64 (((i + j) + 1 : Nat) : Int)) rfl (wr64 (by omega) (by omega) (by omega))
                              refine st_run tbOk 1 hA (e' := (15, .int .i64 (((i + j) + 1 : Nat) : Int)) :: _) rfl ?_; clear hA; intro a hA
                              refine wpList_nil ?_
                              replace hA := hA.sel [0, 1, 3, 10, 12, 14, 15, 16] (e' := [(0, .slice A l.length c), (1, .slice A2 l2.length c2), (3, .slice (some ⟨b33, o34, none⟩) ms.length cq), (10, .slice A51 ((ps.drop (i + 1)).length) c52), (12, .slice B2 ((psq.drop j).length) e2), (14, .pointer (some ⟨b26, 0, none⟩)), (15, .int .i64 (((i + j) + 1 : Nat) : Int)), (16, .int .i64 ((i + j : Nat) : Int))]) rfl
                              refine xb_norm ?_
                              refine xt_norm ?_
                              refine wp_region_lit ?_
                              refine st_run tbOk 2 hA (e' := (63, .int .i64 (IntKind.i64.wrap (((i + j : Nat) : Int) + 1))) :: (62, .int .i64 ((i + j : Nat) : Int)) :: _) rfl ?_; clear hA; intro a hA
                              replace hA := hA.rw 63 (v' := .int .i64 (((i + j) + 1 : Nat) : Int)) rfl (wr64 (by omega) (by omega) (by omega))
                              refine st_run tbOk 1 hA (e' := (16, .int .i64 (((i + j) + 1 : Nat) : Int)) :: _) rfl ?_; clear hA; intro a hA
                              refine wpList_nil ?_
                              replace hA := hA.sel [0, 1, 3, 10, 12, 14, 15, 16] (e' := [(0, .slice A l.length c), (1, .slice A2 l2.length c2), (3, .slice (some ⟨b33, o34, none⟩) ms.length cq), (10, .slice A51 ((ps.drop (i + 1)).length) c52), (12, .slice B2 ((psq.drop j).length) e2), (14, .pointer (some ⟨b26, 0, none⟩)), (15, .int .i64 (((i + j) + 1 : Nat) : Int)), (16, .int .i64 (((i + j) + 1 : Nat) : Int))]) rfl
                              replace hS := hS.front 2 (C := C9) (L' := L2 :: (E2 ++ D1) :: C14 :: D15 :: C22 :: D23 :: F) rfl rfl
                              replace hS := hS.drop1
                              replace hS := hS.front 5 (C := D23) (L' := L2 :: (E2 ++ D1) :: C14 :: D15 :: C22 :: F) rfl rfl
                              replace hS := hS.front 5 (C := C22) (L' := D23 :: L2 :: (E2 ++ D1) :: C14 :: D15 :: F) rfl rfl
                              replace hS := hS.front 5 (C := D15) (L' := C22 :: D23 :: L2 :: (E2 ++ D1) :: C14 :: F) rfl rfl
                              replace hS := hS.front 5 (C := C14) (L' := D15 :: C22 :: D23 :: L2 :: (E2 ++ D1) :: F) rfl rfl
                              replace hS := hS.front 5 (C := (E2 ++ D1)) (L' := C14 :: D15 :: C22 :: D23 :: L2 :: F) rfl rfl
                              replace hS := hS.front 5 (C := L2) (L' := (E2 ++ D1) :: C14 :: D15 :: C22 :: D23 :: F) rfl rfl
                              replace hA := hA.rw 16 (v' := .int .i64 (((i + 1) + j : Nat) : Int)) rfl (vint (by omega))
                              replace hA := hA.rw 15 (v' := .int .i64 (((i + 1) + j : Nat) : Int)) rfl (vint (by omega))
                              exact lp_next _ (by omega) ⟨(i + 1), j, vs', L2, (E2 ++ D1), A51, c52, B2, e2, rfl, (hA.sel [0, 1, 3, 10, 12, 14, 15, 16] rfl), hS, by omega, by omega, hst', hM2, hO53, hP2⟩)
                         · first
                           | (exfalso; omega)
                           | (replace hA := hA.rw 98 (v' := .bool false) rfl (vb_eq_f hc55)
                              refine st_run tbOk 9 hA (e' := (107, undef) :: (106, undef) :: (105, undef) :: (104, undef) :: (103, undef) :: (102, undef) :: (101, undef) :: (100, .bool true) :: (99, .bool true) :: _) rfl ?_; clear hA; intro a hA
                              refine st_run tbOk 2 hA (e' := (109, .bool true) :: (108, undef) :: _) rfl ?_; clear hA; intro a hA
                              refine wpList_nil ?_
                              replace hA := hA.sel [0, 1, 3, 10, 12, 14, 15, 16, 109] (e' := [(0, .slice A l.length c), (1, .slice A2 l2.length c2), (3, .slice (some ⟨b33, o34, none⟩) ms.length cq), (10, .slice A51 ((ps.drop (i + 1)).length) c52), (12, .slice B2 ((psq.drop j).length) e2), (14, .pointer (some ⟨b26, 0, none⟩)), (15, .int .i64 ((i + j : Nat) : Int)), (16, .int .i64 ((i + j : Nat) : Int)), (109, .bool true)]) rfl
                              refine xt_norm ?_
                              refine cd_cond_t hA rfl ?_
                              refine wp_seq ?_
                              refine wp_region_lit ?_
                              refine st_run tbOk 1 hA (e' := (8, .bool false) :: _) rfl ?_; clear hA; intro a hA
                              refine wpList_nil ?_
                              replace hA := hA.sel [8] (e' := [(8, .bool false)]) rfl
                              refine xt_norm ?_
                              refine wp_ret (xt_ret (xb_ret (xt_ret (xt_ret (xb_ret (xt_ret ?_))))))
                              refine ret1 (fn := Try.f4) hA rfl rfl ?_
                              exfalso; omega))
                  · first
                    | (exfalso; omega)
                    | (replace hA := hA.rw 84 (v' := .bool false) rfl (vb_f hc39)
                       refine cd_cond_f hA rfl ?_
                       refine wp_seq ?_
                       refine wp_region_lit ?_
                       have hpos : 0 < (psq.drop j).length := hg.2 (by first | assumption | exact Bool.eq_false_iff.2 (by assumption))
                       obtain ⟨y56, hy56⟩ := get_ex (l := psq) (k := j) (by omega)
                       obtain ⟨B57, d58, rfl⟩ := hpkq j y56 hy56
                       have hdy56 := hddq _ (List.mem_of_getElem? hy56)
                       have hpcy56 := piece_le l2 s j
                       refine st_run tbOk 2 hA (e' := (112, .slice B2 ((psq.drop j).length) e2) :: (111, .pointer (some ⟨b26, 0, none⟩)) :: _) rfl ?_; clear hA; intro a hA
                       obtain ⟨b59, o60, rfl⟩ := hP2.isSome (k := 0) (by omega)
                       refine st_val hA rfl rfl (by decide) (rn_indexAddr tbOk hA 0 o60 rfl rfl rfl rfl rfl rfl (by rfl) (by omega) (by first | rfl | simp [Nat.mul_one, Nat.zero_add] | omega)) ?_; clear hA; intro a hA
                       refine st_val hA rfl rfl (by decide) (rn_loadA tbOk hA ([.int .i64 0, .int .i64 1, .int .u64 6, .int .i64 ((j : Nat) : Int), .int .i64 ((nP l2 s : Nat) : Int), .slice B57 ((piece l2 s j).length) d58]) rfl rfl rfl rfl (by rfl) ((hP2.rd (hS.own_ 4 rfl)).elem (k := 0) encPacket_ok (show (psq.drop j)[0]? = some (0, 1, 6, ((j : Nat) : Int), ((nP l2 s : Nat) : Int), B57, d58, piece l2 s j) from by rw [List.getElem?_drop, Nat.add_zero]; exact hy56))) ?_; clear hA; intro a hA
                       replace hS := hS.front 1 (C := D1) (L' := L1 :: C14 :: D15 :: C22 :: D23 :: F) rfl rfl
                       replace hS := hS.front 1 (C := L1) (L' := D1 :: C14 :: D15 :: C22 :: D23 :: F) rfl rfl
                       refine st_call0 hA rfl rfl rfl isfn9 rfl rfl (by decide) (addST hS hM1 (by decide) hst.swap (fun w' h => (hdy56 _ (h.only 4 rfl))) (by omega) (by omega) (by omega) (by omega)) ?_
                       clear hA hS; rintro v9 w61 a ⟨vs', L2, E2, hst', hM2, hres⟩ hA
                       rcases hres with ⟨hn, rfl, hS⟩ | ⟨hn, C9, v1, hO9, rfl, hS⟩
                       · refine st_run tbOk 5 hA (e' := (21, .bool false) :: (20, .slice none 0 0) :: (117, .bool false) :: (116, .slice none 0 0) :: (110, .tuple #[.slice none 0 0, .bool false]) :: _) rfl ?_; clear hA; intro a hA
                         refine wpList_nil ?_
                         replace hA := hA.sel [0, 1, 3, 10, 12, 14, 15, 16, 20, 21] (e' := [(0, .slice A l.length c), (1, .slice A2 l2.length c2), (3, .slice (some ⟨b33, o34, none⟩) ms.length cq), (10, .slice B1 ((ps.drop i).length) e1), (12, .slice (some ⟨b59, o60, none⟩) ((psq.drop j).length) e2), (14, .pointer (some ⟨b26, 0, none⟩)), (15, .int .i64 ((i + j : Nat) : Int)), (16, .int .i64 ((i + j : Nat) : Int)), (20, .slice none 0 0), (21, .bool false)]) rfl
                         refine xt_norm ?_
                         refine wp_seq ?_
                         refine wp_region_lit ?_
                         refine st_run tbOk 1 hA (e' := (118, .slice (some ⟨b59, o60, none⟩) ((psq.drop j).length) e2) :: _) rfl ?_; clear hA; intro a hA
                         refine st_val hA rfl rfl (by decide) (rn_slice_l tbOk hA 1 rfl rfl rfl rfl rfl rfl (by rfl) (by omega)) ?_; clear hA; intro a hA
                         obtain ⟨A62, c63, hs65, hmc63, hxc63⟩ := (hP2.rslv encPacket_ok 1 ((psq.drop j).length) e2 (by omega) (by omega) (by omega) (Nat.le_refl _)).open'
                         have hO64 : Own 38 6 (.slice A62 (psq.drop (j + 1)).length c63) (psq.drop (j + 1)).length (rows encPacket (psq.drop (j + 1))) C22 := by have h9 := (hP2.rslv encPacket_ok 1 ((psq.drop j).length) e2 (by omega) (by omega) (by omega) (Nat.le_refl _)); rw [hs65, show ((psq.drop j).take ((psq.drop j).length)).drop 1 = psq.drop (j + 1) from by rw [List.take_length, List.drop_drop]] at h9; exact h9
                         replace hA := hA.rw 119 (v' := .slice A62 ((psq.drop (j + 1)).length) c63) rfl (by rw [hs65, show ((psq.drop j).take ((psq.drop j).length)).drop 1 = psq.drop (j + 1) from by rw [List.take_length, List.drop_drop]])
                         have hd3 : (psq.drop (j + 1)).length = psq.length - (j + 1) := List.length_drop
                         refine st_run tbOk 1 hA (e' := (12, .slice A62 ((psq.drop (j + 1)).length) c63) :: _) rfl ?_; clear hA; intro a hA
                         refine wpList_nil ?_
                         replace hA := hA.sel [0, 1, 3, 10, 12, 14, 15, 16, 20, 21] (e' := [(0, .slice A l.length c), (1, .slice A2 l2.length c2), (3, .slice (some ⟨b33, o34, none⟩) ms.length cq), (10, .slice B1 ((ps.drop i).length) e1), (12, .slice A62 ((psq.drop (j + 1)).length) c63), (14, .pointer (some ⟨b26, 0, none⟩)), (15, .int .i64 ((i + j : Nat) : Int)), (16, .int .i64 ((i + j : Nat) : Int)), (20, .slice none 0 0), (21, .bool false)]) rfl
                         refine xt_norm ?_
                         refine wp_seq ?_
                         refine wp_region_lit ?_
                         refine st_run tbOk 4 hA (e' := (123, .bool ((((psq.drop (j + 1)).length : Nat) : Int) == 0)) :: (122, .int .i64 (((psq.drop (j + 1)).length : Nat) : Int)) :: (121, .slice A62 ((psq.drop (j + 1)).length) c63) :: (120, .bool false) :: _) rfl ?_; clear hA; intro a hA
                         by_cases hc66 : (((psq.drop (j + 1)).length : Nat) : Int) = 0
                         · first
                           | (exfalso; omega)
                           | (replace hA := hA.rw 123 (v' := .bool true) rfl (vb_eq_t hc66)
                              refine st_run tbOk 9 hA (e' := (132, undef) :: (131, undef) :: (130, undef) :: (129, undef) :: (128, undef) :: (127, undef) :: (126, undef) :: (125, .bool true) :: (124, .bool true) :: _) rfl ?_; clear hA; intro a hA
                              refine st_run tbOk 2 hA (e' := (134, .bool true) :: (133, undef) :: _) rfl ?_; clear hA; intro a hA
                              refine wpList_nil ?_
                              replace hA := hA.sel [0, 1, 3, 10, 12, 14, 15, 16, 134] (e' := [(0, .slice A l.length c), (1, .slice A2 l2.length c2), (3, .slice (some ⟨b33, o34, none⟩) ms.length cq), (10, .slice B1 ((ps.drop i).length) e1), (12, .slice A62 ((psq.drop (j + 1)).length) c63), (14, .pointer (some ⟨b26, 0, none⟩)), (15, .int .i64 ((i + j : Nat) : Int)), (16, .int .i64 ((i + j : Nat) : Int)), (134, .bool true)]) rfl
                              refine xt_norm ?_
                              refine cd_cond_t hA rfl ?_
                              refine wp_seq ?_
                              refine wp_region_lit ?_
                              refine st_run tbOk 1 hA (e' := (8, .bool false) :: _) rfl ?_; clear hA; intro a hA
                              refine wpList_nil ?_
                              replace hA := hA.sel [8] (e' := [(8, .bool false)]) rfl
                              refine xt_norm ?_
                              refine wp_ret (xt_ret (xb_ret (xt_ret (xt_ret (xb_ret (xt_ret ?_))))))
                              refine ret1 (fn := Try.f4) hA rfl rfl ?_
                              exfalso; omega)
                         · first
                           | (exfalso; omega)
                           | (replace hA := hA.rw 123 (v' := .bool false) rfl (vb_eq_f hc66)
                              refine st_run tbOk 9 hA (e' := (132, undef) :: (131, undef) :: (130, undef) :: (129, undef) :: (128, undef) :: (127, .bool false) :: (126, .bool false) :: (125, .bool false) :: (124, .bool false) :: _) rfl ?_; clear hA; intro a hA
                              refine st_run tbOk 2 hA (e' := (134, .bool false) :: (133, .bool false) :: _) rfl ?_; clear hA; intro a hA
                              refine wpList_nil ?_
                              replace hA := hA.sel [0, 1, 3, 10, 12, 14, 15, 16, 134] (e' := [(0, .slice A l.length c), (1, .slice A2 l2.length c2), (3, .slice (some ⟨b33, o34, none⟩) ms.length cq), (10, .slice B1 ((ps.drop i).length) e1), (12, .slice A62 ((psq.drop (j + 1)).length) c63), (14, .pointer (some ⟨b26, 0, none⟩)), (15, .int .i64 ((i + j : Nat) : Int)), (16, .int .i64 ((i + j : Nat) : Int)), (134, .bool false)]) rfl
                              refine xt_norm ?_
                              refine cd_cond_f hA rfl ?_
                              refine wp_skip ?_
                              refine xt_norm ?_
                              refine wp_region_lit ?_
                              refine st_run tbOk 2 hA (e' := (136, .int .i64 (IntKind.i64.wrap (((i + j : Nat) : Int) + 1))) :: (135, .int .i64 ((i + j : Nat) : Int)) :: _) rfl ?_; clear hA; intro a hA
                              replace hA := hA.rw 136 (v' := .int .i64 (((i + j) + 1 : Nat) : Int)) rfl (wr64 (by omega) (by omega) (by omega))
                              refine st_run tbOk 1 hA (e' := (15, .int .i64 (((i + j) + 1 : Nat) : Int)) :: _) rfl ?_; clear hA; intro a hA
                              refine wpList_nil ?_
                              replace hA := hA.sel [0, 1, 3, 10, 12, 14, 15, 16] (e' := [(0, .slice A l.length c), (1, .slice A2 l2.length c2), (3, .slice (some ⟨b33, o34, none⟩) ms.length cq), (10, .slice B1 ((ps.drop i).length) e1), (12, .slice A62 ((psq.drop (j + 1)).length) c63), (14, .pointer (some ⟨b26, 0, none⟩)), (15, .int .i64 (((i + j) + 1 : Nat) : Int)), (16, .int .i64 ((i + j : Nat) : Int))]) rfl
                              refine xb_norm ?_
                              refine xt_norm ?_
                              refine wp_region_lit ?_
                              refine st_run tbOk 2 hA (e' := (63, .int .i64 (IntKind.i64.wrap (((i + j : Nat) : Int) + 1))) :: (62, .int .i64 ((i + j : Nat) : Int)) :: _) rfl ?_; clear hA; intro a hA
                              replace hA := hA.rw 63 (v' := .int .i64 (((i + j) + 1 : Nat) : Int)) rfl (wr64 (by omega) (by omega) (by omega))
                              refine st_run tbOk 1 hA (e' := (16, .int .i64 (((i + j) + 1 : Nat) : Int)) :: _) rfl ?_; clear hA; intro a hA
                              refine wpList_nil ?_
                              replace hA := hA.sel [0, 1, 3, 10, 12, 14, 15, 16] (e' := [(0, .slice A l.length c), (1, .slice A2 l2.length c2), (3, .slice (some ⟨b33, o34, none⟩) ms.length cq), (10, .slice B1 ((ps.drop i).length) e1), (12, .slice A62 ((psq.drop (j + 1)).length) c63), (14, .pointer (some ⟨b26, 0, none⟩)), (15, .int .i64 (((i + j) + 1 : Nat) : Int)), (16, .int .i64 (((i + j) + 1 : Nat) : Int))]) rfl
                              replace hS := hS.front 5 (C := D23) (L' := L2 :: (E2 ++ D1) :: C14 :: D15 :: C22 :: F) rfl rfl
                              replace hS := hS.front 5 (C := C22) (L' := D23 :: L2 :: (E2 ++ D1) :: C14 :: D15 :: F) rfl rfl
                              replace hS := hS.front 5 (C := D15) (L' := C22 :: D23 :: L2 :: (E2 ++ D1) :: C14 :: F) rfl rfl
                              replace hS := hS.front 5 (C := C14) (L' := D15 :: C22 :: D23 :: L2 :: (E2 ++ D1) :: F) rfl rfl
                              replace hS := hS.front 5 (C := (E2 ++ D1)) (L' := C14 :: D15 :: C22 :: D23 :: L2 :: F) rfl rfl
                              replace hS := hS.front 5 (C := L2) (L' := (E2 ++ D1) :: C14 :: D15 :: C22 :: D23 :: F) rfl rfl
                              replace hA := hA.rw 16 (v' := .int .i64 ((i + (j + 1) : Nat) : Int)) rfl (vint (by omega))
                              replace hA := hA.rw 15 (v' := .int .i64 ((i + (j + 1) : Nat) : Int)) rfl (vint (by omega))
                              exact lp_next _ (by omega) ⟨i, (j + 1), vs', L2, (E2 ++ D1), B1, e1, A62, c63, rfl, (hA.sel [0, 1, 3, 10, 12, 14, 15, 16] rfl), hS, by omega, by omega, hst'.swap, hM2, hP1, hO64⟩)
                       · obtain ⟨A9, c9, rfl, hm9, hx9⟩ := hO9.open'
                         refine st_run tbOk 5 hA (e' := (21, .bool true) :: (20, .slice A9 l2.length c9) :: (117, .bool true) :: (116, .slice A9 l2.length c9) :: (110, .tuple #[.slice A9 l2.length c9, .bool true]) :: _) rfl ?_; clear hA; intro a hA
                         refine wpList_nil ?_
                         replace hA := hA.sel [0, 1, 3, 10, 12, 14, 15, 16, 20, 21] (e' := [(0, .slice A l.length c), (1, .slice A2 l2.length c2), (3, .slice (some ⟨b33, o34, none⟩) ms.length cq), (10, .slice B1 ((ps.drop i).length) e1), (12, .slice (some ⟨b59, o60, none⟩) ((psq.drop j).length) e2), (14, .pointer (some ⟨b26, 0, none⟩)), (15, .int .i64 ((i + j : Nat) : Int)), (16, .int .i64 ((i + j : Nat) : Int)), (20, .slice A9 l2.length c9), (21, .bool true)]) rfl
                         refine xt_norm ?_
                         refine wp_seq ?_
                         refine wp_region_lit ?_
                         refine st_run tbOk 1 hA (e' := (118, .slice (some ⟨b59, o60, none⟩) ((psq.drop j).length) e2) :: _) rfl ?_; clear hA; intro a hA
                         refine st_val hA rfl rfl (by decide) (rn_slice_l tbOk hA 1 rfl rfl rfl rfl rfl rfl (by rfl) (by omega)) ?_; clear hA; intro a hA
                         obtain ⟨A67, c68, hs70, hmc68, hxc68⟩ := (hP2.rslv encPacket_ok 1 ((psq.drop j).length) e2 (by omega) (by omega) (by omega) (Nat.le_refl _)).open'
                         have hO69 : Own 38 6 (.slice A67 (psq.drop (j + 1)).length c68) (psq.drop (j + 1)).length (rows encPacket (psq.drop (j + 1))) C22 := by have h9 := (hP2.rslv encPacket_ok 1 ((psq.drop j).length) e2 (by omega) (by omega) (by omega) (Nat.le_refl _)); rw [hs70, show ((psq.drop j).take ((psq.drop j).length)).drop 1 = psq.drop (j + 1) from by rw [List.take_length, List.drop_drop]] at h9; exact h9
                         replace hA := hA.rw 119 (v' := .slice A67 ((psq.drop (j + 1)).length) c68) rfl (by rw [hs70, show ((psq.drop j).take ((psq.drop j).length)).drop 1 = psq.drop (j + 1) from by rw [List.take_length, List.drop_drop]])
                         have hd3 : (psq.drop (j + 1)).length = psq.length - (j + 1) := List.length_drop
                         refine st_run tbOk 1 hA (e' := (12, .slice A67 ((psq.drop (j + 1)).length) c68) :: _) rfl ?_; clear hA; intro a hA
                         refine wpList_nil ?_
                         replace hA := hA.sel [0, 1, 3, 10, 12, 14, 15, 16, 20, 21] (e' := [(0, .slice A l.length c), (1, .slice A2 l2.length c2), (3, .slice (some ⟨b33, o34, none⟩) ms.length cq), (10, .slice B1 ((ps.drop i).length) e1), (12, .slice A67 ((psq.drop (j + 1)).length) c68), (14, .pointer (some ⟨b26, 0, none⟩)), (15, .int .i64 ((i + j : Nat) : Int)), (16, .int .i64 ((i + j : Nat) : Int)), (20, .slice A9 l2.length c9), (21, .bool true)]) rfl
                         refine xt_norm ?_
                         refine wp_seq ?_
                         refine wp_region_lit ?_
                         refine st_run tbOk 4 hA (e' := (123, .bool ((((psq.drop (j + 1)).length : Nat) : Int) == 0)) :: (122, .int .i64 (((psq.drop (j + 1)).length : Nat) : Int)) :: (121, .slice A67 ((psq.drop (j + 1)).length) c68) :: (120, .bool true) :: _) rfl ?_; clear hA; intro a hA
                         by_cases hc71 : (((psq.drop (j + 1)).length : Nat) : Int) = 0
                         · first
                           | (exfalso; omega)
                           | (replace hA := hA.rw 123 (v' := .bool true) rfl (vb_eq_t hc71)
                              refine st_run tbOk 5 hA (e' := (128, .slice A9 l2.length c9) :: (127, .bool true) :: (126, .bool true) :: (125, .bool false) :: (124, .bool false) :: _) rfl ?_; clear hA; intro a hA
                              refine st_val hA rfl rfl (by decide) (rn_bstr tbOk hA (bs := l2) rfl rfl rfl rfl rfl rfl rfl rfl (hO9.rd (hS.own_ 2 rfl)).x) ?_; clear hA; intro a hA
                              refine st_run tbOk 1 hA (e' := (130, .slice A2 l2.length c2) :: _) rfl ?_; clear hA; intro a hA
                              refine st_val hA rfl rfl (by decide) (rn_bstr tbOk hA (bs := l2) rfl rfl rfl rfl rfl rfl rfl rfl (hr2 _ (hS.tail 7 rfl)).x) ?_; clear hA; intro a hA
                              refine st_run tbOk 1 hA (e' := (132, .bool (!((bsv l2).toList == (bsv l2).toList))) :: _) rfl ?_; clear hA; intro a hA
                              replace hA := hA.rw 132 (v' := .bool false) rfl (congrArg Value.bool (by simp))
                              refine st_run tbOk 2 hA (e' := (134, .bool false) :: (133, .bool false) :: _) rfl ?_; clear hA; intro a hA
                              refine wpList_nil ?_
                              replace hA := hA.sel [0, 1, 3, 10, 12, 14, 15, 16, 134] (e' := [(0, .slice A l.length c), (1, .slice A2 l2.length c2), (3, .slice (some ⟨b33, o34, none⟩) ms.length cq), (10, .slice B1 ((ps.drop i).length) e1), (12, .slice A67 ((psq.drop (j + 1)).length) c68), (14, .pointer (some ⟨b26, 0, none⟩)), (15, .int .i64 ((i + j : Nat) : Int)), (16, .int .i64 ((i + j : Nat) : Int)), (134, .bool false)]) rfl
                              refine xt_norm ?_
                              refine cd_cond_f hA rfl ?_
                              refine wp_skip ?_
                              refine xt_norm ?_
                              refine wp_region_lit ?_
                              refine st_run tbOk 2 hA (e' := (136, .int .i64 (IntKind.i64.wrap (((i + j : Nat) : Int) + 1))) :: (135, .int .i64 ((i + j : Nat) : Int)) :: _) rfl ?_; clear hA; intro a hA
                              replace hA := hA.rw 136 (v' := .int .i64 (((i + j) + 1 : Nat) : Int)) rfl (wr64 (by omega) (by omega) (by omega))
                              refine st_run tbOk 1 hA (e' := (15, .int .i64 (((i + j) + 1 : Nat) : Int)) :: _) rfl ?_; clear hA; intro a hA
                              refine wpList_nil ?_
                              replace hA := hA.sel [0, 1, 3, 10, 12, 14, 15, 16] (e' := [(0, .slice A l.length c), (1, .slice A2 l2.length c2), (3, .slice (some ⟨b33, o34, none⟩) ms.length cq), (10, .slice B1 ((ps.drop i).length) e1), (12, .slice A67 ((psq.drop (j + 1)).length) c68), (14, .pointer (some ⟨b26, 0, none⟩)), (15, .int .i64 (((i + j) + 1 : Nat) : Int)), (16, .int .i64 ((i + j : Nat) : Int))]) rfl
                              refine xb_norm ?_
                              refine xt_norm ?_
                              refine wp_region_lit ?_
                              refine st_run tbOk 2 hA (e' := (63, .int .i64 (IntKind.i64.wrap (((i + j : Nat) : Int) + 1))) :: (62, .int .i64 ((i + j : Nat) : Int)) :: _) rfl ?_; clear hA; intro a hA
                              replace hA := hA.rw 63 (v' := .int .i64 (((i + j) + 1 : Nat) : Int)) rfl (wr64 (by omega) (by omega) (by omega))
                              refine st_run tbOk 1 hA (e' := (16, .int .i64 (((i + j) + 1 : Nat) : Int)) :: _) rfl ?_; clear hA; intro a hA
                              refine wpList_nil ?_
                              replace hA := hA.sel [0, 1, 3, 10, 12, 14, 15, 16] (e' := [(0, .slice A l.length c), (1, .slice A2 l2.length c2), (3, .slice (some ⟨b33, o34, none⟩) ms.length cq), (10, .slice B1 ((ps.drop i).length) e1), (12, .slice A67 ((psq.drop (j + 1)).length) c68), (14, .pointer (some ⟨b26, 0, none⟩)), (15, .int .i64 (((i + j) + 1 : Nat) : Int)), (16, .int .i64 (((i + j) + 1 : Nat) : Int))]) rfl
                              replace hS := hS.front 2 (C := C9) (L' := L2 :: (E2 ++ D1) :: C14 :: D15 :: C22 :: D23 :: F) rfl rfl
                              replace hS := hS.drop1
                              replace hS := hS.front 5 (C := D23) (L' := L2 :: (E2 ++ D1) :: C14 :: D15 :: C22 :: F) rfl rfl
                              replace hS := hS.front 5 (C := C22) (L' := D23 :: L2 :: (E2 ++ D1) :: C14 :: D15 :: F) rfl rfl
                              replace hS := hS.front 5 (C := D15) (L' := C22 :: D23 :: L2 :: (E2 ++ D1) :: C14 :: F) rfl rfl
                              replace hS := hS.front 5 (C := C14) (L' := D15 :: C22 :: D23 :: L2 :: (E2 ++ D1) :: F) rfl rfl
                              replace hS := hS.front 5 (C := (E2 ++ D1)) (L' := C14 :: D15 :: C22 :: D23 :: L2 :: F) rfl rfl
                              replace hS := hS.front 5 (C := L2) (L' := (E2 ++ D1) :: C14 :: D15 :: C22 :: D23 :: F) rfl rfl
                              replace hA := hA.rw 16 (v' := .int .i64 ((i + (j + 1) : Nat) : Int)) rfl (vint (by omega))
                              replace hA := hA.rw 15 (v' := .int .i64 ((i + (j + 1) : Nat) : Int)) rfl (vint (by omega))
                              exact lp_next _ (by omega) ⟨i, (j + 1), vs', L2, (E2 ++ D1), B1, e1, A67, c68, rfl, (hA.sel [0, 1, 3, 10, 12, 14, 15, 16] rfl), hS, by omega, by omega, hst'.swap, hM2, hP1, hO69⟩)
                         · first
                           | (exfalso; omega)
                           | (replace hA := hA.rw 123 (v' := .bool false) rfl (vb_eq_f hc71)
                              refine st_run tbOk 9 hA (e' := (132, undef) :: (131, undef) :: (130, undef) :: (129, undef) :: (128, undef) :: (127, undef) :: (126, undef) :: (125, .bool true) :: (124, .bool true) :: _) rfl ?_; clear hA; intro a hA
                              refine st_run tbOk 2 hA (e' := (134, .bool true) :: (133, undef) :: _) rfl ?_; clear hA; intro a hA
                              refine wpList_nil ?_
                              replace hA := hA.sel [0, 1, 3, 10, 12, 14, 15, 16, 134] (e' := [(0, .slice A l.length c), (1, .slice A2 l2.length c2), (3, .slice (some ⟨b33, o34, none⟩) ms.length cq), (10, .slice B1 ((ps.drop i).length) e1), (12, .slice A67 ((psq.drop (j + 1)).length) c68), (14, .pointer (some ⟨b26, 0, none⟩)), (15, .int .i64 ((i + j : Nat) : Int)), (16, .int .i64 ((i + j : Nat) : Int)), (134, .bool true)]) rfl
                              refine xt_norm ?_
                              refine cd_cond_t hA rfl ?_
                              refine wp_seq ?_
                              refine wp_region_lit ?_
                              refine st_run tbOk 1 hA (e' := (8, .bool false) :: _) rfl ?_; clear hA; intro a hA
                              refine wpList_nil ?_
                              replace hA := hA.sel [8] (e' := [(8, .bool false)]) rfl
                              refine xt_norm ?_
                              refine wp_ret (xt_ret (xb_ret (xt_ret (xt_ret (xb_ret (xt_ret ?_))))))
                              refine ret1 (fn := Try.f4) hA rfl rfl ?_
                              exfalso; omega)))
           · first
             | (exfalso; omega)
             | (replace hA := hA.rw 67 (v' := .bool false) rfl (vb_false hc32)
                replace hA := hA.rw 68 (v' := .bool false) rfl (vb_false hc32)
                refine st_run tbOk 6 hA (e' := (17, .bool false) :: (73, .bool false) :: (72, undef) :: (71, undef) :: (70, undef) :: (69, undef) :: _) rfl ?_; clear hA; intro a hA
                refine wpList_nil ?_
                replace hA := hA.sel [0, 1, 3, 10, 12, 14, 15, 16, 17] (e' := [(0, .slice A l.length c), (1, .slice A2 l2.length c2), (3, .slice Aq ms.length cq), (10, .slice B1 ((ps.drop i).length) e1), (12, .slice B2 ((psq.drop j).length) e2), (14, .pointer (some ⟨b26, 0, none⟩)), (15, .int .i64 ((i + j : Nat) : Int)), (16, .int .i64 ((i + j : Nat) : Int)), (17, .bool false)]) rfl
                refine xt_norm ?_
                refine wp_seq ?_
                refine wp_seq_join (fun a w => ∃ (g : Bool), Has a 144 [(0, .slice A l.length c), (1, .slice A2 l2.length c2), (3, .slice Aq ms.length cq), (10, .slice B1 ((ps.drop i).length) e1), (12, .slice B2 ((psq.drop j).length) e2), (14, .pointer (some ⟨b26, 0, none⟩)), (15, .int .i64 ((i + j : Nat) : Int)), (16, .int .i64 ((i + j : Nat) : Int)), (84, .bool g)] ∧ St w0 w (L1 :: D1 :: C14 :: D15 :: C22 :: D23 :: F) ∧ ((g = true → 0 < (ps.drop i).length) ∧ (g = false → 0 < (psq.drop j).length))) ?_ ?_
                · refine wp_region_lit ?_
                  refine st_run tbOk 4 hA (e' := (77, .bool ((((psq.drop j).length : Nat) : Int) == 0)) :: (76, .bool ((((psq.drop j).length : Nat) : Int) == 0)) :: (75, .int .i64 (((psq.drop j).length : Nat) : Int)) :: (74, .slice B2 ((psq.drop j).length) e2) :: _) rfl ?_; clear hA; intro a hA
                  by_cases hc72 : (((psq.drop j).length : Nat) : Int) = 0
                  · first
                    | (exfalso; omega)
                    | (replace hA := hA.rw 76 (v' := .bool true) rfl (vb_eq_t hc72)
                       replace hA := hA.rw 77 (v' := .bool true) rfl (vb_eq_t hc72)
                       refine st_run tbOk 7 hA (e' := (84, .bool true) :: (83, undef) :: (82, undef) :: (81, undef) :: (80, undef) :: (79, undef) :: (78, undef) :: _) rfl ?_; clear hA; intro a hA
                       refine wpList_nil ?_
                       replace hA := hA.sel [0, 1, 3, 10, 12, 14, 15, 16, 84] (e' := [(0, .slice A l.length c), (1, .slice A2 l2.length c2), (3, .slice Aq ms.length cq), (10, .slice B1 ((ps.drop i).length) e1), (12, .slice B2 ((psq.drop j).length) e2), (14, .pointer (some ⟨b26, 0, none⟩)), (15, .int .i64 ((i + j : Nat) : Int)), (16, .int .i64 ((i + j : Nat) : Int)), (84, .bool true)]) rfl
                       refine xt_norm ?_
                       exact ⟨true, (hA.sel [0, 1, 3, 10, 12, 14, 15, 16, 84] rfl), hS, ⟨fun _ => (by omega), fun h => (by cases h)⟩⟩)
                  · first
                    | (exfalso; omega)
                    | (replace hA := hA.rw 76 (v' := .bool false) rfl (vb_eq_f hc72)
                       replace hA := hA.rw 77 (v' := .bool false) rfl (vb_eq_f hc72)
                       refine st_run tbOk 7 hA (e' := (84, .bool false) :: (83, .bool false) :: (82, undef) :: (81, undef) :: (80, undef) :: (79, .bool false) :: (78, .bool false) :: _) rfl ?_; clear hA; intro a hA
                       refine wpList_nil ?_
                       replace hA := hA.sel [0, 1, 3, 10, 12, 14, 15, 16, 84] (e' := [(0, .slice A l.length c), (1, .slice A2 l2.length c2), (3, .slice Aq ms.length cq), (10, .slice B1 ((ps.drop i).length) e1), (12, .slice B2 ((psq.drop j).length) e2), (14, .pointer (some ⟨b26, 0, none⟩)), (15, .int .i64 ((i + j : Nat) : Int)), (16, .int .i64 ((i + j : Nat) : Int)), (84, .bool false)]) rfl
                       refine xt_norm ?_
                       exact ⟨false, (hA.sel [0, 1, 3, 10, 12, 14, 15, 16, 84] rfl), hS, ⟨fun h => (by cases h), fun _ => (by omega)⟩⟩)
                · clear hA hS; rintro a w73 ⟨g, hA, hS, hg⟩
                  by_cases hc74 : g = true
                  · first
                    | (exfalso; omega)
                    | (replace hA := hA.rw 84 (v' := .bool true) rfl (vb_t hc74)
                       refine cd_cond_t hA rfl ?_
                       refine wp_seq ?_
                       refine wp_region_lit ?_
                       have hpos : 0 < (ps.drop i).length := hg.1 (by assumption)
                       obtain ⟨y75, hy75⟩ := get_ex (l := ps) (k := i) (by omega)
                       obtain ⟨B76, d77, rfl⟩ := hpk i y75 hy75
                       have hdy75 := hdd _ (List.mem_of_getElem? hy75)
                       have hpcy75 := piece_le l s i
                       refine st_run tbOk 2 hA (e' := (87, .slice B1 ((ps.drop i).length) e1) :: (86, .pointer (some ⟨b26, 0, none⟩)) :: _) rfl ?_; clear hA; intro a hA
                       obtain ⟨b78, o79, rfl⟩ := hP1.isSome (k := 0) (by omega)
                       refine st_val hA rfl rfl (by decide) (rn_indexAddr tbOk hA 0 o79 rfl rfl rfl rfl rfl rfl (by rfl) (by omega) (by first | rfl | simp [Nat.mul_one, Nat.zero_add] | omega)) ?_; clear hA; intro a hA
                       refine st_val hA rfl rfl (by decide) (rn_loadA tbOk hA ([.int .i64 0, .int .i64 1, .int .u64 5, .int .i64 ((i : Nat) : Int), .int .i64 ((nP l s : Nat) : Int), .slice B76 ((piece l s i).length) d77]) rfl rfl rfl rfl (by rfl) ((hP1.rd (hS.own_ 2 rfl)).elem (k := 0) encPacket_ok (show (ps.drop i)[0]? = some (0, 1, 5, ((i : Nat) : Int), ((nP l s : Nat) : Int), B76, d77, piece l s i) from by rw [List.getElem?_drop, Nat.add_zero]; exact hy75))) ?_; clear hA; intro a hA
                       replace hS := hS.front 1 (C := D1) (L' := L1 :: C14 :: D15 :: C22 :: D23 :: F) rfl rfl
                       replace hS := hS.front 1 (C := L1) (L' := D1 :: C14 :: D15 :: C22 :: D23 :: F) rfl rfl
                       refine st_call0 hA rfl rfl rfl isfn9 rfl rfl (by decide) (addST hS hM1 (by decide) hst (fun w' h => (hdy75 _ (h.only 2 rfl))) (by omega) (by omega) (by omega) (by omega)) ?_
                       clear hA hS; rintro v9 w80 a ⟨vs', L2, E2, hst', hM2, hres⟩ hA
                       rcases hres with ⟨hn, rfl, hS⟩ | ⟨hn, C9, v1, hO9, rfl, hS⟩
                       · refine st_run tbOk 5 hA (e' := (19, .bool false) :: (18, .slice none 0 0) :: (92, .bool false) :: (91, .slice none 0 0) :: (85, .tuple #[.slice none 0 0, .bool false]) :: _) rfl ?_; clear hA; intro a hA
                         refine wpList_nil ?_
                         replace hA := hA.sel [0, 1, 3, 10, 12, 14, 15, 16, 18, 19] (e' := [(0, .slice A l.length c), (1, .slice A2 l2.length c2), (3, .slice Aq ms.length cq), (10, .slice (some ⟨b78, o79, none⟩) ((ps.drop i).length) e1), (12, .slice B2 ((psq.drop j).length) e2), (14, .pointer (some ⟨b26, 0, none⟩)), (15, .int .i64 ((i + j : Nat) : Int)), (16, .int .i64 ((i + j : Nat) : Int)), (18, .slice none 0 0), (19, .bool false)]) rfl
                         refine xt_norm ?_
                         refine wp_seq ?_
                         refine wp_region_lit ?_
                         refine st_run tbOk 1 hA (e' := (93, .slice (some ⟨b78, o79, none⟩) ((ps.drop i).length) e1) :: _) rfl ?_; clear hA; intro a hA
                         refine st_val hA rfl rfl (by decide) (rn_slice_l tbOk hA 1 rfl rfl rfl rfl rfl rfl (by rfl) (by omega)) ?_; clear hA; intro a hA
                         obtain ⟨A81, c82, hs84, hmc82, hxc82⟩ := (hP1.rslv encPacket_ok 1 ((ps.drop i).length) e1 (by omega) (by omega) (by omega) (Nat.le_refl _)).open'
                         have hO83 : Own 38 6 (.slice A81 (ps.drop (i + 1)).length c82) (ps.drop (i + 1)).length (rows encPacket (ps.drop (i + 1))) C14 := by have h9 := (hP1.rslv encPacket_ok 1 ((ps.drop i).length) e1 (by omega) (by omega) (by omega) (Nat.le_refl _)); rw [hs84, show ((ps.drop i).take ((ps.drop i).length)).drop 1 = ps.drop (i + 1) from by rw [List.take_length, List.drop_drop]] at h9; exact h9
                         replace hA := hA.rw 94 (v' := .slice A81 ((ps.drop (i + 1)).length) c82) rfl (by rw [hs84, show ((ps.drop i).take ((ps.drop i).length)).drop 1 = ps.drop (i + 1) from by rw [List.take_length, List.drop_drop]])
                         have hd3 : (ps.drop (i + 1)).length = ps.length - (i + 1) := List.length_drop
                         refine st_run tbOk 1 hA (e' := (10, .slice A81 ((ps.drop (i + 1)).length) c82) :: _) rfl ?_; clear hA; intro a hA
                         refine wpList_nil ?_
                         replace hA := hA.sel [0, 1, 3, 10, 12, 14, 15, 16, 18, 19] (e' := [(0, .slice A l.length c), (1, .slice A2 l2.length c2), (3, .slice Aq ms.length cq), (10, .slice A81 ((ps.drop (i + 1)).length) c82), (12, .slice B2 ((psq.drop j).length) e2), (14, .pointer (some ⟨b26, 0, none⟩)), (15, .int .i64 ((i + j : Nat) : Int)), (16, .int .i64 ((i + j : Nat) : Int)), (18, .slice none 0 0), (19, .bool false)]) rfl
                         refine xt_norm ?_
                         refine wp_seq ?_
                         refine wp_region_lit ?_
                         refine st_run tbOk 4 hA (e' := (98, .bool ((((ps.drop (i + 1)).length : Nat) : Int) == 0)) :: (97, .int .i64 (((ps.drop (i + 1)).length : Nat) : Int)) :: (96, .slice A81 ((ps.drop (i + 1)).length) c82) :: (95, .bool false) :: _) rfl ?_; clear hA; intro a hA
                         by_cases hc85 : (((ps.drop (i + 1)).length : Nat) : Int) = 0
                         · first
                           | (exfalso; omega)
                           | (replace hA := hA.rw 98 (v' := .bool true) rfl (vb_eq_t hc85)
                              refine st_run tbOk 9 hA (e' := (107, undef) :: (106, undef) :: (105, undef) :: (104, undef) :: (103, undef) :: (102, undef) :: (101, undef) :: (100, .bool true) :: (99, .bool true) :: _) rfl ?_; clear hA; intro a hA
                              refine st_run tbOk 2 hA (e' := (109, .bool true) :: (108, undef) :: _) rfl ?_; clear hA; intro a hA
                              refine wpList_nil ?_
                              replace hA := hA.sel [0, 1, 3, 10, 12, 14, 15, 16, 109] (e' := [(0, .slice A l.length c), (1, .slice A2 l2.length c2), (3, .slice Aq ms.length cq), (10, .slice A81 ((ps.drop (i + 1)).length) c82), (12, .slice B2 ((psq.drop j).length) e2), (14, .pointer (some ⟨b26, 0, none⟩)), (15, .int .i64 ((i + j : Nat) : Int)), (16, .int .i64 ((i + j : Nat) : Int)), (109, .bool true)]) rfl
                              refine xt_norm ?_
                              refine cd_cond_t hA rfl ?_
                              refine wp_seq ?_
                              refine wp_region_lit ?_
                              refine st_run tbOk 1 hA (e' := (8, .bool false) :: _) rfl ?_; clear hA; intro a hA
                              refine wpList_nil ?_
                              replace hA := hA.sel [8] (e' := [(8, .bool false)]) rfl
                              refine xt_norm ?_
                              refine wp_ret (xt_ret (xb_ret (xt_ret (xt_ret (xb_ret (xt_ret ?_))))))
                              refine ret1 (fn := Try.f4) hA rfl rfl ?_
                              exfalso; omega)
                         · first
                           | (exfalso; omega)
                           | (replace hA := hA.rw 98 (v' := .bool false) rfl (vb_eq_f hc85)
                              refine st_run tbOk 9 hA (e' := (107, undef) :: (106, undef) :: (105, undef) :: (104, undef) :: (103, undef) :: (102, .bool false) :: (101, .bool false) :: (100, .bool false) :: (99, .bool false) :: _) rfl ?_; clear hA; intro a hA
                              refine st_run tbOk 2 hA (e' := (109, .bool false) :: (108, .bool false) :: _) rfl ?_; clear hA; intro a hA
                              refine wpList_nil ?_
                              replace hA := hA.sel [0, 1, 3, 10, 12, 14, 15, 16, 109] (e' := [(0, .slice A l.length c), (1, .slice A2 l2.length c2), (3, .slice Aq ms.length cq), (10, .slice A81 ((ps.drop (i + 1)).length) c82), (12, .slice B2 ((psq.drop j).length) e2), (14, .pointer (some ⟨b26, 0, none⟩)), (15, .int .i64 ((i + j : Nat) : Int)), (16, .int .i64 ((i + j : Nat) : Int)), (109, .bool false)]) rfl
                              refine xt_norm ?_
                              refine cd_cond_f hA rfl ?_
                              refine wp_skip ?_
                              refine xt_norm ?_
                              refine wp_region_lit ?_
                              refine st_run tbOk 2 hA (e' := (136, .int .i64 (IntKind.i64.wrap (((i + j : Nat) : Int) + 1))) :: (135, .int .i64 ((i + j : Nat) : Int)) :: _) rfl ?_; clear hA; intro a hA
                              replace hA := hA.rw 136 (v' := .int .i64 (((i + j) + 1 : Nat) : Int)) rfl (wr64 (by omega) (by omega) (by omega))
                              refine st_run tbOk 1 hA (e' := (15, .int .i64 (((i + j) + 1 : Nat) : Int)) :: _) rfl ?_; clear hA; intro a hA
                              refine wpList_nil ?_
                              replace hA := hA.sel [0, 1, 3, 10, 12, 14, 15, 16] (e' := [(0, .slice A l.length c), (1, .slice A2 l2.length c2), (3, .slice Aq ms.length cq), (10, .slice A81 ((ps.drop (i + 1)).length) c82), (12, .slice B2 ((psq.drop j).length) e2), (14, .pointer (some ⟨b26, 0, none⟩)), (15, .int .i64 (((i + j) + 1 : Nat) : Int)), (16, .int .i64 ((i + j : Nat) : Int))]) rfl
                              refine xb_norm ?_
                              refine xt_norm ?_
                              refine wp_region_lit ?_
                              refine st_run tbOk 2 hA (e' := (63, .int .i64 (IntKind.i64.wrap (((i + j : Nat) : Int) + 1))) :: (62, .int .i64 ((i + j : Nat) : Int)) :: _) rfl ?_; clear hA; intro a hA
                              replace hA := hA.rw 63 (v' := .int .i64 (((i + j) + 1 : Nat) : Int)) rfl (wr64 (by omega) (by omega) (by omega))
                              refine st_run tbOk 1 hA (e' := (16, .int .i64 (((i + j) + 1 : Nat) : Int)) :: _) rfl ?_; clear hA; intro a hA
                              refine wpList_nil ?_
                              replace hA := hA.sel [0, 1, 3, 10, 12, 14, 15, 16] (e' := [(0, .slice A l.length c), (1, .slice A2 l2.length c2), (3, .slice Aq ms.length cq), (10, .slice A81 ((ps.drop (i + 1)).length) c82), (12, .slice B2 ((psq.drop j).length) e2), (14, .pointer (some ⟨b26, 0, none⟩)), (15, .int .i64 (((i + j) + 1 : Nat) : Int)), (16, .int .i64 (((i + j) + 1 : Nat) : Int))]) rfl
                              replace hS := hS.front 5 (C := D23) (L' := L2 :: (E2 ++ D1) :: C14 :: D15 :: C22 :: F) rfl rfl
                              replace hS := hS.front 5 (C := C22) (L' := D23 :: L2 :: (E2 ++ D1) :: C14 :: D15 :: F) rfl rfl
                              replace hS := hS.front 5 (C := D15) (L' := C22 :: D23 :: L2 :: (E2 ++ D1) :: C14 :: F) rfl rfl
                              replace hS := hS.front 5 (C := C14) (L' := D15 :: C22 :: D23 :: L2 :: (E2 ++ D1) :: F) rfl rfl
                              replace hS := hS.front 5 (C := (E2 ++ D1)) (L' := C14 :: D15 :: C22 :: D23 :: L2 :: F) rfl rfl
                              replace hS := hS.front 5 (C := L2) (L' := (E2 ++ D1) :: C14 :: D15 :: C22 :: D23 :: F) rfl rfl
                              replace hA := hA.rw 16 (v' := .int .i64 (((i + 1) + j : Nat) : Int)) rfl (vint (by omega))
                              replace hA := hA.rw 15 (v' := .int .i64 (((i + 1) + j : Nat) : Int)) rfl (vint (by omega))
                              exact lp_next _ (by omega) ⟨(i + 1), j, vs', L2, (E2 ++ D1), A81, c82, B2, e2, rfl, (hA.sel [0, 1, 3, 10, 12, 14, 15, 16] rfl), hS, by omega, by omega, hst', hM2, hO83, hP2⟩)
                       · obtain ⟨A9, c9, rfl, hm9, hx9⟩ := hO9.open'
                         refine st_run tbOk 5 hA (e' := (19, .bool true) :: (18, .slice A9 l.length c9) :: (92, .bool true) :: (91, .slice A9 l.length c9) :: (85, .tuple #[.slice A9 l.length c9, .bool true]) :: _) rfl ?_; clear hA; intro a hA
                         refine wpList_nil ?_
                         replace hA := hA.sel [0, 1, 3, 10, 12, 14, 15, 16, 18, 19] (e' := [(0, .slice A l.length c), (1, .slice A2 l2.length c2), (3, .slice Aq ms.length cq), (10, .slice (some ⟨b78, o79, none⟩) ((ps.drop i).length) e1), (12, .slice B2 ((psq.drop j).length) e2), (14, .pointer (some ⟨b26, 0, none⟩)), (15, .int .i64 ((i + j : Nat) : Int)), (16, .int .i64 ((i + j : Nat) : Int)), (18, .slice A9 l.length c9), (19, .bool true)]) rfl
                         refine xt_norm ?_
                         refine wp_seq ?_
                         refine wp_region_lit ?_
                         refine st_run tbOk 1 hA (e' := (93, .slice (some ⟨b78, o79, none⟩) ((ps.drop i).length) e1) :: _) rfl ?_; clear hA; intro a hA
                         refine st_val hA rfl rfl (by decide) (rn_slice_l tbOk hA 1 rfl rfl rfl rfl rfl rfl (by rfl) (by omega)) ?_; clear hA; intro a hA
                         obtain ⟨A86, c87, hs89, hmc87, hxc87⟩ := (hP1.rslv encPacket_ok 1 ((ps.drop i).length) e1 (by omega) (by omega) (by omega) (Nat.le_refl _)).open'
                         have hO88 : Own 38 6 (.slice A86 (ps.drop (i + 1)).length c87) (ps.drop (i + 1)).length (rows encPacket (ps.drop (i + 1))) C14 := by have h9 := (hP1.rslv encPacket_ok 1 ((ps.drop i).length) e1 (by omega) (by omega) (by omega) (Nat.le_refl _)); rw [hs89, show ((ps.drop i).take ((ps.drop i).length)).drop 1 = ps.drop (i + 1) from by rw [List.take_length, List.drop_drop]] at h9; exact h9
                         replace hA := hA.rw 94 (v' := .slice A86 ((ps.drop (i + 1)).length) c87) rfl (by rw [hs89, show ((ps.drop i).take ((ps.drop i).length)).drop 1 = ps.drop (i + 1) from by rw [List.take_length, List.drop_drop]])
                         have hd3 : (ps.drop (i + 1)).length = ps.length - (i + 1) := List.length_drop
                         refine st_run tbOk 1 hA (e' := (10, .slice A86 ((ps.drop (i + 1)).length) c87) :: _) rfl ?_; clear hA; intro a hA
                         refine wpList_nil ?_
                         replace hA := hA.sel [0, 1, 3, 10, 12, 14, 15, 16, 18, 19] (e' := [(0, .slice A l.length c), (1, .slice A2 l2.length c2), (3, .slice Aq ms.length cq), (10, .slice A86 ((ps.drop (i + 1)).length) c87), (12, .slice B2 ((psq.drop j).length) e2), (14, .pointer (some ⟨b26, 0, none⟩)), (15, .int .i64 ((i + j : Nat) : Int)), (16, .int .i64 ((i + j : Nat) : Int)), (18, .slice A9 l.length c9), (19, .bool true)]) rfl
                         refine xt_norm ?_
                         refine wp_seq ?_
                         refine wp_region_lit ?_
                         refine st_run tbOk 4 hA (e' := (98, .bool ((((ps.drop (i + 1)).length : Nat) : Int) == 0)) :: (97, .int .i64 (((ps.drop (i + 1)).length : Nat) : Int)) :: (96, .slice A86 ((ps.drop (i + 1)).length) c87) :: (95, .bool true) :: _) rfl ?_; clear hA; intro a hA
                         by_cases hc90 : (((ps.drop (i + 1)).length : Nat) : Int) = 0
                         · first
                           | (exfalso; omega)
                           | (replace hA := hA.rw 98 (v' := .bool true) rfl (vb_eq_t hc90)
                              refine st_run tbOk 5 hA (e' := (103, .slice A9 l.length c9) :: (102, .bool true) :: (101, .bool true) :: (100, .bool false) :: (99, .bool false) :: _) rfl ?_; clear hA; intro a hA
                              refine st_val hA rfl rfl (by decide) (rn_bstr tbOk hA (bs := l) rfl rfl rfl rfl rfl rfl rfl rfl (hO9.rd (hS.own_ 2 rfl)).x) ?_; clear hA; intro a hA
                              refine st_run tbOk 1 hA (e' := (105, .slice A l.length c) :: _) rfl ?_; clear hA; intro a hA
                              refine st_val hA rfl rfl (by decide) (rn_bstr tbOk hA (bs := l) rfl rfl rfl rfl rfl rfl rfl rfl (hr _ (hS.tail 7 rfl)).x) ?_; clear hA; intro a hA
                              refine st_run tbOk 1 hA (e' := (107, .bool (!((bsv l).toList == (bsv l).toList))) :: _) rfl ?_; clear hA; intro a hA
                              replace hA := hA.rw 107 (v' := .bool false) rfl (congrArg Value.bool (by simp))
                              refine st_run tbOk 2 hA (e' := (109, .bool false) :: (108, .bool false) :: _) rfl ?_; clear hA; intro a hA
                              refine wpList_nil ?_
                              replace hA := hA.sel [0, 1, 3, 10, 12, 14, 15, 16, 109] (e' := [(0, .slice A l.length c), (1, .slice A2 l2.length c2), (3, .slice Aq ms.length cq), (10, .slice A86 ((ps.drop (i + 1)).length) c87), (12, .slice B2 ((psq.drop j).length) e2), (14, .pointer (some ⟨b26, 0, none⟩)), (15, .int .i64 ((i + j : Nat) : Int)), (16, .int .i64 ((i + j : Nat) : Int)), (109, .bool false)]) rfl
                              refine xt_norm ?_
                              refine cd_cond_f hA rfl ?_
                              refine wp_skip ?_
                              refine xt_norm ?_
                              refine wp_region_lit ?_
                              refine st_run tbOk 2 hA (e' := (136, .int .i64 (IntKind.i64.wrap (((i + j : Nat) : Int) + 1))) :: (135, .int .i64 ((i + j : Nat) : Int)) :: _) rfl ?_; clear hA; intro a hA
                              replace hA := hA.rw 136 (v' := .int .i64 (((i + j) + 1 : Nat) : Int)) rfl (wr64 (by omega) (by omega) (by omega))
                              refine st_run tbOk 1 hA (e' := (15, .int .i64 (((i + j) + 1 : Nat) : Int)) :: _) rfl ?_; clear hA; intro a hA
                              refine wpList_nil ?_
                              replace hA := hA.sel [0, 1, 3, 10, 12, 14, 15, 16] (e' := [(0, .slice A l.length c), (1, .slice A2 l2.length c2), (3, .slice Aq ms.length cq), (10, .slice A86 ((ps.drop (i + 1)).length) c87), (12, .slice B2 ((psq.drop j).length) e2), (14, .pointer (some ⟨b26, 0, none⟩)), (15, .int .i64 (((i + j) + 1 : Nat) : Int)), (16, .int .i64 ((i + j : Nat) : Int))]) rfl
                              refine xb_norm ?_
                              refine xt_norm ?_
                              refine wp_region_lit ?_
                              refine st_run tbOk 2 hA (e' := (63, .int .i64 (IntKind.i64.wrap (((i + j : Nat) : Int) + 1))) :: (62, .int .i64 ((i + j : Nat) : Int)) :: _) rfl ?_; clear hA; intro a hA
                              replace hA := hA.rw 63 (v' := .int .i64 (((i + j) + 1 : Nat) : Int)) rfl (wr64 (by omega) (by omega) (by omega))
                              refine st_run tbOk 1 hA (e' := (16, .int .i64 (((i + j) + 1 : Nat) : Int)) :: _) rfl ?_; clear hA; intro a hA
                              refine wpList_nil ?_
                              replace hA := hA.sel [0, 1, 3, 10, 12, 14, 15, 16] (e' := [(0, .slice A l.length c), (1, .slice A2 l2.length c2), (3, .slice Aq ms.length cq), (10, .slice A86 ((ps.drop (i + 1)).length) c87), (12, .slice B2 ((psq.drop j).length) e2), (14, .pointer (some ⟨b26, 0, none⟩)), (15, .int .i64 (((i + j) + 1 : Nat) : Int)), (16, .int .i64 (((i + j) + 1 : Nat) : Int))]) rfl
                              replace hS := hS.front 2 (C := C9) (L' := L2 :: (E2 ++ D1) :: C14 :: D15 :: C22 :: D23 :: F) rfl rfl
                              replace hS := hS.drop1
                              replace hS := hS.front 5 (C := D23) (L' := L2 :: (E2 ++ D1) :: C14 :: D15 :: C22 :: F) rfl rfl
                              replace hS := hS.front 5 (C := C22) (L' := D23 :: L2 :: (E2 ++ D1) :: C14 :: D15 :: F) rfl rfl
                              replace hS := hS.front 5 (C := D15) (L' := C22 :: D23 :: L2 :: (E2 ++ D1) :: C14 :: F) rfl rfl
                              replace hS := hS.front 5 (C := C14) (L' := D15 :: C22 :: D23 :: L2 :: (E2 ++ D1) :: F) rfl rfl
                              replace hS := hS.front 5 (C := (E2 ++ D1)) (L' := C14 :: D15 :: C22 :: D23 :: L2 :: F) rfl rfl
                              replace hS := hS.front 5 (C := L2) (L' := (E2 ++ D1) :: C14 :: D15 :: C22 :: D23 :: F) rfl rfl
                              replace hA := hA.rw 16 (v' := .int .i64 (((i + 1) + j : Nat) : Int)) rfl (vint (by omega))
                              replace hA := hA.rw 15 (v' := .int .i64 (((i + 1) + j : Nat) : Int)) rfl (vint (by omega))
                              exact lp_next _ (by omega) ⟨(i + 1), j, vs', L2, (E2 ++ D1), A86, c87, B2, e2, rfl, (hA.sel [0, 1, 3, 10, 12, 14, 15, 16] rfl), hS, by omega, by omega, hst', hM2, hO88, hP2⟩)
                         · first
                           | (exfalso; omega)
                           | (replace hA := hA.rw 98 (v' := .bool false) rfl (vb_eq_f hc90)
                              refine st_run tbOk 9 hA (e' := (107, undef) :: (106, undef) :: (105, undef) :: (104, undef) :: (103, undef) :: (102, undef) :: (101, undef) :: (100, .bool true) :: (99, .bool true) :: _) rfl ?_; clear hA; intro a hA
                              refine st_run tbOk 2 hA (e' := (109, .bool true) :: (108, undef) :: _) rfl ?_; clear hA; intro a hA
                              refine wpList_nil ?_
                              replace hA := hA.sel [0, 1, 3, 10, 12, 14, 15, 16, 109] (e' := [(0, .slice A l.length c), (1, .slice A2 l2.length c2), (3, .slice Aq ms.length cq), (10, .slice A86 ((ps.drop (i + 1)).length) c87), (12, .slice B2 ((psq.drop j).length) e2), (14, .pointer (some ⟨b26, 0, none⟩)), (15, .int .i64 ((i + j : Nat) : Int)), (16, .int .i64 ((i + j : Nat) : Int)), (109, .bool true)]) rfl
                              refine xt_norm ?_
                              refine cd_cond_t hA rfl ?_
                              refine wp_seq ?_
                              refine wp_region_lit ?_
                              refine st_run tbOk 1 hA (e' := (8, .bool false) :: _) rfl ?_; clear hA; intro a hA
                              refine wpList_nil ?_
                              replace hA := hA.sel [8] (e' := [(8, .bool false)]) rfl
                              refine xt_norm ?_
                              refine wp_ret (xt_ret (xb_ret (xt_ret (xt_ret (xb_ret (xt_ret ?_))))))
                              refine ret1 (fn := Try.f4) hA rfl rfl ?_
                              exfalso; omega))
                  · first
                    | (exfalso; omega)
                    | (replace hA := hA.rw 84 (v' := .bool false) rfl (vb_f hc74)
                       refine cd_cond_f hA rfl ?_
                       refine wp_seq ?_
                       refine wp_region_lit ?_
                       have hpos : 0 < (psq.drop j).length := hg.2 (by first | assumption | exact Bool.eq_false_iff.2 (by assumption))
                       obtain ⟨y91, hy91⟩ := get_ex (l := psq) (k := j) (by omega)
                       obtain ⟨B92, d93, rfl⟩ := hpkq j y91 hy91
                       have hdy91 := hddq _ (List.mem_of_getElem? hy91)
                       have hpcy91 := piece_le l2 s j
                       refine st_run tbOk 2 hA (e' := (112, .slice B2 ((psq.drop j).length) e2) :: (111, .pointer (some ⟨b26, 0, none⟩)) :: _) rfl ?_; clear hA; intro a hA
                       obtain ⟨b94, o95, rfl⟩ := hP2.isSome (k := 0) (by omega)
                       refine st_val hA rfl rfl (by decide) (rn_indexAddr tbOk hA 0 o95 rfl rfl rfl rfl rfl rfl (by rfl) (by omega) (by first | rfl | simp [Nat.mul_one, Nat.zero_add] | omega)) ?_; clear hA; intro a hA
                       refine st_val hA rfl rfl (by decide) (rn_loadA tbOk hA ([.int .i64 0, .int .i64 1, .int .u64 6, .int .i64 ((j : Nat) : Int), .int .i64 ((nP l2 s : Nat) : Int), .slice B92 ((piece l2 s j).length) d93]) rfl rfl rfl rfl (by rfl) ((hP2.rd (hS.own_ 4 rfl)).elem (k := 0) encPacket_ok (show (psq.drop j)[0]? = some (0, 1, 6, ((j : Nat) : Int), ((nP l2 s : Nat) : Int), B92, d93, piece l2 s j) from by rw [List.getElem?_drop, Nat.add_zero]; exact hy91))) ?_; clear hA; intro a hA
                       replace hS := hS.front 1 (C := D1) (L' := L1 :: C14 :: D15 :: C22 :: D23 :: F) rfl rfl
                       replace hS := hS.front 1 (C := L1) (L' := D1 :: C14 :: D15 :: C22 :: D23 :: F) rfl rfl
                       refine st_call0 hA rfl rfl rfl isfn9 rfl rfl (by decide) (addST hS hM1 (by decide) hst.swap (fun w' h => (hdy91 _ (h.only 4 rfl))) (by omega) (by omega) (by omega) (by omega)) ?_
                       clear hA hS; rintro v9 w96 a ⟨vs', L2, E2, hst', hM2, hres⟩ hA
                       rcases hres with ⟨hn, rfl, hS⟩ | ⟨hn, C9, v1, hO9, rfl, hS⟩
                       · refine st_run tbOk 5 hA (e' := (21, .bool false) :: (20, .slice none 0 0) :: (117, .bool false) :: (116, .slice none 0 0) :: (110, .tuple #[.slice none 0 0, .bool false]) :: _) rfl ?_; clear hA; intro a hA
                         refine wpList_nil ?_
                         replace hA := hA.sel [0, 1, 3, 10, 12, 14, 15, 16, 20, 21] (e' := [(0, .slice A l.length c), (1, .slice A2 l2.length c2), (3, .slice Aq ms.length cq), (10, .slice B1 ((ps.drop i).length) e1), (12, .slice (some ⟨b94, o95, none⟩) ((psq.drop j).length) e2), (14, .pointer (some ⟨b26, 0, none⟩)), (15, .int .i64 ((i + j : Nat) : Int)), (16, .int .i64 ((i + j : Nat) : Int)), (20, .slice none 0 0), (21, .bool false)]) rfl
                         refine xt_norm ?_
                         refine wp_seq ?_
                         refine wp_region_lit ?_
                         refine st_run tbOk 1 hA (e' := (118, .slice (some ⟨b94, o95, none⟩) ((psq.drop j).length) e2) :: _) rfl ?_; clear hA; intro a hA
                         refine st_val hA rfl rfl (by decide) (rn_slice_l tbOk hA 1 rfl rfl rfl rfl rfl rfl (by rfl) (by omega)) ?_; clear hA; intro a hA
                         obtain ⟨A97, c98, hs100, hmc98, hxc98⟩ := (hP2.rslv encPacket_ok 1 ((psq.drop j).length) e2 (by omega) (by omega) (by omega) (Nat.le_refl _)).open'
                         have hO99 : Own 38 6 (.slice A97 (psq.drop (j + 1)).length c98) (psq.drop (j + 1)).length (rows encPacket (psq.drop (j + 1))) C22 := by have h9 := (hP2.rslv encPacket_ok 1 ((psq.drop j).length) e2 (by omega) (by omega) (by omega) (Nat.le_refl _)); rw [hs100, show ((psq.drop j).take ((psq.drop j).length)).drop 1 = psq.drop (j + 1) from by rw [List.take_length, List.drop_drop]] at h9; exact h9
                         replace hA := hA.rw 119 (v' := .slice A97 ((psq.drop (j + 1)).length) c98) rfl (by rw [hs100, show ((psq.drop j).take ((psq.drop j).length)).drop 1 = psq.drop (j + 1) from by rw [List.take_length, List.drop_drop]])
                         have hd3 : (psq.drop (j + 1)).length = psq.length - (j + 1) := List.length_drop
                         refine st_run tbOk 1 hA (e' := (12, .slice A97 ((psq.drop (j + 1)).length) c98) :: _) rfl ?_; clear hA; intro a hA
                         refine wpList_nil ?_
                         replace hA := hA.sel [0, 1, 3, 10, 12, 14, 15, 16, 20, 21] (e' := [(0, .slice A l.length c), (1, .slice A2 l2.length c2), (3, .slice Aq ms.length cq), (10, .slice B1 ((ps.drop i).length) e1), (12, .slice A97 ((psq.drop (j + 1)).length) c98), (14, .pointer (some ⟨b26, 0, none⟩)), (15, .int .i64 ((i + j : Nat) : Int)), (16, .int .i64 ((i + j : Nat) : Int)), (20, .slice none 0 0), (21, .bool false)]) rfl
                         refine xt_norm ?_
                         refine wp_seq ?_
                         refine wp_region_lit ?_
                         refine st_run tbOk 4 hA (e' := (123, .bool ((((psq.drop (j + 1)).length : Nat) : Int) == 0)) :: (122, .int .i64 (((psq.drop (j + 1)).length : Nat) : Int)) :: (121, .slice A97 ((psq.drop (j + 1)).length) c98) :: (120, .bool false) :: _) rfl ?_; clear hA; intro a hA
                         by_cases hc101 : (((psq.drop (j + 1)).length : Nat) : Int) = 0
                         · first
                           | (exfalso; omega)
                           | (replace hA := hA.rw 123 (v' := .bool true) rfl (vb_eq_t hc101)
                              refine st_run tbOk 9 hA (e' := (132, undef) :: (131, undef) :: (130, undef) :: (129, undef) :: (128, undef) :: (127, undef) :: (126, undef) :: (125, .bool true) :: (124, .bool true) :: _) rfl ?_; clear hA; intro a hA
                              refine st_run tbOk 2 hA (e' := (134, .bool true) :: (133, undef) :: _) rfl ?_; clear hA; intro a hA
                              refine wpList_nil ?_
                              replace hA := hA.sel [0, 1, 3, 10, 12, 14, 15, 16, 134] (e' := [(0, .slice A l.length c), (1, .slice A2 l2.length c2), (3, .slice Aq ms.length cq), (10, .slice B1 ((ps.drop i).length) e1), (12, .slice A97 ((psq.drop (j + 1)).length) c98), (14, .pointer (some ⟨b26, 0, none⟩)), (15, .int .i64 ((i + j : Nat) : Int)), (16, .int .i64 ((i + j : Nat) : Int)), (134, .bool true)]) rfl
                              refine xt_norm ?_
                              refine cd_cond_t hA rfl ?_
                              refine wp_seq ?_
                              refine wp_region_lit ?_
                              refine st_run tbOk 1 hA (e' := (8, .bool false) :: _) rfl ?_; clear hA; intro a hA
                              refine wpList_nil ?_
                              replace hA := hA.sel [8] (e' := [(8, .bool false)]) rfl
                              refine xt_norm ?_
                              refine wp_ret (xt_ret (xb_ret (xt_ret (xt_ret (xb_ret (xt_ret ?_))))))
                              refine ret1 (fn := Try.f4) hA rfl rfl ?_
                              exfalso; omega)
                         · first
                           | (exfalso; omega)
                           | (replace hA := hA.rw 123 (v' := .bool false) rfl (vb_eq_f hc101)
                              refine st_run tbOk 9 hA (e' := (132, undef) :: (131, undef) :: (130, undef) :: (129, undef) :: (128, undef) :: (127, .bool false) :: (126, .bool false) :: (125, .bool false) :: (124, .bool false) :: _) rfl ?_; clear hA; intro a hA
                              refine st_run tbOk 2 hA (e' := (134, .bool false) :: (133, .bool false) :: _) rfl ?_; clear hA; intro a hA
                              refine wpList_nil ?_
                              replace hA := hA.sel [0, 1, 3, 10, 12, 14, 15, 16, 134] (e' := [(0, .slice A l.length c), (1, .slice A2 l2.length c2), (3, .slice Aq ms.length cq), (10, .slice B1 ((ps.drop i).length) e1), (12, .slice A97 ((psq.drop (j + 1)).length) c98), (14, .pointer (some ⟨b26, 0, none⟩)), (15, .int .i64 ((i + j : Nat) : Int)), (16, .int .i64 ((i + j : Nat) : Int)), (134, .bool false)]) rfl
                              refine xt_norm ?_
                              refine cd_cond_f hA rfl ?_
                              refine wp_skip ?_
                              refine xt_norm ?_
                              refine wp_region_lit ?_
                              refine st_run tbOk 2 hA (e' := (136, .int .i64 (IntKind.i64.wrap (((i + j : Nat) : Int) + 1))) :: (135, .int .i64 ((i + j : Nat) : Int)) :: _) rfl ?_; clear hA; intro a hA
                              replace hA := hA.rw 136 (v' := .int .i64 (((i + j) + 1 : Nat) : Int)) rfl (wr64 (by omega) (by omega) (by omega))
                              refine st_run tbOk 1 hA (e' := (15, .int .i64 (((i + j) + 1 : Nat) : Int)) :: _) rfl ?_; clear hA; intro a hA
                              refine wpList_nil ?_
                              replace hA := hA.sel [0, 1, 3, 10, 12, 14, 15, 16] (e' := [(0, .slice A l.length c), (1, .slice A2 l2.length c2), (3, .slice Aq ms.length cq), (10, .slice B1 ((ps.drop i).length) e1), (12, .slice A97 ((psq.drop (j + 1)).length) c98), (14, .pointer (some ⟨b26, 0, none⟩)), (15, .int .i64 (((i + j) + 1 : Nat) : Int)), (16, .int .i64 ((i + j : Nat) : Int))]) rfl
                              refine xb_norm ?_
                              refine xt_norm ?_
                              refine wp_region_lit ?_
                              refine st_run tbOk 2 hA (e' := (63, .int .i64 (IntKind.i64.wrap (((i + j : Nat) : Int) + 1))) :: (62, .int .i64 ((i + j : Nat) : Int)) :: _) rfl ?_; clear hA; intro a hA
                              replace hA := hA.rw 63 (v' := .int .i64 (((i + j) + 1 : Nat) : Int)) rfl (wr64 (by omega) (by omega) (by omega))
                              refine st_run tbOk 1 hA (e' := (16, .int .i64 (((i + j) + 1 : Nat) : Int)) :: _) rfl ?_; clear hA; intro a hA
                              refine wpList_nil ?_
                              replace hA := hA.sel [0, 1, 3, 10, 12, 14, 15, 16] (e' := [(0, .slice A l.length c), (1, .slice A2 l2.length c2), (3, .slice Aq ms.length cq), (10, .slice B1 ((ps.drop i).length) e1), (12, .slice A97 ((psq.drop (j + 1)).length) c98), (14, .pointer (some ⟨b26, 0, none⟩)), (15, .int .i64 (((i + j) + 1 : Nat) : Int)), (16, .int .i64 (((i + j) + 1 : Nat) : Int))]) rfl
                              replace hS := hS.front 5 (C := D23) (L' := L2 :: (E2 ++ D1) :: C14 :: D15 :: C22 :: F) rfl rfl
                              replace hS := hS.front 5 (C := C22) (L' := D23 :: L2 :: (E2 ++ D1) :: C14 :: D15 :: F) rfl rfl
                              replace hS := hS.front 5 (C := D15) (L' := C22 :: D23 :: L2 :: (E2 ++ D1) :: C14 :: F) rfl rfl
                              replace hS := hS.front 5 (C := C14) (L' := D15 :: C22 :: D23 :: L2 :: (E2 ++ D1) :: F) rfl rfl
                              replace hS := hS.front 5 (C := (E2 ++ D1)) (L' := C14 :: D15 :: C22 :: D23 :: L2 :: F) rfl rfl
                              replace hS := hS.front 5 (C := L2) (L' := (E2 ++ D1) :: C14 :: D15 :: C22 :: D23 :: F) rfl rfl
                              replace hA := hA.rw 16 (v' := .int .i64 ((i + (j + 1) : Nat) : Int)) rfl (vint (by omega))
                              replace hA := hA.rw 15 (v' := .int .i64 ((i + (j + 1) : Nat) : Int)) rfl (vint (by omega))
                              exact lp_next _ (by omega) ⟨i, (j + 1), vs', L2, (E2 ++ D1), B1, e1, A97, c98, rfl, (hA.sel [0, 1, 3, 10, 12, 14, 15, 16] rfl), hS, by omega, by omega, hst'.swap, hM2, hP1, hO99⟩)
                       · obtain ⟨A9, c9, rfl, hm9, hx9⟩ := hO9.open'
                         refine st_run tbOk 5 hA (e' := (21, .bool true) :: (20, .slice A9 l2.length c9) :: (117, .bool true) :: (116, .slice A9 l2.length c9) :: (110, .tuple #[.slice A9 l2.length c9, .bool true]) :: _) rfl ?_; clear hA; intro a hA
                         refine wpList_nil ?_
                         replace hA := hA.sel [0, 1, 3, 10, 12, 14, 15, 16, 20, 21] (e' := [(0, .slice A l.length c), (1, .slice A2 l2.length c2), (3, .slice Aq ms.length cq), (10, .slice B1 ((ps.drop i).length) e1), (12, .slice (some ⟨b94, o95, none⟩) ((psq.drop j).length) e2), (14, .pointer (some ⟨b26, 0, none⟩)), (15, .int .i64 ((i + j : Nat) : Int)), (16, .int .i64 ((i + j : Nat) : Int)), (20, .slice A9 l2.length c9), (21, .bool true)]) rfl
                         refine xt_norm ?_
                         refine wp_seq ?_
                         refine wp_region_lit ?_
                         refine st_run tbOk 1 hA (e' := (118, .slice (some ⟨b94, o95, none⟩) ((psq.drop j).length) e2) :: _) rfl ?_; clear hA; intro a hA
                         refine st_val hA rfl rfl (by decide) (rn_slice_l tbOk hA 1 rfl rfl rfl rfl rfl rfl (by rfl) (by omega)) ?_; clear hA; intro a hA
                         obtain ⟨A102, c103, hs105, hmc103, hxc103⟩ := (hP2.rslv encPacket_ok 1 ((psq.drop j).length) e2 (by omega) (by omega) (by omega) (Nat.le_refl _)).open'
                         have hO104 : Own 38 6 (.slice A102 (psq.drop (j + 1)).length c103) (psq.drop (j + 1)).length (rows encPacket (psq.drop (j + 1))) C22 := by have h9 := (hP2.rslv encPacket_ok 1 ((psq.drop j).length) e2 (by omega) (by omega) (by omega) (Nat.le_refl _)); rw [hs105, show ((psq.drop j).take ((psq.drop j).length)).drop 1 = psq.drop (j + 1) from by rw [List.take_length, List.drop_drop]] at h9; exact h9
                         replace hA := hA.rw 119 (v' := .slice A102 ((psq.drop (j + 1)).length) c103) rfl (by rw [hs105, show ((psq.drop j).take ((psq.drop j).length)).drop 1 = psq.drop (j + 1) from by rw [List.take_length, List.drop_drop]])
                         have hd3 : (psq.drop (j + 1)).length = psq.length - (j + 1) := List.length_drop
                         refine st_run tbOk 1 hA (e' := (12, .slice A102 ((psq.drop (j + 1)).length) c103) :: _) rfl ?_; clear hA; intro a hA
                         refine wpList_nil ?_
                         replace hA := hA.sel [0, 1, 3, 10, 12, 14, 15, 16, 20, 21] (e' := [(0, .slice A l.length c), (1, .slice A2 l2.length c2), (3, .slice Aq ms.length cq), (10, .slice B1 ((ps.drop i).length) e1), (12, .slice A102 ((psq.drop (j + 1)).length) c103), (14, .pointer (some ⟨b26, 0, none⟩)), (15, .int .i64 ((i + j : Nat) : Int)), (16, .int .i64 ((i + j : Nat) : Int)), (20, .slice A9 l2.length c9), (21, .bool true)]) rfl
                         refine xt_norm ?_
                         refine wp_seq ?_
                         refine wp_region_lit ?_
                         refine st_run tbOk 4 hA (e' := (123, .bool ((((psq.drop (j + 1)).length : Nat) : Int) == 0)) :: (122, .int .i64 (((psq.drop (j + 1)).length : Nat) : Int)) :: (121, .slice A102 ((psq.drop (j + 1)).length) c103) :: (120, .bool true) :: _) rfl ?_; clear hA; intro a hA
                         by_cases hc106 : (((psq.drop (j + 1)).length : Nat) : Int) = 0
                         · first
                           | (exfalso; omega)
                           | (replace hA := hA.rw 123 (v' := .bool true) rfl (vb_eq_t hc106)
                              refine st_run tbOk 5 hA (e' := (128, .slice A9 l2.length c9) :: (127, .bool true) :: (126, .bool true) :: (125, .bool false) :: (124, .bool false) :: _) rfl ?_; clear hA; intro a hA
                              refine st_val hA rfl rfl (by decide) (rn_bstr tbOk hA (bs := l2) rfl rfl rfl rfl rfl rfl rfl rfl (hO9.rd (hS.own_ 2 rfl)).x) ?_; clear hA; intro a hA
                              refine st_run tbOk 1 hA (e' := (130, .slice A2 l2.length c2) :: _) rfl ?_; clear hA; intro a hA
                              refine st_val hA rfl rfl (by decide) (rn_bstr tbOk hA (bs := l2) rfl rfl rfl rfl rfl rfl rfl rfl (hr2 _ (hS.tail 7 rfl)).x) ?_; clear hA; intro a hA
                              refine st_run tbOk 1 hA (e' := (132, .bool (!((bsv l2).toList == (bsv l2).toList))) :: _) rfl ?_; clear hA; intro a hA
                              replace hA := hA.rw 132 (v' := .bool false) rfl (congrArg Value.bool (by simp))
                              refine st_run tbOk 2 hA (e' := (134, .bool false) :: (133, .bool false) :: _) rfl ?_; clear hA; intro a hA
                              refine wpList_nil ?_
                              replace hA := hA.sel [0, 1, 3, 10, 12, 14, 15, 16, 134] (e' := [(0, .slice A l.length c), (1, .slice A2 l2.length c2), (3, .slice Aq ms.length cq), (10, .slice B1 ((ps.drop i).length) e1), (12, .slice A102 ((psq.drop (j + 1)).length) c103), (14, .pointer (some ⟨b26, 0, none⟩)), (15, .int .i64 ((i + j : Nat) : Int)), (16, .int .i64 ((i + j : Nat) : Int)), (134, .bool false)]) rfl
                              refine xt_norm ?_
                              refine cd_cond_f hA rfl ?_
                              refine wp_skip ?_
                              refine xt_norm ?_
                              refine wp_region_lit ?_
                              refine st_run tbOk 2 hA (e' := (136, .int .i64 (IntKind.i64.wrap (((i + j : Nat) : Int) + 1))) :: (135, .int .i64 ((i + j : Nat) : Int)) :: _) rfl ?_; clear hA; intro a hA
                              replace hA := hA.rw 136 (v' := .int .i64 (((i + j) + 1 : Nat) : Int)) rfl (wr64 (by omega) (by omega) (by omega))
                              refine st_run tbOk 1 hA (e' := (15, .int .i64 (((i + j) + 1 : Nat) : Int)) :: _) rfl ?_; clear hA; intro a hA
                              refine wpList_nil ?_
                              replace hA := hA.sel [0, 1, 3, 10, 12, 14, 15, 16] (e' := [(0, .slice A l.length c), (1, .slice A2 l2.length c2), (3, .slice Aq ms.length cq), (10, .slice B1 ((ps.drop i).length) e1), (12, .slice A102 ((psq.drop (j + 1)).length) c103), (14, .pointer (some ⟨b26, 0, none⟩)), (15, .int .i64 (((i + j) + 1 : Nat) : Int)), (16, .int .i64 ((i + j : Nat) : Int))]) rfl
                              refine xb_norm ?_
                              refine xt_norm ?_
                              refine wp_region_lit ?_
                              refine st_run tbOk 2 hA (e' := (63, .int .i64 (IntKind.i64.wrap (((i + j : Nat) : Int) + 1))) :: (62, .int .i64 ((i + j : Nat) : Int)) :: _) rfl ?_; clear hA; intro a hA
                              replace hA := hA.rw 63 (v' := .int .i64 (((i + j) + 1 : Nat) : Int)) rfl (wr64 (by omega) (by omega) (by omega))
                              refine st_run tbOk 1 hA (e' := (16, .int .i64 (((i + j) + 1 : Nat) : Int)) :: _) rfl ?_; clear hA; intro a hA
                              refine wpList_nil ?_
                              replace hA := hA.sel [0, 1, 3, 10, 12, 14, 15, 16] (e' := [(0, .slice A l.length c), (1, .slice A2 l2.length c2), (3, .slice Aq ms.length cq), (10, .slice B1 ((ps.drop i).length) e1), (12, .slice A102 ((psq.drop (j + 1)).length) c103), (14, .pointer (some ⟨b26, 0, none⟩)), (15, .int .i64 (((i + j) + 1 : Nat) : Int)), (16, .int .i64 (((i + j) + 1 : Nat) : Int))]) rfl
                              replace hS := hS.front 2 (C := C9) (L' := L2 :: (E2 ++ D1) :: C14 :: D15 :: C22 :: D23 :: F) rfl rfl
                              replace hS := hS.drop1
                              replace hS := hS.front 5 (C := D23) (L' := L2 :: (E2 ++ D1) :: C14 :: D15 :: C22 :: F) rfl rfl
                              replace hS := hS.front 5 (C := C22) (L' := D23 :: L2 :: (E2 ++ D1) :: C14 :: D15 :: F) rfl rfl
                              replace hS := hS.front 5 (C := D15) (L' := C22 :: D23 :: L2 :: (E2 ++ D1) :: C14 :: F) rfl rfl
                              replace hS := hS.front 5 (C := C14) (L' := D15 :: C22 :: D23 :: L2 :: (E2 ++ D1) :: F) rfl rfl
                              replace hS := hS.front 5 (C := (E2 ++ D1)) (L' := C14 :: D15 :: C22 :: D23 :: L2 :: F) rfl rfl
                              replace hS := hS.front 5 (C := L2) (L' := (E2 ++ D1) :: C14 :: D15 :: C22 :: D23 :: F) rfl rfl
                              replace hA := hA.rw 16 (v' := .int .i64 ((i + (j + 1) : Nat) : Int)) rfl (vint (by omega))
                              replace hA := hA.rw 15 (v' := .int .i64 ((i + (j + 1) : Nat) : Int)) rfl (vint (by omega))
                              exact lp_next _ (by omega) ⟨i, (j + 1), vs', L2, (E2 ++ D1), B1, e1, A102, c103, rfl, (hA.sel [0, 1, 3, 10, 12, 14, 15, 16] rfl), hS, by omega, by omega, hst'.swap, hM2, hP1, hO104⟩)
                         · first
                           | (exfalso; omega)
                           | (replace hA := hA.rw 123 (v' := .bool false) rfl (vb_eq_f hc106)
                              refine st_run tbOk 9 hA (e' := (132, undef) :: (131, undef) :: (130, undef) :: (129, undef) :: (128, undef) :: (127, undef) :: (126, undef) :: (125, .bool true) :: (124, .bool true) :: _) rfl ?_; clear hA; intro a hA
                              refine st_run tbOk 2 hA (e' := (134, .bool true) :: (133, undef) :: _) rfl ?_; clear hA; intro a hA
                              refine wpList_nil ?_
                              replace hA := hA.sel [0, 1, 3, 10, 12, 14, 15, 16, 134] (e' := [(0, .slice A l.length c), (1, .slice A2 l2.length c2), (3, .slice Aq ms.length cq), (10, .slice B1 ((ps.drop i).length) e1), (12, .slice A102 ((psq.drop (j + 1)).length) c103), (14, .pointer (some ⟨b26, 0, none⟩)), (15, .int .i64 ((i + j : Nat) : Int)), (16, .int .i64 ((i + j : Nat) : Int)), (134, .bool true)]) rfl
                              refine xt_norm ?_
                              refine cd_cond_t hA rfl ?_
                              refine wp_seq ?_
                              refine wp_region_lit ?_
                              refine st_run tbOk 1 hA (e' := (8, .bool false) :: _) rfl ?_; clear hA; intro a hA
                              refine wpList_nil ?_
                              replace hA := hA.sel [8] (e' := [(8, .bool false)]) rfl
                              refine xt_norm ?_
                              refine wp_ret (xt_ret (xb_ret (xt_ret (xt_ret (xb_ret (xt_ret ?_))))))
                              refine ret1 (fn := Try.f4) hA rfl rfl ?_
                              exfalso; omega))))
      · first
        | (exfalso; omega)
        | (replace hA := hA.rw 61 (v' := .bool false) rfl (vb_false hc31)
           refine cd_cond_f hA rfl ?_
           refine wp_exit ?_
           refine xt_exit ?_
           refine xt_exit ?_
           refine cd_exit_eq ?_
           refine xt_norm ?_
           refine wp_seq ?_
           refine wp_region_lit ?_
           have hii : i = nP l s := by omega
           have hjj : j = nP l2 s := by omega
           have hvs : vs = [] := by rw [hii, hjj] at hst; exact hst.done
           subst hvs
           refine st_run tbOk 3 hA (e' := (139, .bool (decide (((i + j : Nat) : Int) > 0))) :: (138, .bool (decide (((i + j : Nat) : Int) > 0))) :: (137, .int .i64 ((i + j : Nat) : Int)) :: _) rfl ?_; clear hA; intro a hA
           by_cases hc107 : ((i + j : Nat) : Int) > 0
           · first
             | (exfalso; omega)
             | (replace hA := hA.rw 138 (v' := .bool true) rfl (vb_true hc107)
                replace hA := hA.rw 139 (v' := .bool true) rfl (vb_true hc107)
                refine st_run tbOk 1 hA (e' := (140, .pointer (some ⟨b26, 0, none⟩)) :: _) rfl ?_; clear hA; intro a hA
                replace hS := hS.front 1 (C := D1) (L' := L1 :: C14 :: D15 :: C22 :: D23 :: F) rfl rfl
                replace hS := hS.front 1 (C := L1) (L' := D1 :: C14 :: D15 :: C22 :: D23 :: F) rfl rfl
                refine st_call0 hA rfl rfl rfl isfn10 rfl rfl (by decide) (waiting10 hS hM1) ?_
                clear hA hS; rintro _ w108 a ⟨L109, hM110, rfl, hS⟩ hA
                replace hA := hA.rw 141 (v' := .int .i64 0) rfl (by rfl)
                refine st_run tbOk 3 hA (e' := (8, .bool true) :: (143, .bool true) :: (142, .bool true) :: _) rfl ?_; clear hA; intro a hA
                refine wpList_nil ?_
                replace hA := hA.sel [8] (e' := [(8, .bool true)]) rfl
                refine xt_norm ?_
                refine wp_ret ?_
                refine ret1 (fn := Try.f4) hA rfl rfl ?_
                replace hS := hS.drop1
                replace hS := hS.drop1
                replace hS := hS.drop1
                replace hS := hS.drop1
                replace hS := hS.drop1
                replace hS := hS.drop1
                exact ⟨rfl, hS⟩)
           · first
             | (exfalso; omega)
             | (replace hA := hA.rw 138 (v' := .bool false) rfl (vb_false hc107)
                replace hA := hA.rw 139 (v' := .bool false) rfl (vb_false hc107)
                refine st_run tbOk 5 hA (e' := (8, .bool false) :: (143, .bool false) :: (142, undef) :: (141, undef) :: (140, undef) :: _) rfl ?_; clear hA; intro a hA
                refine wpList_nil ?_
                replace hA := hA.sel [8] (e' := [(8, .bool false)]) rfl
                refine xt_norm ?_
                refine wp_ret ?_
                refine ret1 (fn := Try.f4) hA rfl rfl ?_
                exfalso; omega))
end Go.Proofs.Ytbfdppfddlilgaa
