import Derived.Test.YtbfdppfddlilgaaK
set_option linter.unusedVariables false
set_option linter.unusedSimpArgs false
set_option maxRecDepth 4000
namespace Go.Proofs.Ytbfdppfddlilgaa
open Go Go.SK
set_option maxHeartbeats 4000000 in
theorem forgets6 {w0 w : World} {F : List Chunk} (hS : St w0 w F) {v : Value} {l : List UInt8} (hr : RdS w0 F 1 v l.length (rows encB l)) (hb : l.length * 1 ≤ 140737488351232) (a1 : Int) (h1 : 0 ≤ a1) (hb1 : a1 < 256) :
    Ret Try.prog 6 #[v, .int .u8 a1] w (fun v w' => v = .bool true ∧ St w0 w' F) := by
  obtain ⟨z, rfl⟩ := Int.eq_ofNat_of_zero_le h1
  obtain ⟨A, c, rfl, hmc, hcx⟩ := (hr w hS).open'
  refine enter (vs := [.slice A l.length c, .int .u8 ((z : Nat) : Int)]) 73 Try.func6 rfl rfl (by simp) ?_; intro a hA
  refine wp_seq ?_
  refine wp_region_lit ?_
  refine st_run tbOk 1 hA (e' := (4, .bool false) :: _) rfl ?_; clear hA; intro a hA
  refine wpList_nil ?_
  replace hA := hA.sel [0, 1] (e' := [(0, .slice A l.length c), (1, .int .u8 ((z : Nat) : Int))]) rfl
  refine xt_norm ?_
  refine wp_seq ?_
  refine wp_seq ?_
  refine wp_region_lit ?_
  refine st_call0 hA rfl rfl rfl isfn7 rfl rfl (by decide) (awake7 hS) ?_
  clear hA hS; rintro v w1 a ⟨rfl, hS⟩ hA
  refine st_run tbOk 1 hA (e' := (15, .bool false) :: _) rfl ?_; clear hA; intro a hA
  refine wpList_nil ?_
  replace hA := hA.sel [0, 1, 15] (e' := [(0, .slice A l.length c), (1, .int .u8 ((z : Nat) : Int)), (15, .bool false)]) rfl
  refine xt_norm ?_
  refine cd_cond_f hA rfl ?_
  refine wp_skip ?_
  refine xt_norm ?_
  refine wp_seq ?_
  refine wp_region_lit ?_
  refine st_run tbOk 3 hA (e' := (19, .int .u8 (((z : Nat) : Int).tmod 40)) :: (18, .int .u8 ((z : Nat) : Int)) :: (17, .slice A l.length c) :: _) rfl ?_; clear hA; intro a hA
  replace hA := hA.rw 19 (v' := .int .u8 ((z % 40 : Nat) : Int)) rfl (vint (Int.ofNat_tmod _ _).symm)
  refine st_run tbOk 1 hA (e' := (20, .int .i64 (IntKind.i64.wrap ((z % 40 : Nat) : Int))) :: _) rfl ?_; clear hA; intro a hA
  replace hA := hA.rw 20 (v' := .int .i64 ((z % 40 : Nat) : Int)) rfl (wr64 (by rfl) (by omega) (by omega))
  refine st_run tbOk 1 hA (e' := (21, .int .i64 (IntKind.i64.wrap (1 + ((z % 40 : Nat) : Int)))) :: _) rfl ?_; clear hA; intro a hA
  replace hA := hA.rw 21 (v' := .int .i64 ((1 + (z % 40) : Nat) : Int)) rfl (wr64 (by omega) (by omega) (by omega))
  obtain ⟨s, hs⟩ : ∃ s, s = 1 + z % 40 := ⟨_, rfl⟩
  replace hA := hA.rw 21 (v' := .int .i64 ((s : Nat) : Int)) rfl (by rw [hs])
  rcases Nat.lt_or_ge 256 (nP l s) with h3 | h3
  · have h9 := nP_many (by omega) h3
    refine st_call0 hA rfl rfl rfl isfn8 rfl rfl (by decide) (split_many8 hS (l := l) (fun w' h => (hr _ h)) 0 1 5 s (by omega) (by omega) h3 (by omega)) ?_
    clear hA hS; rintro v w2 a ⟨rfl, hS⟩ hA
    refine st_run tbOk 5 hA (e' := (6, .iface 51 (.int .i64 13)) :: (5, .slice none 0 0) :: (24, .iface 51 (.int .i64 13)) :: (23, .slice none 0 0) :: (16, .tuple #[.slice none 0 0, .iface 51 (.int .i64 13)]) :: _) rfl ?_; clear hA; intro a hA
    refine wpList_nil ?_
    replace hA := hA.sel [0, 5, 6] (e' := [(0, .slice A l.length c), (5, .slice none 0 0), (6, .iface 51 (.int .i64 13))]) rfl
    refine xt_norm ?_
    refine wp_seq ?_
    refine wp_seq ?_
    refine wp_region_lit ?_
    refine st_run tbOk 7 hA (e' := (31, .bool true) :: (30, undef) :: (29, undef) :: (28, undef) :: (27, .bool true) :: (26, .bool true) :: (25, .iface 51 (.int .i64 13)) :: _) rfl ?_; clear hA; intro a hA
    refine wpList_nil ?_
    replace hA := hA.sel [0, 5, 6, 31] (e' := [(0, .slice A l.length c), (5, .slice none 0 0), (6, .iface 51 (.int .i64 13)), (31, .bool true)]) rfl
    refine xt_norm ?_
    refine cd_cond_t hA rfl ?_
    refine wp_seq ?_
    refine wp_region_lit ?_
    refine st_run tbOk 8 hA (e' := (4, .bool (decide (((l.length : Nat) : Int) > 256))) :: (38, .bool (decide (((l.length : Nat) : Int) > 256))) :: (37, .bool (decide (((l.length : Nat) : Int) > 256))) :: (36, .int .i64 ((l.length : Nat) : Int)) :: (35, .slice A l.length c) :: (34, .bool false) :: (33, .bool false) :: (32, .iface 51 (.int .i64 13)) :: _) rfl ?_; clear hA; intro a hA
    refine wpList_nil ?_
    replace hA := hA.sel [4] (e' := [(4, .bool (decide (((l.length : Nat) : Int) > 256)))]) rfl
    refine xt_norm ?_
    refine wp_ret (xt_ret ?_)
    refine ret1 (fn := Try.f6) hA rfl rfl ?_
    exact ⟨congrArg Value.bool (decide_eq_true (by omega)), hS⟩
  · have hnp := nP_pos l s
    refine st_call0 hA rfl rfl rfl isfn8 rfl rfl (by decide) (split_ok8 hS (l := l) (fun w' h => (hr _ h)) 0 1 5 s (by omega) (by omega) h3 (by omega)) ?_
    clear hA hS; rintro _ w3 a ⟨v4, ps, C5, D6, hOC5, hpl, hpk, hdd, rfl, hS⟩ hA
    obtain ⟨A7, c8, rfl, hmc8, hxc8⟩ := hOC5.open'
    refine st_run tbOk 5 hA (e' := (6, .nilIface) :: (5, .slice A7 ps.length c8) :: (24, .nilIface) :: (23, .slice A7 ps.length c8) :: (16, .tuple #[.slice A7 ps.length c8, .nilIface]) :: _) rfl ?_; clear hA; intro a hA
    refine wpList_nil ?_
    replace hA := hA.sel [0, 5, 6] (e' := [(0, .slice A l.length c), (5, .slice A7 ps.length c8), (6, .nilIface)]) rfl
    refine xt_norm ?_
    refine wp_seq ?_
    refine wp_seq ?_
    refine wp_region_lit ?_
    refine st_run tbOk 7 hA (e' := (31, .bool (decide (((ps.length : Nat) : Int) < 2))) :: (30, .bool (decide (((ps.length : Nat) : Int) < 2))) :: (29, .int .i64 ((ps.length : Nat) : Int)) :: (28, .slice A7 ps.length c8) :: (27, .bool false) :: (26, .bool false) :: (25, .nilIface) :: _) rfl ?_; clear hA; intro a hA
    refine wpList_nil ?_
    replace hA := hA.sel [0, 5, 6, 31] (e' := [(0, .slice A l.length c), (5, .slice A7 ps.length c8), (6, .nilIface), (31, .bool (decide (((ps.length : Nat) : Int) < 2)))]) rfl
    refine xt_norm ?_
    by_cases hc9 : ((ps.length : Nat) : Int) < 2
    · first
      | (exfalso; omega)
      | (replace hA := hA.rw 31 (v' := .bool true) rfl (vb_true hc9)
         refine cd_cond_t hA rfl ?_
         refine wp_seq ?_
         refine wp_region_lit ?_
         refine st_run tbOk 8 hA (e' := (4, .bool true) :: (38, .bool true) :: (37, undef) :: (36, undef) :: (35, undef) :: (34, .bool true) :: (33, .bool true) :: (32, .nilIface) :: _) rfl ?_; clear hA; intro a hA
         refine wpList_nil ?_
         replace hA := hA.sel [4] (e' := [(4, .bool true)]) rfl
         refine xt_norm ?_
         refine wp_ret (xt_ret ?_)
         refine ret1 (fn := Try.f6) hA rfl rfl ?_
         replace hS := hS.drop1
         replace hS := hS.drop1
         exact ⟨rfl, hS⟩)
    · first
      | (exfalso; omega)
      | (replace hA := hA.rw 31 (v' := .bool false) rfl (vb_false hc9)
         refine cd_cond_f hA rfl ?_
         refine wp_skip ?_
         refine xt_norm ?_
         refine wp_seq ?_
         refine wp_region_lit ?_
         refine st_run tbOk 1 hA (e' := (39, .agg #[.slice none 0 0]) :: _) rfl ?_; clear hA; intro a hA
         refine st_box hA hS [.slice none 0 0] rfl rfl rfl rfl rfl (by decide) ?_; clear hA hS; intro b10 w11 a hS hA
         obtain ⟨L12, hM13, hS⟩ : ∃ Z, GS w0 b10 [] Z [] ∧ St w0 w11 (Z :: C5 :: D6 :: F) := ⟨_, GS.new _ _, hS⟩
         replace hS := hS.nil
         refine st_run tbOk 1 hA (e' := (7, .pointer (some ⟨b10, 0, none⟩)) :: _) rfl ?_; clear hA; intro a hA
         refine wpList_nil ?_
         replace hA := hA.sel [5, 7] (e' := [(5, .slice A7 ps.length c8), (7, .pointer (some ⟨b10, 0, none⟩))]) rfl
         refine xt_norm ?_
         refine wp_seq ?_
         refine wp_seq ?_
         refine wp_region_lit ?_
         refine st_run tbOk 1 hA (e' := (41, .slice A7 ps.length c8) :: _) rfl ?_; clear hA; intro a hA
         refine st_val hA rfl rfl (by decide) (rn_slice_l tbOk hA 1 rfl rfl rfl rfl rfl rfl (by rfl) (by omega)) ?_; clear hA; intro a hA
         obtain ⟨A14, c15, hs17, hmc15, hxc15⟩ := (hOC5.rslv encPacket_ok 1 ps.length c8 (by omega) (by omega) (by omega) (Nat.le_refl _)).open'
         have hO16 : Own 38 6 (.slice A14 (ps.drop 1).length c15) (ps.drop 1).length (rows encPacket (ps.drop 1)) C5 := by have h9 := (hOC5.rslv encPacket_ok 1 ps.length c8 (by omega) (by omega) (by omega) (Nat.le_refl _)); rw [hs17, show (ps.take ps.length).drop 1 = ps.drop 1 from by rw [List.take_length]] at h9; exact h9
         replace hA := hA.rw 42 (v' := .slice A14 ((ps.drop 1).length) c15) rfl (by rw [hs17, show (ps.take ps.length).drop 1 = ps.drop 1 from by rw [List.take_length]])
         have hdl : (ps.drop 1).length = ps.length - 1 := List.length_drop
         refine st_run tbOk 2 hA (e' := (44, .int .i64 0) :: (43, .int .i64 (((ps.drop 1).length : Nat) : Int)) :: _) rfl ?_; clear hA; intro a hA
         refine wpList_nil ?_
         replace hA := hA.sel [5, 7, 42, 43, 44] (e' := [(5, .slice A7 ps.length c8), (7, .pointer (some ⟨b10, 0, none⟩)), (42, .slice A14 ((ps.drop 1).length) c15), (43, .int .i64 (((ps.drop 1).length : Nat) : Int)), (44, .int .i64 0)]) rfl
         refine xt_norm ?_
         refine wp_block ?_
         replace hS := hS.front 3 (C := D6) (L' := [] :: L12 :: C5 :: F) rfl rfl
         replace hS := hS.front 3 (C := C5) (L' := D6 :: [] :: L12 :: F) rfl rfl
         replace hS := hS.front 2 (C := []) (L' := C5 :: D6 :: L12 :: F) rfl rfl
         replace hS := hS.front 3 (C := L12) (L' := [] :: C5 :: D6 :: F) rfl rfl
         refine wp_loop_ghost (fun m a w => ∃ (j : Nat) (f : Nat → Bool) (vs : List GV) (L1 : Chunk) (D1 : Chunk), m = (ps.drop 1).length - j ∧ Has a 73 [(5, .slice A7 ps.length c8), (7, .pointer (some ⟨b10, 0, none⟩)), (42, .slice A14 ((ps.drop 1).length) c15), (43, .int .i64 (((ps.drop 1).length : Nat) : Int)), (44, .int .i64 ((j : Nat) : Int))] ∧ St w0 w (L1 :: D1 :: C5 :: D6 :: F) ∧ (j ≤ (ps.drop 1).length) ∧ (One vs 0 1 5 (nP l s) f (piece l s)) ∧ (f 0 = false) ∧ (∀ i, j < i → f i = false) ∧ (GS w0 b10 vs L1 D1)) ((ps.drop 1).length - 0)
           ⟨0, (fun _ => false), ([]), L12, ([]), rfl, (hA.sel [5, 7, 42, 43, 44] rfl), hS, Nat.zero_le _, .inl ⟨rfl, fun _ => rfl⟩, rfl, fun _ _ => rfl, hM13⟩ ?_
         clear hA hS; rintro m0 a w18 ⟨j, f, vs, L1, D1, rfl, hA, hS, hj, hst, hf00, hfj, hM1⟩
         refine wp_seq ?_
         refine wp_region_lit ?_
         refine st_run tbOk 1 hA (e' := (45, .bool (decide (((j : Nat) : Int) < (((ps.drop 1).length : Nat) : Int)))) :: _) rfl ?_; clear hA; intro a hA
         refine wpList_nil ?_
         refine xt_norm ?_
         refine wp_seq ?_
         by_cases hc19 : ((j : Nat) : Int) < (((ps.drop 1).length : Nat) : Int)
         · first
           | (exfalso; omega)
           | (replace hA := hA.rw 45 (v' := .bool true) rfl (vb_true hc19)
              refine cd_cond_t hA rfl ?_
              refine wp_skip ?_
              refine xt_norm ?_
              refine wp_seq ?_
              refine wp_block ?_
              refine wp_seq ?_
              refine wp_region_lit ?_
              obtain ⟨y20, hy20⟩ := get_ex (l := ps) (k := j + 1) (by omega)
              obtain ⟨B21, d22, rfl⟩ := hpk (j + 1) y20 hy20
              have hdy20 := hdd _ (List.mem_of_getElem? hy20)
              have hpcy20 := piece_le l s (j + 1)
              obtain ⟨b23, o24, rfl⟩ := hO16.isSome (k := j) (by omega)
              refine st_val hA rfl rfl (by decide) (rn_indexAddr tbOk hA j (o24 + (j * 6)) rfl rfl rfl rfl rfl rfl (by rfl) (by omega) (by first | rfl | simp [Nat.mul_one, Nat.zero_add] | omega)) ?_; clear hA; intro a hA
              refine st_val hA rfl rfl (by decide) (rn_loadA tbOk hA ([.int .i64 0, .int .i64 1, .int .u64 5, .int .i64 ((j + 1 : Nat) : Int), .int .i64 ((nP l s : Nat) : Int), .slice B21 ((piece l s (j + 1)).length) d22]) rfl rfl rfl rfl (by rfl) ((hO16.rd (hS.own_ 2 rfl)).elem (k := j) encPacket_ok (show (ps.drop 1)[j]? = some (0, 1, 5, ((j + 1 : Nat) : Int), ((nP l s : Nat) : Int), B21, d22, piece l s (j + 1)) from by rw [List.getElem?_drop, Nat.add_comm]; exact hy20))) ?_; clear hA; intro a hA
              refine st_alloc tbOk hA hS [.int .i64 0, .int .i64 0, .int .u64 0, .int .i64 0, .int .i64 0, .slice none 0 0] rfl rfl rfl rfl rfl (by decide) ?_; clear hA hS; intro b25 w26 a hS hA
              refine st_store tbOk hA hS [.int .i64 0, .int .i64 1, .int .u64 5, .int .i64 ((j + 1 : Nat) : Int), .int .i64 ((nP l s : Nat) : Int), .slice B21 ((piece l s (j + 1)).length) d22] [.int .i64 0, .int .i64 1, .int .u64 5, .int .i64 ((j + 1 : Nat) : Int), .int .i64 ((nP l s : Nat) : Int), .slice B21 ((piece l s (j + 1)).length) d22] rfl rfl rfl rfl rfl rfl (by simp [Value.oneCell']) (Nat.le_of_ble_eq_true rfl) rfl rfl rfl ?_; clear hS; intro w27 hS
              refine wpList_nil ?_
              replace hA := hA.sel [5, 7, 9, 42, 43, 44] (e' := [(5, .slice A7 ps.length c8), (7, .pointer (some ⟨b10, 0, none⟩)), (9, .pointer (some ⟨b25, 0, none⟩)), (42, .slice (some ⟨b23, o24, none⟩) ((ps.drop 1).length) c15), (43, .int .i64 (((ps.drop 1).length : Nat) : Int)), (44, .int .i64 ((j : Nat) : Int))]) rfl
              refine xt_norm ?_
              refine wp_seq ?_
              refine wp_region_lit ?_
              refine st_run tbOk 1 hA (e' := (49, .pointer (some ⟨b10, 0, none⟩)) :: _) rfl ?_; clear hA; intro a hA
              refine st_val hA rfl rfl (by decide) (rn_loadA tbOk hA [.int .i64 0, .int .i64 1, .int .u64 5, .int .i64 ((j + 1 : Nat) : Int), .int .i64 ((nP l s : Nat) : Int), .slice B21 ((piece l s (j + 1)).length) d22] rfl rfl rfl rfl rfl (cells_row (hS.heapAt 0 rfl) rfl)) ?_; clear hA; intro a hA
              have hff := hfj (j + 1) (by omega)
              have hmore : ∃ i, i < nP l s ∧ up f (j + 1) i = false := ⟨0, by omega, by rw [up_ne (by omega)]; exact hf00⟩
              rcases hst with ⟨hvs, hf0⟩ | hvs
              · subst hvs
                replace hS := hS.front 2 (C := D1) (L' := [(b25, rowO [.int .i64 0, .int .i64 1, .int .u64 5, .int .i64 ((j + 1 : Nat) : Int), .int .i64 ((nP l s : Nat) : Int), .slice B21 ((piece l s (j + 1)).length) d22] 38)] :: L1 :: C5 :: D6 :: F) rfl rfl
                replace hS := hS.front 2 (C := L1) (L' := D1 :: [(b25, rowO [.int .i64 0, .int .i64 1, .int .u64 5, .int .i64 ((j + 1 : Nat) : Int), .int .i64 ((nP l s : Nat) : Int), .slice B21 ((piece l s (j + 1)).length) d22] 38)] :: C5 :: D6 :: F) rfl rfl
                refine st_call0 hA rfl rfl rfl isfn9 rfl rfl (by decide) (add_new_put9 hS hM1 0 1 5 (j + 1) (nP l s) (bs := (piece l s (j + 1))) (fun w' h => (hdy20 _ (h.only 3 rfl))) (by omega) (by omega) (by omega) nil_key (by decide) (any_new (f := f) hf0 (by omega) hmore)) ?_
                clear hA hS; rintro _ w28 a ⟨L29, E31, hM30, rfl, hS⟩ hA
                have hM32 : GS w0 b10 ([GV1 0 1 5 (nP l s) (up f (j + 1)) (piece l s)]) L29 (E31 ++ D1) := by have h9 := hM30; rw [One.new (n := (nP l s)) (k := (j + 1)) (f := f) (pc := (piece l s)) hf0 (by omega)] at h9; exact h9
                refine st_run tbOk 5 hA (e' := (11, .bool false) :: (10, .slice none 0 0) :: (53, .bool false) :: (52, .slice none 0 0) :: (48, .tuple #[.slice none 0 0, .bool false]) :: _) rfl ?_; clear hA; intro a hA
                refine wpList_nil ?_
                replace hA := hA.sel [5, 7, 11, 42, 43, 44] (e' := [(5, .slice A7 ps.length c8), (7, .pointer (some ⟨b10, 0, none⟩)), (11, .bool false), (42, .slice (some ⟨b23, o24, none⟩) ((ps.drop 1).length) c15), (43, .int .i64 (((ps.drop 1).length : Nat) : Int)), (44, .int .i64 ((j : Nat) : Int))]) rfl
                refine xt_norm ?_
                refine wp_seq ?_
                refine wp_region_lit ?_
                refine st_run tbOk 1 hA (e' := (54, .bool false) :: _) rfl ?_; clear hA; intro a hA
                refine wpList_nil ?_
                replace hA := hA.sel [5, 7, 42, 43, 44, 54] (e' := [(5, .slice A7 ps.length c8), (7, .pointer (some ⟨b10, 0, none⟩)), (42, .slice (some ⟨b23, o24, none⟩) ((ps.drop 1).length) c15), (43, .int .i64 (((ps.drop 1).length : Nat) : Int)), (44, .int .i64 ((j : Nat) : Int)), (54, .bool false)]) rfl
                refine xt_norm ?_
                refine cd_cond_f hA rfl ?_
                refine wp_skip ?_
                refine xb_norm ?_
                refine xt_norm ?_
                refine wp_region_lit ?_
                refine st_run tbOk 1 hA (e' := (55, .int .i64 (IntKind.i64.wrap (((j : Nat) : Int) + 1))) :: _) rfl ?_; clear hA; intro a hA
                replace hA := hA.rw 55 (v' := .int .i64 ((j + 1 : Nat) : Int)) rfl (wr64 (by omega) (by omega) (by omega))
                refine st_run tbOk 1 hA (e' := (44, .int .i64 ((j + 1 : Nat) : Int)) :: _) rfl ?_; clear hA; intro a hA
                refine wpList_nil ?_
                replace hA := hA.sel [5, 7, 42, 43, 44] (e' := [(5, .slice A7 ps.length c8), (7, .pointer (some ⟨b10, 0, none⟩)), (42, .slice (some ⟨b23, o24, none⟩) ((ps.drop 1).length) c15), (43, .int .i64 (((ps.drop 1).length : Nat) : Int)), (44, .int .i64 ((j + 1 : Nat) : Int))]) rfl
                replace hS := hS.front 2 (C := [(b25, rowO [.int .i64 0, .int .i64 1, .int .u64 5, .int .i64 ((j + 1 : Nat) : Int), .int .i64 ((nP l s : Nat) : Int), .slice B21 ((piece l s (j + 1)).length) d22] 38)]) (L' := L29 :: (E31 ++ D1) :: C5 :: D6 :: F) rfl rfl
                replace hS := hS.drop1
                replace hS := hS.front 3 (C := D6) (L' := L29 :: (E31 ++ D1) :: C5 :: F) rfl rfl
                replace hS := hS.front 3 (C := C5) (L' := D6 :: L29 :: (E31 ++ D1) :: F) rfl rfl
                replace hS := hS.front 3 (C := (E31 ++ D1)) (L' := C5 :: D6 :: L29 :: F) rfl rfl
                replace hS := hS.front 3 (C := L29) (L' := (E31 ++ D1) :: C5 :: D6 :: F) rfl rfl
                exact lp_next _ (by omega) ⟨(j + 1), (up f (j + 1)), ([GV1 0 1 5 (nP l s) (up f (j + 1)) (piece l s)]), L29, (E31 ++ D1), rfl, (hA.sel [5, 7, 42, 43, 44] rfl), hS, by omega, .inr rfl, (by rw [up_ne (by omega)]; exact hf00), (fun i hi => by rw [up_ne (by omega)]; exact hfj i (by omega)), hM32⟩
              · subst hvs
                replace hS := hS.front 2 (C := D1) (L' := [(b25, rowO [.int .i64 0, .int .i64 1, .int .u64 5, .int .i64 ((j + 1 : Nat) : Int), .int .i64 ((nP l s : Nat) : Int), .slice B21 ((piece l s (j + 1)).length) d22] 38)] :: L1 :: C5 :: D6 :: F) rfl rfl
                replace hS := hS.front 2 (C := L1) (L' := D1 :: [(b25, rowO [.int .i64 0, .int .i64 1, .int .u64 5, .int .i64 ((j + 1 : Nat) : Int), .int .i64 ((nP l s : Nat) : Int), .slice B21 ((piece l s (j + 1)).length) d22] 38)] :: C5 :: D6 :: F) rfl rfl
                refine st_call0 hA rfl rfl rfl isfn9 rfl rfl (by decide) (add_hit_put9 hS hM1 0 1 5 (j + 1) (nP l s) (bs := (piece l s (j + 1))) (fun w' h => (hdy20 _ (h.only 3 rfl))) (by omega) (by omega) (by omega) (k := 0) (has := hv (nP l s) f) (dat := dv (nP l s) f (piece l s)) rfl one_key (hv_len _ _) (by rw [hv_get (by omega), hff]) (any_put (by omega) hmore)) ?_
                clear hA hS; rintro _ w33 a ⟨L34, E36, hM35, rfl, hS⟩ hA
                have hM37 : GS w0 b10 ([GV1 0 1 5 (nP l s) (up f (j + 1)) (piece l s)]) L34 (E36 ++ D1) := by have h9 := hM35; rw [One.put (fr := 0) (to := 1) (id := 5) (n := (nP l s)) (k := (j + 1)) (f := f) (pc := (piece l s)) (by omega)] at h9; exact h9
                refine st_run tbOk 5 hA (e' := (11, .bool false) :: (10, .slice none 0 0) :: (53, .bool false) :: (52, .slice none 0 0) :: (48, .tuple #[.slice none 0 0, .bool false]) :: _) rfl ?_; clear hA; intro a hA
                refine wpList_nil ?_
                replace hA := hA.sel [5, 7, 11, 42, 43, 44] (e' := [(5, .slice A7 ps.length c8), (7, .pointer (some ⟨b10, 0, none⟩)), (11, .bool false), (42, .slice (some ⟨b23, o24, none⟩) ((ps.drop 1).length) c15), (43, .int .i64 (((ps.drop 1).length : Nat) : Int)), (44, .int .i64 ((j : Nat) : Int))]) rfl
                refine xt_norm ?_
                refine wp_seq ?_
                refine wp_region_lit ?_
                refine st_run tbOk 1 hA (e' := (54, .bool false) :: _) rfl ?_; clear hA; intro a hA
                refine wpList_nil ?_
                replace hA := hA.sel [5, 7, 42, 43, 44, 54] (e' := [(5, .slice A7 ps.length c8), (7, .pointer (some ⟨b10, 0, none⟩)), (42, .slice (some ⟨b23, o24, none⟩) ((ps.drop 1).length) c15), (43, .int .i64 (((ps.drop 1).length : Nat) : Int)), (44, .int .i64 ((j : Nat) : Int)), (54, .bool false)]) rfl
                refine xt_norm ?_
                refine cd_cond_f hA rfl ?_
                refine wp_skip ?_
                refine xb_norm ?_
                refine xt_norm ?_
                refine wp_region_lit ?_
                refine st_run tbOk 1 hA (e' := (55, .int .i64 (IntKind.i64.wrap (((j : Nat) : Int) + 1))) :: _) rfl ?_; clear hA; intro a hA
                replace hA := hA.rw 55 (v' := .int .i64 ((j + 1 : Nat) : Int)) rfl (wr64 (by omega) (by omega) (by omega))
                refine st_run tbOk 1 hA (e' := (44, .int .i64 ((j + 1 : Nat) : Int)) :: _) rfl ?_; clear hA; intro a hA
                refine wpList_nil ?_
                replace hA := hA.sel [5, 7, 42, 43, 44] (e' := [(5, .slice A7 ps.length c8), (7, .pointer (some ⟨b10, 0, none⟩)), (42, .slice (some ⟨b23, o24, none⟩) ((ps.drop 1).length) c15), (43, .int .i64 (((ps.drop 1).length : Nat) : Int)), (44, .int .i64 ((j + 1 : Nat) : Int))]) rfl
                replace hS := hS.front 2 (C := [(b25, rowO [.int .i64 0, .int .i64 1, .int .u64 5, .int .i64 ((j + 1 : Nat) : Int), .int .i64 ((nP l s : Nat) : Int), .slice B21 ((piece l s (j + 1)).length) d22] 38)]) (L' := L34 :: (E36 ++ D1) :: C5 :: D6 :: F) rfl rfl
                replace hS := hS.drop1
                replace hS := hS.front 3 (C := D6) (L' := L34 :: (E36 ++ D1) :: C5 :: F) rfl rfl
                replace hS := hS.front 3 (C := C5) (L' := D6 :: L34 :: (E36 ++ D1) :: F) rfl rfl
                replace hS := hS.front 3 (C := (E36 ++ D1)) (L' := C5 :: D6 :: L34 :: F) rfl rfl
                replace hS := hS.front 3 (C := L34) (L' := (E36 ++ D1) :: C5 :: D6 :: F) rfl rfl
                exact lp_next _ (by omega) ⟨(j + 1), (up f (j + 1)), ([GV1 0 1 5 (nP l s) (up f (j + 1)) (piece l s)]), L34, (E36 ++ D1), rfl, (hA.sel [5, 7, 42, 43, 44] rfl), hS, by omega, .inr rfl, (by rw [up_ne (by omega)]; exact hf00), (fun i hi => by rw [up_ne (by omega)]; exact hfj i (by omega)), hM37⟩)
         · first
           | (exfalso; omega)
           | (replace hA := hA.rw 45 (v' := .bool false) rfl (vb_false hc19)
              refine cd_cond_f hA rfl ?_
              refine wp_exit ?_
              refine xt_exit ?_
              refine xt_exit ?_
              refine cd_exit_eq ?_
              refine xt_norm ?_
              refine wp_seq ?_
              refine wp_region_lit ?_
              refine st_run tbOk 1 hA (e' := (56, .pointer (some ⟨b10, 0, none⟩)) :: _) rfl ?_; clear hA; intro a hA
              replace hS := hS.front 1 (C := D1) (L' := L1 :: C5 :: D6 :: F) rfl rfl
              replace hS := hS.front 1 (C := L1) (L' := D1 :: C5 :: D6 :: F) rfl rfl
              refine st_call0 hA rfl rfl rfl isfn13 rfl rfl (by decide) (forget13 hS hM1) ?_
              clear hA hS; rintro _ w38 a ⟨L39, hM40, rfl, hS⟩ hA
              refine wpList_nil ?_
              replace hA := hA.sel [5, 7] (e' := [(5, .slice A7 ps.length c8), (7, .pointer (some ⟨b10, 0, none⟩))]) rfl
              refine xt_norm ?_
              refine wp_seq ?_
              refine wp_region_lit ?_
              obtain ⟨y41, hy41⟩ := get_ex (l := ps) (k := 0) (by omega)
              obtain ⟨B42, d43, rfl⟩ := hpk 0 y41 hy41
              have hdy41 := hdd _ (List.mem_of_getElem? hy41)
              have hpcy41 := piece_le l s 0
              have hmore : ∃ i, i < nP l s ∧ up (fun _ => false) 0 i = false := ⟨1, by omega, by rw [up_ne (by omega)]⟩
              have hf0 : ∀ i : Nat, (fun _ : Nat => false) i = false := fun _ => rfl
              refine st_run tbOk 2 hA (e' := (60, .slice A7 ps.length c8) :: (59, .pointer (some ⟨b10, 0, none⟩)) :: _) rfl ?_; clear hA; intro a hA
              obtain ⟨b44, o45, rfl⟩ := hOC5.isSome (k := 0) (by omega)
              refine st_val hA rfl rfl (by decide) (rn_indexAddr tbOk hA 0 o45 rfl rfl rfl rfl rfl rfl (by rfl) (by omega) (by first | rfl | simp [Nat.mul_one, Nat.zero_add] | omega)) ?_; clear hA; intro a hA
              refine st_val hA rfl rfl (by decide) (rn_loadA tbOk hA ([.int .i64 0, .int .i64 1, .int .u64 5, .int .i64 ((0 : Nat) : Int), .int .i64 ((nP l s : Nat) : Int), .slice B42 ((piece l s 0).length) d43]) rfl rfl rfl rfl (by rfl) ((hOC5.rd (hS.own_ 2 rfl)).elem (k := 0) encPacket_ok hy41)) ?_; clear hA; intro a hA
              replace hS := hS.front 1 (C := D1) (L' := L39 :: C5 :: D6 :: F) rfl rfl
              replace hS := hS.front 1 (C := L39) (L' := D1 :: C5 :: D6 :: F) rfl rfl
              refine st_call0 hA rfl rfl rfl isfn9 rfl rfl (by decide) (add_new_put9 hS hM40 0 1 5 0 (nP l s) (bs := (piece l s 0)) (fun w' h => (hdy41 _ (h.only 2 rfl))) (by omega) (by omega) (by omega) nil_key (by decide) (any_new (f := (fun _ => false)) hf0 (by omega) hmore)) ?_
              clear hA hS; rintro _ w46 a ⟨L47, E49, hM48, rfl, hS⟩ hA
              have hM50 : GS w0 b10 ([GV1 0 1 5 (nP l s) (up (fun _ => false) 0) (piece l s)]) L47 (E49 ++ D1) := by have h9 := hM48; rw [One.new (n := (nP l s)) (k := 0) (f := (fun _ => false)) (pc := (piece l s)) hf0 (by omega)] at h9; exact h9
              refine st_run tbOk 5 hA (e' := (13, .bool false) :: (12, .slice none 0 0) :: (65, .bool false) :: (64, .slice none 0 0) :: (58, .tuple #[.slice none 0 0, .bool false]) :: _) rfl ?_; clear hA; intro a hA
              refine wpList_nil ?_
              replace hA := hA.sel [7, 13] (e' := [(7, .pointer (some ⟨b10, 0, none⟩)), (13, .bool false)]) rfl
              refine xt_norm ?_
              refine wp_seq ?_
              refine wp_region_lit ?_
              refine st_run tbOk 4 hA (e' := (69, .pointer (some ⟨b10, 0, none⟩)) :: (68, .bool true) :: (67, .bool true) :: (66, .bool false) :: _) rfl ?_; clear hA; intro a hA
              replace hS := hS.front 1 (C := (E49 ++ D1)) (L' := L47 :: C5 :: D6 :: F) rfl rfl
              replace hS := hS.front 1 (C := L47) (L' := (E49 ++ D1) :: C5 :: D6 :: F) rfl rfl
              refine st_call0 hA rfl rfl rfl isfn10 rfl rfl (by decide) (waiting10 hS hM50) ?_
              clear hA hS; rintro _ w51 a ⟨L52, hM53, rfl, hS⟩ hA
              replace hA := hA.rw 70 (v' := .int .i64 1) rfl (by rfl)
              refine st_run tbOk 3 hA (e' := (4, .bool true) :: (72, .bool true) :: (71, .bool true) :: _) rfl ?_; clear hA; intro a hA
              refine wpList_nil ?_
              replace hA := hA.sel [4] (e' := [(4, .bool true)]) rfl
              refine xt_norm ?_
              refine wp_ret ?_
              refine ret1 (fn := Try.f6) hA rfl rfl ?_
              replace hS := hS.drop1
              replace hS := hS.drop1
              replace hS := hS.drop1
              replace hS := hS.drop1
              exact ⟨rfl, hS⟩))
end Go.Proofs.Ytbfdppfddlilgaa
