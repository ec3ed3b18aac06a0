import Derived.Test.YtbfdppfddlilgaaK
set_option linter.unusedVariables false
set_option linter.unusedSimpArgs false
set_option maxRecDepth 4000
namespace Go.Proofs.Ytbfdppfddlilgaa
open Go Go.SK
set_option maxHeartbeats 4000000 in
theorem order3 {w0 w : World} {F : List Chunk} (hS : St w0 w F) {v u : Value} {l os : List UInt8} (hr : RdS w0 F 1 v l.length (rows encB l)) (hb : l.length * 1 ≤ 140737488351232) (a1 : Int) (h1 : 0 ≤ a1) (hb1 : a1 < 256) (hq : RdS w0 F 1 u os.length (rows encB os)) :
    Ret Try.prog 3 #[v, .int .u8 a1, u] w (fun v w' => v = .bool true ∧ St w0 w' F) := by
  obtain ⟨z, rfl⟩ := Int.eq_ofNat_of_zero_le h1
  obtain ⟨A, c, rfl, hmc, hcx⟩ := (hr w hS).open'
  obtain ⟨Aq, cq, rfl, hmq, hcq⟩ := (hq w hS).open'
  refine enter (vs := [.slice A l.length c, .int .u8 ((z : Nat) : Int), .slice Aq os.length cq]) 129 Try.func3 rfl rfl (by simp) ?_; intro a hA
  refine wp_seq ?_
  refine wp_region_lit ?_
  refine st_run tbOk 1 hA (e' := (6, .bool false) :: _) rfl ?_; clear hA; intro a hA
  refine wpList_nil ?_
  replace hA := hA.sel [0, 1, 2] (e' := [(0, .slice A l.length c), (1, .int .u8 ((z : Nat) : Int)), (2, .slice Aq os.length cq)]) rfl
  refine xt_norm ?_
  refine wp_seq ?_
  refine wp_seq ?_
  refine wp_region_lit ?_
  refine st_call0 hA rfl rfl rfl isfn7 rfl rfl (by decide) (awake7 hS) ?_
  clear hA hS; rintro v w1 a ⟨rfl, hS⟩ hA
  refine st_run tbOk 1 hA (e' := (22, .bool false) :: _) rfl ?_; clear hA; intro a hA
  refine wpList_nil ?_
  replace hA := hA.sel [0, 1, 2, 22] (e' := [(0, .slice A l.length c), (1, .int .u8 ((z : Nat) : Int)), (2, .slice Aq os.length cq), (22, .bool false)]) rfl
  refine xt_norm ?_
  refine cd_cond_f hA rfl ?_
  refine wp_skip ?_
  refine xt_norm ?_
  refine wp_seq ?_
  refine wp_region_lit ?_
  refine st_run tbOk 3 hA (e' := (26, .int .u8 (((z : Nat) : Int).tmod 60)) :: (25, .int .u8 ((z : Nat) : Int)) :: (24, .slice A l.length c) :: _) rfl ?_; clear hA; intro a hA
  replace hA := hA.rw 26 (v' := .int .u8 ((z % 60 : Nat) : Int)) rfl (vint (Int.ofNat_tmod _ _).symm)
  refine st_run tbOk 1 hA (e' := (27, .int .i64 (IntKind.i64.wrap ((z % 60 : Nat) : Int))) :: _) rfl ?_; clear hA; intro a hA
  replace hA := hA.rw 27 (v' := .int .i64 ((z % 60 : Nat) : Int)) rfl (wr64 (by rfl) (by omega) (by omega))
  refine st_run tbOk 1 hA (e' := (28, .int .i64 (IntKind.i64.wrap (1 + ((z % 60 : Nat) : Int)))) :: _) rfl ?_; clear hA; intro a hA
  replace hA := hA.rw 28 (v' := .int .i64 ((1 + (z % 60) : Nat) : Int)) rfl (wr64 (by omega) (by omega) (by omega))
  obtain ⟨s, hs⟩ : ∃ s, s = 1 + z % 60 := ⟨_, rfl⟩
  replace hA := hA.rw 28 (v' := .int .i64 ((s : Nat) : Int)) rfl (by rw [hs])
  rcases Nat.lt_or_ge 256 (nP l s) with h3 | h3
  · have h9 := nP_many (by omega) h3
    refine st_call0 hA rfl rfl rfl isfn8 rfl rfl (by decide) (split_many8 hS (l := l) (fun w' h => (hr _ h)) 0 1 5 s (by omega) (by omega) h3 (by omega)) ?_
    clear hA hS; rintro v w2 a ⟨rfl, hS⟩ hA
    refine st_run tbOk 5 hA (e' := (8, .iface 51 (.int .i64 13)) :: (7, .slice none 0 0) :: (31, .iface 51 (.int .i64 13)) :: (30, .slice none 0 0) :: (23, .tuple #[.slice none 0 0, .iface 51 (.int .i64 13)]) :: _) rfl ?_; clear hA; intro a hA
    refine wpList_nil ?_
    replace hA := hA.sel [0, 2, 7, 8] (e' := [(0, .slice A l.length c), (2, .slice Aq os.length cq), (7, .slice none 0 0), (8, .iface 51 (.int .i64 13))]) rfl
    refine xt_norm ?_
    refine wp_seq ?_
    refine wp_seq ?_
    refine wp_region_lit ?_
    refine st_run tbOk 2 hA (e' := (33, .bool true) :: (32, .iface 51 (.int .i64 13)) :: _) rfl ?_; clear hA; intro a hA
    refine wpList_nil ?_
    replace hA := hA.sel [0, 2, 7, 33] (e' := [(0, .slice A l.length c), (2, .slice Aq os.length cq), (7, .slice none 0 0), (33, .bool true)]) rfl
    refine xt_norm ?_
    refine cd_cond_t hA rfl ?_
    refine wp_seq ?_
    refine wp_region_lit ?_
    refine st_run tbOk 4 hA (e' := (6, .bool (decide (((l.length : Nat) : Int) > 256))) :: (36, .bool (decide (((l.length : Nat) : Int) > 256))) :: (35, .int .i64 ((l.length : Nat) : Int)) :: (34, .slice A l.length c) :: _) rfl ?_; clear hA; intro a hA
    refine wpList_nil ?_
    replace hA := hA.sel [6] (e' := [(6, .bool (decide (((l.length : Nat) : Int) > 256)))]) rfl
    refine xt_norm ?_
    refine wp_ret (xt_ret ?_)
    refine ret1 (fn := Try.f3) hA rfl rfl ?_
    exact ⟨congrArg Value.bool (decide_eq_true (by omega)), hS⟩
  · have hnp := nP_pos l s
    refine st_call0 hA rfl rfl rfl isfn8 rfl rfl (by decide) (split_ok8 hS (l := l) (fun w' h => (hr _ h)) 0 1 5 s (by omega) (by omega) h3 (by omega)) ?_
    clear hA hS; rintro _ w3 a ⟨v4, ps, C5, D6, hOC5, hpl, hpk, hdd, rfl, hS⟩ hA
    obtain ⟨A7, c8, rfl, hmc8, hxc8⟩ := hOC5.open'
    refine st_run tbOk 5 hA (e' := (8, .nilIface) :: (7, .slice A7 ps.length c8) :: (31, .nilIface) :: (30, .slice A7 ps.length c8) :: (23, .tuple #[.slice A7 ps.length c8, .nilIface]) :: _) rfl ?_; clear hA; intro a hA
    refine wpList_nil ?_
    replace hA := hA.sel [0, 2, 7, 8] (e' := [(0, .slice A l.length c), (2, .slice Aq os.length cq), (7, .slice A7 ps.length c8), (8, .nilIface)]) rfl
    refine xt_norm ?_
    refine wp_seq ?_
    refine wp_seq ?_
    refine wp_region_lit ?_
    refine st_run tbOk 2 hA (e' := (33, .bool false) :: (32, .nilIface) :: _) rfl ?_; clear hA; intro a hA
    refine wpList_nil ?_
    replace hA := hA.sel [0, 2, 7, 33] (e' := [(0, .slice A l.length c), (2, .slice Aq os.length cq), (7, .slice A7 ps.length c8), (33, .bool false)]) rfl
    refine xt_norm ?_
    refine cd_cond_f hA rfl ?_
    refine wp_skip ?_
    refine xt_norm ?_
    refine wp_seq ?_
    refine wp_region_lit ?_
    refine st_run tbOk 1 hA (e' := (37, .agg #[.slice none 0 0]) :: _) rfl ?_; clear hA; intro a hA
    refine st_box hA hS [.slice none 0 0] rfl rfl rfl rfl rfl (by decide) ?_; clear hA hS; intro b9 w10 a hS hA
    obtain ⟨L11, hM12, hS⟩ : ∃ Z, GS w0 b9 [] Z [] ∧ St w0 w10 (Z :: C5 :: D6 :: F) := ⟨_, GS.new _ _, hS⟩
    replace hS := hS.nil
    refine st_run tbOk 1 hA (e' := (9, .pointer (some ⟨b9, 0, none⟩)) :: _) rfl ?_; clear hA; intro a hA
    refine wpList_nil ?_
    replace hA := hA.sel [0, 2, 7, 9] (e' := [(0, .slice A l.length c), (2, .slice Aq os.length cq), (7, .slice A7 ps.length c8), (9, .pointer (some ⟨b9, 0, none⟩))]) rfl
    refine xt_norm ?_
    refine wp_seq ?_
    refine wp_region_lit ?_
    refine st_run tbOk 2 hA (e' := (40, .int .i64 ((ps.length : Nat) : Int)) :: (39, .slice A7 ps.length c8) :: _) rfl ?_; clear hA; intro a hA
    refine st_makeSlice tbOk hA hS ps.length encBo_ok (by decide) false rfl rfl rfl rfl rfl rfl rfl rfl (by show 1 * ps.length ≤ 281474976710656; omega) (by omega) rfl rfl (by decide) ?_; clear hA hS; intro b13 w14 a hS hA
    obtain ⟨C15, hO15, hS⟩ : ∃ Cq9, Own 4 1 (.slice (some ⟨b13, 0, none⟩) ps.length ps.length) ps.length (rows encBo (List.replicate ps.length false)) Cq9 ∧ St w0 w14 (Cq9 :: [] :: L11 :: C5 :: D6 :: F) := ⟨_, Own.full (by rw [rows_length encBo_ok, List.length_replicate]) (by show ps.length ≤ 9223372036854775807; omega), hS⟩
    generalize (some (⟨b13, 0, none⟩ : Addr)) = A16 at hO15 hA
    refine st_run tbOk 1 hA (e' := (10, .slice A16 ps.length ps.length) :: _) rfl ?_; clear hA; intro a hA
    refine wpList_nil ?_
    replace hA := hA.sel [0, 2, 7, 9, 10] (e' := [(0, .slice A l.length c), (2, .slice Aq os.length cq), (7, .slice A7 ps.length c8), (9, .pointer (some ⟨b9, 0, none⟩)), (10, .slice A16 ps.length ps.length)]) rfl
    refine xt_norm ?_
    refine wp_seq ?_
    refine wp_region_lit ?_
    have hsn : Own 4 1 (.slice A16 (hv (nP l s) (fun _ => false)).length ps.length) (hv (nP l s) (fun _ => false)).length (rows encBo (hv (nP l s) (fun _ => false))) C15 := by rw [hv_none (fun _ => rfl), List.length_replicate, ← hpl]; exact hO15
    replace hA := hA.rw 10 (v' := .slice A16 ((hv (nP l s) (fun _ => false)).length) ps.length) rfl (by rw [hv_len, hpl])
    refine st_run tbOk 3 hA (e' := (11, .int .i64 ((ps.length : Nat) : Int)) :: (43, .int .i64 ((ps.length : Nat) : Int)) :: (42, .slice A7 ps.length c8) :: _) rfl ?_; clear hA; intro a hA
    refine wpList_nil ?_
    replace hA := hA.sel [0, 2, 7, 9, 10, 11] (e' := [(0, .slice A l.length c), (2, .slice Aq os.length cq), (7, .slice A7 ps.length c8), (9, .pointer (some ⟨b9, 0, none⟩)), (10, .slice A16 ((hv (nP l s) (fun _ => false)).length) ps.length), (11, .int .i64 ((ps.length : Nat) : Int))]) rfl
    refine xt_norm ?_
    refine wp_seq ?_
    refine wp_seq ?_
    refine wp_region_lit ?_
    refine st_run tbOk 3 hA (e' := (46, .int .i64 0) :: (45, .int .i64 ((os.length : Nat) : Int)) :: (44, .slice Aq os.length cq) :: _) rfl ?_; clear hA; intro a hA
    refine wpList_nil ?_
    replace hA := hA.sel [0, 7, 9, 10, 11, 44, 45, 46] (e' := [(0, .slice A l.length c), (7, .slice A7 ps.length c8), (9, .pointer (some ⟨b9, 0, none⟩)), (10, .slice A16 ((hv (nP l s) (fun _ => false)).length) ps.length), (11, .int .i64 ((ps.length : Nat) : Int)), (44, .slice Aq os.length cq), (45, .int .i64 ((os.length : Nat) : Int)), (46, .int .i64 0)]) rfl
    refine xt_norm ?_
    refine wp_block ?_
    replace hS := hS.front 4 (C := D6) (L' := C15 :: [] :: L11 :: C5 :: F) rfl rfl
    replace hS := hS.front 4 (C := C5) (L' := D6 :: C15 :: [] :: L11 :: F) rfl rfl
    replace hS := hS.front 2 (C := C15) (L' := C5 :: D6 :: [] :: L11 :: F) rfl rfl
    replace hS := hS.front 3 (C := []) (L' := C15 :: C5 :: D6 :: L11 :: F) rfl rfl
    replace hS := hS.front 4 (C := L11) (L' := [] :: C15 :: C5 :: D6 :: F) rfl rfl
    replace hA := hA.rw 11 (v' := .int .i64 ((cnt (nP l s) (fun _ => false) : Nat) : Int)) rfl (vint (by rw [cnt_full (fun _ => rfl)]; omega))
    refine wp_loop_ghost (fun m a w => ∃ (i : Nat) (f : Nat → Bool) (vs : List GV) (L1 : Chunk) (D1 : Chunk) (As : Option Addr) (cs : Nat) (Cs : Chunk), m = os.length - i ∧ Has a 129 [(0, .slice A l.length c), (7, .slice A7 ps.length c8), (9, .pointer (some ⟨b9, 0, none⟩)), (10, .slice As ((hv (nP l s) f).length) cs), (11, .int .i64 ((cnt (nP l s) f : Nat) : Int)), (44, .slice Aq os.length cq), (45, .int .i64 ((os.length : Nat) : Int)), (46, .int .i64 ((i : Nat) : Int))] ∧ St w0 w (L1 :: D1 :: Cs :: C5 :: D6 :: F) ∧ (i ≤ os.length) ∧ (One vs 0 1 5 (nP l s) f (piece l s)) ∧ (1 ≤ cnt (nP l s) f) ∧ (GS w0 b9 vs L1 D1) ∧ (Own 4 1 (.slice As (hv (nP l s) f).length cs) (hv (nP l s) f).length (rows encBo (hv (nP l s) f)) Cs)) (os.length - 0)
      ⟨0, (fun _ => false), ([]), L11, ([]), A16, ps.length, C15, rfl, (hA.sel [0, 7, 9, 10, 11, 44, 45, 46] rfl), hS, Nat.zero_le _, .inl ⟨rfl, fun _ => rfl⟩, (by rw [cnt_full (fun _ => rfl)]; omega), hM12, hsn⟩ ?_
    clear hA hS; rintro m0 a w17 ⟨i, f, vs, L1, D1, As, cs, Cs, rfl, hA, hS, hi, hst, hc1, hM1, hR⟩
    have hcl := cnt_le f (nP l s)
    refine wp_seq ?_
    refine wp_region_lit ?_
    refine st_run tbOk 1 hA (e' := (47, .bool (decide (((i : Nat) : Int) < ((os.length : Nat) : Int)))) :: _) rfl ?_; clear hA; intro a hA
    refine wpList_nil ?_
    refine xt_norm ?_
    refine wp_seq ?_
    by_cases hc18 : ((i : Nat) : Int) < ((os.length : Nat) : Int)
    · first
      | (exfalso; omega)
      | (replace hA := hA.rw 47 (v' := .bool true) rfl (vb_true hc18)
         refine cd_cond_t hA rfl ?_
         refine wp_skip ?_
         refine xt_norm ?_
         refine wp_seq ?_
         refine wp_block ?_
         refine wp_seq ?_
         refine wp_region_lit ?_
         obtain ⟨b19, o20, rfl⟩ := (hq _ (hS.tail 5 rfl)).isSome (k := i) (by omega)
         refine st_val hA rfl rfl (by decide) (rn_indexAddr tbOk hA i (o20 + i) rfl rfl rfl rfl rfl rfl (by rfl) (by omega) (by first | rfl | simp [Nat.mul_one, Nat.zero_add] | omega)) ?_; clear hA; intro a hA
         obtain ⟨x21, hx21⟩ := get_ex (l := os) (k := i) (by omega)
         have hbx21 : x21.toNat < 256 := UInt8.toNat_lt x21
         refine st_val hA rfl rfl (by decide) (rn_load tbOk hA rfl rfl rfl rfl ((hq _ (hS.tail 5 rfl)).elem0 (k := i) encB_ok hx21 rfl)) ?_; clear hA; intro a hA
         refine st_run tbOk 1 hA (e' := (13, .int .u8 ((x21.toNat : Nat) : Int)) :: _) rfl ?_; clear hA; intro a hA
         refine wpList_nil ?_
         replace hA := hA.sel [0, 7, 9, 10, 11, 13, 44, 45, 46] (e' := [(0, .slice A l.length c), (7, .slice A7 ps.length c8), (9, .pointer (some ⟨b9, 0, none⟩)), (10, .slice As ((hv (nP l s) f).length) cs), (11, .int .i64 ((cnt (nP l s) f : Nat) : Int)), (13, .int .u8 ((x21.toNat : Nat) : Int)), (44, .slice (some ⟨b19, o20, none⟩) os.length cq), (45, .int .i64 ((os.length : Nat) : Int)), (46, .int .i64 ((i : Nat) : Int))]) rfl
         refine xt_norm ?_
         refine wp_seq ?_
         refine wp_region_lit ?_
         refine st_run tbOk 2 hA (e' := (51, .int .i64 (IntKind.i64.wrap ((x21.toNat : Nat) : Int))) :: (50, .int .u8 ((x21.toNat : Nat) : Int)) :: _) rfl ?_; clear hA; intro a hA
         replace hA := hA.rw 51 (v' := .int .i64 ((x21.toNat : Nat) : Int)) rfl (wr64 (by rfl) (by omega) (by omega))
         refine st_run tbOk 2 hA (e' := (53, .int .i64 ((ps.length : Nat) : Int)) :: (52, .slice A7 ps.length c8) :: _) rfl ?_; clear hA; intro a hA
         refine st_val hA rfl rfl (by decide) (rn_rem hA rfl rfl rfl (by omega)) ?_; clear hA; intro a hA
         have hmd22 := Nat.mod_lt x21.toNat (show 0 < ps.length by omega)
         replace hA := hA.rw 54 (v' := .int .i64 ((x21.toNat % ps.length : Nat) : Int)) rfl (vint (Int.ofNat_tmod _ _).symm)
         refine st_run tbOk 1 hA (e' := (14, .int .i64 ((x21.toNat % ps.length : Nat) : Int)) :: _) rfl ?_; clear hA; intro a hA
         refine wpList_nil ?_
         replace hA := hA.sel [0, 7, 9, 10, 11, 14, 44, 45, 46] (e' := [(0, .slice A l.length c), (7, .slice A7 ps.length c8), (9, .pointer (some ⟨b9, 0, none⟩)), (10, .slice As ((hv (nP l s) f).length) cs), (11, .int .i64 ((cnt (nP l s) f : Nat) : Int)), (14, .int .i64 ((x21.toNat % ps.length : Nat) : Int)), (44, .slice (some ⟨b19, o20, none⟩) os.length cq), (45, .int .i64 ((os.length : Nat) : Int)), (46, .int .i64 ((i : Nat) : Int))]) rfl
         refine xt_norm ?_
         refine wp_seq ?_
         refine wp_seq ?_
         refine wp_region_lit ?_
         obtain ⟨k, hk⟩ : ∃ k, k = x21.toNat % ps.length := ⟨_, rfl⟩
         replace hA := hA.rw 14 (v' := .int .i64 ((k : Nat) : Int)) rfl (by rw [hk])
         have hkn : k < nP l s := by omega
         have hsl := hv_len (nP l s) f
         obtain ⟨y23, hy23⟩ := get_ex (l := ps) (k := k) (by omega)
         obtain ⟨B24, d25, rfl⟩ := hpk k y23 hy23
         have hdy23 := hdd _ (List.mem_of_getElem? hy23)
         have hpcy23 := piece_le l s k
         rcases ord4 hst (cnt (nP l s) f) k with ⟨hft, hvs⟩ | ⟨hff, hl1⟩ | ⟨hff, hl1, hvs, hf0⟩ | ⟨hff, hl1, hvs⟩
         · subst hvs
           refine st_run tbOk 3 hA (e' := (57, .bool (((cnt (nP l s) f : Nat) : Int) == 1)) :: (56, .bool (((cnt (nP l s) f : Nat) : Int) == 1)) :: (55, .int .i64 ((cnt (nP l s) f : Nat) : Int)) :: _) rfl ?_; clear hA; intro a hA
           by_cases hc26 : ((cnt (nP l s) f : Nat) : Int) = 1
           · first
             | (exfalso; omega)
             | (replace hA := hA.rw 56 (v' := .bool true) rfl (vb_eq_t hc26)
                replace hA := hA.rw 57 (v' := .bool true) rfl (vb_eq_t hc26)
                refine st_run tbOk 2 hA (e' := (59, .int .i64 ((k : Nat) : Int)) :: (58, .slice As ((hv (nP l s) f).length) cs) :: _) rfl ?_; clear hA; intro a hA
                obtain ⟨b27, o28, rfl⟩ := hR.isSome (k := k) (by omega)
                refine st_val hA rfl rfl (by decide) (rn_indexAddr tbOk hA k (o28 + k) rfl rfl rfl rfl rfl rfl (by rfl) (by omega) (by first | rfl | simp [Nat.mul_one, Nat.zero_add] | omega)) ?_; clear hA; intro a hA
                refine st_val hA rfl rfl (by decide) (rn_load tbOk hA rfl rfl rfl rfl ((hR.rd (hS.own_ 2 rfl)).elem0 (k := k) encBo_ok (show (hv (nP l s) f)[k]? = some true from by rw [hv_get hkn, hft]) rfl)) ?_; clear hA; intro a hA
                refine st_run tbOk 2 hA (e' := (63, .bool false) :: (62, .bool false) :: _) rfl ?_; clear hA; intro a hA
                refine wpList_nil ?_
                replace hA := hA.sel [0, 7, 9, 10, 11, 14, 44, 45, 46, 63] (e' := [(0, .slice A l.length c), (7, .slice A7 ps.length c8), (9, .pointer (some ⟨b9, 0, none⟩)), (10, .slice (some ⟨b27, o28, none⟩) ((hv (nP l s) f).length) cs), (11, .int .i64 ((cnt (nP l s) f : Nat) : Int)), (14, .int .i64 ((k : Nat) : Int)), (44, .slice (some ⟨b19, o20, none⟩) os.length cq), (45, .int .i64 ((os.length : Nat) : Int)), (46, .int .i64 ((i : Nat) : Int)), (63, .bool false)]) rfl
                refine xt_norm ?_
                refine cd_cond_f hA rfl ?_
                refine wp_skip ?_
                refine xt_norm ?_
                refine wp_seq ?_
                refine wp_seq ?_
                refine wp_region_lit ?_
                refine st_run tbOk 3 hA (e' := (67, .int .i64 ((k : Nat) : Int)) :: (66, .slice A7 ps.length c8) :: (65, .pointer (some ⟨b9, 0, none⟩)) :: _) rfl ?_; clear hA; intro a hA
                obtain ⟨b29, o30, rfl⟩ := hOC5.isSome (k := k) (by omega)
                refine st_val hA rfl rfl (by decide) (rn_indexAddr tbOk hA k (o30 + (k * 6)) rfl rfl rfl rfl rfl rfl (by rfl) (by omega) (by first | rfl | simp [Nat.mul_one, Nat.zero_add] | omega)) ?_; clear hA; intro a hA
                refine st_val hA rfl rfl (by decide) (rn_loadA tbOk hA ([.int .i64 0, .int .i64 1, .int .u64 5, .int .i64 ((k : Nat) : Int), .int .i64 ((nP l s : Nat) : Int), .slice B24 ((piece l s k).length) d25]) rfl rfl rfl rfl (by rfl) ((hOC5.rd (hS.own_ 3 rfl)).elem (k := k) encPacket_ok hy23)) ?_; clear hA; intro a hA
                replace hS := hS.front 1 (C := D1) (L' := L1 :: Cs :: C5 :: D6 :: F) rfl rfl
                replace hS := hS.front 1 (C := L1) (L' := D1 :: Cs :: C5 :: D6 :: F) rfl rfl
                refine st_call0 hA rfl rfl rfl isfn9 rfl rfl (by decide) (add_hit_rejT9 hS hM1 0 1 5 k (nP l s) (bs := (piece l s k)) (fun w' h => (hdy23 _ (h.only 3 rfl))) (by omega) (by omega) (by omega) (k := 0) (has := hv (nP l s) f) (dat := dv (nP l s) f (piece l s)) rfl one_key (hv_len _ _) (by rw [hv_get (by omega), hft])) ?_
                clear hA hS; rintro _ w31 a ⟨L32, hM33, rfl, hS⟩ hA
                refine st_run tbOk 5 hA (e' := (16, .bool false) :: (15, .slice none 0 0) :: (72, .bool false) :: (71, .slice none 0 0) :: (64, .tuple #[.slice none 0 0, .bool false]) :: _) rfl ?_; clear hA; intro a hA
                refine wpList_nil ?_
                replace hA := hA.sel [0, 7, 9, 10, 11, 14, 16, 44, 45, 46] (e' := [(0, .slice A l.length c), (7, .slice (some ⟨b29, o30, none⟩) ps.length c8), (9, .pointer (some ⟨b9, 0, none⟩)), (10, .slice (some ⟨b27, o28, none⟩) ((hv (nP l s) f).length) cs), (11, .int .i64 ((cnt (nP l s) f : Nat) : Int)), (14, .int .i64 ((k : Nat) : Int)), (16, .bool false), (44, .slice (some ⟨b19, o20, none⟩) os.length cq), (45, .int .i64 ((os.length : Nat) : Int)), (46, .int .i64 ((i : Nat) : Int))]) rfl
                refine xt_norm ?_
                refine wp_seq ?_
                refine wp_region_lit ?_
                refine st_run tbOk 1 hA (e' := (73, .bool false) :: _) rfl ?_; clear hA; intro a hA
                refine wpList_nil ?_
                replace hA := hA.sel [0, 7, 9, 10, 11, 14, 44, 45, 46, 73] (e' := [(0, .slice A l.length c), (7, .slice (some ⟨b29, o30, none⟩) ps.length c8), (9, .pointer (some ⟨b9, 0, none⟩)), (10, .slice (some ⟨b27, o28, none⟩) ((hv (nP l s) f).length) cs), (11, .int .i64 ((cnt (nP l s) f : Nat) : Int)), (14, .int .i64 ((k : Nat) : Int)), (44, .slice (some ⟨b19, o20, none⟩) os.length cq), (45, .int .i64 ((os.length : Nat) : Int)), (46, .int .i64 ((i : Nat) : Int)), (73, .bool false)]) rfl
                refine xt_norm ?_
                refine cd_cond_f hA rfl ?_
                refine wp_skip ?_
                refine xt_norm ?_
                refine wp_seq ?_
                refine wp_region_lit ?_
                refine st_run tbOk 2 hA (e' := (75, .int .i64 ((k : Nat) : Int)) :: (74, .slice (some ⟨b27, o28, none⟩) ((hv (nP l s) f).length) cs) :: _) rfl ?_; clear hA; intro a hA
                refine st_val hA rfl rfl (by decide) (rn_indexAddr tbOk hA k (o28 + k) rfl rfl rfl rfl rfl rfl (by rfl) (by omega) (by first | rfl | simp [Nat.mul_one, Nat.zero_add] | omega)) ?_; clear hA; intro a hA
                refine st_val hA rfl rfl (by decide) (rn_load tbOk hA rfl rfl rfl rfl ((hR.rd (hS.own_ 2 rfl)).elem0 (k := k) encBo_ok (show (hv (nP l s) f)[k]? = some true from by rw [hv_get hkn, hft]) rfl)) ?_; clear hA; intro a hA
                refine st_run tbOk 1 hA (e' := (78, .bool false) :: _) rfl ?_; clear hA; intro a hA
                refine wpList_nil ?_
                replace hA := hA.sel [0, 7, 9, 10, 11, 14, 44, 45, 46, 78] (e' := [(0, .slice A l.length c), (7, .slice (some ⟨b29, o30, none⟩) ps.length c8), (9, .pointer (some ⟨b9, 0, none⟩)), (10, .slice (some ⟨b27, o28, none⟩) ((hv (nP l s) f).length) cs), (11, .int .i64 ((cnt (nP l s) f : Nat) : Int)), (14, .int .i64 ((k : Nat) : Int)), (44, .slice (some ⟨b19, o20, none⟩) os.length cq), (45, .int .i64 ((os.length : Nat) : Int)), (46, .int .i64 ((i : Nat) : Int)), (78, .bool false)]) rfl
                refine xt_norm ?_
                refine cd_cond_f hA rfl ?_
                refine wp_skip ?_
                refine xb_norm ?_
                refine xt_norm ?_
                refine wp_region_lit ?_
                refine st_run tbOk 1 hA (e' := (84, .int .i64 (IntKind.i64.wrap (((i : Nat) : Int) + 1))) :: _) rfl ?_; clear hA; intro a hA
                replace hA := hA.rw 84 (v' := .int .i64 ((i + 1 : Nat) : Int)) rfl (wr64 (by omega) (by omega) (by omega))
                refine st_run tbOk 1 hA (e' := (46, .int .i64 ((i + 1 : Nat) : Int)) :: _) rfl ?_; clear hA; intro a hA
                refine wpList_nil ?_
                replace hA := hA.sel [0, 7, 9, 10, 11, 44, 45, 46] (e' := [(0, .slice A l.length c), (7, .slice (some ⟨b29, o30, none⟩) ps.length c8), (9, .pointer (some ⟨b9, 0, none⟩)), (10, .slice (some ⟨b27, o28, none⟩) ((hv (nP l s) f).length) cs), (11, .int .i64 ((cnt (nP l s) f : Nat) : Int)), (44, .slice (some ⟨b19, o20, none⟩) os.length cq), (45, .int .i64 ((os.length : Nat) : Int)), (46, .int .i64 ((i + 1 : Nat) : Int))]) rfl
                replace hS := hS.front 4 (C := D6) (L' := L32 :: D1 :: Cs :: C5 :: F) rfl rfl
                replace hS := hS.front 4 (C := C5) (L' := D6 :: L32 :: D1 :: Cs :: F) rfl rfl
                replace hS := hS.front 4 (C := Cs) (L' := C5 :: D6 :: L32 :: D1 :: F) rfl rfl
                replace hS := hS.front 4 (C := D1) (L' := Cs :: C5 :: D6 :: L32 :: F) rfl rfl
                replace hS := hS.front 4 (C := L32) (L' := D1 :: Cs :: C5 :: D6 :: F) rfl rfl
                exact lp_next _ (by omega) ⟨(i + 1), f, ([GV1 0 1 5 (nP l s) f (piece l s)]), L32, D1, (some ⟨b27, o28, none⟩), cs, Cs, rfl, (hA.sel [0, 7, 9, 10, 11, 44, 45, 46] rfl), hS, by omega, .inr rfl, hc1, hM33, hR⟩)
           · first
             | (exfalso; omega)
             | (replace hA := hA.rw 56 (v' := .bool false) rfl (vb_eq_f hc26)
                replace hA := hA.rw 57 (v' := .bool false) rfl (vb_eq_f hc26)
                refine st_run tbOk 6 hA (e' := (63, .bool false) :: (62, undef) :: (61, undef) :: (60, undef) :: (59, undef) :: (58, undef) :: _) rfl ?_; clear hA; intro a hA
                refine wpList_nil ?_
                replace hA := hA.sel [0, 7, 9, 10, 11, 14, 44, 45, 46, 63] (e' := [(0, .slice A l.length c), (7, .slice A7 ps.length c8), (9, .pointer (some ⟨b9, 0, none⟩)), (10, .slice As ((hv (nP l s) f).length) cs), (11, .int .i64 ((cnt (nP l s) f : Nat) : Int)), (14, .int .i64 ((k : Nat) : Int)), (44, .slice (some ⟨b19, o20, none⟩) os.length cq), (45, .int .i64 ((os.length : Nat) : Int)), (46, .int .i64 ((i : Nat) : Int)), (63, .bool false)]) rfl
                refine xt_norm ?_
                refine cd_cond_f hA rfl ?_
                refine wp_skip ?_
                refine xt_norm ?_
                refine wp_seq ?_
                refine wp_seq ?_
                refine wp_region_lit ?_
                refine st_run tbOk 3 hA (e' := (67, .int .i64 ((k : Nat) : Int)) :: (66, .slice A7 ps.length c8) :: (65, .pointer (some ⟨b9, 0, none⟩)) :: _) rfl ?_; clear hA; intro a hA
                obtain ⟨b34, o35, rfl⟩ := hOC5.isSome (k := k) (by omega)
                refine st_val hA rfl rfl (by decide) (rn_indexAddr tbOk hA k (o35 + (k * 6)) rfl rfl rfl rfl rfl rfl (by rfl) (by omega) (by first | rfl | simp [Nat.mul_one, Nat.zero_add] | omega)) ?_; clear hA; intro a hA
                refine st_val hA rfl rfl (by decide) (rn_loadA tbOk hA ([.int .i64 0, .int .i64 1, .int .u64 5, .int .i64 ((k : Nat) : Int), .int .i64 ((nP l s : Nat) : Int), .slice B24 ((piece l s k).length) d25]) rfl rfl rfl rfl (by rfl) ((hOC5.rd (hS.own_ 3 rfl)).elem (k := k) encPacket_ok hy23)) ?_; clear hA; intro a hA
                replace hS := hS.front 1 (C := D1) (L' := L1 :: Cs :: C5 :: D6 :: F) rfl rfl
                replace hS := hS.front 1 (C := L1) (L' := D1 :: Cs :: C5 :: D6 :: F) rfl rfl
                refine st_call0 hA rfl rfl rfl isfn9 rfl rfl (by decide) (add_hit_rejT9 hS hM1 0 1 5 k (nP l s) (bs := (piece l s k)) (fun w' h => (hdy23 _ (h.only 3 rfl))) (by omega) (by omega) (by omega) (k := 0) (has := hv (nP l s) f) (dat := dv (nP l s) f (piece l s)) rfl one_key (hv_len _ _) (by rw [hv_get (by omega), hft])) ?_
                clear hA hS; rintro _ w36 a ⟨L37, hM38, rfl, hS⟩ hA
                refine st_run tbOk 5 hA (e' := (16, .bool false) :: (15, .slice none 0 0) :: (72, .bool false) :: (71, .slice none 0 0) :: (64, .tuple #[.slice none 0 0, .bool false]) :: _) rfl ?_; clear hA; intro a hA
                refine wpList_nil ?_
                replace hA := hA.sel [0, 7, 9, 10, 11, 14, 16, 44, 45, 46] (e' := [(0, .slice A l.length c), (7, .slice (some ⟨b34, o35, none⟩) ps.length c8), (9, .pointer (some ⟨b9, 0, none⟩)), (10, .slice As ((hv (nP l s) f).length) cs), (11, .int .i64 ((cnt (nP l s) f : Nat) : Int)), (14, .int .i64 ((k : Nat) : Int)), (16, .bool false), (44, .slice (some ⟨b19, o20, none⟩) os.length cq), (45, .int .i64 ((os.length : Nat) : Int)), (46, .int .i64 ((i : Nat) : Int))]) rfl
                refine xt_norm ?_
                refine wp_seq ?_
                refine wp_region_lit ?_
                refine st_run tbOk 1 hA (e' := (73, .bool false) :: _) rfl ?_; clear hA; intro a hA
                refine wpList_nil ?_
                replace hA := hA.sel [0, 7, 9, 10, 11, 14, 44, 45, 46, 73] (e' := [(0, .slice A l.length c), (7, .slice (some ⟨b34, o35, none⟩) ps.length c8), (9, .pointer (some ⟨b9, 0, none⟩)), (10, .slice As ((hv (nP l s) f).length) cs), (11, .int .i64 ((cnt (nP l s) f : Nat) : Int)), (14, .int .i64 ((k : Nat) : Int)), (44, .slice (some ⟨b19, o20, none⟩) os.length cq), (45, .int .i64 ((os.length : Nat) : Int)), (46, .int .i64 ((i : Nat) : Int)), (73, .bool false)]) rfl
                refine xt_norm ?_
                refine cd_cond_f hA rfl ?_
                refine wp_skip ?_
                refine xt_norm ?_
                refine wp_seq ?_
                refine wp_region_lit ?_
                refine st_run tbOk 2 hA (e' := (75, .int .i64 ((k : Nat) : Int)) :: (74, .slice As ((hv (nP l s) f).length) cs) :: _) rfl ?_; clear hA; intro a hA
                obtain ⟨b39, o40, rfl⟩ := hR.isSome (k := k) (by omega)
                refine st_val hA rfl rfl (by decide) (rn_indexAddr tbOk hA k (o40 + k) rfl rfl rfl rfl rfl rfl (by rfl) (by omega) (by first | rfl | simp [Nat.mul_one, Nat.zero_add] | omega)) ?_; clear hA; intro a hA
                refine st_val hA rfl rfl (by decide) (rn_load tbOk hA rfl rfl rfl rfl ((hR.rd (hS.own_ 2 rfl)).elem0 (k := k) encBo_ok (show (hv (nP l s) f)[k]? = some true from by rw [hv_get hkn, hft]) rfl)) ?_; clear hA; intro a hA
                refine st_run tbOk 1 hA (e' := (78, .bool false) :: _) rfl ?_; clear hA; intro a hA
                refine wpList_nil ?_
                replace hA := hA.sel [0, 7, 9, 10, 11, 14, 44, 45, 46, 78] (e' := [(0, .slice A l.length c), (7, .slice (some ⟨b34, o35, none⟩) ps.length c8), (9, .pointer (some ⟨b9, 0, none⟩)), (10, .slice (some ⟨b39, o40, none⟩) ((hv (nP l s) f).length) cs), (11, .int .i64 ((cnt (nP l s) f : Nat) : Int)), (14, .int .i64 ((k : Nat) : Int)), (44, .slice (some ⟨b19, o20, none⟩) os.length cq), (45, .int .i64 ((os.length : Nat) : Int)), (46, .int .i64 ((i : Nat) : Int)), (78, .bool false)]) rfl
                refine xt_norm ?_
                refine cd_cond_f hA rfl ?_
                refine wp_skip ?_
                refine xb_norm ?_
                refine xt_norm ?_
                refine wp_region_lit ?_
                refine st_run tbOk 1 hA (e' := (84, .int .i64 (IntKind.i64.wrap (((i : Nat) : Int) + 1))) :: _) rfl ?_; clear hA; intro a hA
                replace hA := hA.rw 84 (v' := .int .i64 ((i + 1 : Nat) : Int)) rfl (wr64 (by omega) (by omega) (by omega))
                refine st_run tbOk 1 hA (e' := (46, .int .i64 ((i + 1 : Nat) : Int)) :: _) rfl ?_; clear hA; intro a hA
                refine wpList_nil ?_
                replace hA := hA.sel [0, 7, 9, 10, 11, 44, 45, 46] (e' := [(0, .slice A l.length c), (7, .slice (some ⟨b34, o35, none⟩) ps.length c8), (9, .pointer (some ⟨b9, 0, none⟩)), (10, .slice (some ⟨b39, o40, none⟩) ((hv (nP l s) f).length) cs), (11, .int .i64 ((cnt (nP l s) f : Nat) : Int)), (44, .slice (some ⟨b19, o20, none⟩) os.length cq), (45, .int .i64 ((os.length : Nat) : Int)), (46, .int .i64 ((i + 1 : Nat) : Int))]) rfl
                replace hS := hS.front 4 (C := D6) (L' := L37 :: D1 :: Cs :: C5 :: F) rfl rfl
                replace hS := hS.front 4 (C := C5) (L' := D6 :: L37 :: D1 :: Cs :: F) rfl rfl
                replace hS := hS.front 4 (C := Cs) (L' := C5 :: D6 :: L37 :: D1 :: F) rfl rfl
                replace hS := hS.front 4 (C := D1) (L' := Cs :: C5 :: D6 :: L37 :: F) rfl rfl
                replace hS := hS.front 4 (C := L37) (L' := D1 :: Cs :: C5 :: D6 :: F) rfl rfl
                exact lp_next _ (by omega) ⟨(i + 1), f, ([GV1 0 1 5 (nP l s) f (piece l s)]), L37, D1, (some ⟨b39, o40, none⟩), cs, Cs, rfl, (hA.sel [0, 7, 9, 10, 11, 44, 45, 46] rfl), hS, by omega, .inr rfl, hc1, hM38, hR⟩)
         · refine st_run tbOk 3 hA (e' := (57, .bool (((cnt (nP l s) f : Nat) : Int) == 1)) :: (56, .bool (((cnt (nP l s) f : Nat) : Int) == 1)) :: (55, .int .i64 ((cnt (nP l s) f : Nat) : Int)) :: _) rfl ?_; clear hA; intro a hA
           have hc41 : ((cnt (nP l s) f : Nat) : Int) = 1 := by omega
           replace hA := hA.rw 56 (v' := .bool true) rfl (vb_eq_t hc41)
           replace hA := hA.rw 57 (v' := .bool true) rfl (vb_eq_t hc41)
           refine st_run tbOk 2 hA (e' := (59, .int .i64 ((k : Nat) : Int)) :: (58, .slice As ((hv (nP l s) f).length) cs) :: _) rfl ?_; clear hA; intro a hA
           obtain ⟨b42, o43, rfl⟩ := hR.isSome (k := k) (by omega)
           refine st_val hA rfl rfl (by decide) (rn_indexAddr tbOk hA k (o43 + k) rfl rfl rfl rfl rfl rfl (by rfl) (by omega) (by first | rfl | simp [Nat.mul_one, Nat.zero_add] | omega)) ?_; clear hA; intro a hA
           refine st_val hA rfl rfl (by decide) (rn_load tbOk hA rfl rfl rfl rfl ((hR.rd (hS.own_ 2 rfl)).elem0 (k := k) encBo_ok (show (hv (nP l s) f)[k]? = some false from by rw [hv_get hkn, hff]) rfl)) ?_; clear hA; intro a hA
           refine st_run tbOk 2 hA (e' := (63, .bool true) :: (62, .bool true) :: _) rfl ?_; clear hA; intro a hA
           refine wpList_nil ?_
           replace hA := hA.sel [0, 7, 9, 10, 11, 14, 44, 45, 46, 63] (e' := [(0, .slice A l.length c), (7, .slice A7 ps.length c8), (9, .pointer (some ⟨b9, 0, none⟩)), (10, .slice (some ⟨b42, o43, none⟩) ((hv (nP l s) f).length) cs), (11, .int .i64 ((cnt (nP l s) f : Nat) : Int)), (14, .int .i64 ((k : Nat) : Int)), (44, .slice (some ⟨b19, o20, none⟩) os.length cq), (45, .int .i64 ((os.length : Nat) : Int)), (46, .int .i64 ((i : Nat) : Int)), (63, .bool true)]) rfl
           refine xt_norm ?_
           refine cd_cond_t hA rfl ?_
           refine wp_exit ?_
           refine xt_exit ?_
           refine cd_exit_eq ?_
           refine xt_norm ?_
           refine wp_region_lit ?_
           refine st_run tbOk 1 hA (e' := (84, .int .i64 (IntKind.i64.wrap (((i : Nat) : Int) + 1))) :: _) rfl ?_; clear hA; intro a hA
           replace hA := hA.rw 84 (v' := .int .i64 ((i + 1 : Nat) : Int)) rfl (wr64 (by omega) (by omega) (by omega))
           refine st_run tbOk 1 hA (e' := (46, .int .i64 ((i + 1 : Nat) : Int)) :: _) rfl ?_; clear hA; intro a hA
           refine wpList_nil ?_
           replace hA := hA.sel [0, 7, 9, 10, 11, 44, 45, 46] (e' := [(0, .slice A l.length c), (7, .slice A7 ps.length c8), (9, .pointer (some ⟨b9, 0, none⟩)), (10, .slice (some ⟨b42, o43, none⟩) ((hv (nP l s) f).length) cs), (11, .int .i64 ((cnt (nP l s) f : Nat) : Int)), (44, .slice (some ⟨b19, o20, none⟩) os.length cq), (45, .int .i64 ((os.length : Nat) : Int)), (46, .int .i64 ((i + 1 : Nat) : Int))]) rfl
           replace hS := hS.front 4 (C := D6) (L' := L1 :: D1 :: Cs :: C5 :: F) rfl rfl
           replace hS := hS.front 4 (C := C5) (L' := D6 :: L1 :: D1 :: Cs :: F) rfl rfl
           replace hS := hS.front 4 (C := Cs) (L' := C5 :: D6 :: L1 :: D1 :: F) rfl rfl
           replace hS := hS.front 4 (C := D1) (L' := Cs :: C5 :: D6 :: L1 :: F) rfl rfl
           replace hS := hS.front 4 (C := L1) (L' := D1 :: Cs :: C5 :: D6 :: F) rfl rfl
           exact lp_next _ (by omega) ⟨(i + 1), f, (vs), L1, D1, (some ⟨b42, o43, none⟩), cs, Cs, rfl, (hA.sel [0, 7, 9, 10, 11, 44, 45, 46] rfl), hS, by omega, hst, hc1, hM1, hR⟩
         · subst hvs
           have hmore := up_more hff hkn (by omega)
           have hcu := cnt_up hff (nP l s) hkn
           refine st_run tbOk 3 hA (e' := (57, .bool (((cnt (nP l s) f : Nat) : Int) == 1)) :: (56, .bool (((cnt (nP l s) f : Nat) : Int) == 1)) :: (55, .int .i64 ((cnt (nP l s) f : Nat) : Int)) :: _) rfl ?_; clear hA; intro a hA
           have hc44 : ¬ (((cnt (nP l s) f : Nat) : Int) = 1) := by omega
           replace hA := hA.rw 56 (v' := .bool false) rfl (vb_eq_f hc44)
           replace hA := hA.rw 57 (v' := .bool false) rfl (vb_eq_f hc44)
           refine st_run tbOk 6 hA (e' := (63, .bool false) :: (62, undef) :: (61, undef) :: (60, undef) :: (59, undef) :: (58, undef) :: _) rfl ?_; clear hA; intro a hA
           refine wpList_nil ?_
           replace hA := hA.sel [0, 7, 9, 10, 11, 14, 44, 45, 46, 63] (e' := [(0, .slice A l.length c), (7, .slice A7 ps.length c8), (9, .pointer (some ⟨b9, 0, none⟩)), (10, .slice As ((hv (nP l s) f).length) cs), (11, .int .i64 ((cnt (nP l s) f : Nat) : Int)), (14, .int .i64 ((k : Nat) : Int)), (44, .slice (some ⟨b19, o20, none⟩) os.length cq), (45, .int .i64 ((os.length : Nat) : Int)), (46, .int .i64 ((i : Nat) : Int)), (63, .bool false)]) rfl
           refine xt_norm ?_
           refine cd_cond_f hA rfl ?_
           refine wp_skip ?_
           refine xt_norm ?_
           refine wp_seq ?_
           refine wp_seq ?_
           refine wp_region_lit ?_
           refine st_run tbOk 3 hA (e' := (67, .int .i64 ((k : Nat) : Int)) :: (66, .slice A7 ps.length c8) :: (65, .pointer (some ⟨b9, 0, none⟩)) :: _) rfl ?_; clear hA; intro a hA
           obtain ⟨b45, o46, rfl⟩ := hOC5.isSome (k := k) (by omega)
           refine st_val hA rfl rfl (by decide) (rn_indexAddr tbOk hA k (o46 + (k * 6)) rfl rfl rfl rfl rfl rfl (by rfl) (by omega) (by first | rfl | simp [Nat.mul_one, Nat.zero_add] | omega)) ?_; clear hA; intro a hA
           refine st_val hA rfl rfl (by decide) (rn_loadA tbOk hA ([.int .i64 0, .int .i64 1, .int .u64 5, .int .i64 ((k : Nat) : Int), .int .i64 ((nP l s : Nat) : Int), .slice B24 ((piece l s k).length) d25]) rfl rfl rfl rfl (by rfl) ((hOC5.rd (hS.own_ 3 rfl)).elem (k := k) encPacket_ok hy23)) ?_; clear hA; intro a hA
           replace hS := hS.front 1 (C := D1) (L' := L1 :: Cs :: C5 :: D6 :: F) rfl rfl
           replace hS := hS.front 1 (C := L1) (L' := D1 :: Cs :: C5 :: D6 :: F) rfl rfl
           refine st_call0 hA rfl rfl rfl isfn9 rfl rfl (by decide) (add_new_put9 hS hM1 0 1 5 k (nP l s) (bs := (piece l s k)) (fun w' h => (hdy23 _ (h.only 3 rfl))) (by omega) (by omega) (by omega) nil_key (by decide) (any_new (f := f) hf0 (by omega) hmore)) ?_
           clear hA hS; rintro _ w47 a ⟨L48, E50, hM49, rfl, hS⟩ hA
           have hM51 : GS w0 b9 ([GV1 0 1 5 (nP l s) (up f k) (piece l s)]) L48 (E50 ++ D1) := by have h9 := hM49; rw [One.new (n := (nP l s)) (k := k) (f := f) (pc := (piece l s)) hf0 (by omega)] at h9; exact h9
           refine st_run tbOk 5 hA (e' := (16, .bool false) :: (15, .slice none 0 0) :: (72, .bool false) :: (71, .slice none 0 0) :: (64, .tuple #[.slice none 0 0, .bool false]) :: _) rfl ?_; clear hA; intro a hA
           refine wpList_nil ?_
           replace hA := hA.sel [0, 7, 9, 10, 11, 14, 16, 44, 45, 46] (e' := [(0, .slice A l.length c), (7, .slice (some ⟨b45, o46, none⟩) ps.length c8), (9, .pointer (some ⟨b9, 0, none⟩)), (10, .slice As ((hv (nP l s) f).length) cs), (11, .int .i64 ((cnt (nP l s) f : Nat) : Int)), (14, .int .i64 ((k : Nat) : Int)), (16, .bool false), (44, .slice (some ⟨b19, o20, none⟩) os.length cq), (45, .int .i64 ((os.length : Nat) : Int)), (46, .int .i64 ((i : Nat) : Int))]) rfl
           refine xt_norm ?_
           refine wp_seq ?_
           refine wp_region_lit ?_
           refine st_run tbOk 1 hA (e' := (73, .bool false) :: _) rfl ?_; clear hA; intro a hA
           refine wpList_nil ?_
           replace hA := hA.sel [0, 7, 9, 10, 11, 14, 44, 45, 46, 73] (e' := [(0, .slice A l.length c), (7, .slice (some ⟨b45, o46, none⟩) ps.length c8), (9, .pointer (some ⟨b9, 0, none⟩)), (10, .slice As ((hv (nP l s) f).length) cs), (11, .int .i64 ((cnt (nP l s) f : Nat) : Int)), (14, .int .i64 ((k : Nat) : Int)), (44, .slice (some ⟨b19, o20, none⟩) os.length cq), (45, .int .i64 ((os.length : Nat) : Int)), (46, .int .i64 ((i : Nat) : Int)), (73, .bool false)]) rfl
           refine xt_norm ?_
           refine cd_cond_f hA rfl ?_
           refine wp_skip ?_
           refine xt_norm ?_
           refine wp_seq ?_
           refine wp_region_lit ?_
           refine st_run tbOk 2 hA (e' := (75, .int .i64 ((k : Nat) : Int)) :: (74, .slice As ((hv (nP l s) f).length) cs) :: _) rfl ?_; clear hA; intro a hA
           obtain ⟨b52, o53, rfl⟩ := hR.isSome (k := k) (by omega)
           refine st_val hA rfl rfl (by decide) (rn_indexAddr tbOk hA k (o53 + k) rfl rfl rfl rfl rfl rfl (by rfl) (by omega) (by first | rfl | simp [Nat.mul_one, Nat.zero_add] | omega)) ?_; clear hA; intro a hA
           refine st_val hA rfl rfl (by decide) (rn_load tbOk hA rfl rfl rfl rfl ((hR.rd (hS.own_ 2 rfl)).elem0 (k := k) encBo_ok (show (hv (nP l s) f)[k]? = some false from by rw [hv_get hkn, hff]) rfl)) ?_; clear hA; intro a hA
           refine st_run tbOk 1 hA (e' := (78, .bool true) :: _) rfl ?_; clear hA; intro a hA
           refine wpList_nil ?_
           replace hA := hA.sel [0, 7, 9, 10, 11, 14, 44, 45, 46, 78] (e' := [(0, .slice A l.length c), (7, .slice (some ⟨b45, o46, none⟩) ps.length c8), (9, .pointer (some ⟨b9, 0, none⟩)), (10, .slice (some ⟨b52, o53, none⟩) ((hv (nP l s) f).length) cs), (11, .int .i64 ((cnt (nP l s) f : Nat) : Int)), (14, .int .i64 ((k : Nat) : Int)), (44, .slice (some ⟨b19, o20, none⟩) os.length cq), (45, .int .i64 ((os.length : Nat) : Int)), (46, .int .i64 ((i : Nat) : Int)), (78, .bool true)]) rfl
           refine xt_norm ?_
           refine cd_cond_t hA rfl ?_
           refine wp_seq ?_
           refine wp_region_lit ?_
           refine st_run tbOk 2 hA (e' := (80, .int .i64 ((k : Nat) : Int)) :: (79, .slice (some ⟨b52, o53, none⟩) ((hv (nP l s) f).length) cs) :: _) rfl ?_; clear hA; intro a hA
           refine st_val hA rfl rfl (by decide) (rn_indexAddr tbOk hA k (o53 + k) rfl rfl rfl rfl rfl rfl (by rfl) (by omega) (by first | rfl | simp [Nat.mul_one, Nat.zero_add] | omega)) ?_; clear hA; intro a hA
           replace hS := hS.front 2 (C := Cs) (L' := L48 :: (E50 ++ D1) :: C5 :: D6 :: F) rfl rfl
           refine st_store_own tbOk hA hR hS (k) (o53 + k) [.bool true] (rows encBo ((hv (nP l s) f).set k true)) rfl rfl rfl rfl (by rfl) rfl rfl (by intro u hu; rw [List.mem_singleton.1 hu]; rfl) (by simp only [rows_length encBo_ok, List.length_cons, List.length_nil]; omega) (by have := rows_set encBo_ok (x := true) (l := hv (nP l s) f) (k := k) (by omega); rw [Nat.mul_one] at this; exact this) rfl rfl ?_; clear hS; intro w54 C55 hO55 hS
           refine wpList_nil ?_
           replace hA := hA.sel [0, 7, 9, 10, 11, 44, 45, 46] (e' := [(0, .slice A l.length c), (7, .slice (some ⟨b45, o46, none⟩) ps.length c8), (9, .pointer (some ⟨b9, 0, none⟩)), (10, .slice (some ⟨b52, o53, none⟩) ((hv (nP l s) f).length) cs), (11, .int .i64 ((cnt (nP l s) f : Nat) : Int)), (44, .slice (some ⟨b19, o20, none⟩) os.length cq), (45, .int .i64 ((os.length : Nat) : Int)), (46, .int .i64 ((i : Nat) : Int))]) rfl
           refine xt_norm ?_
           refine wp_region_lit ?_
           have hRn : Own 4 1 (.slice (some ⟨b52, o53, none⟩) (hv (nP l s) (up f k)).length cs) (hv (nP l s) (up f k)).length (rows encBo (hv (nP l s) (up f k))) C55 := by have h9 := hO55; rw [hv_set hkn, hsl] at h9; rw [hv_len]; exact h9
           replace hA := hA.rw 10 (v' := .slice (some ⟨b52, o53, none⟩) ((hv (nP l s) (up f k)).length) cs) rfl (by rw [hv_len, hv_len])
           refine st_run tbOk 2 hA (e' := (83, .int .i64 (IntKind.i64.wrap (((cnt (nP l s) f : Nat) : Int) - 1))) :: (82, .int .i64 ((cnt (nP l s) f : Nat) : Int)) :: _) rfl ?_; clear hA; intro a hA
           replace hA := hA.rw 83 (v' := .int .i64 (((cnt (nP l s) f : Nat) : Int) - 1)) rfl (wr64 (by omega) (by omega) (by omega))
           refine st_run tbOk 1 hA (e' := (11, .int .i64 (((cnt (nP l s) f : Nat) : Int) - 1)) :: _) rfl ?_; clear hA; intro a hA
           refine wpList_nil ?_
           replace hA := hA.sel [0, 7, 9, 10, 11, 44, 45, 46] (e' := [(0, .slice A l.length c), (7, .slice (some ⟨b45, o46, none⟩) ps.length c8), (9, .pointer (some ⟨b9, 0, none⟩)), (10, .slice (some ⟨b52, o53, none⟩) ((hv (nP l s) (up f k)).length) cs), (11, .int .i64 (((cnt (nP l s) f : Nat) : Int) - 1)), (44, .slice (some ⟨b19, o20, none⟩) os.length cq), (45, .int .i64 ((os.length : Nat) : Int)), (46, .int .i64 ((i : Nat) : Int))]) rfl
           refine xb_norm ?_
           refine xt_norm ?_
           refine wp_region_lit ?_
           replace hA := hA.rw 11 (v' := .int .i64 ((cnt (nP l s) (up f k) : Nat) : Int)) rfl (vint (by omega))
           refine st_run tbOk 1 hA (e' := (84, .int .i64 (IntKind.i64.wrap (((i : Nat) : Int) + 1))) :: _) rfl ?_; clear hA; intro a hA
           replace hA := hA.rw 84 (v' := .int .i64 ((i + 1 : Nat) : Int)) rfl (wr64 (by omega) (by omega) (by omega))
           refine st_run tbOk 1 hA (e' := (46, .int .i64 ((i + 1 : Nat) : Int)) :: _) rfl ?_; clear hA; intro a hA
           refine wpList_nil ?_
           replace hA := hA.sel [0, 7, 9, 10, 11, 44, 45, 46] (e' := [(0, .slice A l.length c), (7, .slice (some ⟨b45, o46, none⟩) ps.length c8), (9, .pointer (some ⟨b9, 0, none⟩)), (10, .slice (some ⟨b52, o53, none⟩) ((hv (nP l s) (up f k)).length) cs), (11, .int .i64 ((cnt (nP l s) (up f k) : Nat) : Int)), (44, .slice (some ⟨b19, o20, none⟩) os.length cq), (45, .int .i64 ((os.length : Nat) : Int)), (46, .int .i64 ((i + 1 : Nat) : Int))]) rfl
           replace hS := hS.front 4 (C := D6) (L' := C55 :: L48 :: (E50 ++ D1) :: C5 :: F) rfl rfl
           replace hS := hS.front 4 (C := C5) (L' := D6 :: C55 :: L48 :: (E50 ++ D1) :: F) rfl rfl
           replace hS := hS.front 2 (C := C55) (L' := C5 :: D6 :: L48 :: (E50 ++ D1) :: F) rfl rfl
           replace hS := hS.front 4 (C := (E50 ++ D1)) (L' := C55 :: C5 :: D6 :: L48 :: F) rfl rfl
           replace hS := hS.front 4 (C := L48) (L' := (E50 ++ D1) :: C55 :: C5 :: D6 :: F) rfl rfl
           exact lp_next _ (by omega) ⟨(i + 1), (up f k), ([GV1 0 1 5 (nP l s) (up f k) (piece l s)]), L48, (E50 ++ D1), (some ⟨b52, o53, none⟩), cs, C55, rfl, (hA.sel [0, 7, 9, 10, 11, 44, 45, 46] rfl), hS, by omega, .inr rfl, (by omega), hM51, hRn⟩
         · subst hvs
           have hmore := up_more hff hkn (by omega)
           have hcu := cnt_up hff (nP l s) hkn
           refine st_run tbOk 3 hA (e' := (57, .bool (((cnt (nP l s) f : Nat) : Int) == 1)) :: (56, .bool (((cnt (nP l s) f : Nat) : Int) == 1)) :: (55, .int .i64 ((cnt (nP l s) f : Nat) : Int)) :: _) rfl ?_; clear hA; intro a hA
           have hc56 : ¬ (((cnt (nP l s) f : Nat) : Int) = 1) := by omega
           replace hA := hA.rw 56 (v' := .bool false) rfl (vb_eq_f hc56)
           replace hA := hA.rw 57 (v' := .bool false) rfl (vb_eq_f hc56)
           refine st_run tbOk 6 hA (e' := (63, .bool false) :: (62, undef) :: (61, undef) :: (60, undef) :: (59, undef) :: (58, undef) :: _) rfl ?_; clear hA; intro a hA
           refine wpList_nil ?_
           replace hA := hA.sel [0, 7, 9, 10, 11, 14, 44, 45, 46, 63] (e' := [(0, .slice A l.length c), (7, .slice A7 ps.length c8), (9, .pointer (some ⟨b9, 0, none⟩)), (10, .slice As ((hv (nP l s) f).length) cs), (11, .int .i64 ((cnt (nP l s) f : Nat) : Int)), (14, .int .i64 ((k : Nat) : Int)), (44, .slice (some ⟨b19, o20, none⟩) os.length cq), (45, .int .i64 ((os.length : Nat) : Int)), (46, .int .i64 ((i : Nat) : Int)), (63, .bool false)]) rfl
           refine xt_norm ?_
           refine cd_cond_f hA rfl ?_
           refine wp_skip ?_
           refine xt_norm ?_
           refine wp_seq ?_
           refine wp_seq ?_
           refine wp_region_lit ?_
           refine st_run tbOk 3 hA (e' := (67, .int .i64 ((k : Nat) : Int)) :: (66, .slice A7 ps.length c8) :: (65, .pointer (some ⟨b9, 0, none⟩)) :: _) rfl ?_; clear hA; intro a hA
           obtain ⟨b57, o58, rfl⟩ := hOC5.isSome (k := k) (by omega)
           refine st_val hA rfl rfl (by decide) (rn_indexAddr tbOk hA k (o58 + (k * 6)) rfl rfl rfl rfl rfl rfl (by rfl) (by omega) (by first | rfl | simp [Nat.mul_one, Nat.zero_add] | omega)) ?_; clear hA; intro a hA
           refine st_val hA rfl rfl (by decide) (rn_loadA tbOk hA ([.int .i64 0, .int .i64 1, .int .u64 5, .int .i64 ((k : Nat) : Int), .int .i64 ((nP l s : Nat) : Int), .slice B24 ((piece l s k).length) d25]) rfl rfl rfl rfl (by rfl) ((hOC5.rd (hS.own_ 3 rfl)).elem (k := k) encPacket_ok hy23)) ?_; clear hA; intro a hA
           replace hS := hS.front 1 (C := D1) (L' := L1 :: Cs :: C5 :: D6 :: F) rfl rfl
           replace hS := hS.front 1 (C := L1) (L' := D1 :: Cs :: C5 :: D6 :: F) rfl rfl
           refine st_call0 hA rfl rfl rfl isfn9 rfl rfl (by decide) (add_hit_put9 hS hM1 0 1 5 k (nP l s) (bs := (piece l s k)) (fun w' h => (hdy23 _ (h.only 3 rfl))) (by omega) (by omega) (by omega) (k := 0) (has := hv (nP l s) f) (dat := dv (nP l s) f (piece l s)) rfl one_key (hv_len _ _) (by rw [hv_get (by omega), hff]) (any_put (by omega) hmore)) ?_
           clear hA hS; rintro _ w59 a ⟨L60, E62, hM61, rfl, hS⟩ hA
           have hM63 : GS w0 b9 ([GV1 0 1 5 (nP l s) (up f k) (piece l s)]) L60 (E62 ++ D1) := by have h9 := hM61; rw [One.put (fr := 0) (to := 1) (id := 5) (n := (nP l s)) (k := k) (f := f) (pc := (piece l s)) (by omega)] at h9; exact h9
           refine st_run tbOk 5 hA (e' := (16, .bool false) :: (15, .slice none 0 0) :: (72, .bool false) :: (71, .slice none 0 0) :: (64, .tuple #[.slice none 0 0, .bool false]) :: _) rfl ?_; clear hA; intro a hA
           refine wpList_nil ?_
           replace hA := hA.sel [0, 7, 9, 10, 11, 14, 16, 44, 45, 46] (e' := [(0, .slice A l.length c), (7, .slice (some ⟨b57, o58, none⟩) ps.length c8), (9, .pointer (some ⟨b9, 0, none⟩)), (10, .slice As ((hv (nP l s) f).length) cs), (11, .int .i64 ((cnt (nP l s) f : Nat) : Int)), (14, .int .i64 ((k : Nat) : Int)), (16, .bool false), (44, .slice (some ⟨b19, o20, none⟩) os.length cq), (45, .int .i64 ((os.length : Nat) : Int)), (46, .int .i64 ((i : Nat) : Int))]) rfl
           refine xt_norm ?_
           refine wp_seq ?_
           refine wp_region_lit ?_
           refine st_run tbOk 1 hA (e' := (73, .bool false) :: _) rfl ?_; clear hA; intro a hA
           refine wpList_nil ?_
           replace hA := hA.sel [0, 7, 9, 10, 11, 14, 44, 45, 46, 73] (e' := [(0, .slice A l.length c), (7, .slice (some ⟨b57, o58, none⟩) ps.length c8), (9, .pointer (some ⟨b9, 0, none⟩)), (10, .slice As ((hv (nP l s) f).length) cs), (11, .int .i64 ((cnt (nP l s) f : Nat) : Int)), (14, .int .i64 ((k : Nat) : Int)), (44, .slice (some ⟨b19, o20, none⟩) os.length cq), (45, .int .i64 ((os.length : Nat) : Int)), (46, .int .i64 ((i : Nat) : Int)), (73, .bool false)]) rfl
           refine xt_norm ?_
           refine cd_cond_f hA rfl ?_
           refine wp_skip ?_
           refine xt_norm ?_
           refine wp_seq ?_
           refine wp_region_lit ?_
           refine st_run tbOk 2 hA (e' := (75, .int .i64 ((k : Nat) : Int)) :: (74, .slice As ((hv (nP l s) f).length) cs) :: _) rfl ?_; clear hA; intro a hA
           obtain ⟨b64, o65, rfl⟩ := hR.isSome (k := k) (by omega)
           refine st_val hA rfl rfl (by decide) (rn_indexAddr tbOk hA k (o65 + k) rfl rfl rfl rfl rfl rfl (by rfl) (by omega) (by first | rfl | simp [Nat.mul_one, Nat.zero_add] | omega)) ?_; clear hA; intro a hA
           refine st_val hA rfl rfl (by decide) (rn_load tbOk hA rfl rfl rfl rfl ((hR.rd (hS.own_ 2 rfl)).elem0 (k := k) encBo_ok (show (hv (nP l s) f)[k]? = some false from by rw [hv_get hkn, hff]) rfl)) ?_; clear hA; intro a hA
           refine st_run tbOk 1 hA (e' := (78, .bool true) :: _) rfl ?_; clear hA; intro a hA
           refine wpList_nil ?_
           replace hA := hA.sel [0, 7, 9, 10, 11, 14, 44, 45, 46, 78] (e' := [(0, .slice A l.length c), (7, .slice (some ⟨b57, o58, none⟩) ps.length c8), (9, .pointer (some ⟨b9, 0, none⟩)), (10, .slice (some ⟨b64, o65, none⟩) ((hv (nP l s) f).length) cs), (11, .int .i64 ((cnt (nP l s) f : Nat) : Int)), (14, .int .i64 ((k : Nat) : Int)), (44, .slice (some ⟨b19, o20, none⟩) os.length cq), (45, .int .i64 ((os.length : Nat) : Int)), (46, .int .i64 ((i : Nat) : Int)), (78, .bool true)]) rfl
           refine xt_norm ?_
           refine cd_cond_t hA rfl ?_
           refine wp_seq ?_
           refine wp_region_lit ?_
           refine st_run tbOk 2 hA (e' := (80, .int .i64 ((k : Nat) : Int)) :: (79, .slice (some ⟨b64, o65, none⟩) ((hv (nP l s) f).length) cs) :: _) rfl ?_; clear hA; intro a hA
           refine st_val hA rfl rfl (by decide) (rn_indexAddr tbOk hA k (o65 + k) rfl rfl rfl rfl rfl rfl (by rfl) (by omega) (by first | rfl | simp [Nat.mul_one, Nat.zero_add] | omega)) ?_; clear hA; intro a hA
           replace hS := hS.front 2 (C := Cs) (L' := L60 :: (E62 ++ D1) :: C5 :: D6 :: F) rfl rfl
           refine st_store_own tbOk hA hR hS (k) (o65 + k) [.bool true] (rows encBo ((hv (nP l s) f).set k true)) rfl rfl rfl rfl (by rfl) rfl rfl (by intro u hu; rw [List.mem_singleton.1 hu]; rfl) (by simp only [rows_length encBo_ok, List.length_cons, List.length_nil]; omega) (by have := rows_set encBo_ok (x := true) (l := hv (nP l s) f) (k := k) (by omega); rw [Nat.mul_one] at this; exact this) rfl rfl ?_; clear hS; intro w66 C67 hO67 hS
           refine wpList_nil ?_
           replace hA := hA.sel [0, 7, 9, 10, 11, 44, 45, 46] (e' := [(0, .slice A l.length c), (7, .slice (some ⟨b57, o58, none⟩) ps.length c8), (9, .pointer (some ⟨b9, 0, none⟩)), (10, .slice (some ⟨b64, o65, none⟩) ((hv (nP l s) f).length) cs), (11, .int .i64 ((cnt (nP l s) f : Nat) : Int)), (44, .slice (some ⟨b19, o20, none⟩) os.length cq), (45, .int .i64 ((os.length : Nat) : Int)), (46, .int .i64 ((i : Nat) : Int))]) rfl
           refine xt_norm ?_
           refine wp_region_lit ?_
           have hRn : Own 4 1 (.slice (some ⟨b64, o65, none⟩) (hv (nP l s) (up f k)).length cs) (hv (nP l s) (up f k)).length (rows encBo (hv (nP l s) (up f k))) C67 := by have h9 := hO67; rw [hv_set hkn, hsl] at h9; rw [hv_len]; exact h9
           replace hA := hA.rw 10 (v' := .slice (some ⟨b64, o65, none⟩) ((hv (nP l s) (up f k)).length) cs) rfl (by rw [hv_len, hv_len])
           refine st_run tbOk 2 hA (e' := (83, .int .i64 (IntKind.i64.wrap (((cnt (nP l s) f : Nat) : Int) - 1))) :: (82, .int .i64 ((cnt (nP l s) f : Nat) : Int)) :: _) rfl ?_; clear hA; intro a hA
           replace hA := hA.rw 83 (v' := .int .i64 (((cnt (nP l s) f : Nat) : Int) - 1)) rfl (wr64 (by omega) (by omega) (by omega))
           refine st_run tbOk 1 hA (e' := (11, .int .i64 (((cnt (nP l s) f : Nat) : Int) - 1)) :: _) rfl ?_; clear hA; intro a hA
           refine wpList_nil ?_
           replace hA := hA.sel [0, 7, 9, 10, 11, 44, 45, 46] (e' := [(0, .slice A l.length c), (7, .slice (some ⟨b57, o58, none⟩) ps.length c8), (9, .pointer (some ⟨b9, 0, none⟩)), (10, .slice (some ⟨b64, o65, none⟩) ((hv (nP l s) (up f k)).length) cs), (11, .int .i64 (((cnt (nP l s) f : Nat) : Int) - 1)), (44, .slice (some ⟨b19, o20, none⟩) os.length cq), (45, .int .i64 ((os.length : Nat) : Int)), (46, .int .i64 ((i : Nat) : Int))]) rfl
           refine xb_norm ?_
           refine xt_norm ?_
           refine wp_region_lit ?_
           replace hA := hA.rw 11 (v' := .int .i64 ((cnt (nP l s) (up f k) : Nat) : Int)) rfl (vint (by omega))
           refine st_run tbOk 1 hA (e' := (84, .int .i64 (IntKind.i64.wrap (((i : Nat) : Int) + 1))) :: _) rfl ?_; clear hA; intro a hA
           replace hA := hA.rw 84 (v' := .int .i64 ((i + 1 : Nat) : Int)) rfl (wr64 (by omega) (by omega) (by omega))
           refine st_run tbOk 1 hA (e' := (46, .int .i64 ((i + 1 : Nat) : Int)) :: _) rfl ?_; clear hA; intro a hA
           refine wpList_nil ?_
           replace hA := hA.sel [0, 7, 9, 10, 11, 44, 45, 46] (e' := [(0, .slice A l.length c), (7, .slice (some ⟨b57, o58, none⟩) ps.length c8), (9, .pointer (some ⟨b9, 0, none⟩)), (10, .slice (some ⟨b64, o65, none⟩) ((hv (nP l s) (up f k)).length) cs), (11, .int .i64 ((cnt (nP l s) (up f k) : Nat) : Int)), (44, .slice (some ⟨b19, o20, none⟩) os.length cq), (45, .int .i64 ((os.length : Nat) : Int)), (46, .int .i64 ((i + 1 : Nat) : Int))]) rfl
           replace hS := hS.front 4 (C := D6) (L' := C67 :: L60 :: (E62 ++ D1) :: C5 :: F) rfl rfl
           replace hS := hS.front 4 (C := C5) (L' := D6 :: C67 :: L60 :: (E62 ++ D1) :: F) rfl rfl
           replace hS := hS.front 2 (C := C67) (L' := C5 :: D6 :: L60 :: (E62 ++ D1) :: F) rfl rfl
           replace hS := hS.front 4 (C := (E62 ++ D1)) (L' := C67 :: C5 :: D6 :: L60 :: F) rfl rfl
           replace hS := hS.front 4 (C := L60) (L' := (E62 ++ D1) :: C67 :: C5 :: D6 :: F) rfl rfl
           exact lp_next _ (by omega) ⟨(i + 1), (up f k), ([GV1 0 1 5 (nP l s) (up f k) (piece l s)]), L60, (E62 ++ D1), (some ⟨b64, o65, none⟩), cs, C67, rfl, (hA.sel [0, 7, 9, 10, 11, 44, 45, 46] rfl), hS, by omega, .inr rfl, (by omega), hM63, hRn⟩)
    · first
      | (exfalso; omega)
      | (replace hA := hA.rw 47 (v' := .bool false) rfl (vb_false hc18)
         refine cd_cond_f hA rfl ?_
         refine wp_exit ?_
         refine xt_exit ?_
         refine xt_exit ?_
         refine cd_exit_eq ?_
         refine xt_norm ?_
         refine wp_seq ?_
         refine wp_region_lit ?_
         refine st_run tbOk 1 hA (e' := (17, .int .i64 0) :: _) rfl ?_; clear hA; intro a hA
         refine wpList_nil ?_
         replace hA := hA.sel [0, 7, 9, 10, 11, 17] (e' := [(0, .slice A l.length c), (7, .slice A7 ps.length c8), (9, .pointer (some ⟨b9, 0, none⟩)), (10, .slice As ((hv (nP l s) f).length) cs), (11, .int .i64 ((cnt (nP l s) f : Nat) : Int)), (17, .int .i64 0)]) rfl
         refine xt_norm ?_
         refine wp_seq ?_
         refine wp_seq ?_
         refine wp_region_lit ?_
         refine st_run tbOk 3 hA (e' := (87, .int .i64 0) :: (86, .int .i64 ((ps.length : Nat) : Int)) :: (85, .slice A7 ps.length c8) :: _) rfl ?_; clear hA; intro a hA
         refine wpList_nil ?_
         replace hA := hA.sel [0, 7, 9, 10, 11, 17, 86, 87] (e' := [(0, .slice A l.length c), (7, .slice A7 ps.length c8), (9, .pointer (some ⟨b9, 0, none⟩)), (10, .slice As ((hv (nP l s) f).length) cs), (11, .int .i64 ((cnt (nP l s) f : Nat) : Int)), (17, .int .i64 0), (86, .int .i64 ((ps.length : Nat) : Int)), (87, .int .i64 0)]) rfl
         refine xt_norm ?_
         refine wp_block ?_
         replace hS := hS.front 4 (C := D6) (L' := L1 :: D1 :: Cs :: C5 :: F) rfl rfl
         replace hS := hS.front 4 (C := C5) (L' := D6 :: L1 :: D1 :: Cs :: F) rfl rfl
         replace hS := hS.front 4 (C := Cs) (L' := C5 :: D6 :: L1 :: D1 :: F) rfl rfl
         replace hS := hS.front 4 (C := D1) (L' := Cs :: C5 :: D6 :: L1 :: F) rfl rfl
         replace hS := hS.front 4 (C := L1) (L' := D1 :: Cs :: C5 :: D6 :: F) rfl rfl
         have hst0 : Two vs 0 1 5 (nP l s) (upto f 0) (piece l s) := by rw [upto_zero]; exact hst.elim (fun h => .inl h) (fun h => .inr (.inl ⟨h, cnt_ex _ hc1⟩))
         refine wp_loop_ghost (fun m a w => ∃ (j : Nat) (us : List GV) (mm : Nat) (L2 : Chunk) (D2 : Chunk), m = ps.length - j ∧ Has a 129 [(0, .slice A l.length c), (7, .slice A7 ps.length c8), (9, .pointer (some ⟨b9, 0, none⟩)), (10, .slice As ((hv (nP l s) f).length) cs), (11, .int .i64 ((cnt (nP l s) f : Nat) : Int)), (17, .int .i64 ((mm : Nat) : Int)), (86, .int .i64 ((ps.length : Nat) : Int)), (87, .int .i64 ((j : Nat) : Int))] ∧ St w0 w (L2 :: D2 :: Cs :: C5 :: D6 :: F) ∧ (j ≤ ps.length) ∧ (Two us 0 1 5 (nP l s) (upto f j) (piece l s)) ∧ (mm + cnt (nP l s) (upto f j) = cnt (nP l s) f) ∧ (GS w0 b9 us L2 D2)) (ps.length - 0)
           ⟨0, vs, 0, L1, D1, rfl, (hA.sel [0, 7, 9, 10, 11, 17, 86, 87] rfl), hS, Nat.zero_le _, hst0, (by rw [upto_zero]; omega), hM1⟩ ?_
         clear hA hS; rintro m0 a w68 ⟨j, us, mm, L2, D2, rfl, hA, hS, hj, hst2, hct, hM2⟩
         have hsl := hv_len (nP l s) f
         have hcl := cnt_le (upto f j) (nP l s); have hcl2 := cnt_le f (nP l s)
         refine wp_seq ?_
         refine wp_region_lit ?_
         refine st_run tbOk 1 hA (e' := (88, .bool (decide (((j : Nat) : Int) < ((ps.length : Nat) : Int)))) :: _) rfl ?_; clear hA; intro a hA
         refine wpList_nil ?_
         refine xt_norm ?_
         refine wp_seq ?_
         by_cases hc69 : ((j : Nat) : Int) < ((ps.length : Nat) : Int)
         · first
           | (exfalso; omega)
           | (replace hA := hA.rw 88 (v' := .bool true) rfl (vb_true hc69)
              refine cd_cond_t hA rfl ?_
              refine wp_skip ?_
              refine xt_norm ?_
              refine wp_seq ?_
              refine wp_block ?_
              refine wp_seq ?_
              refine wp_region_lit ?_
              refine st_run tbOk 2 hA (e' := (18, .int .i64 ((j : Nat) : Int)) :: (89, .int .i64 ((j : Nat) : Int)) :: _) rfl ?_; clear hA; intro a hA
              refine wpList_nil ?_
              replace hA := hA.sel [0, 7, 9, 10, 11, 17, 18, 86, 87] (e' := [(0, .slice A l.length c), (7, .slice A7 ps.length c8), (9, .pointer (some ⟨b9, 0, none⟩)), (10, .slice As ((hv (nP l s) f).length) cs), (11, .int .i64 ((cnt (nP l s) f : Nat) : Int)), (17, .int .i64 ((mm : Nat) : Int)), (18, .int .i64 ((j : Nat) : Int)), (86, .int .i64 ((ps.length : Nat) : Int)), (87, .int .i64 ((j : Nat) : Int))]) rfl
              refine xt_norm ?_
              refine wp_seq ?_
              refine wp_seq ?_
              refine wp_region_lit ?_
              have hjn : j < nP l s := by omega
              rcases Bool.eq_false_or_eq_true (f j) with hft | hff0
              · refine st_run tbOk 2 hA (e' := (91, .int .i64 ((j : Nat) : Int)) :: (90, .slice As ((hv (nP l s) f).length) cs) :: _) rfl ?_; clear hA; intro a hA
                obtain ⟨b70, o71, rfl⟩ := hR.isSome (k := j) (by omega)
                refine st_val hA rfl rfl (by decide) (rn_indexAddr tbOk hA j (o71 + j) rfl rfl rfl rfl rfl rfl (by rfl) (by omega) (by first | rfl | simp [Nat.mul_one, Nat.zero_add] | omega)) ?_; clear hA; intro a hA
                refine st_val hA rfl rfl (by decide) (rn_load tbOk hA rfl rfl rfl rfl ((hR.rd (hS.own_ 2 rfl)).elem0 (k := j) encBo_ok (show (hv (nP l s) f)[j]? = some true from by rw [hv_get hjn, hft]) rfl)) ?_; clear hA; intro a hA
                refine wpList_nil ?_
                replace hA := hA.sel [0, 7, 9, 10, 11, 17, 18, 86, 87, 93] (e' := [(0, .slice A l.length c), (7, .slice A7 ps.length c8), (9, .pointer (some ⟨b9, 0, none⟩)), (10, .slice (some ⟨b70, o71, none⟩) ((hv (nP l s) f).length) cs), (11, .int .i64 ((cnt (nP l s) f : Nat) : Int)), (17, .int .i64 ((mm : Nat) : Int)), (18, .int .i64 ((j : Nat) : Int)), (86, .int .i64 ((ps.length : Nat) : Int)), (87, .int .i64 ((j : Nat) : Int)), (93, .bool true)]) rfl
                refine xt_norm ?_
                refine cd_cond_t hA rfl ?_
                refine wp_exit ?_
                refine xt_exit ?_
                refine cd_exit_eq ?_
                refine xt_norm ?_
                refine wp_region_lit ?_
                refine st_run tbOk 1 hA (e' := (120, .int .i64 (IntKind.i64.wrap (((j : Nat) : Int) + 1))) :: _) rfl ?_; clear hA; intro a hA
                replace hA := hA.rw 120 (v' := .int .i64 ((j + 1 : Nat) : Int)) rfl (wr64 (by omega) (by omega) (by omega))
                refine st_run tbOk 1 hA (e' := (87, .int .i64 ((j + 1 : Nat) : Int)) :: _) rfl ?_; clear hA; intro a hA
                refine wpList_nil ?_
                replace hA := hA.sel [0, 7, 9, 10, 11, 17, 86, 87] (e' := [(0, .slice A l.length c), (7, .slice A7 ps.length c8), (9, .pointer (some ⟨b9, 0, none⟩)), (10, .slice (some ⟨b70, o71, none⟩) ((hv (nP l s) f).length) cs), (11, .int .i64 ((cnt (nP l s) f : Nat) : Int)), (17, .int .i64 ((mm : Nat) : Int)), (86, .int .i64 ((ps.length : Nat) : Int)), (87, .int .i64 ((j + 1 : Nat) : Int))]) rfl
                replace hS := hS.front 4 (C := D6) (L' := L2 :: D2 :: Cs :: C5 :: F) rfl rfl
                replace hS := hS.front 4 (C := C5) (L' := D6 :: L2 :: D2 :: Cs :: F) rfl rfl
                replace hS := hS.front 4 (C := Cs) (L' := C5 :: D6 :: L2 :: D2 :: F) rfl rfl
                replace hS := hS.front 4 (C := D2) (L' := Cs :: C5 :: D6 :: L2 :: F) rfl rfl
                replace hS := hS.front 4 (C := L2) (L' := D2 :: Cs :: C5 :: D6 :: F) rfl rfl
                exact lp_next _ (by omega) ⟨(j + 1), (us), mm, L2, D2, rfl, (hA.sel [0, 7, 9, 10, 11, 17, 86, 87] rfl), hS, by omega, (by rw [upto_skip hft]; exact hst2), (by rw [upto_skip hft]; exact hct), hM2⟩
              · refine st_run tbOk 2 hA (e' := (91, .int .i64 ((j : Nat) : Int)) :: (90, .slice As ((hv (nP l s) f).length) cs) :: _) rfl ?_; clear hA; intro a hA
                obtain ⟨b72, o73, rfl⟩ := hR.isSome (k := j) (by omega)
                refine st_val hA rfl rfl (by decide) (rn_indexAddr tbOk hA j (o73 + j) rfl rfl rfl rfl rfl rfl (by rfl) (by omega) (by first | rfl | simp [Nat.mul_one, Nat.zero_add] | omega)) ?_; clear hA; intro a hA
                refine st_val hA rfl rfl (by decide) (rn_load tbOk hA rfl rfl rfl rfl ((hR.rd (hS.own_ 2 rfl)).elem0 (k := j) encBo_ok (show (hv (nP l s) f)[j]? = some false from by rw [hv_get hjn, hff0]) rfl)) ?_; clear hA; intro a hA
                refine wpList_nil ?_
                replace hA := hA.sel [0, 7, 9, 10, 11, 17, 18, 86, 87, 93] (e' := [(0, .slice A l.length c), (7, .slice A7 ps.length c8), (9, .pointer (some ⟨b9, 0, none⟩)), (10, .slice (some ⟨b72, o73, none⟩) ((hv (nP l s) f).length) cs), (11, .int .i64 ((cnt (nP l s) f : Nat) : Int)), (17, .int .i64 ((mm : Nat) : Int)), (18, .int .i64 ((j : Nat) : Int)), (86, .int .i64 ((ps.length : Nat) : Int)), (87, .int .i64 ((j : Nat) : Int)), (93, .bool false)]) rfl
                refine xt_norm ?_
                refine cd_cond_f hA rfl ?_
                refine wp_skip ?_
                refine xt_norm ?_
                refine wp_seq ?_
                refine wp_region_lit ?_
                refine st_run tbOk 2 hA (e' := (95, .int .i64 (IntKind.i64.wrap (((mm : Nat) : Int) + 1))) :: (94, .int .i64 ((mm : Nat) : Int)) :: _) rfl ?_; clear hA; intro a hA
                replace hA := hA.rw 95 (v' := .int .i64 ((mm + 1 : Nat) : Int)) rfl (wr64 (by omega) (by omega) (by omega))
                refine st_run tbOk 1 hA (e' := (17, .int .i64 ((mm + 1 : Nat) : Int)) :: _) rfl ?_; clear hA; intro a hA
                refine wpList_nil ?_
                replace hA := hA.sel [0, 7, 9, 10, 11, 17, 18, 86, 87] (e' := [(0, .slice A l.length c), (7, .slice A7 ps.length c8), (9, .pointer (some ⟨b9, 0, none⟩)), (10, .slice (some ⟨b72, o73, none⟩) ((hv (nP l s) f).length) cs), (11, .int .i64 ((cnt (nP l s) f : Nat) : Int)), (17, .int .i64 ((mm + 1 : Nat) : Int)), (18, .int .i64 ((j : Nat) : Int)), (86, .int .i64 ((ps.length : Nat) : Int)), (87, .int .i64 ((j : Nat) : Int))]) rfl
                refine xt_norm ?_
                refine wp_seq ?_
                refine wp_region_lit ?_
                have hff := upto_at hff0
                obtain ⟨y74, hy74⟩ := get_ex (l := ps) (k := j) (by omega)
                obtain ⟨B75, d76, rfl⟩ := hpk j y74 hy74
                have hdy74 := hdd _ (List.mem_of_getElem? hy74)
                have hpcy74 := piece_le l s j
                have hcu := cnt_up hff (nP l s) hjn
                rcases ord5 hst2 hjn hff with ⟨hvs, hf0, hc2⟩ | ⟨hvs, hf0, hc2⟩ | ⟨hvs, hc2⟩ | ⟨hvs, hc2⟩
                · subst hvs
                  have hmore := up_more hff hjn (by omega)
                  refine st_run tbOk 3 hA (e' := (99, .int .i64 ((j : Nat) : Int)) :: (98, .slice A7 ps.length c8) :: (97, .pointer (some ⟨b9, 0, none⟩)) :: _) rfl ?_; clear hA; intro a hA
                  obtain ⟨b77, o78, rfl⟩ := hOC5.isSome (k := j) (by omega)
                  refine st_val hA rfl rfl (by decide) (rn_indexAddr tbOk hA j (o78 + (j * 6)) rfl rfl rfl rfl rfl rfl (by rfl) (by omega) (by first | rfl | simp [Nat.mul_one, Nat.zero_add] | omega)) ?_; clear hA; intro a hA
                  refine st_val hA rfl rfl (by decide) (rn_loadA tbOk hA ([.int .i64 0, .int .i64 1, .int .u64 5, .int .i64 ((j : Nat) : Int), .int .i64 ((nP l s : Nat) : Int), .slice B75 ((piece l s j).length) d76]) rfl rfl rfl rfl (by rfl) ((hOC5.rd (hS.own_ 3 rfl)).elem (k := j) encPacket_ok hy74)) ?_; clear hA; intro a hA
                  replace hS := hS.front 1 (C := D2) (L' := L2 :: Cs :: C5 :: D6 :: F) rfl rfl
                  replace hS := hS.front 1 (C := L2) (L' := D2 :: Cs :: C5 :: D6 :: F) rfl rfl
                  refine st_call0 hA rfl rfl rfl isfn9 rfl rfl (by decide) (add_new_put9 hS hM2 0 1 5 j (nP l s) (bs := (piece l s j)) (fun w' h => (hdy74 _ (h.only 3 rfl))) (by omega) (by omega) (by omega) nil_key (by decide) (any_new (f := upto f j) hf0 (by omega) hmore)) ?_
                  clear hA hS; rintro _ w79 a ⟨L80, E82, hM81, rfl, hS⟩ hA
                  have hM83 : GS w0 b9 ([GV1 0 1 5 (nP l s) (up (upto f j) j) (piece l s)]) L80 (E82 ++ D2) := by have h9 := hM81; rw [One.new (n := (nP l s)) (k := j) (f := upto f j) (pc := (piece l s)) hf0 (by omega)] at h9; exact h9
                  refine st_run tbOk 5 hA (e' := (20, .bool false) :: (19, .slice none 0 0) :: (104, .bool false) :: (103, .slice none 0 0) :: (96, .tuple #[.slice none 0 0, .bool false]) :: _) rfl ?_; clear hA; intro a hA
                  refine wpList_nil ?_
                  replace hA := hA.sel [0, 7, 9, 10, 11, 17, 19, 20, 86, 87] (e' := [(0, .slice A l.length c), (7, .slice (some ⟨b77, o78, none⟩) ps.length c8), (9, .pointer (some ⟨b9, 0, none⟩)), (10, .slice (some ⟨b72, o73, none⟩) ((hv (nP l s) f).length) cs), (11, .int .i64 ((cnt (nP l s) f : Nat) : Int)), (17, .int .i64 ((mm + 1 : Nat) : Int)), (19, .slice none 0 0), (20, .bool false), (86, .int .i64 ((ps.length : Nat) : Int)), (87, .int .i64 ((j : Nat) : Int))]) rfl
                  refine xt_norm ?_
                  refine wp_seq ?_
                  refine wp_region_lit ?_
                  refine st_run tbOk 4 hA (e' := (108, .bool (((mm + 1 : Nat) : Int) == ((cnt (nP l s) f : Nat) : Int))) :: (107, .int .i64 ((cnt (nP l s) f : Nat) : Int)) :: (106, .int .i64 ((mm + 1 : Nat) : Int)) :: (105, .bool false) :: _) rfl ?_; clear hA; intro a hA
                  have hc84 : ¬ (((mm + 1 : Nat) : Int) = ((cnt (nP l s) f : Nat) : Int)) := by omega
                  replace hA := hA.rw 108 (v' := .bool false) rfl (vb_eq_f hc84)
                  refine st_run tbOk 9 hA (e' := (117, undef) :: (116, undef) :: (115, undef) :: (114, undef) :: (113, undef) :: (112, .bool false) :: (111, .bool false) :: (110, .bool false) :: (109, .bool false) :: _) rfl ?_; clear hA; intro a hA
                  refine st_run tbOk 2 hA (e' := (119, .bool false) :: (118, .bool false) :: _) rfl ?_; clear hA; intro a hA
                  refine wpList_nil ?_
                  replace hA := hA.sel [0, 7, 9, 10, 11, 17, 86, 87, 119] (e' := [(0, .slice A l.length c), (7, .slice (some ⟨b77, o78, none⟩) ps.length c8), (9, .pointer (some ⟨b9, 0, none⟩)), (10, .slice (some ⟨b72, o73, none⟩) ((hv (nP l s) f).length) cs), (11, .int .i64 ((cnt (nP l s) f : Nat) : Int)), (17, .int .i64 ((mm + 1 : Nat) : Int)), (86, .int .i64 ((ps.length : Nat) : Int)), (87, .int .i64 ((j : Nat) : Int)), (119, .bool false)]) rfl
                  refine xt_norm ?_
                  refine cd_cond_f hA rfl ?_
                  refine wp_skip ?_
                  refine xb_norm ?_
                  refine xt_norm ?_
                  refine wp_region_lit ?_
                  refine st_run tbOk 1 hA (e' := (120, .int .i64 (IntKind.i64.wrap (((j : Nat) : Int) + 1))) :: _) rfl ?_; clear hA; intro a hA
                  replace hA := hA.rw 120 (v' := .int .i64 ((j + 1 : Nat) : Int)) rfl (wr64 (by omega) (by omega) (by omega))
                  refine st_run tbOk 1 hA (e' := (87, .int .i64 ((j + 1 : Nat) : Int)) :: _) rfl ?_; clear hA; intro a hA
                  refine wpList_nil ?_
                  replace hA := hA.sel [0, 7, 9, 10, 11, 17, 86, 87] (e' := [(0, .slice A l.length c), (7, .slice (some ⟨b77, o78, none⟩) ps.length c8), (9, .pointer (some ⟨b9, 0, none⟩)), (10, .slice (some ⟨b72, o73, none⟩) ((hv (nP l s) f).length) cs), (11, .int .i64 ((cnt (nP l s) f : Nat) : Int)), (17, .int .i64 ((mm + 1 : Nat) : Int)), (86, .int .i64 ((ps.length : Nat) : Int)), (87, .int .i64 ((j + 1 : Nat) : Int))]) rfl
                  replace hS := hS.front 4 (C := D6) (L' := L80 :: (E82 ++ D2) :: Cs :: C5 :: F) rfl rfl
                  replace hS := hS.front 4 (C := C5) (L' := D6 :: L80 :: (E82 ++ D2) :: Cs :: F) rfl rfl
                  replace hS := hS.front 4 (C := Cs) (L' := C5 :: D6 :: L80 :: (E82 ++ D2) :: F) rfl rfl
                  replace hS := hS.front 4 (C := (E82 ++ D2)) (L' := Cs :: C5 :: D6 :: L80 :: F) rfl rfl
                  replace hS := hS.front 4 (C := L80) (L' := (E82 ++ D2) :: Cs :: C5 :: D6 :: F) rfl rfl
                  exact lp_next _ (by omega) ⟨(j + 1), ([GV1 0 1 5 (nP l s) (up (upto f j) j) (piece l s)]), (mm + 1), L80, (E82 ++ D2), rfl, (hA.sel [0, 7, 9, 10, 11, 17, 86, 87] rfl), hS, by omega, (by rw [← upto_up]; exact .inr (.inl ⟨rfl, hmore⟩)), (by rw [← upto_up]; omega), hM83⟩
                · subst hvs
                  have hlast := up_last hff hjn (by omega)
                  refine st_run tbOk 3 hA (e' := (99, .int .i64 ((j : Nat) : Int)) :: (98, .slice A7 ps.length c8) :: (97, .pointer (some ⟨b9, 0, none⟩)) :: _) rfl ?_; clear hA; intro a hA
                  obtain ⟨b85, o86, rfl⟩ := hOC5.isSome (k := j) (by omega)
                  refine st_val hA rfl rfl (by decide) (rn_indexAddr tbOk hA j (o86 + (j * 6)) rfl rfl rfl rfl rfl rfl (by rfl) (by omega) (by first | rfl | simp [Nat.mul_one, Nat.zero_add] | omega)) ?_; clear hA; intro a hA
                  refine st_val hA rfl rfl (by decide) (rn_loadA tbOk hA ([.int .i64 0, .int .i64 1, .int .u64 5, .int .i64 ((j : Nat) : Int), .int .i64 ((nP l s : Nat) : Int), .slice B75 ((piece l s j).length) d76]) rfl rfl rfl rfl (by rfl) ((hOC5.rd (hS.own_ 3 rfl)).elem (k := j) encPacket_ok hy74)) ?_; clear hA; intro a hA
                  replace hS := hS.front 1 (C := D2) (L' := L2 :: Cs :: C5 :: D6 :: F) rfl rfl
                  replace hS := hS.front 1 (C := L2) (L' := D2 :: Cs :: C5 :: D6 :: F) rfl rfl
                  refine st_call0 hA rfl rfl rfl isfn9 rfl rfl (by decide) (add_new_full9 hS hM2 0 1 5 j (nP l s) (bs := (piece l s j)) (fun w' h => (hdy74 _ (h.only 3 rfl))) (by omega) (by omega) (by omega) nil_key (by decide) (all_new (f := upto f j) hf0 (by omega) hlast)) ?_
                  clear hA hS; rintro _ w87 a ⟨L88, E90, C91, v92, hM89, hO91, rfl, hS⟩ hA
                  rw [show ((List.replicate (nP l s) []).set j (piece l s j)).flatten = l from out_new (by omega) hf0 (by omega) hlast] at hO91
                  obtain ⟨A93, c94, rfl, hmc94, hxc94⟩ := hO91.open'
                  have hM95 : GS w0 b9 (([] : List GV)) L88 (E90 ++ D2) := hM89
                  refine st_run tbOk 5 hA (e' := (20, .bool true) :: (19, .slice A93 l.length c94) :: (104, .bool true) :: (103, .slice A93 l.length c94) :: (96, .tuple #[.slice A93 l.length c94, .bool true]) :: _) rfl ?_; clear hA; intro a hA
                  refine wpList_nil ?_
                  replace hA := hA.sel [0, 7, 9, 10, 11, 17, 19, 20, 86, 87] (e' := [(0, .slice A l.length c), (7, .slice (some ⟨b85, o86, none⟩) ps.length c8), (9, .pointer (some ⟨b9, 0, none⟩)), (10, .slice (some ⟨b72, o73, none⟩) ((hv (nP l s) f).length) cs), (11, .int .i64 ((cnt (nP l s) f : Nat) : Int)), (17, .int .i64 ((mm + 1 : Nat) : Int)), (19, .slice A93 l.length c94), (20, .bool true), (86, .int .i64 ((ps.length : Nat) : Int)), (87, .int .i64 ((j : Nat) : Int))]) rfl
                  refine xt_norm ?_
                  refine wp_seq ?_
                  refine wp_region_lit ?_
                  refine st_run tbOk 4 hA (e' := (108, .bool (((mm + 1 : Nat) : Int) == ((cnt (nP l s) f : Nat) : Int))) :: (107, .int .i64 ((cnt (nP l s) f : Nat) : Int)) :: (106, .int .i64 ((mm + 1 : Nat) : Int)) :: (105, .bool true) :: _) rfl ?_; clear hA; intro a hA
                  have hc96 : ((mm + 1 : Nat) : Int) = ((cnt (nP l s) f : Nat) : Int) := by omega
                  replace hA := hA.rw 108 (v' := .bool true) rfl (vb_eq_t hc96)
                  refine st_run tbOk 5 hA (e' := (113, .slice A93 l.length c94) :: (112, .bool true) :: (111, .bool true) :: (110, .bool false) :: (109, .bool false) :: _) rfl ?_; clear hA; intro a hA
                  refine st_val hA rfl rfl (by decide) (rn_bstr tbOk hA (bs := l) rfl rfl rfl rfl rfl rfl rfl rfl (hO91.rd (hS.own_ 2 rfl)).x) ?_; clear hA; intro a hA
                  refine st_run tbOk 1 hA (e' := (115, .slice A l.length c) :: _) rfl ?_; clear hA; intro a hA
                  refine st_val hA rfl rfl (by decide) (rn_bstr tbOk hA (bs := l) rfl rfl rfl rfl rfl rfl rfl rfl (hr _ (hS.tail 6 rfl)).x) ?_; clear hA; intro a hA
                  refine st_run tbOk 1 hA (e' := (117, .bool (!((bsv l).toList == (bsv l).toList))) :: _) rfl ?_; clear hA; intro a hA
                  replace hA := hA.rw 117 (v' := .bool false) rfl (congrArg Value.bool (by simp))
                  refine st_run tbOk 2 hA (e' := (119, .bool false) :: (118, .bool false) :: _) rfl ?_; clear hA; intro a hA
                  refine wpList_nil ?_
                  replace hA := hA.sel [0, 7, 9, 10, 11, 17, 86, 87, 119] (e' := [(0, .slice A l.length c), (7, .slice (some ⟨b85, o86, none⟩) ps.length c8), (9, .pointer (some ⟨b9, 0, none⟩)), (10, .slice (some ⟨b72, o73, none⟩) ((hv (nP l s) f).length) cs), (11, .int .i64 ((cnt (nP l s) f : Nat) : Int)), (17, .int .i64 ((mm + 1 : Nat) : Int)), (86, .int .i64 ((ps.length : Nat) : Int)), (87, .int .i64 ((j : Nat) : Int)), (119, .bool false)]) rfl
                  refine xt_norm ?_
                  refine cd_cond_f hA rfl ?_
                  refine wp_skip ?_
                  refine xb_norm ?_
                  refine xt_norm ?_
                  refine wp_region_lit ?_
                  refine st_run tbOk 1 hA (e' := (120, .int .i64 (IntKind.i64.wrap (((j : Nat) : Int) + 1))) :: _) rfl ?_; clear hA; intro a hA
                  replace hA := hA.rw 120 (v' := .int .i64 ((j + 1 : Nat) : Int)) rfl (wr64 (by omega) (by omega) (by omega))
                  refine st_run tbOk 1 hA (e' := (87, .int .i64 ((j + 1 : Nat) : Int)) :: _) rfl ?_; clear hA; intro a hA
                  refine wpList_nil ?_
                  replace hA := hA.sel [0, 7, 9, 10, 11, 17, 86, 87] (e' := [(0, .slice A l.length c), (7, .slice (some ⟨b85, o86, none⟩) ps.length c8), (9, .pointer (some ⟨b9, 0, none⟩)), (10, .slice (some ⟨b72, o73, none⟩) ((hv (nP l s) f).length) cs), (11, .int .i64 ((cnt (nP l s) f : Nat) : Int)), (17, .int .i64 ((mm + 1 : Nat) : Int)), (86, .int .i64 ((ps.length : Nat) : Int)), (87, .int .i64 ((j + 1 : Nat) : Int))]) rfl
                  replace hS := hS.front 2 (C := C91) (L' := L88 :: (E90 ++ D2) :: Cs :: C5 :: D6 :: F) rfl rfl
                  replace hS := hS.drop1
                  replace hS := hS.front 4 (C := D6) (L' := L88 :: (E90 ++ D2) :: Cs :: C5 :: F) rfl rfl
                  replace hS := hS.front 4 (C := C5) (L' := D6 :: L88 :: (E90 ++ D2) :: Cs :: F) rfl rfl
                  replace hS := hS.front 4 (C := Cs) (L' := C5 :: D6 :: L88 :: (E90 ++ D2) :: F) rfl rfl
                  replace hS := hS.front 4 (C := (E90 ++ D2)) (L' := Cs :: C5 :: D6 :: L88 :: F) rfl rfl
                  replace hS := hS.front 4 (C := L88) (L' := (E90 ++ D2) :: Cs :: C5 :: D6 :: F) rfl rfl
                  exact lp_next _ (by omega) ⟨(j + 1), (([] : List GV)), (mm + 1), L88, (E90 ++ D2), rfl, (hA.sel [0, 7, 9, 10, 11, 17, 86, 87] rfl), hS, by omega, (by rw [← upto_up]; exact .inr (.inr ⟨rfl, hlast⟩)), (by rw [← upto_up]; omega), hM95⟩
                · subst hvs
                  have hmore := up_more hff hjn (by omega)
                  refine st_run tbOk 3 hA (e' := (99, .int .i64 ((j : Nat) : Int)) :: (98, .slice A7 ps.length c8) :: (97, .pointer (some ⟨b9, 0, none⟩)) :: _) rfl ?_; clear hA; intro a hA
                  obtain ⟨b97, o98, rfl⟩ := hOC5.isSome (k := j) (by omega)
                  refine st_val hA rfl rfl (by decide) (rn_indexAddr tbOk hA j (o98 + (j * 6)) rfl rfl rfl rfl rfl rfl (by rfl) (by omega) (by first | rfl | simp [Nat.mul_one, Nat.zero_add] | omega)) ?_; clear hA; intro a hA
                  refine st_val hA rfl rfl (by decide) (rn_loadA tbOk hA ([.int .i64 0, .int .i64 1, .int .u64 5, .int .i64 ((j : Nat) : Int), .int .i64 ((nP l s : Nat) : Int), .slice B75 ((piece l s j).length) d76]) rfl rfl rfl rfl (by rfl) ((hOC5.rd (hS.own_ 3 rfl)).elem (k := j) encPacket_ok hy74)) ?_; clear hA; intro a hA
                  replace hS := hS.front 1 (C := D2) (L' := L2 :: Cs :: C5 :: D6 :: F) rfl rfl
                  replace hS := hS.front 1 (C := L2) (L' := D2 :: Cs :: C5 :: D6 :: F) rfl rfl
                  refine st_call0 hA rfl rfl rfl isfn9 rfl rfl (by decide) (add_hit_put9 hS hM2 0 1 5 j (nP l s) (bs := (piece l s j)) (fun w' h => (hdy74 _ (h.only 3 rfl))) (by omega) (by omega) (by omega) (k := 0) (has := hv (nP l s) (upto f j)) (dat := dv (nP l s) (upto f j) (piece l s)) rfl one_key (hv_len _ _) (by rw [hv_get (by omega), hff]) (any_put (by omega) hmore)) ?_
                  clear hA hS; rintro _ w99 a ⟨L100, E102, hM101, rfl, hS⟩ hA
                  have hM103 : GS w0 b9 ([GV1 0 1 5 (nP l s) (up (upto f j) j) (piece l s)]) L100 (E102 ++ D2) := by have h9 := hM101; rw [One.put (fr := 0) (to := 1) (id := 5) (n := (nP l s)) (k := j) (f := upto f j) (pc := (piece l s)) (by omega)] at h9; exact h9
                  refine st_run tbOk 5 hA (e' := (20, .bool false) :: (19, .slice none 0 0) :: (104, .bool false) :: (103, .slice none 0 0) :: (96, .tuple #[.slice none 0 0, .bool false]) :: _) rfl ?_; clear hA; intro a hA
                  refine wpList_nil ?_
                  replace hA := hA.sel [0, 7, 9, 10, 11, 17, 19, 20, 86, 87] (e' := [(0, .slice A l.length c), (7, .slice (some ⟨b97, o98, none⟩) ps.length c8), (9, .pointer (some ⟨b9, 0, none⟩)), (10, .slice (some ⟨b72, o73, none⟩) ((hv (nP l s) f).length) cs), (11, .int .i64 ((cnt (nP l s) f : Nat) : Int)), (17, .int .i64 ((mm + 1 : Nat) : Int)), (19, .slice none 0 0), (20, .bool false), (86, .int .i64 ((ps.length : Nat) : Int)), (87, .int .i64 ((j : Nat) : Int))]) rfl
                  refine xt_norm ?_
                  refine wp_seq ?_
                  refine wp_region_lit ?_
                  refine st_run tbOk 4 hA (e' := (108, .bool (((mm + 1 : Nat) : Int) == ((cnt (nP l s) f : Nat) : Int))) :: (107, .int .i64 ((cnt (nP l s) f : Nat) : Int)) :: (106, .int .i64 ((mm + 1 : Nat) : Int)) :: (105, .bool false) :: _) rfl ?_; clear hA; intro a hA
                  have hc104 : ¬ (((mm + 1 : Nat) : Int) = ((cnt (nP l s) f : Nat) : Int)) := by omega
                  replace hA := hA.rw 108 (v' := .bool false) rfl (vb_eq_f hc104)
                  refine st_run tbOk 9 hA (e' := (117, undef) :: (116, undef) :: (115, undef) :: (114, undef) :: (113, undef) :: (112, .bool false) :: (111, .bool false) :: (110, .bool false) :: (109, .bool false) :: _) rfl ?_; clear hA; intro a hA
                  refine st_run tbOk 2 hA (e' := (119, .bool false) :: (118, .bool false) :: _) rfl ?_; clear hA; intro a hA
                  refine wpList_nil ?_
                  replace hA := hA.sel [0, 7, 9, 10, 11, 17, 86, 87, 119] (e' := [(0, .slice A l.length c), (7, .slice (some ⟨b97, o98, none⟩) ps.length c8), (9, .pointer (some ⟨b9, 0, none⟩)), (10, .slice (some ⟨b72, o73, none⟩) ((hv (nP l s) f).length) cs), (11, .int .i64 ((cnt (nP l s) f : Nat) : Int)), (17, .int .i64 ((mm + 1 : Nat) : Int)), (86, .int .i64 ((ps.length : Nat) : Int)), (87, .int .i64 ((j : Nat) : Int)), (119, .bool false)]) rfl
                  refine xt_norm ?_
                  refine cd_cond_f hA rfl ?_
                  refine wp_skip ?_
                  refine xb_norm ?_
                  refine xt_norm ?_
                  refine wp_region_lit ?_
                  refine st_run tbOk 1 hA (e' := (120, .int .i64 (IntKind.i64.wrap (((j : Nat) : Int) + 1))) :: _) rfl ?_; clear hA; intro a hA
                  replace hA := hA.rw 120 (v' := .int .i64 ((j + 1 : Nat) : Int)) rfl (wr64 (by omega) (by omega) (by omega))
                  refine st_run tbOk 1 hA (e' := (87, .int .i64 ((j + 1 : Nat) : Int)) :: _) rfl ?_; clear hA; intro a hA
                  refine wpList_nil ?_
                  replace hA := hA.sel [0, 7, 9, 10, 11, 17, 86, 87] (e' := [(0, .slice A l.length c), (7, .slice (some ⟨b97, o98, none⟩) ps.length c8), (9, .pointer (some ⟨b9, 0, none⟩)), (10, .slice (some ⟨b72, o73, none⟩) ((hv (nP l s) f).length) cs), (11, .int .i64 ((cnt (nP l s) f : Nat) : Int)), (17, .int .i64 ((mm + 1 : Nat) : Int)), (86, .int .i64 ((ps.length : Nat) : Int)), (87, .int .i64 ((j + 1 : Nat) : Int))]) rfl
                  replace hS := hS.front 4 (C := D6) (L' := L100 :: (E102 ++ D2) :: Cs :: C5 :: F) rfl rfl
                  replace hS := hS.front 4 (C := C5) (L' := D6 :: L100 :: (E102 ++ D2) :: Cs :: F) rfl rfl
                  replace hS := hS.front 4 (C := Cs) (L' := C5 :: D6 :: L100 :: (E102 ++ D2) :: F) rfl rfl
                  replace hS := hS.front 4 (C := (E102 ++ D2)) (L' := Cs :: C5 :: D6 :: L100 :: F) rfl rfl
                  replace hS := hS.front 4 (C := L100) (L' := (E102 ++ D2) :: Cs :: C5 :: D6 :: F) rfl rfl
                  exact lp_next _ (by omega) ⟨(j + 1), ([GV1 0 1 5 (nP l s) (up (upto f j) j) (piece l s)]), (mm + 1), L100, (E102 ++ D2), rfl, (hA.sel [0, 7, 9, 10, 11, 17, 86, 87] rfl), hS, by omega, (by rw [← upto_up]; exact .inr (.inl ⟨rfl, hmore⟩)), (by rw [← upto_up]; omega), hM103⟩
                · subst hvs
                  have hlast := up_last hff hjn (by omega)
                  refine st_run tbOk 3 hA (e' := (99, .int .i64 ((j : Nat) : Int)) :: (98, .slice A7 ps.length c8) :: (97, .pointer (some ⟨b9, 0, none⟩)) :: _) rfl ?_; clear hA; intro a hA
                  obtain ⟨b105, o106, rfl⟩ := hOC5.isSome (k := j) (by omega)
                  refine st_val hA rfl rfl (by decide) (rn_indexAddr tbOk hA j (o106 + (j * 6)) rfl rfl rfl rfl rfl rfl (by rfl) (by omega) (by first | rfl | simp [Nat.mul_one, Nat.zero_add] | omega)) ?_; clear hA; intro a hA
                  refine st_val hA rfl rfl (by decide) (rn_loadA tbOk hA ([.int .i64 0, .int .i64 1, .int .u64 5, .int .i64 ((j : Nat) : Int), .int .i64 ((nP l s : Nat) : Int), .slice B75 ((piece l s j).length) d76]) rfl rfl rfl rfl (by rfl) ((hOC5.rd (hS.own_ 3 rfl)).elem (k := j) encPacket_ok hy74)) ?_; clear hA; intro a hA
                  replace hS := hS.front 1 (C := D2) (L' := L2 :: Cs :: C5 :: D6 :: F) rfl rfl
                  replace hS := hS.front 1 (C := L2) (L' := D2 :: Cs :: C5 :: D6 :: F) rfl rfl
                  refine st_call0 hA rfl rfl rfl isfn9 rfl rfl (by decide) (add_hit_full9 hS hM2 0 1 5 j (nP l s) (bs := (piece l s j)) (fun w' h => (hdy74 _ (h.only 3 rfl))) (by omega) (by omega) (by omega) (k := 0) (has := hv (nP l s) (upto f j)) (dat := dv (nP l s) (upto f j) (piece l s)) rfl one_key (hv_len _ _) (by rw [hv_get (by omega), hff]) (all_put (by omega) hlast)) ?_
                  clear hA hS; rintro _ w107 a ⟨L108, E110, C111, v112, hM109, hO111, rfl, hS⟩ hA
                  rw [show ((dv (nP l s) (upto f j) (piece l s)).set j (piece l s j)).flatten = l from out_put (by omega) (by omega) hlast] at hO111
                  obtain ⟨A113, c114, rfl, hmc114, hxc114⟩ := hO111.open'
                  have hM115 : GS w0 b9 (([] : List GV)) L108 (E110 ++ D2) := hM109
                  refine st_run tbOk 5 hA (e' := (20, .bool true) :: (19, .slice A113 l.length c114) :: (104, .bool true) :: (103, .slice A113 l.length c114) :: (96, .tuple #[.slice A113 l.length c114, .bool true]) :: _) rfl ?_; clear hA; intro a hA
                  refine wpList_nil ?_
                  replace hA := hA.sel [0, 7, 9, 10, 11, 17, 19, 20, 86, 87] (e' := [(0, .slice A l.length c), (7, .slice (some ⟨b105, o106, none⟩) ps.length c8), (9, .pointer (some ⟨b9, 0, none⟩)), (10, .slice (some ⟨b72, o73, none⟩) ((hv (nP l s) f).length) cs), (11, .int .i64 ((cnt (nP l s) f : Nat) : Int)), (17, .int .i64 ((mm + 1 : Nat) : Int)), (19, .slice A113 l.length c114), (20, .bool true), (86, .int .i64 ((ps.length : Nat) : Int)), (87, .int .i64 ((j : Nat) : Int))]) rfl
                  refine xt_norm ?_
                  refine wp_seq ?_
                  refine wp_region_lit ?_
                  refine st_run tbOk 4 hA (e' := (108, .bool (((mm + 1 : Nat) : Int) == ((cnt (nP l s) f : Nat) : Int))) :: (107, .int .i64 ((cnt (nP l s) f : Nat) : Int)) :: (106, .int .i64 ((mm + 1 : Nat) : Int)) :: (105, .bool true) :: _) rfl ?_; clear hA; intro a hA
                  have hc116 : ((mm + 1 : Nat) : Int) = ((cnt (nP l s) f : Nat) : Int) := by omega
                  replace hA := hA.rw 108 (v' := .bool true) rfl (vb_eq_t hc116)
                  refine st_run tbOk 5 hA (e' := (113, .slice A113 l.length c114) :: (112, .bool true) :: (111, .bool true) :: (110, .bool false) :: (109, .bool false) :: _) rfl ?_; clear hA; intro a hA
                  refine st_val hA rfl rfl (by decide) (rn_bstr tbOk hA (bs := l) rfl rfl rfl rfl rfl rfl rfl rfl (hO111.rd (hS.own_ 2 rfl)).x) ?_; clear hA; intro a hA
                  refine st_run tbOk 1 hA (e' := (115, .slice A l.length c) :: _) rfl ?_; clear hA; intro a hA
                  refine st_val hA rfl rfl (by decide) (rn_bstr tbOk hA (bs := l) rfl rfl rfl rfl rfl rfl rfl rfl (hr _ (hS.tail 6 rfl)).x) ?_; clear hA; intro a hA
                  refine st_run tbOk 1 hA (e' := (117, .bool (!((bsv l).toList == (bsv l).toList))) :: _) rfl ?_; clear hA; intro a hA
                  replace hA := hA.rw 117 (v' := .bool false) rfl (congrArg Value.bool (by simp))
                  refine st_run tbOk 2 hA (e' := (119, .bool false) :: (118, .bool false) :: _) rfl ?_; clear hA; intro a hA
                  refine wpList_nil ?_
                  replace hA := hA.sel [0, 7, 9, 10, 11, 17, 86, 87, 119] (e' := [(0, .slice A l.length c), (7, .slice (some ⟨b105, o106, none⟩) ps.length c8), (9, .pointer (some ⟨b9, 0, none⟩)), (10, .slice (some ⟨b72, o73, none⟩) ((hv (nP l s) f).length) cs), (11, .int .i64 ((cnt (nP l s) f : Nat) : Int)), (17, .int .i64 ((mm + 1 : Nat) : Int)), (86, .int .i64 ((ps.length : Nat) : Int)), (87, .int .i64 ((j : Nat) : Int)), (119, .bool false)]) rfl
                  refine xt_norm ?_
                  refine cd_cond_f hA rfl ?_
                  refine wp_skip ?_
                  refine xb_norm ?_
                  refine xt_norm ?_
                  refine wp_region_lit ?_
                  refine st_run tbOk 1 hA (e' := (120, .int .i64 (IntKind.i64.wrap (((j : Nat) : Int) + 1))) :: _) rfl ?_; clear hA; intro a hA
                  replace hA := hA.rw 120 (v' := .int .i64 ((j + 1 : Nat) : Int)) rfl (wr64 (by omega) (by omega) (by omega))
                  refine st_run tbOk 1 hA (e' := (87, .int .i64 ((j + 1 : Nat) : Int)) :: _) rfl ?_; clear hA; intro a hA
                  refine wpList_nil ?_
                  replace hA := hA.sel [0, 7, 9, 10, 11, 17, 86, 87] (e' := [(0, .slice A l.length c), (7, .slice (some ⟨b105, o106, none⟩) ps.length c8), (9, .pointer (some ⟨b9, 0, none⟩)), (10, .slice (some ⟨b72, o73, none⟩) ((hv (nP l s) f).length) cs), (11, .int .i64 ((cnt (nP l s) f : Nat) : Int)), (17, .int .i64 ((mm + 1 : Nat) : Int)), (86, .int .i64 ((ps.length : Nat) : Int)), (87, .int .i64 ((j + 1 : Nat) : Int))]) rfl
                  replace hS := hS.front 2 (C := C111) (L' := L108 :: (E110 ++ D2) :: Cs :: C5 :: D6 :: F) rfl rfl
                  replace hS := hS.drop1
                  replace hS := hS.front 4 (C := D6) (L' := L108 :: (E110 ++ D2) :: Cs :: C5 :: F) rfl rfl
                  replace hS := hS.front 4 (C := C5) (L' := D6 :: L108 :: (E110 ++ D2) :: Cs :: F) rfl rfl
                  replace hS := hS.front 4 (C := Cs) (L' := C5 :: D6 :: L108 :: (E110 ++ D2) :: F) rfl rfl
                  replace hS := hS.front 4 (C := (E110 ++ D2)) (L' := Cs :: C5 :: D6 :: L108 :: F) rfl rfl
                  replace hS := hS.front 4 (C := L108) (L' := (E110 ++ D2) :: Cs :: C5 :: D6 :: F) rfl rfl
                  exact lp_next _ (by omega) ⟨(j + 1), (([] : List GV)), (mm + 1), L108, (E110 ++ D2), rfl, (hA.sel [0, 7, 9, 10, 11, 17, 86, 87] rfl), hS, by omega, (by rw [← upto_up]; exact .inr (.inr ⟨rfl, hlast⟩)), (by rw [← upto_up]; omega), hM115⟩)
         · first
           | (exfalso; omega)
           | (replace hA := hA.rw 88 (v' := .bool false) rfl (vb_false hc69)
              refine cd_cond_f hA rfl ?_
              refine wp_exit ?_
              refine xt_exit ?_
              refine xt_exit ?_
              refine cd_exit_eq ?_
              refine xt_norm ?_
              refine wp_seq ?_
              refine wp_region_lit ?_
              have hjn : j = nP l s := by omega
              have hct9 : cnt (nP l s) (upto f j) = 0 := by
                  rcases Nat.eq_zero_or_pos (cnt (nP l s) (upto f j)) with h | h
                  · exact h
                  · obtain ⟨i, hi, h2⟩ := cnt_ex _ h
                    rw [hjn] at h2
                    rw [upto_all f _ i hi] at h2; cases h2
              have hus : us = [] := hst2.elim (fun h => h.1) (fun h => h.elim (fun h => by obtain ⟨i, hi, h2⟩ := h.2; rw [hjn] at h2; rw [upto_all f _ i hi] at h2; cases h2) (fun h => h.1))
              subst hus
              refine st_run tbOk 4 hA (e' := (124, .bool (((mm : Nat) : Int) == ((cnt (nP l s) f : Nat) : Int))) :: (123, .bool (((mm : Nat) : Int) == ((cnt (nP l s) f : Nat) : Int))) :: (122, .int .i64 ((cnt (nP l s) f : Nat) : Int)) :: (121, .int .i64 ((mm : Nat) : Int)) :: _) rfl ?_; clear hA; intro a hA
              by_cases hc117 : ((mm : Nat) : Int) = ((cnt (nP l s) f : Nat) : Int)
              · first
                | (exfalso; omega)
                | (replace hA := hA.rw 123 (v' := .bool true) rfl (vb_eq_t hc117)
                   replace hA := hA.rw 124 (v' := .bool true) rfl (vb_eq_t hc117)
                   refine st_run tbOk 1 hA (e' := (125, .pointer (some ⟨b9, 0, none⟩)) :: _) rfl ?_; clear hA; intro a hA
                   replace hS := hS.front 1 (C := D2) (L' := L2 :: Cs :: C5 :: D6 :: F) rfl rfl
                   replace hS := hS.front 1 (C := L2) (L' := D2 :: Cs :: C5 :: D6 :: F) rfl rfl
                   refine st_call0 hA rfl rfl rfl isfn10 rfl rfl (by decide) (waiting10 hS hM2) ?_
                   clear hA hS; rintro _ w118 a ⟨L119, hM120, rfl, hS⟩ hA
                   replace hA := hA.rw 126 (v' := .int .i64 0) rfl (by rfl)
                   refine st_run tbOk 3 hA (e' := (6, .bool true) :: (128, .bool true) :: (127, .bool true) :: _) rfl ?_; clear hA; intro a hA
                   refine wpList_nil ?_
                   replace hA := hA.sel [6] (e' := [(6, .bool true)]) rfl
                   refine xt_norm ?_
                   refine wp_ret ?_
                   refine ret1 (fn := Try.f3) hA rfl rfl ?_
                   replace hS := hS.drop1
                   replace hS := hS.drop1
                   replace hS := hS.drop1
                   replace hS := hS.drop1
                   replace hS := hS.drop1
                   exact ⟨rfl, hS⟩)
              · first
                | (exfalso; omega)
                | (replace hA := hA.rw 123 (v' := .bool false) rfl (vb_eq_f hc117)
                   replace hA := hA.rw 124 (v' := .bool false) rfl (vb_eq_f hc117)
                   refine st_run tbOk 5 hA (e' := (6, .bool false) :: (128, .bool false) :: (127, undef) :: (126, undef) :: (125, undef) :: _) rfl ?_; clear hA; intro a hA
                   refine wpList_nil ?_
                   replace hA := hA.sel [6] (e' := [(6, .bool false)]) rfl
                   refine xt_norm ?_
                   refine wp_ret ?_
                   refine ret1 (fn := Try.f3) hA rfl rfl ?_
                   exfalso; omega)))
end Go.Proofs.Ytbfdppfddlilgaa
