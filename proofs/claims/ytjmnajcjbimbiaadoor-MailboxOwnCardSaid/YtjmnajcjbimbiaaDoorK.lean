import Derived.Test.YtjmnajcjbimbiaaDoorJ
set_option linter.unusedVariables false
set_option linter.unusedSimpArgs false
set_option maxRecDepth 4000
namespace Go.Proofs.YtjmnajcjbimbiaaDoor
open Go Go.SK
set_option maxHeartbeats 4000000 in
theorem wrap_u8_rng (x : Int) : 0 ≤ IntKind.u8.wrap x ∧ IntKind.u8.wrap x < 256 := by
  have : IntKind.u8.wrap x = x % 256 := by unfold IntKind.wrap; simp [IntKind.min, IntKind.max, IntKind.bits, IntKind.signed]
  omega
theorem u8_of (x : Int) (h0 : 0 ≤ x) (h1 : x < 256) : ∃ y : UInt8, ((y.toNat : Nat) : Int) = x :=
  ⟨UInt8.ofNat x.toNat, by rw [UInt8.toNat_ofNat']; omega⟩
theorem nonec13 {w0 w : World} {F : List Chunk} (hS : St w0 w F) (x : Msg) :
    Ret Tryd.prog 13 #[.agg #[.int .u64 x.1, .int .u64 x.2.1, .int .u32 x.2.2.1, .int .u16 x.2.2.2.1, .int .u16 x.2.2.2.2.1, .int .u64 x.2.2.2.2.2.1, .int .u32 x.2.2.2.2.2.2.1, .int .u8 x.2.2.2.2.2.2.2.1, .int .u64 x.2.2.2.2.2.2.2.2.1, .int .u64 x.2.2.2.2.2.2.2.2.2.1, .slice x.2.2.2.2.2.2.2.2.2.2.1 x.2.2.2.2.2.2.2.2.2.2.2.2.length x.2.2.2.2.2.2.2.2.2.2.2.1]] w (fun v w' => v = .bool false ∧ St w0 w' F) := by
  refine enter (vs := [.agg #[.int .u64 x.1, .int .u64 x.2.1, .int .u32 x.2.2.1, .int .u16 x.2.2.2.1, .int .u16 x.2.2.2.2.1, .int .u64 x.2.2.2.2.2.1, .int .u32 x.2.2.2.2.2.2.1, .int .u8 x.2.2.2.2.2.2.2.1, .int .u64 x.2.2.2.2.2.2.2.2.1, .int .u64 x.2.2.2.2.2.2.2.2.2.1, .slice x.2.2.2.2.2.2.2.2.2.2.1 x.2.2.2.2.2.2.2.2.2.2.2.2.length x.2.2.2.2.2.2.2.2.2.2.2.1]]) 3 Tryd.func13 rfl rfl (by simp) ?_; intro a hA
  refine wp_seq ?_
  refine wp_region_lit ?_
  refine st_box hA hS [.int .u64 x.1, .int .u64 x.2.1, .int .u32 x.2.2.1, .int .u16 x.2.2.2.1, .int .u16 x.2.2.2.2.1, .int .u64 x.2.2.2.2.2.1, .int .u32 x.2.2.2.2.2.2.1, .int .u8 x.2.2.2.2.2.2.2.1, .int .u64 x.2.2.2.2.2.2.2.2.1, .int .u64 x.2.2.2.2.2.2.2.2.2.1, .slice x.2.2.2.2.2.2.2.2.2.2.1 x.2.2.2.2.2.2.2.2.2.2.2.2.length x.2.2.2.2.2.2.2.2.2.2.2.1] rfl rfl rfl rfl rfl (by decide) ?_; clear hA hS; intro b1 w2 a hS hA
  refine st_run tbOk 1 hA (e' := (2, .bool false) :: _) rfl ?_; clear hA; intro a hA
  refine wpList_nil ?_
  replace hA := hA.sel [] (e' := []) rfl
  refine xt_norm ?_
  refine wp_seq ?_
  refine wp_region_lit ?_
  refine st_run tbOk 1 hA (e' := (2, .bool false) :: _) rfl ?_; clear hA; intro a hA
  refine wpList_nil ?_
  refine xt_norm ?_
  refine wp_ret ?_
  refine ret1 (fn := Tryd.f13) hA rfl rfl ?_
  replace hS := hS.drop1
  exact ⟨rfl, hS⟩
theorem noneP {w0 : World} {F : List Chunk} : Pred Tryd.prog w0 F 13 #[] #[] (fun x => .agg (encMessage x).toArray) (fun _ => false) := by
  intro w x hS
  exact nonec13 (St.refl w) x
theorem own5 {w0 w : World} {F : List Chunk} (hS : St w0 w F) (hg : HG w0) {v : Value} {l : List UInt8} (hr : RdS w0 F 1 v l.length (rows encB l)) (hb : l.length * 1 ≤ 140737488351232) (q : Int) (ug : Bool) :
    Ret Tryd.prog 5 #[v, .int .u8 q, .bool ug] w (fun v w' => v = .bool true ∧ St w0 w' F) := by
  obtain ⟨A, c, rfl, hmc, hcx⟩ := (hr w hS).open'
  refine enter (vs := [.slice A l.length c, .int .u8 q, .bool ug]) 62 Tryd.func5 rfl rfl (by simp) ?_; intro a hA
  refine wp_seq ?_
  refine wp_region_lit ?_
  refine st_run tbOk 1 hA (e' := (6, .bool false) :: _) rfl ?_; clear hA; intro a hA
  refine wpList_nil ?_
  replace hA := hA.sel [0, 1, 2] (e' := [(0, .slice A l.length c), (1, .int .u8 q), (2, .bool ug)]) rfl
  refine xt_norm ?_
  refine wp_seq ?_
  refine wp_seq ?_
  refine wp_region_lit ?_
  refine st_call0 hA rfl rfl rfl isfn7 rfl rfl (by decide) (awake7 hS hg) ?_
  clear hA hS; rintro v w1 a ⟨rfl, hS⟩ hA
  refine st_run tbOk 1 hA (e' := (15, .bool false) :: _) rfl ?_; clear hA; intro a hA
  refine wpList_nil ?_
  replace hA := hA.sel [0, 1, 2, 15] (e' := [(0, .slice A l.length c), (1, .int .u8 q), (2, .bool ug), (15, .bool false)]) rfl
  refine xt_norm ?_
  refine cd_cond_f hA rfl ?_
  refine wp_skip ?_
  refine xt_norm ?_
  refine wp_seq ?_
  refine wp_region_lit ?_
  rcases Bool.eq_false_or_eq_true ug with hu | hu
  · subst hu
    refine st_call0 hA rfl rfl rfl isfn8 rfl rfl (by decide) (of8 hS 1 1 (by omega)) ?_
    clear hA hS; rintro _ w2 a ⟨bb3, L4, hM5, rfl, hS⟩ hA
    replace hS := hS.nil
    refine st_run tbOk 1 hA (e' := (7, .pointer (some ⟨bb3, 0, none⟩)) :: _) rfl ?_; clear hA; intro a hA
    refine wpList_nil ?_
    replace hA := hA.sel [0, 1, 2, 7] (e' := [(0, .slice A l.length c), (1, .int .u8 q), (2, .bool true), (7, .pointer (some ⟨bb3, 0, none⟩))]) rfl
    refine xt_norm ?_
    refine wp_seq ?_
    refine wp_region_lit ?_
    refine st_run tbOk 1 hA (e' := (17, .slice A l.length c) :: _) rfl ?_; clear hA; intro a hA
    replace hS := hS.nil
    refine st_append tbOk hA (m := 0) (q := l.length) (xs := rows encB ([] : List UInt8)) (news := rows encB l) rfl rfl rfl rfl rfl rfl rfl rfl (by decide) (Own.nil 5 1) hS ((hr _ (hS.tail 3 rfl)).x) (rows_one encB_ok _) (maxLen_le (by first | omega | (simp; omega))) (by show (0 + l.length) * 1 ≤ 140737488355328; first | omega | (simp; omega)) rfl rfl (by decide) ?_
    clear hA hS; intro v6 w7 C8 a hO8 hS hA
    replace hO8 := Own.app (l := ([] : List UInt8)) (l2 := l) hO8
    replace hO8 : Own 5 1 v6 l.length (rows encB l) C8 := hO8
    obtain ⟨A9, c10, rfl, hmc10, hxc10⟩ := hO8.open'
    refine st_run tbOk 1 hA (e' := (8, .slice A9 l.length c10) :: _) rfl ?_; clear hA; intro a hA
    refine wpList_nil ?_
    replace hA := hA.sel [0, 1, 2, 7, 8] (e' := [(0, .slice A l.length c), (1, .int .u8 q), (2, .bool true), (7, .pointer (some ⟨bb3, 0, none⟩)), (8, .slice A9 l.length c10)]) rfl
    refine xt_norm ?_
    refine wp_seq ?_
    refine wp_region_lit ?_
    refine st_run tbOk 2 hA (e' := (20, .slice A9 l.length c10) :: (19, .pointer (some ⟨bb3, 0, none⟩)) :: _) rfl ?_; clear hA; intro a hA
    refine st_val hA rfl rfl (by decide) (rn_build tbOk hA rfl rfl rfl rfl rfl rfl rfl) ?_; clear hA; intro a hA
    refine st_run tbOk 1 hA (e' := (22, .bool true) :: _) rfl ?_; clear hA; intro a hA
    replace hS := hS.front 1 (C := []) (L' := C8 :: L4 :: F) rfl rfl
    replace hS := hS.front 2 (C := L4) (L' := [] :: C8 :: F) rfl rfl
    refine st_call0 hA rfl rfl rfl isfn9 rfl rfl (by decide) (put_u_room9 hS hM5 0 0 0 0 0 0 0 0 0 0 (bs := l) (RdS.x (RdS.own hO8 1 rfl)) (by first | omega | exact Nat.le_of_ble_eq_true rfl) (by simp)) ?_
    clear hA hS; rintro _ w11 a ⟨L12, E14, A15, c16, hM13, hE17, rfl, hS⟩ hA
    refine st_run tbOk 1 hA (e' := (9, .nilIface) :: _) rfl ?_; clear hA; intro a hA
    refine wpList_nil ?_
    replace hA := hA.sel [0, 1, 7, 8, 9] (e' := [(0, .slice A l.length c), (1, .int .u8 q), (7, .pointer (some ⟨bb3, 0, none⟩)), (8, .slice A9 l.length c10), (9, .nilIface)]) rfl
    refine xt_norm ?_
    refine wp_seq ?_
    refine wp_seq ?_
    refine wp_region_lit ?_
    have hM18 : BX bb3 1 ([(0, 0, 0, 0, 0, 0, 0, 0, 0, 0, A15, c16, l)]) ([] : List Msg) L12 := hM13
    refine st_run tbOk 3 hA (e' := (26, .int .i64 0) :: (25, .int .i64 ((l.length : Nat) : Int)) :: (24, .slice A9 l.length c10) :: _) rfl ?_; clear hA; intro a hA
    refine wpList_nil ?_
    replace hA := hA.sel [0, 1, 7, 8, 9, 25, 26] (e' := [(0, .slice A l.length c), (1, .int .u8 q), (7, .pointer (some ⟨bb3, 0, none⟩)), (8, .slice A9 l.length c10), (9, .nilIface), (25, .int .i64 ((l.length : Nat) : Int)), (26, .int .i64 0)]) rfl
    refine xt_norm ?_
    refine wp_block ?_
    replace hS := hS.front 1 (C := (E14 ++ [])) (L' := L12 :: C8 :: F) rfl rfl
    replace hS := hS.front 1 (C := L12) (L' := (E14 ++ []) :: C8 :: F) rfl rfl
    replace hS := hS.front 2 (C := C8) (L' := L12 :: (E14 ++ []) :: F) rfl rfl
    refine wp_loop_ghost (fun m a w => ∃ (k : Nat) (us : List UInt8) (Au : Option Addr) (cu : Nat) (U : Chunk), m = l.length - k ∧ Has a 62 [(0, .slice A l.length c), (1, .int .u8 q), (7, .pointer (some ⟨bb3, 0, none⟩)), (8, .slice Au us.length cu), (9, .nilIface), (25, .int .i64 ((l.length : Nat) : Int)), (26, .int .i64 ((k : Nat) : Int))] ∧ St w0 w (U :: L12 :: (E14 ++ []) :: F) ∧ (k ≤ l.length) ∧ (us.length = l.length) ∧ (Own 5 1 (.slice Au us.length cu) us.length (rows encB us) U)) (l.length - 0)
      ⟨0, l, A9, c10, C8, rfl, (hA.sel [0, 1, 7, 8, 9, 25, 26] rfl), hS, Nat.zero_le _, rfl, hO8⟩ ?_
    clear hA hS; rintro m0 a w19 ⟨k, us, Au, cu, U, rfl, hA, hS, hk, hul, hU⟩
    refine wp_seq ?_
    refine wp_region_lit ?_
    refine st_run tbOk 1 hA (e' := (27, .bool (decide (((k : Nat) : Int) < ((l.length : Nat) : Int)))) :: _) rfl ?_; clear hA; intro a hA
    refine wpList_nil ?_
    refine xt_norm ?_
    refine wp_seq ?_
    by_cases hc20 : ((k : Nat) : Int) < ((l.length : Nat) : Int)
    · first
      | (exfalso; omega)
      | (replace hA := hA.rw 27 (v' := .bool true) rfl (vb_true hc20)
         refine cd_cond_t hA rfl ?_
         refine wp_skip ?_
         refine xt_norm ?_
         refine wp_seq ?_
         refine wp_block ?_
         refine wp_seq ?_
         refine wp_region_lit ?_
         refine st_run tbOk 2 hA (e' := (10, .int .i64 ((k : Nat) : Int)) :: (28, .int .i64 ((k : Nat) : Int)) :: _) rfl ?_; clear hA; intro a hA
         refine wpList_nil ?_
         replace hA := hA.sel [0, 1, 7, 8, 9, 10, 25, 26] (e' := [(0, .slice A l.length c), (1, .int .u8 q), (7, .pointer (some ⟨bb3, 0, none⟩)), (8, .slice Au us.length cu), (9, .nilIface), (10, .int .i64 ((k : Nat) : Int)), (25, .int .i64 ((l.length : Nat) : Int)), (26, .int .i64 ((k : Nat) : Int))]) rfl
         refine xt_norm ?_
         refine wp_region_lit ?_
         refine st_run tbOk 2 hA (e' := (30, .int .i64 ((k : Nat) : Int)) :: (29, .slice Au us.length cu) :: _) rfl ?_; clear hA; intro a hA
         obtain ⟨b21, o22, rfl⟩ := hU.isSome (k := k) (by omega)
         refine st_val hA rfl rfl (by decide) (rn_indexAddr tbOk hA k (o22 + k) rfl rfl rfl rfl rfl rfl (by rfl) (by omega) (by first | rfl | simp [Nat.mul_one, Nat.zero_add] | omega)) ?_; clear hA; intro a hA
         obtain ⟨x23, hx23⟩ := get_ex (l := us) (k := k) (by omega)
         have hbx23 : x23.toNat < 256 := UInt8.toNat_lt x23
         refine st_val hA rfl rfl (by decide) (rn_load tbOk hA rfl rfl rfl rfl ((hU.rd (hS.own_ 0 rfl)).elem0 (k := k) encB_ok hx23 rfl)) ?_; clear hA; intro a hA
         refine st_run tbOk 2 hA (e' := (34, .int .u8 (IntKind.u8.wrap (((x23.toNat : Nat) : Int) + q))) :: (33, .int .u8 q) :: _) rfl ?_; clear hA; intro a hA
         obtain ⟨hw1, hw2⟩ := wrap_u8_rng ((((x23.toNat : Nat) : Int) + q))
         obtain ⟨y, hy⟩ := u8_of _ hw1 hw2
         replace hA := hA.rw 34 (v' := .int .u8 ((y.toNat : Nat) : Int)) rfl (by rw [hy])
         obtain ⟨u0, hu0⟩ := get_ex (l := us) (k := k) (by omega)
         refine st_val hA rfl rfl (by decide) (rn_indexAddr tbOk hA k (o22 + k) rfl rfl rfl rfl rfl rfl (by rfl) (by omega) (by first | rfl | simp [Nat.mul_one, Nat.zero_add] | omega)) ?_; clear hA; intro a hA
         refine st_store_own tbOk hA hU hS (k) (o22 + k) [.int .u8 ((y.toNat : Nat) : Int)] (rows encB (us.set k y)) rfl rfl rfl rfl (by rfl) rfl rfl (by intro u hu; rw [List.mem_singleton.1 hu]; rfl) (by rw [rows_length encB_ok]; simp; omega) (by have := rows_set encB_ok (x := y) (l := us) (k := k) (by omega); rw [Nat.mul_one] at this; exact this) rfl rfl ?_; clear hS; intro w24 C25 hO25 hS
         refine wpList_nil ?_
         replace hA := hA.sel [0, 1, 7, 8, 9, 25, 26] (e' := [(0, .slice A l.length c), (1, .int .u8 q), (7, .pointer (some ⟨bb3, 0, none⟩)), (8, .slice (some ⟨b21, o22, none⟩) us.length cu), (9, .nilIface), (25, .int .i64 ((l.length : Nat) : Int)), (26, .int .i64 ((k : Nat) : Int))]) rfl
         refine xb_norm ?_
         refine xt_norm ?_
         refine wp_region_lit ?_
         refine st_run tbOk 1 hA (e' := (36, .int .i64 (IntKind.i64.wrap (((k : Nat) : Int) + 1))) :: _) rfl ?_; clear hA; intro a hA
         replace hA := hA.rw 36 (v' := .int .i64 ((k + 1 : Nat) : Int)) rfl (wr64 (by omega) (by omega) (by omega))
         refine st_run tbOk 1 hA (e' := (26, .int .i64 ((k + 1 : Nat) : Int)) :: _) rfl ?_; clear hA; intro a hA
         refine wpList_nil ?_
         replace hA := hA.sel [0, 1, 7, 8, 9, 25, 26] (e' := [(0, .slice A l.length c), (1, .int .u8 q), (7, .pointer (some ⟨bb3, 0, none⟩)), (8, .slice (some ⟨b21, o22, none⟩) us.length cu), (9, .nilIface), (25, .int .i64 ((l.length : Nat) : Int)), (26, .int .i64 ((k + 1 : Nat) : Int))]) rfl
         replace hA := hA.rw 8 (v' := .slice (some ⟨b21, o22, none⟩) ((us.set k y).length) cu) rfl (by rw [List.length_set])
         replace hS := hS.front 2 (C := (E14 ++ [])) (L' := C25 :: L12 :: F) rfl rfl
         replace hS := hS.front 2 (C := L12) (L' := (E14 ++ []) :: C25 :: F) rfl rfl
         replace hS := hS.front 2 (C := C25) (L' := L12 :: (E14 ++ []) :: F) rfl rfl
         exact lp_next _ (by omega) ⟨(k + 1), (us.set k y), (some ⟨b21, o22, none⟩), cu, C25, rfl, (hA.sel [0, 1, 7, 8, 9, 25, 26] rfl), hS, by omega, (by rw [List.length_set]; exact hul), (by rw [List.length_set]; exact hO25)⟩)
    · first
      | (exfalso; omega)
      | (replace hA := hA.rw 27 (v' := .bool false) rfl (vb_false hc20)
         refine cd_cond_f hA rfl ?_
         refine wp_exit ?_
         refine xt_exit ?_
         refine xt_exit ?_
         refine cd_exit_eq ?_
         refine xt_norm ?_
         refine wp_seq ?_
         refine wp_region_lit ?_
         refine st_run tbOk 1 hA (e' := (37, .pointer (some ⟨bb3, 0, none⟩)) :: _) rfl ?_; clear hA; intro a hA
         replace hS := hS.front 1 (C := L12) (L' := U :: (E14 ++ []) :: F) rfl rfl
         refine st_call0 hA rfl rfl rfl isfn12 rfl rfl (by decide) (all12 hS hM18 (by first | omega | simp) (by first | omega | simp) (by omega) isfn13 (noneP)) ?_
         clear hA hS; rintro _ w26 a ⟨v27, C28, L29, hO28, hM30, rfl, hS⟩ hA
         have haC28 : ([(0, 0, 0, 0, 0, 0, 0, 0, 0, 0, A15, c16, l)]).filter (fun _ => false) ++ ([] : List Msg).filter (fun _ => false) = ([] : List Msg) := rfl
         have huC28 : ([(0, 0, 0, 0, 0, 0, 0, 0, 0, 0, A15, c16, l)]).filter (fun x => !(fun _ => false) x) = ([(0, 0, 0, 0, 0, 0, 0, 0, 0, 0, A15, c16, l)] : List Msg) := rfl
         have hpC28 : ([] : List Msg).filter (fun x => !(fun _ => false) x) = ([] : List Msg) := rfl
         rw [haC28] at hO28; rw [huC28, hpC28] at hM30
         obtain ⟨A31, c32, rfl, hmc32, hxc32⟩ := hO28.open'
         refine st_run tbOk 1 hA (e' := (11, .slice A31 (([] : List Msg).length) c32) :: _) rfl ?_; clear hA; intro a hA
         refine wpList_nil ?_
         replace hA := hA.sel [0, 7, 9, 11] (e' := [(0, .slice A l.length c), (7, .pointer (some ⟨bb3, 0, none⟩)), (9, .nilIface), (11, .slice A31 (([] : List Msg).length) c32)]) rfl
         refine xt_norm ?_
         refine wp_seq ?_
         refine wp_region_lit ?_
         have hM33 : BX bb3 1 ([(0, 0, 0, 0, 0, 0, 0, 0, 0, 0, A15, c16, l)]) ([] : List Msg) L29 := hM30
         refine st_run tbOk 1 hA (e' := (40, .pointer (some ⟨bb3, 0, none⟩)) :: _) rfl ?_; clear hA; intro a hA
         replace hS := hS.front 3 (C := (E14 ++ [])) (L' := L29 :: C28 :: U :: F) rfl rfl
         replace hS := hS.front 1 (C := L29) (L' := (E14 ++ []) :: C28 :: U :: F) rfl rfl
         refine st_call0 hA rfl rfl rfl isfn10 rfl rfl (by decide) (get_u10 hS hM33) ?_
         clear hA hS; rintro _ w34 a ⟨L35, hM36, rfl, hS⟩ hA
         refine st_run tbOk 3 hA (e' := (43, .bool true) :: (42, .agg #[.int .u64 0, .int .u64 0, .int .u32 0, .int .u16 0, .int .u16 0, .int .u64 0, .int .u32 0, .int .u8 0, .int .u64 0, .int .u64 0, .slice A15 l.length c16]) :: (39, .tuple #[.agg #[.int .u64 0, .int .u64 0, .int .u32 0, .int .u16 0, .int .u16 0, .int .u64 0, .int .u32 0, .int .u8 0, .int .u64 0, .int .u64 0, .slice A15 l.length c16], .bool true]) :: _) rfl ?_; clear hA; intro a hA
         refine st_alloc tbOk hA hS [.int .u64 0, .int .u64 0, .int .u32 0, .int .u16 0, .int .u16 0, .int .u64 0, .int .u32 0, .int .u8 0, .int .u64 0, .int .u64 0, .slice none 0 0] rfl rfl rfl rfl rfl (by decide) ?_; clear hA hS; intro b37 w38 a hS hA
         refine st_store tbOk hA hS [.int .u64 0, .int .u64 0, .int .u32 0, .int .u16 0, .int .u16 0, .int .u64 0, .int .u32 0, .int .u8 0, .int .u64 0, .int .u64 0, .slice A15 l.length c16] [.int .u64 0, .int .u64 0, .int .u32 0, .int .u16 0, .int .u16 0, .int .u64 0, .int .u32 0, .int .u8 0, .int .u64 0, .int .u64 0, .slice A15 l.length c16] rfl rfl rfl rfl rfl rfl (by simp [Value.oneCell']) (Nat.le_of_ble_eq_true rfl) rfl rfl rfl ?_; clear hS; intro w39 hS
         refine st_run tbOk 1 hA (e' := (13, .bool true) :: _) rfl ?_; clear hA; intro a hA
         refine wpList_nil ?_
         replace hA := hA.sel [0, 9, 11, 12, 13] (e' := [(0, .slice A l.length c), (9, .nilIface), (11, .slice A31 (([] : List Msg).length) c32), (12, .pointer (some ⟨b37, 0, none⟩)), (13, .bool true)]) rfl
         refine xt_norm ?_
         refine wp_seq ?_
         refine wp_region_lit ?_
         refine st_run tbOk 5 hA (e' := (48, .int .i64 ((([] : List Msg).length : Nat) : Int)) :: (47, .slice A31 (([] : List Msg).length) c32) :: (46, .bool true) :: (45, .bool true) :: (44, .nilIface) :: _) rfl ?_; clear hA; intro a hA
         replace hA := hA.rw 48 (v' := .int .i64 0) rfl (by rfl)
         refine st_run tbOk 7 hA (e' := (55, .pointer (some ⟨b37, 10, none⟩)) :: (54, .bool true) :: (53, .bool true) :: (52, .bool true) :: (51, .bool true) :: (50, .bool true) :: (49, .bool true) :: _) rfl ?_; clear hA; intro a hA
         refine st_val hA rfl rfl (by decide) (rn_load tbOk hA rfl rfl rfl rfl (cell_row (hS.heapAt 0 rfl) rfl)) ?_; clear hA; intro a hA
         refine st_val hA rfl rfl (by decide) (rn_bstr tbOk hA (bs := l) rfl rfl rfl rfl rfl rfl rfl rfl (hE17.right _ (hS.only 2 rfl))) ?_; clear hA; intro a hA
         refine st_run tbOk 1 hA (e' := (58, .slice A l.length c) :: _) rfl ?_; clear hA; intro a hA
         refine st_val hA rfl rfl (by decide) (rn_bstr tbOk hA (bs := l) rfl rfl rfl rfl rfl rfl rfl rfl (hr _ (hS.tail 5 rfl)).x) ?_; clear hA; intro a hA
         refine st_run tbOk 1 hA (e' := (60, .bool ((bsv l).toList == (bsv l).toList)) :: _) rfl ?_; clear hA; intro a hA
         replace hA := hA.rw 60 (v' := .bool true) rfl (congrArg Value.bool (by rw [bsv_eq, decide_eq_true_eq]))
         refine st_run tbOk 2 hA (e' := (6, .bool true) :: (61, .bool true) :: _) rfl ?_; clear hA; intro a hA
         refine wpList_nil ?_
         replace hA := hA.sel [6] (e' := [(6, .bool true)]) rfl
         refine xt_norm ?_
         refine wp_ret ?_
         refine ret1 (fn := Tryd.f5) hA rfl rfl ?_
         replace hS := hS.drop1
         replace hS := hS.drop1
         replace hS := hS.drop1
         replace hS := hS.drop1
         replace hS := hS.drop1
         exact ⟨rfl, hS⟩)
  · subst hu
    refine st_call0 hA rfl rfl rfl isfn8 rfl rfl (by decide) (of8 hS 1 1 (by omega)) ?_
    clear hA hS; rintro _ w40 a ⟨bb41, L42, hM43, rfl, hS⟩ hA
    replace hS := hS.nil
    refine st_run tbOk 1 hA (e' := (7, .pointer (some ⟨bb41, 0, none⟩)) :: _) rfl ?_; clear hA; intro a hA
    refine wpList_nil ?_
    replace hA := hA.sel [0, 1, 2, 7] (e' := [(0, .slice A l.length c), (1, .int .u8 q), (2, .bool false), (7, .pointer (some ⟨bb41, 0, none⟩))]) rfl
    refine xt_norm ?_
    refine wp_seq ?_
    refine wp_region_lit ?_
    refine st_run tbOk 1 hA (e' := (17, .slice A l.length c) :: _) rfl ?_; clear hA; intro a hA
    replace hS := hS.nil
    refine st_append tbOk hA (m := 0) (q := l.length) (xs := rows encB ([] : List UInt8)) (news := rows encB l) rfl rfl rfl rfl rfl rfl rfl rfl (by decide) (Own.nil 5 1) hS ((hr _ (hS.tail 3 rfl)).x) (rows_one encB_ok _) (maxLen_le (by first | omega | (simp; omega))) (by show (0 + l.length) * 1 ≤ 140737488355328; first | omega | (simp; omega)) rfl rfl (by decide) ?_
    clear hA hS; intro v44 w45 C46 a hO46 hS hA
    replace hO46 := Own.app (l := ([] : List UInt8)) (l2 := l) hO46
    replace hO46 : Own 5 1 v44 l.length (rows encB l) C46 := hO46
    obtain ⟨A47, c48, rfl, hmc48, hxc48⟩ := hO46.open'
    refine st_run tbOk 1 hA (e' := (8, .slice A47 l.length c48) :: _) rfl ?_; clear hA; intro a hA
    refine wpList_nil ?_
    replace hA := hA.sel [0, 1, 2, 7, 8] (e' := [(0, .slice A l.length c), (1, .int .u8 q), (2, .bool false), (7, .pointer (some ⟨bb41, 0, none⟩)), (8, .slice A47 l.length c48)]) rfl
    refine xt_norm ?_
    refine wp_seq ?_
    refine wp_region_lit ?_
    refine st_run tbOk 2 hA (e' := (20, .slice A47 l.length c48) :: (19, .pointer (some ⟨bb41, 0, none⟩)) :: _) rfl ?_; clear hA; intro a hA
    refine st_val hA rfl rfl (by decide) (rn_build tbOk hA rfl rfl rfl rfl rfl rfl rfl) ?_; clear hA; intro a hA
    refine st_run tbOk 1 hA (e' := (22, .bool false) :: _) rfl ?_; clear hA; intro a hA
    replace hS := hS.front 1 (C := []) (L' := C46 :: L42 :: F) rfl rfl
    replace hS := hS.front 2 (C := L42) (L' := [] :: C46 :: F) rfl rfl
    refine st_call0 hA rfl rfl rfl isfn9 rfl rfl (by decide) (put_p_room9 hS hM43 0 0 0 0 0 0 0 0 0 0 (bs := l) (RdS.x (RdS.own hO46 1 rfl)) (by first | omega | exact Nat.le_of_ble_eq_true rfl) (by simp)) ?_
    clear hA hS; rintro _ w49 a ⟨L50, E52, A53, c54, hM51, hE55, rfl, hS⟩ hA
    refine st_run tbOk 1 hA (e' := (9, .nilIface) :: _) rfl ?_; clear hA; intro a hA
    refine wpList_nil ?_
    replace hA := hA.sel [0, 1, 7, 8, 9] (e' := [(0, .slice A l.length c), (1, .int .u8 q), (7, .pointer (some ⟨bb41, 0, none⟩)), (8, .slice A47 l.length c48), (9, .nilIface)]) rfl
    refine xt_norm ?_
    refine wp_seq ?_
    refine wp_seq ?_
    refine wp_region_lit ?_
    have hM56 : BX bb41 1 ([] : List Msg) ([(0, 0, 0, 0, 0, 0, 0, 0, 0, 0, A53, c54, l)]) L50 := hM51
    refine st_run tbOk 3 hA (e' := (26, .int .i64 0) :: (25, .int .i64 ((l.length : Nat) : Int)) :: (24, .slice A47 l.length c48) :: _) rfl ?_; clear hA; intro a hA
    refine wpList_nil ?_
    replace hA := hA.sel [0, 1, 7, 8, 9, 25, 26] (e' := [(0, .slice A l.length c), (1, .int .u8 q), (7, .pointer (some ⟨bb41, 0, none⟩)), (8, .slice A47 l.length c48), (9, .nilIface), (25, .int .i64 ((l.length : Nat) : Int)), (26, .int .i64 0)]) rfl
    refine xt_norm ?_
    refine wp_block ?_
    replace hS := hS.front 1 (C := (E52 ++ [])) (L' := L50 :: C46 :: F) rfl rfl
    replace hS := hS.front 1 (C := L50) (L' := (E52 ++ []) :: C46 :: F) rfl rfl
    replace hS := hS.front 2 (C := C46) (L' := L50 :: (E52 ++ []) :: F) rfl rfl
    refine wp_loop_ghost (fun m a w => ∃ (k : Nat) (us : List UInt8) (Au : Option Addr) (cu : Nat) (U : Chunk), m = l.length - k ∧ Has a 62 [(0, .slice A l.length c), (1, .int .u8 q), (7, .pointer (some ⟨bb41, 0, none⟩)), (8, .slice Au us.length cu), (9, .nilIface), (25, .int .i64 ((l.length : Nat) : Int)), (26, .int .i64 ((k : Nat) : Int))] ∧ St w0 w (U :: L50 :: (E52 ++ []) :: F) ∧ (k ≤ l.length) ∧ (us.length = l.length) ∧ (Own 5 1 (.slice Au us.length cu) us.length (rows encB us) U)) (l.length - 0)
      ⟨0, l, A47, c48, C46, rfl, (hA.sel [0, 1, 7, 8, 9, 25, 26] rfl), hS, Nat.zero_le _, rfl, hO46⟩ ?_
    clear hA hS; rintro m0 a w57 ⟨k, us, Au, cu, U, rfl, hA, hS, hk, hul, hU⟩
    refine wp_seq ?_
    refine wp_region_lit ?_
    refine st_run tbOk 1 hA (e' := (27, .bool (decide (((k : Nat) : Int) < ((l.length : Nat) : Int)))) :: _) rfl ?_; clear hA; intro a hA
    refine wpList_nil ?_
    refine xt_norm ?_
    refine wp_seq ?_
    by_cases hc58 : ((k : Nat) : Int) < ((l.length : Nat) : Int)
    · first
      | (exfalso; omega)
      | (replace hA := hA.rw 27 (v' := .bool true) rfl (vb_true hc58)
         refine cd_cond_t hA rfl ?_
         refine wp_skip ?_
         refine xt_norm ?_
         refine wp_seq ?_
         refine wp_block ?_
         refine wp_seq ?_
         refine wp_region_lit ?_
         refine st_run tbOk 2 hA (e' := (10, .int .i64 ((k : Nat) : Int)) :: (28, .int .i64 ((k : Nat) : Int)) :: _) rfl ?_; clear hA; intro a hA
         refine wpList_nil ?_
         replace hA := hA.sel [0, 1, 7, 8, 9, 10, 25, 26] (e' := [(0, .slice A l.length c), (1, .int .u8 q), (7, .pointer (some ⟨bb41, 0, none⟩)), (8, .slice Au us.length cu), (9, .nilIface), (10, .int .i64 ((k : Nat) : Int)), (25, .int .i64 ((l.length : Nat) : Int)), (26, .int .i64 ((k : Nat) : Int))]) rfl
         refine xt_norm ?_
         refine wp_region_lit ?_
         refine st_run tbOk 2 hA (e' := (30, .int .i64 ((k : Nat) : Int)) :: (29, .slice Au us.length cu) :: _) rfl ?_; clear hA; intro a hA
         obtain ⟨b59, o60, rfl⟩ := hU.isSome (k := k) (by omega)
         refine st_val hA rfl rfl (by decide) (rn_indexAddr tbOk hA k (o60 + k) rfl rfl rfl rfl rfl rfl (by rfl) (by omega) (by first | rfl | simp [Nat.mul_one, Nat.zero_add] | omega)) ?_; clear hA; intro a hA
         obtain ⟨x61, hx61⟩ := get_ex (l := us) (k := k) (by omega)
         have hbx61 : x61.toNat < 256 := UInt8.toNat_lt x61
         refine st_val hA rfl rfl (by decide) (rn_load tbOk hA rfl rfl rfl rfl ((hU.rd (hS.own_ 0 rfl)).elem0 (k := k) encB_ok hx61 rfl)) ?_; clear hA; intro a hA
         refine st_run tbOk 2 hA (e' := (34, .int .u8 (IntKind.u8.wrap (((x61.toNat : Nat) : Int) + q))) :: (33, .int .u8 q) :: _) rfl ?_; clear hA; intro a hA
         obtain ⟨hw1, hw2⟩ := wrap_u8_rng ((((x61.toNat : Nat) : Int) + q))
         obtain ⟨y, hy⟩ := u8_of _ hw1 hw2
         replace hA := hA.rw 34 (v' := .int .u8 ((y.toNat : Nat) : Int)) rfl (by rw [hy])
         obtain ⟨u0, hu0⟩ := get_ex (l := us) (k := k) (by omega)
         refine st_val hA rfl rfl (by decide) (rn_indexAddr tbOk hA k (o60 + k) rfl rfl rfl rfl rfl rfl (by rfl) (by omega) (by first | rfl | simp [Nat.mul_one, Nat.zero_add] | omega)) ?_; clear hA; intro a hA
         refine st_store_own tbOk hA hU hS (k) (o60 + k) [.int .u8 ((y.toNat : Nat) : Int)] (rows encB (us.set k y)) rfl rfl rfl rfl (by rfl) rfl rfl (by intro u hu; rw [List.mem_singleton.1 hu]; rfl) (by rw [rows_length encB_ok]; simp; omega) (by have := rows_set encB_ok (x := y) (l := us) (k := k) (by omega); rw [Nat.mul_one] at this; exact this) rfl rfl ?_; clear hS; intro w62 C63 hO63 hS
         refine wpList_nil ?_
         replace hA := hA.sel [0, 1, 7, 8, 9, 25, 26] (e' := [(0, .slice A l.length c), (1, .int .u8 q), (7, .pointer (some ⟨bb41, 0, none⟩)), (8, .slice (some ⟨b59, o60, none⟩) us.length cu), (9, .nilIface), (25, .int .i64 ((l.length : Nat) : Int)), (26, .int .i64 ((k : Nat) : Int))]) rfl
         refine xb_norm ?_
         refine xt_norm ?_
         refine wp_region_lit ?_
         refine st_run tbOk 1 hA (e' := (36, .int .i64 (IntKind.i64.wrap (((k : Nat) : Int) + 1))) :: _) rfl ?_; clear hA; intro a hA
         replace hA := hA.rw 36 (v' := .int .i64 ((k + 1 : Nat) : Int)) rfl (wr64 (by omega) (by omega) (by omega))
         refine st_run tbOk 1 hA (e' := (26, .int .i64 ((k + 1 : Nat) : Int)) :: _) rfl ?_; clear hA; intro a hA
         refine wpList_nil ?_
         replace hA := hA.sel [0, 1, 7, 8, 9, 25, 26] (e' := [(0, .slice A l.length c), (1, .int .u8 q), (7, .pointer (some ⟨bb41, 0, none⟩)), (8, .slice (some ⟨b59, o60, none⟩) us.length cu), (9, .nilIface), (25, .int .i64 ((l.length : Nat) : Int)), (26, .int .i64 ((k + 1 : Nat) : Int))]) rfl
         replace hA := hA.rw 8 (v' := .slice (some ⟨b59, o60, none⟩) ((us.set k y).length) cu) rfl (by rw [List.length_set])
         replace hS := hS.front 2 (C := (E52 ++ [])) (L' := C63 :: L50 :: F) rfl rfl
         replace hS := hS.front 2 (C := L50) (L' := (E52 ++ []) :: C63 :: F) rfl rfl
         replace hS := hS.front 2 (C := C63) (L' := L50 :: (E52 ++ []) :: F) rfl rfl
         exact lp_next _ (by omega) ⟨(k + 1), (us.set k y), (some ⟨b59, o60, none⟩), cu, C63, rfl, (hA.sel [0, 1, 7, 8, 9, 25, 26] rfl), hS, by omega, (by rw [List.length_set]; exact hul), (by rw [List.length_set]; exact hO63)⟩)
    · first
      | (exfalso; omega)
      | (replace hA := hA.rw 27 (v' := .bool false) rfl (vb_false hc58)
         refine cd_cond_f hA rfl ?_
         refine wp_exit ?_
         refine xt_exit ?_
         refine xt_exit ?_
         refine cd_exit_eq ?_
         refine xt_norm ?_
         refine wp_seq ?_
         refine wp_region_lit ?_
         refine st_run tbOk 1 hA (e' := (37, .pointer (some ⟨bb41, 0, none⟩)) :: _) rfl ?_; clear hA; intro a hA
         replace hS := hS.front 1 (C := L50) (L' := U :: (E52 ++ []) :: F) rfl rfl
         refine st_call0 hA rfl rfl rfl isfn12 rfl rfl (by decide) (all12 hS hM56 (by first | omega | simp) (by first | omega | simp) (by omega) isfn13 (noneP)) ?_
         clear hA hS; rintro _ w64 a ⟨v65, C66, L67, hO66, hM68, rfl, hS⟩ hA
         have haC66 : ([] : List Msg).filter (fun _ => false) ++ ([(0, 0, 0, 0, 0, 0, 0, 0, 0, 0, A53, c54, l)]).filter (fun _ => false) = ([] : List Msg) := rfl
         have huC66 : ([] : List Msg).filter (fun x => !(fun _ => false) x) = ([] : List Msg) := rfl
         have hpC66 : ([(0, 0, 0, 0, 0, 0, 0, 0, 0, 0, A53, c54, l)]).filter (fun x => !(fun _ => false) x) = ([(0, 0, 0, 0, 0, 0, 0, 0, 0, 0, A53, c54, l)] : List Msg) := rfl
         rw [haC66] at hO66; rw [huC66, hpC66] at hM68
         obtain ⟨A69, c70, rfl, hmc70, hxc70⟩ := hO66.open'
         refine st_run tbOk 1 hA (e' := (11, .slice A69 (([] : List Msg).length) c70) :: _) rfl ?_; clear hA; intro a hA
         refine wpList_nil ?_
         replace hA := hA.sel [0, 7, 9, 11] (e' := [(0, .slice A l.length c), (7, .pointer (some ⟨bb41, 0, none⟩)), (9, .nilIface), (11, .slice A69 (([] : List Msg).length) c70)]) rfl
         refine xt_norm ?_
         refine wp_seq ?_
         refine wp_region_lit ?_
         have hM71 : BX bb41 1 ([] : List Msg) ([(0, 0, 0, 0, 0, 0, 0, 0, 0, 0, A53, c54, l)]) L67 := hM68
         refine st_run tbOk 1 hA (e' := (40, .pointer (some ⟨bb41, 0, none⟩)) :: _) rfl ?_; clear hA; intro a hA
         replace hS := hS.front 3 (C := (E52 ++ [])) (L' := L67 :: C66 :: U :: F) rfl rfl
         replace hS := hS.front 1 (C := L67) (L' := (E52 ++ []) :: C66 :: U :: F) rfl rfl
         refine st_call0 hA rfl rfl rfl isfn10 rfl rfl (by decide) (get_p10 hS hM71) ?_
         clear hA hS; rintro _ w72 a ⟨L73, hM74, rfl, hS⟩ hA
         refine st_run tbOk 3 hA (e' := (43, .bool true) :: (42, .agg #[.int .u64 0, .int .u64 0, .int .u32 0, .int .u16 0, .int .u16 0, .int .u64 0, .int .u32 0, .int .u8 0, .int .u64 0, .int .u64 0, .slice A53 l.length c54]) :: (39, .tuple #[.agg #[.int .u64 0, .int .u64 0, .int .u32 0, .int .u16 0, .int .u16 0, .int .u64 0, .int .u32 0, .int .u8 0, .int .u64 0, .int .u64 0, .slice A53 l.length c54], .bool true]) :: _) rfl ?_; clear hA; intro a hA
         refine st_alloc tbOk hA hS [.int .u64 0, .int .u64 0, .int .u32 0, .int .u16 0, .int .u16 0, .int .u64 0, .int .u32 0, .int .u8 0, .int .u64 0, .int .u64 0, .slice none 0 0] rfl rfl rfl rfl rfl (by decide) ?_; clear hA hS; intro b75 w76 a hS hA
         refine st_store tbOk hA hS [.int .u64 0, .int .u64 0, .int .u32 0, .int .u16 0, .int .u16 0, .int .u64 0, .int .u32 0, .int .u8 0, .int .u64 0, .int .u64 0, .slice A53 l.length c54] [.int .u64 0, .int .u64 0, .int .u32 0, .int .u16 0, .int .u16 0, .int .u64 0, .int .u32 0, .int .u8 0, .int .u64 0, .int .u64 0, .slice A53 l.length c54] rfl rfl rfl rfl rfl rfl (by simp [Value.oneCell']) (Nat.le_of_ble_eq_true rfl) rfl rfl rfl ?_; clear hS; intro w77 hS
         refine st_run tbOk 1 hA (e' := (13, .bool true) :: _) rfl ?_; clear hA; intro a hA
         refine wpList_nil ?_
         replace hA := hA.sel [0, 9, 11, 12, 13] (e' := [(0, .slice A l.length c), (9, .nilIface), (11, .slice A69 (([] : List Msg).length) c70), (12, .pointer (some ⟨b75, 0, none⟩)), (13, .bool true)]) rfl
         refine xt_norm ?_
         refine wp_seq ?_
         refine wp_region_lit ?_
         refine st_run tbOk 5 hA (e' := (48, .int .i64 ((([] : List Msg).length : Nat) : Int)) :: (47, .slice A69 (([] : List Msg).length) c70) :: (46, .bool true) :: (45, .bool true) :: (44, .nilIface) :: _) rfl ?_; clear hA; intro a hA
         replace hA := hA.rw 48 (v' := .int .i64 0) rfl (by rfl)
         refine st_run tbOk 7 hA (e' := (55, .pointer (some ⟨b75, 10, none⟩)) :: (54, .bool true) :: (53, .bool true) :: (52, .bool true) :: (51, .bool true) :: (50, .bool true) :: (49, .bool true) :: _) rfl ?_; clear hA; intro a hA
         refine st_val hA rfl rfl (by decide) (rn_load tbOk hA rfl rfl rfl rfl (cell_row (hS.heapAt 0 rfl) rfl)) ?_; clear hA; intro a hA
         refine st_val hA rfl rfl (by decide) (rn_bstr tbOk hA (bs := l) rfl rfl rfl rfl rfl rfl rfl rfl (hE55.right _ (hS.only 2 rfl))) ?_; clear hA; intro a hA
         refine st_run tbOk 1 hA (e' := (58, .slice A l.length c) :: _) rfl ?_; clear hA; intro a hA
         refine st_val hA rfl rfl (by decide) (rn_bstr tbOk hA (bs := l) rfl rfl rfl rfl rfl rfl rfl rfl (hr _ (hS.tail 5 rfl)).x) ?_; clear hA; intro a hA
         refine st_run tbOk 1 hA (e' := (60, .bool ((bsv l).toList == (bsv l).toList)) :: _) rfl ?_; clear hA; intro a hA
         replace hA := hA.rw 60 (v' := .bool true) rfl (congrArg Value.bool (by rw [bsv_eq, decide_eq_true_eq]))
         refine st_run tbOk 2 hA (e' := (6, .bool true) :: (61, .bool true) :: _) rfl ?_; clear hA; intro a hA
         refine wpList_nil ?_
         replace hA := hA.sel [6] (e' := [(6, .bool true)]) rfl
         refine xt_norm ?_
         refine wp_ret ?_
         refine ret1 (fn := Tryd.f5) hA rfl rfl ?_
         replace hS := hS.drop1
         replace hS := hS.drop1
         replace hS := hS.drop1
         replace hS := hS.drop1
         replace hS := hS.drop1
         exact ⟨rfl, hS⟩)
end Go.Proofs.YtjmnajcjbimbiaaDoor
