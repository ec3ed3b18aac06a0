import Derived.Test.YtjdkcdeldmjdmaaDoorJ
set_option linter.unusedVariables false
set_option linter.unusedSimpArgs false
set_option maxRecDepth 4000
namespace Go.Proofs.YtjdkcdeldmjdmaaDoor
open Go Go.SK
set_option maxHeartbeats 100000000 in
theorem script6 {w0 w : World} {F : List Chunk} (hS : St w0 w F) (hg : HG w0) (p a1 a2 : Int) (hp : 0 ≤ p ∧ p < 18446744073709551616) (h1 : -128 ≤ a1 ∧ a1 < 128) (h2 : -128 ≤ a2 ∧ a2 < 128) {v : Value} {l : List (Int × Int × Int × Int × Int × Int × Int × Int × Int × Int × Int × Option Addr × Nat × List UInt8 × Int)} (hr : RdS w0 F 13 v l.length (rows encAct l)) (hw : ∀ x ∈ l, encAct_good w0 x) (hb : l.length * 96 ≤ 140737488351232) :
    Ret Tryd.prog 6 #[.int .u64 p, .int .i8 a1, .int .i8 a2, v] w (fun v w' => v = .bool true ∧ St w0 w' F) := by
  obtain ⟨A, c, rfl, hmc, hcx⟩ := (hr w hS).open'
  obtain ⟨W, hW⟩ : ∃ W, W = (if a1 > 1 then a1 else 1) := ⟨_, rfl⟩
  obtain ⟨T, hT⟩ : ∃ T, T = (if a2 > 1 then a2 else 1) := ⟨_, rfl⟩
  have hW1 : 1 ≤ W ∧ W ≤ 127 := by rw [hW]; split <;> omega
  have hT1 : 1 ≤ T ∧ T ≤ 127 := by rw [hT]; split <;> omega
  refine enter (vs := [.int .u64 p, .int .i8 a1, .int .i8 a2, .slice A l.length c]) 334 Tryd.func6 rfl rfl (by simp) ?_; intro a hA
  refine wp_seq ?_
  refine wp_region_lit ?_
  refine st_run tbOk 1 hA (e' := (8, .bool false) :: _) rfl ?_; clear hA; intro a hA
  refine wpList_nil ?_
  replace hA := hA.sel [0, 1, 2, 3] (e' := [(0, .int .u64 p), (1, .int .i8 a1), (2, .int .i8 a2), (3, .slice A l.length c)]) rfl
  refine xt_norm ?_
  refine wp_seq ?_
  refine wp_seq ?_
  refine wp_region_lit ?_
  refine st_call0 hA rfl rfl rfl isfn7 rfl rfl (by decide) (awake7 hS hg) ?_
  clear hA hS; rintro _ w1 a ⟨rfl, hS⟩ hA
  refine st_run tbOk 1 hA (e' := (33, .bool false) :: _) rfl ?_; clear hA; intro a hA
  refine wpList_nil ?_
  replace hA := hA.sel [0, 1, 2, 3, 33] (e' := [(0, .int .u64 p), (1, .int .i8 a1), (2, .int .i8 a2), (3, .slice A l.length c), (33, .bool false)]) rfl
  refine xt_norm ?_
  refine cd_cond_f hA rfl ?_
  refine wp_skip ?_
  refine xt_norm ?_
  refine wp_seq ?_
  refine wp_region_lit ?_
  refine st_run tbOk 3 hA (e' := (36, .int .i64 (IntKind.i64.wrap a1)) :: (35, .int .i8 a1) :: (34, .int .u64 p) :: _) rfl ?_; clear hA; intro a hA
  replace hA := hA.rw 36 (v' := .int .i64 a1) rfl (wr64 (by rfl) (by omega) (by omega))
  refine st_run tbOk 2 hA (e' := (38, .int .i64 (IntKind.i64.wrap a2)) :: (37, .int .i8 a2) :: _) rfl ?_; clear hA; intro a hA
  replace hA := hA.rw 38 (v' := .int .i64 a2) rfl (wr64 (by rfl) (by omega) (by omega))
  refine st_call0 hA rfl rfl rfl isfn8 rfl rfl (by decide) (cof8 hS p a1 a2) ?_
  clear hA hS; rintro _ w5 a ⟨b2, L3, hM4, rfl, hS⟩ hA
  have hM6 : CR b2 p W T [] L3 := by have h := hM4; rw [← hW, ← hT] at h; exact h
  replace hS := hS.nil
  refine st_run tbOk 1 hA (e' := (9, .pointer (some ⟨b2, 0, none⟩)) :: _) rfl ?_; clear hA; intro a hA
  refine wpList_nil ?_
  replace hA := hA.sel [0, 1, 2, 3, 9] (e' := [(0, .int .u64 p), (1, .int .i8 a1), (2, .int .i8 a2), (3, .slice A l.length c), (9, .pointer (some ⟨b2, 0, none⟩))]) rfl
  refine xt_norm ?_
  refine wp_seq ?_
  refine wp_region_lit ?_
  refine st_run tbOk 2 hA (e' := (41, .int .i64 (IntKind.i64.wrap a1)) :: (40, .int .i8 a1) :: _) rfl ?_; clear hA; intro a hA
  replace hA := hA.rw 41 (v' := .int .i64 a1) rfl (wr64 (by rfl) (by omega) (by omega))
  refine st_run tbOk 1 hA (e' := (42, .int .i64 (if a1 > 1 then a1 else 1)) :: _) rfl ?_; clear hA; intro a hA
  replace hA := hA.rw 42 (v' := .int .i64 W) rfl (by rw [hW])
  refine st_run tbOk 2 hA (e' := (44, .int .i64 (IntKind.i64.wrap a2)) :: (43, .int .i8 a2) :: _) rfl ?_; clear hA; intro a hA
  replace hA := hA.rw 44 (v' := .int .i64 a2) rfl (wr64 (by rfl) (by omega) (by omega))
  refine st_run tbOk 1 hA (e' := (45, .int .i64 (if a2 > 1 then a2 else 1)) :: _) rfl ?_; clear hA; intro a hA
  replace hA := hA.rw 45 (v' := .int .i64 T) rfl (by rw [hT])
  refine st_run tbOk 2 hA (e' := (11, .int .i64 T) :: (10, .int .i64 W) :: _) rfl ?_; clear hA; intro a hA
  refine wpList_nil ?_
  replace hA := hA.sel [0, 3, 9, 10, 11] (e' := [(0, .int .u64 p), (3, .slice A l.length c), (9, .pointer (some ⟨b2, 0, none⟩)), (10, .int .i64 W), (11, .int .i64 T)]) rfl
  refine xt_norm ?_
  refine wp_seq ?_
  refine wp_region_lit ?_
  refine st_run tbOk 1 hA (e' := (12, .slice none 0 0) :: _) rfl ?_; clear hA; intro a hA
  refine wpList_nil ?_
  refine xt_norm ?_
  refine wp_seq ?_
  refine wp_seq ?_
  refine wp_region_lit ?_
  refine st_run tbOk 3 hA (e' := (48, .int .i64 0) :: (47, .int .i64 ((l.length : Nat) : Int)) :: (46, .slice A l.length c) :: _) rfl ?_; clear hA; intro a hA
  refine wpList_nil ?_
  replace hA := hA.sel [0, 9, 10, 11, 12, 46, 47, 48] (e' := [(0, .int .u64 p), (9, .pointer (some ⟨b2, 0, none⟩)), (10, .int .i64 W), (11, .int .i64 T), (12, .slice none 0 0), (46, .slice A l.length c), (47, .int .i64 ((l.length : Nat) : Int)), (48, .int .i64 0)]) rfl
  refine xt_norm ?_
  refine wp_block ?_
  replace hS := hS.front 1 (C := L3) (L' := [] :: F) rfl rfl
  replace hS := hS.nil
  replace hS := hS.front 1 (C := L3) (L' := [] :: [] :: F) rfl rfl
  refine wp_loop_ghost (fun m a w => ∃ (k : Nat) (cs : List Call) (ls : List LCall) (L : Chunk) (D : Chunk) (Ar : Option Addr) (cr : Nat) (Cr : Chunk), m = l.length - k ∧ Has a 334 [(0, .int .u64 p), (9, .pointer (some ⟨b2, 0, none⟩)), (10, .int .i64 W), (11, .int .i64 T), (12, .slice Ar ls.length cr), (46, .slice A l.length c), (47, .int .i64 ((l.length : Nat) : Int)), (48, .int .i64 ((k : Nat) : Int))] ∧ St w0 w (L :: D :: Cr :: F) ∧ (k ≤ l.length) ∧ (CI W T cs ls) ∧ (CR b2 p W T cs L) ∧ (Own 55 25 (.slice Ar (ls).length cr) (ls).length (rows encLCall (ls)) Cr) ∧ (∀ x ∈ cs, encCall_dd w0 D x) ∧ (∀ x ∈ cs, csz x) ∧ (∀ x ∈ ls, ∀ D, encLCall_dd w0 D x)) (l.length - 0)
    ⟨0, ([]), ([]), L3, ([]), none, 0, ([]), rfl, (hA.sel [0, 9, 10, 11, 12, 46, 47, 48] rfl), hS, Nat.zero_le _, CI.nil, hM6, (Own.nil 55 25), cdd_nil, csz_nil, fun x hx => by simp at hx⟩ ?_
  clear hA hS; rintro m0 a w7 ⟨k, cs, ls, L, D, Ar, cr, Cr, rfl, hA, hS, hk, hI, hM, hR, hdm, hsz, hdr⟩
  have hml := hI.len; have hrl := hI.ln; have hcr := hR.rcap
  refine wp_seq ?_
  refine wp_region_lit ?_
  refine st_run tbOk 1 hA (e' := (49, .bool (decide (((k : Nat) : Int) < ((l.length : Nat) : Int)))) :: _) rfl ?_; clear hA; intro a hA
  refine wpList_nil ?_
  refine xt_norm ?_
  refine wp_seq ?_
  by_cases hc8 : ((k : Nat) : Int) < ((l.length : Nat) : Int)
  · first
    | (exfalso; omega)
    | (replace hA := hA.rw 49 (v' := .bool true) rfl (vb_true hc8)
       refine cd_cond_t hA rfl ?_
       refine wp_skip ?_
       refine xt_norm ?_
       refine wp_seq_join (fun a w => ∃ (cs' : List Call) (ls' : List LCall) (L' : Chunk) (D' : Chunk) (Ar' : Option Addr) (cr' : Nat) (Cr' : Chunk), Has a 334 [(0, .int .u64 p), (9, .pointer (some ⟨b2, 0, none⟩)), (10, .int .i64 W), (11, .int .i64 T), (12, .slice Ar' ls'.length cr'), (46, .slice A l.length c), (47, .int .i64 ((l.length : Nat) : Int)), (48, .int .i64 ((k : Nat) : Int))] ∧ St w0 w (L' :: D' :: Cr' :: F) ∧ (CI W T cs' ls') ∧ (CR b2 p W T cs' L') ∧ (Own 55 25 (.slice Ar' (ls').length cr') (ls').length (rows encLCall (ls')) Cr') ∧ (∀ x ∈ cs', encCall_dd w0 D' x) ∧ (∀ x ∈ cs', csz x) ∧ (∀ x ∈ ls', ∀ D, encLCall_dd w0 D x)) ?_ ?_
       · refine wp_block ?_
         refine wp_seq ?_
         refine wp_region_lit ?_
         obtain ⟨b9, o10, rfl⟩ := (hr _ (hS.tail 3 rfl)).isSome (k := k) (by omega)
         refine st_val hA rfl rfl (by decide) (rn_indexAddr tbOk hA k (o10 + (k * 13)) rfl rfl rfl rfl rfl rfl (by rfl) (by omega) (by first | rfl | simp [Nat.mul_one, Nat.zero_add] | omega)) ?_; clear hA; intro a hA
         obtain ⟨x11, hx11⟩ := get_ex (l := l) (k := k) (by omega)
         obtain ⟨x11f0, x11f1, x11f2, x11f3, x11f4, x11f5, x11f6, x11f7, x11f8, x11f9, x11f10, x11A11, x11c11, x11b11, x11f14⟩ := x11
         have hd12 := (fun x hx => encAct_gdd (D := D) (hw x hx)) _ (List.mem_of_getElem? hx11)
         refine st_val hA rfl rfl (by decide) (rn_loadA tbOk hA ([.int .u8 x11f0, .int .u64 x11f1, .int .u64 x11f2, .int .u32 x11f3, .int .u16 x11f4, .int .u16 x11f5, .int .u64 x11f6, .int .u32 x11f7, .int .u8 x11f8, .int .u64 x11f9, .int .u64 x11f10, .slice x11A11 x11b11.length x11c11, .int .u8 x11f14]) rfl rfl rfl rfl (by rfl) ((hr _ (hS.tail 3 rfl)).elem (k := k) encAct_ok hx11)) ?_; clear hA; intro a hA
         refine st_alloc tbOk hA hS [.int .u8 0, .int .u64 0, .int .u64 0, .int .u32 0, .int .u16 0, .int .u16 0, .int .u64 0, .int .u32 0, .int .u8 0, .int .u64 0, .int .u64 0, .slice none 0 0, .int .u8 0] rfl rfl rfl rfl rfl (by decide) ?_; clear hA hS; intro b13 w14 a hS hA
         refine st_store tbOk hA hS [.int .u8 x11f0, .int .u64 x11f1, .int .u64 x11f2, .int .u32 x11f3, .int .u16 x11f4, .int .u16 x11f5, .int .u64 x11f6, .int .u32 x11f7, .int .u8 x11f8, .int .u64 x11f9, .int .u64 x11f10, .slice x11A11 x11b11.length x11c11, .int .u8 x11f14] [.int .u8 x11f0, .int .u64 x11f1, .int .u64 x11f2, .int .u32 x11f3, .int .u16 x11f4, .int .u16 x11f5, .int .u64 x11f6, .int .u32 x11f7, .int .u8 x11f8, .int .u64 x11f9, .int .u64 x11f10, .slice x11A11 x11b11.length x11c11, .int .u8 x11f14] rfl rfl rfl rfl rfl rfl (by simp [Value.oneCell']) (Nat.le_of_ble_eq_true rfl) rfl rfl rfl ?_; clear hS; intro w15 hS
         refine wpList_nil ?_
         replace hA := hA.sel [0, 9, 10, 11, 12, 14, 46, 47, 48] (e' := [(0, .int .u64 p), (9, .pointer (some ⟨b2, 0, none⟩)), (10, .int .i64 W), (11, .int .i64 T), (12, .slice Ar ls.length cr), (14, .pointer (some ⟨b13, 0, none⟩)), (46, .slice (some ⟨b9, o10, none⟩) l.length c), (47, .int .i64 ((l.length : Nat) : Int)), (48, .int .i64 ((k : Nat) : Int))]) rfl
         refine xt_norm ?_
         refine wp_seq ?_
         refine wp_region_lit ?_
         refine st_run tbOk 1 hA (e' := (52, .pointer (some ⟨b13, 0, none⟩)) :: _) rfl ?_; clear hA; intro a hA
         have hgo := hw _ (List.mem_of_getElem? hx11)
         obtain ⟨ho1, ho2⟩ := hgo.1; dsimp only at ho1 ho2
         obtain ⟨hn1, hn2⟩ := hgo.2.2.2.2.2.2.2.2.2.2.2.2; dsimp only at hn1 hn2
         have hbl := hgo.2.2.2.2.2.2.2.2.2.2.2.1.2; dsimp only at hbl
         have hdl := hgo.2.2.2.2.2.2.2.2.2.2.2.1.1
         obtain ⟨hid1, hid2⟩ := hgo.2.2.2.1; dsimp only at hid1 hid2
         have hop1 : x11f0.tmod 4 = x11f0 % 4 := Int.tmod_eq_emod_of_nonneg (by omega)
         obtain ⟨op, hop⟩ : ∃ z, z = x11f0.tmod 4 := ⟨_, rfl⟩
         have hnr1 : x11f14.tmod 4 = x11f14 % 4 := Int.tmod_eq_emod_of_nonneg (by omega)
         obtain ⟨nr, hnr⟩ : ∃ z, z = x11f14.tmod 4 := ⟨_, rfl⟩
         refine st_val hA rfl rfl (by decide) (rn_load tbOk hA rfl rfl rfl rfl (cell_row (hS.heapAt 0 rfl) rfl)) ?_; clear hA; intro a hA
         refine st_run tbOk 1 hA (e' := (54, .int .u8 (x11f0.tmod 4)) :: _) rfl ?_; clear hA; intro a hA
         refine wpList_nil ?_
         replace hA := hA.sel [0, 9, 10, 11, 12, 14, 46, 47, 48, 54] (e' := [(0, .int .u64 p), (9, .pointer (some ⟨b2, 0, none⟩)), (10, .int .i64 W), (11, .int .i64 T), (12, .slice Ar ls.length cr), (14, .pointer (some ⟨b13, 0, none⟩)), (46, .slice (some ⟨b9, o10, none⟩) l.length c), (47, .int .i64 ((l.length : Nat) : Int)), (48, .int .i64 ((k : Nat) : Int)), (54, .int .u8 (x11f0.tmod 4))]) rfl
         refine xt_norm ?_
         refine wp_block ?_
         refine wp_seq ?_
         refine wp_region_lit ?_
         replace hA := hA.rw 54 (v' := .int .u8 op) rfl (by rw [hop])
         refine st_run tbOk 2 hA (e' := (140, .bool (op == 0)) :: (141, .bool (op == 0)) :: _) rfl ?_; clear hA; intro a hA
         refine wpList_nil ?_
         replace hA := hA.sel [0, 9, 10, 11, 12, 14, 46, 47, 48, 54, 140] (e' := [(0, .int .u64 p), (9, .pointer (some ⟨b2, 0, none⟩)), (10, .int .i64 W), (11, .int .i64 T), (12, .slice Ar ls.length cr), (14, .pointer (some ⟨b13, 0, none⟩)), (46, .slice (some ⟨b9, o10, none⟩) l.length c), (47, .int .i64 ((l.length : Nat) : Int)), (48, .int .i64 ((k : Nat) : Int)), (54, .int .u8 op), (140, .bool (op == 0))]) rfl
         refine xt_norm ?_
         by_cases hc16 : op = 0
         · first
           | (exfalso; omega)
           | (replace hA := hA.rw 140 (v' := .bool true) rfl (vb_eq_t hc16)
              refine cd_cond_t hA rfl ?_
              refine wp_seq ?_
              refine wp_region_lit ?_
              rcases Nat.lt_or_ge ls.length 64 with hr64 | hr64
              · refine st_run tbOk 2 hA (e' := (144, .pointer (some ⟨b13, 1, none⟩)) :: (143, .pointer (some ⟨b2, 0, none⟩)) :: _) rfl ?_; clear hA; intro a hA
                refine st_val hA rfl rfl (by decide) (rn_loadA tbOk hA [.int .u64 x11f1, .int .u64 x11f2, .int .u32 x11f3, .int .u16 x11f4, .int .u16 x11f5, .int .u64 x11f6, .int .u32 x11f7, .int .u8 x11f8, .int .u64 x11f9, .int .u64 x11f10, .slice x11A11 x11b11.length x11c11] rfl rfl rfl rfl rfl (cells_row (hS.heapAt 0 rfl) rfl)) ?_; clear hA; intro a hA
                replace hS := hS.front 2 (C := D) (L' := [(b13, rowO [.int .u8 x11f0, .int .u64 x11f1, .int .u64 x11f2, .int .u32 x11f3, .int .u16 x11f4, .int .u16 x11f5, .int .u64 x11f6, .int .u32 x11f7, .int .u8 x11f8, .int .u64 x11f9, .int .u64 x11f10, .slice x11A11 x11b11.length x11c11, .int .u8 x11f14] 51)] :: L :: Cr :: F) rfl rfl
                replace hS := hS.front 2 (C := L) (L' := D :: [(b13, rowO [.int .u8 x11f0, .int .u64 x11f1, .int .u64 x11f2, .int .u32 x11f3, .int .u16 x11f4, .int .u16 x11f5, .int .u64 x11f6, .int .u32 x11f7, .int .u8 x11f8, .int .u64 x11f9, .int .u64 x11f10, .slice x11A11 x11b11.length x11c11, .int .u8 x11f14] 51)] :: Cr :: F) rfl rfl
                refine st_call0 hA rfl rfl rfl isfn9 rfl rfl (by decide) (start_ok9 hS hM x11f1 x11f2 x11f3 x11f4 x11f5 x11f6 x11f7 x11f8 x11f9 x11f10 (bs := x11b11) (fun w' h => (hd12 _ (h.only 0 rfl))) (by first | omega | exact Nat.zero_le _) (by omega)) ?_
                clear hA hS; rintro _ w17 a ⟨L18, E20, A21, c22, A23, c24, hM19, hE25, hE26, rfl, hS⟩ hA
                have dd27 : ∀ x ∈ (cs ++ [(x11f1, p, ((cs.length + 1 : Nat) : Int), x11f4, 0, x11f6, x11f7, x11f8, x11f9, x11f10, A21, c22, x11b11, 1, 1, W, 0, 0, 0, 0, 0, 0, 0, 0, 0, 0, none, 0, ([] : List UInt8))]), encCall_dd w0 (E20 ++ D) x := call_add hdm ⟨hE25.right, DD.nil⟩
                have sz28 : ∀ x ∈ (cs ++ [(x11f1, p, ((cs.length + 1 : Nat) : Int), x11f4, 0, x11f6, x11f7, x11f8, x11f9, x11f10, A21, c22, x11b11, 1, 1, W, 0, 0, 0, 0, 0, 0, 0, 0, 0, 0, none, 0, ([] : List UInt8))]), csz x := csz_add hsz ⟨(by show (x11b11).length ≤ 140737488351232; first | omega | exact Nat.zero_le _), (Nat.zero_le _)⟩
                refine st_run tbOk 3 hA (e' := (148, .nilIface) :: (147, .agg #[.int .u64 x11f1, .int .u64 p, .int .u32 ((cs.length + 1 : Nat) : Int), .int .u16 x11f4, .int .u16 0, .int .u64 x11f6, .int .u32 x11f7, .int .u8 x11f8, .int .u64 x11f9, .int .u64 x11f10, .slice A23 x11b11.length c24]) :: (142, .tuple #[.agg #[.int .u64 x11f1, .int .u64 p, .int .u32 ((cs.length + 1 : Nat) : Int), .int .u16 x11f4, .int .u16 0, .int .u64 x11f6, .int .u32 x11f7, .int .u8 x11f8, .int .u64 x11f9, .int .u64 x11f10, .slice A23 x11b11.length c24], .nilIface]) :: _) rfl ?_; clear hA; intro a hA
                refine st_alloc tbOk hA hS [.int .u64 0, .int .u64 0, .int .u32 0, .int .u16 0, .int .u16 0, .int .u64 0, .int .u32 0, .int .u8 0, .int .u64 0, .int .u64 0, .slice none 0 0] rfl rfl rfl rfl rfl (by decide) ?_; clear hA hS; intro b29 w30 a hS hA
                refine st_store tbOk hA hS [.int .u64 x11f1, .int .u64 p, .int .u32 ((cs.length + 1 : Nat) : Int), .int .u16 x11f4, .int .u16 0, .int .u64 x11f6, .int .u32 x11f7, .int .u8 x11f8, .int .u64 x11f9, .int .u64 x11f10, .slice A23 x11b11.length c24] [.int .u64 x11f1, .int .u64 p, .int .u32 ((cs.length + 1 : Nat) : Int), .int .u16 x11f4, .int .u16 0, .int .u64 x11f6, .int .u32 x11f7, .int .u8 x11f8, .int .u64 x11f9, .int .u64 x11f10, .slice A23 x11b11.length c24] rfl rfl rfl rfl rfl rfl (by simp [Value.oneCell']) (Nat.le_of_ble_eq_true rfl) rfl rfl rfl ?_; clear hS; intro w31 hS
                refine st_run tbOk 1 hA (e' := (16, .nilIface) :: _) rfl ?_; clear hA; intro a hA
                refine wpList_nil ?_
                replace hA := hA.sel [0, 9, 10, 11, 12, 14, 15, 16, 46, 47, 48] (e' := [(0, .int .u64 p), (9, .pointer (some ⟨b2, 0, none⟩)), (10, .int .i64 W), (11, .int .i64 T), (12, .slice Ar ls.length cr), (14, .pointer (some ⟨b13, 0, none⟩)), (15, .pointer (some ⟨b29, 0, none⟩)), (16, .nilIface), (46, .slice (some ⟨b9, o10, none⟩) l.length c), (47, .int .i64 ((l.length : Nat) : Int)), (48, .int .i64 ((k : Nat) : Int))]) rfl
                refine xt_norm ?_
                refine wp_seq ?_
                refine wp_seq ?_
                refine wp_region_lit ?_
                refine st_run tbOk 3 hA (e' := (151, .bool (decide (((ls.length : Nat) : Int) ≥ 64))) :: (150, .int .i64 ((ls.length : Nat) : Int)) :: (149, .slice Ar ls.length cr) :: _) rfl ?_; clear hA; intro a hA
                refine wpList_nil ?_
                replace hA := hA.sel [0, 9, 10, 11, 12, 14, 15, 16, 46, 47, 48, 151] (e' := [(0, .int .u64 p), (9, .pointer (some ⟨b2, 0, none⟩)), (10, .int .i64 W), (11, .int .i64 T), (12, .slice Ar ls.length cr), (14, .pointer (some ⟨b13, 0, none⟩)), (15, .pointer (some ⟨b29, 0, none⟩)), (16, .nilIface), (46, .slice (some ⟨b9, o10, none⟩) l.length c), (47, .int .i64 ((l.length : Nat) : Int)), (48, .int .i64 ((k : Nat) : Int)), (151, .bool (decide (((ls.length : Nat) : Int) ≥ 64)))]) rfl
                refine xt_norm ?_
                have hc32 : ¬ (((ls.length : Nat) : Int) ≥ 64) := by omega
                replace hA := hA.rw 151 (v' := .bool false) rfl (vb_false hc32)
                refine cd_cond_f hA rfl ?_
                refine wp_skip ?_
                refine xt_norm ?_
                refine wp_seq ?_
                refine wp_region_lit ?_
                refine st_run tbOk 1 hA (e' := (155, .pointer (some ⟨b13, 1, none⟩)) :: _) rfl ?_; clear hA; intro a hA
                refine st_val hA rfl rfl (by decide) (rn_loadA tbOk hA [.int .u64 x11f1, .int .u64 x11f2, .int .u32 x11f3, .int .u16 x11f4, .int .u16 x11f5, .int .u64 x11f6, .int .u32 x11f7, .int .u8 x11f8, .int .u64 x11f9, .int .u64 x11f10, .slice x11A11 x11b11.length x11c11] rfl rfl rfl rfl rfl (cells_row (hS.heapAt 3 rfl) rfl)) ?_; clear hA; intro a hA
                refine st_alloc tbOk hA hS [.int .u64 0, .int .u64 0, .int .u32 0, .int .u16 0, .int .u16 0, .int .u64 0, .int .u32 0, .int .u8 0, .int .u64 0, .int .u64 0, .slice none 0 0] rfl rfl rfl rfl rfl (by decide) ?_; clear hA hS; intro b33 w34 a hS hA
                refine st_store tbOk hA hS [.int .u64 x11f1, .int .u64 x11f2, .int .u32 x11f3, .int .u16 x11f4, .int .u16 x11f5, .int .u64 x11f6, .int .u32 x11f7, .int .u8 x11f8, .int .u64 x11f9, .int .u64 x11f10, .slice x11A11 x11b11.length x11c11] [.int .u64 x11f1, .int .u64 x11f2, .int .u32 x11f3, .int .u16 x11f4, .int .u16 x11f5, .int .u64 x11f6, .int .u32 x11f7, .int .u8 x11f8, .int .u64 x11f9, .int .u64 x11f10, .slice x11A11 x11b11.length x11c11] rfl rfl rfl rfl rfl rfl (by simp [Value.oneCell']) (Nat.le_of_ble_eq_true rfl) rfl rfl rfl ?_; clear hS; intro w35 hS
                refine wpList_nil ?_
                replace hA := hA.sel [0, 9, 10, 11, 12, 15, 16, 17, 46, 47, 48] (e' := [(0, .int .u64 p), (9, .pointer (some ⟨b2, 0, none⟩)), (10, .int .i64 W), (11, .int .i64 T), (12, .slice Ar ls.length cr), (15, .pointer (some ⟨b29, 0, none⟩)), (16, .nilIface), (17, .pointer (some ⟨b33, 0, none⟩)), (46, .slice (some ⟨b9, o10, none⟩) l.length c), (47, .int .i64 ((l.length : Nat) : Int)), (48, .int .i64 ((k : Nat) : Int))]) rfl
                refine xt_norm ?_
                refine wp_seq ?_
                refine wp_region_lit ?_
                refine st_run tbOk 3 hA (e' := (159, .int .i64 (IntKind.i64.wrap (((ls.length : Nat) : Int) + 1))) :: (158, .int .i64 ((ls.length : Nat) : Int)) :: (157, .slice Ar ls.length cr) :: _) rfl ?_; clear hA; intro a hA
                replace hA := hA.rw 159 (v' := .int .i64 ((ls.length + 1 : Nat) : Int)) rfl (wr64 (by omega) (by omega) (by omega))
                refine st_run tbOk 1 hA (e' := (160, .int .u32 (IntKind.u32.wrap ((ls.length + 1 : Nat) : Int))) :: _) rfl ?_; clear hA; intro a hA
                replace hA := hA.rw 160 (v' := .int .u32 ((ls.length + 1 : Nat) : Int)) rfl (vint (wrap_u32 (by omega) (by omega)))
                refine st_run tbOk 2 hA (e' := (162, .pointer (some ⟨b33, 2, none⟩)) :: (161, .int .u64 p) :: _) rfl ?_; clear hA; intro a hA
                refine st_store tbOk hA hS [.int .u32 ((ls.length + 1 : Nat) : Int)] [.int .u64 x11f1, .int .u64 x11f2, .int .u32 ((ls.length + 1 : Nat) : Int), .int .u16 x11f4, .int .u16 x11f5, .int .u64 x11f6, .int .u32 x11f7, .int .u8 x11f8, .int .u64 x11f9, .int .u64 x11f10, .slice x11A11 x11b11.length x11c11] rfl rfl rfl rfl rfl rfl (by intro u hu; rw [List.mem_singleton.1 hu]; rfl) (Nat.le_of_ble_eq_true rfl) rfl rfl rfl ?_; clear hS; intro w36 hS
                refine st_run tbOk 1 hA (e' := (163, .pointer (some ⟨b33, 1, none⟩)) :: _) rfl ?_; clear hA; intro a hA
                refine st_store tbOk hA hS [.int .u64 p] [.int .u64 x11f1, .int .u64 p, .int .u32 ((ls.length + 1 : Nat) : Int), .int .u16 x11f4, .int .u16 x11f5, .int .u64 x11f6, .int .u32 x11f7, .int .u8 x11f8, .int .u64 x11f9, .int .u64 x11f10, .slice x11A11 x11b11.length x11c11] rfl rfl rfl rfl rfl rfl (by intro u hu; rw [List.mem_singleton.1 hu]; rfl) (Nat.le_of_ble_eq_true rfl) rfl rfl rfl ?_; clear hS; intro w37 hS
                refine st_run tbOk 1 hA (e' := (164, .pointer (some ⟨b33, 4, none⟩)) :: _) rfl ?_; clear hA; intro a hA
                refine st_store tbOk hA hS [.int .u16 0] [.int .u64 x11f1, .int .u64 p, .int .u32 ((ls.length + 1 : Nat) : Int), .int .u16 x11f4, .int .u16 0, .int .u64 x11f6, .int .u32 x11f7, .int .u8 x11f8, .int .u64 x11f9, .int .u64 x11f10, .slice x11A11 x11b11.length x11c11] rfl rfl rfl rfl rfl rfl (by intro u hu; rw [List.mem_singleton.1 hu]; rfl) (Nat.le_of_ble_eq_true rfl) rfl rfl rfl ?_; clear hS; intro w38 hS
                refine wpList_nil ?_
                replace hA := hA.sel [0, 9, 10, 11, 12, 15, 16, 17, 46, 47, 48] (e' := [(0, .int .u64 p), (9, .pointer (some ⟨b2, 0, none⟩)), (10, .int .i64 W), (11, .int .i64 T), (12, .slice Ar ls.length cr), (15, .pointer (some ⟨b29, 0, none⟩)), (16, .nilIface), (17, .pointer (some ⟨b33, 0, none⟩)), (46, .slice (some ⟨b9, o10, none⟩) l.length c), (47, .int .i64 ((l.length : Nat) : Int)), (48, .int .i64 ((k : Nat) : Int))]) rfl
                refine xt_norm ?_
                refine wp_seq ?_
                refine wp_region_lit ?_
                refine st_run tbOk 1 hA (e' := (165, .slice Ar ls.length cr) :: _) rfl ?_; clear hA; intro a hA
                refine st_val hA rfl rfl (by decide) (rn_loadA tbOk hA [.int .u64 x11f1, .int .u64 p, .int .u32 ((ls.length + 1 : Nat) : Int), .int .u16 x11f4, .int .u16 0, .int .u64 x11f6, .int .u32 x11f7, .int .u8 x11f8, .int .u64 x11f9, .int .u64 x11f10, .slice x11A11 x11b11.length x11c11] rfl rfl rfl rfl rfl (cells_row (hS.heapAt 0 rfl) rfl)) ?_; clear hA; intro a hA
                refine st_val hA rfl rfl (by decide) (rn_build tbOk hA rfl rfl rfl rfl rfl rfl rfl) ?_; clear hA; intro a hA
                refine st_buildSlice tbOk hA hS [.int .u64 x11f1, .int .u64 p, .int .u32 ((ls.length + 1 : Nat) : Int), .int .u16 x11f4, .int .u16 0, .int .u64 x11f6, .int .u32 x11f7, .int .u8 x11f8, .int .u64 x11f9, .int .u64 x11f10, .slice x11A11 x11b11.length x11c11, .int .u64 0, .int .u64 0, .int .u32 0, .int .u16 0, .int .u16 0, .int .u64 0, .int .u32 0, .int .u8 0, .int .u64 0, .int .u64 0, .slice none 0 0, .int .i64 1, .int .i64 0, .int .i64 1] rfl rfl rfl rfl rfl (by decide) (by kernel_rfl) rfl rfl (by decide) ?_; clear hA hS; intro b39 w40 a hS hA
                replace hS := hS.front 6 (C := Cr) (L' := [(b39, rowO [.int .u64 x11f1, .int .u64 p, .int .u32 ((ls.length + 1 : Nat) : Int), .int .u16 x11f4, .int .u16 0, .int .u64 x11f6, .int .u32 x11f7, .int .u8 x11f8, .int .u64 x11f9, .int .u64 x11f10, .slice x11A11 x11b11.length x11c11, .int .u64 0, .int .u64 0, .int .u32 0, .int .u16 0, .int .u16 0, .int .u64 0, .int .u32 0, .int .u8 0, .int .u64 0, .int .u64 0, .slice none 0 0, .int .i64 1, .int .i64 0, .int .i64 1] 55)] :: [(b33, rowO [.int .u64 x11f1, .int .u64 p, .int .u32 ((ls.length + 1 : Nat) : Int), .int .u16 x11f4, .int .u16 0, .int .u64 x11f6, .int .u32 x11f7, .int .u8 x11f8, .int .u64 x11f9, .int .u64 x11f10, .slice x11A11 x11b11.length x11c11] 32)] :: [(b29, rowO [.int .u64 x11f1, .int .u64 p, .int .u32 ((cs.length + 1 : Nat) : Int), .int .u16 x11f4, .int .u16 0, .int .u64 x11f6, .int .u32 x11f7, .int .u8 x11f8, .int .u64 x11f9, .int .u64 x11f10, .slice A23 x11b11.length c24] 32)] :: L18 :: (E20 ++ D) :: [(b13, rowO [.int .u8 x11f0, .int .u64 x11f1, .int .u64 x11f2, .int .u32 x11f3, .int .u16 x11f4, .int .u16 x11f5, .int .u64 x11f6, .int .u32 x11f7, .int .u8 x11f8, .int .u64 x11f9, .int .u64 x11f10, .slice x11A11 x11b11.length x11c11, .int .u8 x11f14] 51)] :: F) rfl rfl
                refine st_append tbOk hA (m := ls.length) (q := 1) (xs := rows encLCall ls) (news := rows encLCall ([(x11f1, p, ((ls.length + 1 : Nat) : Int), x11f4, 0, x11f6, x11f7, x11f8, x11f9, x11f10, x11A11, x11c11, x11b11, 0, 0, 0, 0, 0, 0, 0, 0, 0, 0, none, 0, ([] : List UInt8), 1, 0, 1)] : List (Int × Int × Int × Int × Int × Int × Int × Int × Int × Int × Option Addr × Nat × List UInt8 × Int × Int × Int × Int × Int × Int × Int × Int × Int × Int × Option Addr × Nat × List UInt8 × Int × Int × Int))) rfl rfl rfl rfl rfl rfl rfl rfl (by decide) hR hS (((Own.full (T := 55) (size := 25) (g := b39) (m := 1) rfl (by decide)).rd (hS.own_ 1 rfl)).x) (rows_one encLCall_ok _) (maxLen_le (by first | omega | (simp; omega))) (by show (ls.length + 1) * 184 ≤ 140737488355328; first | omega | (simp; omega)) rfl rfl (by decide) ?_
                clear hA hS; intro v41 w42 C43 a hO43 hS hA
                replace hO43 := Own.app (l := ls) (l2 := ([(x11f1, p, ((ls.length + 1 : Nat) : Int), x11f4, 0, x11f6, x11f7, x11f8, x11f9, x11f10, x11A11, x11c11, x11b11, 0, 0, 0, 0, 0, 0, 0, 0, 0, 0, none, 0, ([] : List UInt8), 1, 0, 1)] : List (Int × Int × Int × Int × Int × Int × Int × Int × Int × Int × Option Addr × Nat × List UInt8 × Int × Int × Int × Int × Int × Int × Int × Int × Int × Int × Option Addr × Nat × List UInt8 × Int × Int × Int))) hO43
                obtain ⟨A44, c45, rfl, hmc45, hxc45⟩ := hO43.open'
                refine st_run tbOk 1 hA (e' := (12, .slice A44 ((ls ++ ([(x11f1, p, ((ls.length + 1 : Nat) : Int), x11f4, 0, x11f6, x11f7, x11f8, x11f9, x11f10, x11A11, x11c11, x11b11, 0, 0, 0, 0, 0, 0, 0, 0, 0, 0, none, 0, ([] : List UInt8), 1, 0, 1)] : List (Int × Int × Int × Int × Int × Int × Int × Int × Int × Int × Option Addr × Nat × List UInt8 × Int × Int × Int × Int × Int × Int × Int × Int × Int × Int × Option Addr × Nat × List UInt8 × Int × Int × Int))).length) c45) :: _) rfl ?_; clear hA; intro a hA
                refine wpList_nil ?_
                replace hA := hA.sel [0, 9, 10, 11, 12, 15, 16, 17, 46, 47, 48] (e' := [(0, .int .u64 p), (9, .pointer (some ⟨b2, 0, none⟩)), (10, .int .i64 W), (11, .int .i64 T), (12, .slice A44 ((ls ++ ([(x11f1, p, ((ls.length + 1 : Nat) : Int), x11f4, 0, x11f6, x11f7, x11f8, x11f9, x11f10, x11A11, x11c11, x11b11, 0, 0, 0, 0, 0, 0, 0, 0, 0, 0, none, 0, ([] : List UInt8), 1, 0, 1)] : List (Int × Int × Int × Int × Int × Int × Int × Int × Int × Int × Option Addr × Nat × List UInt8 × Int × Int × Int × Int × Int × Int × Int × Int × Int × Int × Option Addr × Nat × List UInt8 × Int × Int × Int))).length) c45), (15, .pointer (some ⟨b29, 0, none⟩)), (16, .nilIface), (17, .pointer (some ⟨b33, 0, none⟩)), (46, .slice (some ⟨b9, o10, none⟩) l.length c), (47, .int .i64 ((l.length : Nat) : Int)), (48, .int .i64 ((k : Nat) : Int))]) rfl
                refine xt_norm ?_
                refine wp_seq ?_
                refine wp_region_lit ?_
                have hcv : CV W T ls.length (x11f1, p, ((cs.length + 1 : Nat) : Int), x11f4, 0, x11f6, x11f7, x11f8, x11f9, x11f10, A21, c22, x11b11, 1, 1, W, 0, 0, 0, 0, 0, 0, 0, 0, 0, 0, none, 0, ([] : List UInt8)) (x11f1, p, ((ls.length + 1 : Nat) : Int), x11f4, 0, x11f6, x11f7, x11f8, x11f9, x11f10, x11A11, x11c11, x11b11, 0, 0, 0, 0, 0, 0, 0, 0, 0, 0, none, 0, ([] : List UInt8), 1, 0, 1) := ⟨by simp only [mst, mdat, rq, lrq, hml], rfl, rfl, fun _ => ⟨hW1.1, Int.le_refl _, (Int.sub_self W).symm, Int.le_refl _, hT1.1, rfl⟩, (by simp only [lrq]; omega), fun _ => rfl⟩
                have hdr2 : ∀ x ∈ (ls ++ ([(x11f1, p, ((ls.length + 1 : Nat) : Int), x11f4, 0, x11f6, x11f7, x11f8, x11f9, x11f10, x11A11, x11c11, x11b11, 0, 0, 0, 0, 0, 0, 0, 0, 0, 0, none, 0, ([] : List UInt8), 1, 0, 1)] : List (Int × Int × Int × Int × Int × Int × Int × Int × Int × Int × Option Addr × Nat × List UInt8 × Int × Int × Int × Int × Int × Int × Int × Int × Int × Int × Option Addr × Nat × List UInt8 × Int × Int × Int))), ∀ D, encLCall_dd w0 D x := ladd_dd hdr (fun D => ⟨DD.of hdl, DD.nil⟩)
                refine st_run tbOk 3 hA (e' := (172, .bool false) :: (171, .bool false) :: (170, .nilIface) :: _) rfl ?_; clear hA; intro a hA
                refine st_val hA rfl rfl (by decide) (rn_loadA tbOk hA [.int .u64 x11f1, .int .u64 p, .int .u32 ((cs.length + 1 : Nat) : Int), .int .u16 x11f4, .int .u16 0, .int .u64 x11f6, .int .u32 x11f7, .int .u8 x11f8, .int .u64 x11f9, .int .u64 x11f10, .slice A23 x11b11.length c24] rfl rfl rfl rfl rfl (cells_row (hS.heapAt 3 rfl) rfl)) ?_; clear hA; intro a hA
                refine st_val hA rfl rfl (by decide) (rn_loadA tbOk hA [.int .u64 x11f1, .int .u64 p, .int .u32 ((ls.length + 1 : Nat) : Int), .int .u16 x11f4, .int .u16 0, .int .u64 x11f6, .int .u32 x11f7, .int .u8 x11f8, .int .u64 x11f9, .int .u64 x11f10, .slice x11A11 x11b11.length x11c11] rfl rfl rfl rfl rfl (cells_row (hS.heapAt 2 rfl) rfl)) ?_; clear hA; intro a hA
                refine st_call0 hA rfl rfl rfl isfn13 rfl rfl (by decide) (same04_13 hS x11f1 p ((cs.length + 1 : Nat) : Int) x11f4 0 x11f6 x11f7 x11f8 x11f9 x11f10 x11f1 p ((ls.length + 1 : Nat) : Int) x11f4 0 x11f6 x11f7 x11f8 x11f9 x11f10 (bs := x11b11) (cs := x11b11) (fun w' h => (hE26.right _ (h.only 5 rfl))) (fun w' h => ((hd12.left) _ (h.only 5 rfl)))) ?_
                clear hA hS; rintro v w46 a ⟨rfl, hS⟩ hA
                replace hA := hA.rw 175 (v' := .bool true) rfl (congrArg Value.bool (by rw [decide_eq_true_eq]; exact ⟨rfl, rfl, by rw [hml], rfl, rfl, ⟨rfl, rfl, rfl, rfl⟩, rfl, rfl⟩))
                refine st_run tbOk 2 hA (e' := (177, .bool false) :: (176, .bool false) :: _) rfl ?_; clear hA; intro a hA
                refine wpList_nil ?_
                replace hA := hA.sel [0, 9, 10, 11, 12, 46, 47, 48, 177] (e' := [(0, .int .u64 p), (9, .pointer (some ⟨b2, 0, none⟩)), (10, .int .i64 W), (11, .int .i64 T), (12, .slice A44 ((ls ++ ([(x11f1, p, ((ls.length + 1 : Nat) : Int), x11f4, 0, x11f6, x11f7, x11f8, x11f9, x11f10, x11A11, x11c11, x11b11, 0, 0, 0, 0, 0, 0, 0, 0, 0, 0, none, 0, ([] : List UInt8), 1, 0, 1)] : List (Int × Int × Int × Int × Int × Int × Int × Int × Int × Int × Option Addr × Nat × List UInt8 × Int × Int × Int × Int × Int × Int × Int × Int × Int × Int × Option Addr × Nat × List UInt8 × Int × Int × Int))).length) c45), (46, .slice (some ⟨b9, o10, none⟩) l.length c), (47, .int .i64 ((l.length : Nat) : Int)), (48, .int .i64 ((k : Nat) : Int)), (177, .bool false)]) rfl
                refine xt_norm ?_
                refine cd_cond_f hA rfl ?_
                refine wp_skip ?_
                refine xb_norm ?_
                refine xb_norm ?_
                refine xt_norm ?_
                replace hS := hS.front 1 (C := [(b39, rowO [.int .u64 x11f1, .int .u64 p, .int .u32 ((ls.length + 1 : Nat) : Int), .int .u16 x11f4, .int .u16 0, .int .u64 x11f6, .int .u32 x11f7, .int .u8 x11f8, .int .u64 x11f9, .int .u64 x11f10, .slice x11A11 x11b11.length x11c11, .int .u64 0, .int .u64 0, .int .u32 0, .int .u16 0, .int .u16 0, .int .u64 0, .int .u32 0, .int .u8 0, .int .u64 0, .int .u64 0, .slice none 0 0, .int .i64 1, .int .i64 0, .int .i64 1] 55)]) (L' := C43 :: [(b33, rowO [.int .u64 x11f1, .int .u64 p, .int .u32 ((ls.length + 1 : Nat) : Int), .int .u16 x11f4, .int .u16 0, .int .u64 x11f6, .int .u32 x11f7, .int .u8 x11f8, .int .u64 x11f9, .int .u64 x11f10, .slice x11A11 x11b11.length x11c11] 32)] :: [(b29, rowO [.int .u64 x11f1, .int .u64 p, .int .u32 ((cs.length + 1 : Nat) : Int), .int .u16 x11f4, .int .u16 0, .int .u64 x11f6, .int .u32 x11f7, .int .u8 x11f8, .int .u64 x11f9, .int .u64 x11f10, .slice A23 x11b11.length c24] 32)] :: L18 :: (E20 ++ D) :: [(b13, rowO [.int .u8 x11f0, .int .u64 x11f1, .int .u64 x11f2, .int .u32 x11f3, .int .u16 x11f4, .int .u16 x11f5, .int .u64 x11f6, .int .u32 x11f7, .int .u8 x11f8, .int .u64 x11f9, .int .u64 x11f10, .slice x11A11 x11b11.length x11c11, .int .u8 x11f14] 51)] :: F) rfl rfl
                replace hS := hS.drop1
                replace hS := hS.front 1 (C := [(b33, rowO [.int .u64 x11f1, .int .u64 p, .int .u32 ((ls.length + 1 : Nat) : Int), .int .u16 x11f4, .int .u16 0, .int .u64 x11f6, .int .u32 x11f7, .int .u8 x11f8, .int .u64 x11f9, .int .u64 x11f10, .slice x11A11 x11b11.length x11c11] 32)]) (L' := C43 :: [(b29, rowO [.int .u64 x11f1, .int .u64 p, .int .u32 ((cs.length + 1 : Nat) : Int), .int .u16 x11f4, .int .u16 0, .int .u64 x11f6, .int .u32 x11f7, .int .u8 x11f8, .int .u64 x11f9, .int .u64 x11f10, .slice A23 x11b11.length c24] 32)] :: L18 :: (E20 ++ D) :: [(b13, rowO [.int .u8 x11f0, .int .u64 x11f1, .int .u64 x11f2, .int .u32 x11f3, .int .u16 x11f4, .int .u16 x11f5, .int .u64 x11f6, .int .u32 x11f7, .int .u8 x11f8, .int .u64 x11f9, .int .u64 x11f10, .slice x11A11 x11b11.length x11c11, .int .u8 x11f14] 51)] :: F) rfl rfl
                replace hS := hS.drop1
                replace hS := hS.front 1 (C := [(b29, rowO [.int .u64 x11f1, .int .u64 p, .int .u32 ((cs.length + 1 : Nat) : Int), .int .u16 x11f4, .int .u16 0, .int .u64 x11f6, .int .u32 x11f7, .int .u8 x11f8, .int .u64 x11f9, .int .u64 x11f10, .slice A23 x11b11.length c24] 32)]) (L' := C43 :: L18 :: (E20 ++ D) :: [(b13, rowO [.int .u8 x11f0, .int .u64 x11f1, .int .u64 x11f2, .int .u32 x11f3, .int .u16 x11f4, .int .u16 x11f5, .int .u64 x11f6, .int .u32 x11f7, .int .u8 x11f8, .int .u64 x11f9, .int .u64 x11f10, .slice x11A11 x11b11.length x11c11, .int .u8 x11f14] 51)] :: F) rfl rfl
                replace hS := hS.drop1
                replace hS := hS.front 3 (C := [(b13, rowO [.int .u8 x11f0, .int .u64 x11f1, .int .u64 x11f2, .int .u32 x11f3, .int .u16 x11f4, .int .u16 x11f5, .int .u64 x11f6, .int .u32 x11f7, .int .u8 x11f8, .int .u64 x11f9, .int .u64 x11f10, .slice x11A11 x11b11.length x11c11, .int .u8 x11f14] 51)]) (L' := C43 :: L18 :: (E20 ++ D) :: F) rfl rfl
                replace hS := hS.drop1
                replace hS := hS.front 2 (C := (E20 ++ D)) (L' := C43 :: L18 :: F) rfl rfl
                replace hS := hS.front 2 (C := L18) (L' := (E20 ++ D) :: C43 :: F) rfl rfl
                exact ⟨(cs ++ [(x11f1, p, ((cs.length + 1 : Nat) : Int), x11f4, 0, x11f6, x11f7, x11f8, x11f9, x11f10, A21, c22, x11b11, 1, 1, W, 0, 0, 0, 0, 0, 0, 0, 0, 0, 0, none, 0, ([] : List UInt8))]), (ls ++ ([(x11f1, p, ((ls.length + 1 : Nat) : Int), x11f4, 0, x11f6, x11f7, x11f8, x11f9, x11f10, x11A11, x11c11, x11b11, 0, 0, 0, 0, 0, 0, 0, 0, 0, 0, none, 0, ([] : List UInt8), 1, 0, 1)] : List (Int × Int × Int × Int × Int × Int × Int × Int × Int × Int × Option Addr × Nat × List UInt8 × Int × Int × Int × Int × Int × Int × Int × Int × Int × Int × Option Addr × Nat × List UInt8 × Int × Int × Int))), L18, (E20 ++ D), A44, c45, C43, (hA.sel [0, 9, 10, 11, 12, 46, 47, 48] rfl), hS, (hI.add hcv hr64), hM19, hO43, dd27, sz28, hdr2⟩
              · refine st_run tbOk 2 hA (e' := (144, .pointer (some ⟨b13, 1, none⟩)) :: (143, .pointer (some ⟨b2, 0, none⟩)) :: _) rfl ?_; clear hA; intro a hA
                refine st_val hA rfl rfl (by decide) (rn_loadA tbOk hA [.int .u64 x11f1, .int .u64 x11f2, .int .u32 x11f3, .int .u16 x11f4, .int .u16 x11f5, .int .u64 x11f6, .int .u32 x11f7, .int .u8 x11f8, .int .u64 x11f9, .int .u64 x11f10, .slice x11A11 x11b11.length x11c11] rfl rfl rfl rfl rfl (cells_row (hS.heapAt 0 rfl) rfl)) ?_; clear hA; intro a hA
                replace hS := hS.front 2 (C := D) (L' := [(b13, rowO [.int .u8 x11f0, .int .u64 x11f1, .int .u64 x11f2, .int .u32 x11f3, .int .u16 x11f4, .int .u16 x11f5, .int .u64 x11f6, .int .u32 x11f7, .int .u8 x11f8, .int .u64 x11f9, .int .u64 x11f10, .slice x11A11 x11b11.length x11c11, .int .u8 x11f14] 51)] :: L :: Cr :: F) rfl rfl
                replace hS := hS.front 2 (C := L) (L' := D :: [(b13, rowO [.int .u8 x11f0, .int .u64 x11f1, .int .u64 x11f2, .int .u32 x11f3, .int .u16 x11f4, .int .u16 x11f5, .int .u64 x11f6, .int .u32 x11f7, .int .u8 x11f8, .int .u64 x11f9, .int .u64 x11f10, .slice x11A11 x11b11.length x11c11, .int .u8 x11f14] 51)] :: Cr :: F) rfl rfl
                refine st_call0 hA rfl rfl rfl isfn9 rfl rfl (by decide) (start_full9 hS hM x11f1 x11f2 x11f3 x11f4 x11f5 x11f6 x11f7 x11f8 x11f9 x11f10 (bs := x11b11) (fun w' h => (hd12 _ (h.only 0 rfl))) (by first | omega | exact Nat.zero_le _) (by omega)) ?_
                clear hA hS; rintro _ w47 a ⟨L48, hM49, rfl, hS⟩ hA
                refine st_run tbOk 3 hA (e' := (148, .iface 52 (.int .i64 5)) :: (147, .agg #[.int .u64 0, .int .u64 0, .int .u32 0, .int .u16 0, .int .u16 0, .int .u64 0, .int .u32 0, .int .u8 0, .int .u64 0, .int .u64 0, .slice none 0 0]) :: (142, .tuple #[.agg #[.int .u64 0, .int .u64 0, .int .u32 0, .int .u16 0, .int .u16 0, .int .u64 0, .int .u32 0, .int .u8 0, .int .u64 0, .int .u64 0, .slice none 0 0], .iface 52 (.int .i64 5)]) :: _) rfl ?_; clear hA; intro a hA
                refine st_alloc tbOk hA hS [.int .u64 0, .int .u64 0, .int .u32 0, .int .u16 0, .int .u16 0, .int .u64 0, .int .u32 0, .int .u8 0, .int .u64 0, .int .u64 0, .slice none 0 0] rfl rfl rfl rfl rfl (by decide) ?_; clear hA hS; intro b50 w51 a hS hA
                refine st_store tbOk hA hS [.int .u64 0, .int .u64 0, .int .u32 0, .int .u16 0, .int .u16 0, .int .u64 0, .int .u32 0, .int .u8 0, .int .u64 0, .int .u64 0, .slice none 0 0] [.int .u64 0, .int .u64 0, .int .u32 0, .int .u16 0, .int .u16 0, .int .u64 0, .int .u32 0, .int .u8 0, .int .u64 0, .int .u64 0, .slice none 0 0] rfl rfl rfl rfl rfl rfl (by simp [Value.oneCell']) (Nat.le_of_ble_eq_true rfl) rfl rfl rfl ?_; clear hS; intro w52 hS
                refine st_run tbOk 1 hA (e' := (16, .iface 52 (.int .i64 5)) :: _) rfl ?_; clear hA; intro a hA
                refine wpList_nil ?_
                replace hA := hA.sel [0, 9, 10, 11, 12, 14, 15, 16, 46, 47, 48] (e' := [(0, .int .u64 p), (9, .pointer (some ⟨b2, 0, none⟩)), (10, .int .i64 W), (11, .int .i64 T), (12, .slice Ar ls.length cr), (14, .pointer (some ⟨b13, 0, none⟩)), (15, .pointer (some ⟨b50, 0, none⟩)), (16, .iface 52 (.int .i64 5)), (46, .slice (some ⟨b9, o10, none⟩) l.length c), (47, .int .i64 ((l.length : Nat) : Int)), (48, .int .i64 ((k : Nat) : Int))]) rfl
                refine xt_norm ?_
                refine wp_seq ?_
                refine wp_seq ?_
                refine wp_region_lit ?_
                refine st_run tbOk 3 hA (e' := (151, .bool (decide (((ls.length : Nat) : Int) ≥ 64))) :: (150, .int .i64 ((ls.length : Nat) : Int)) :: (149, .slice Ar ls.length cr) :: _) rfl ?_; clear hA; intro a hA
                refine wpList_nil ?_
                replace hA := hA.sel [0, 9, 10, 11, 12, 14, 15, 16, 46, 47, 48, 151] (e' := [(0, .int .u64 p), (9, .pointer (some ⟨b2, 0, none⟩)), (10, .int .i64 W), (11, .int .i64 T), (12, .slice Ar ls.length cr), (14, .pointer (some ⟨b13, 0, none⟩)), (15, .pointer (some ⟨b50, 0, none⟩)), (16, .iface 52 (.int .i64 5)), (46, .slice (some ⟨b9, o10, none⟩) l.length c), (47, .int .i64 ((l.length : Nat) : Int)), (48, .int .i64 ((k : Nat) : Int)), (151, .bool (decide (((ls.length : Nat) : Int) ≥ 64)))]) rfl
                refine xt_norm ?_
                have hc53 : ((ls.length : Nat) : Int) ≥ 64 := by omega
                replace hA := hA.rw 151 (v' := .bool true) rfl (vb_true hc53)
                refine cd_cond_t hA rfl ?_
                refine wp_seq ?_
                refine wp_seq ?_
                refine wp_region_lit ?_
                refine st_run tbOk 1 hA (e' := (152, .iface 52 (.int .i64 5)) :: _) rfl ?_; clear hA; intro a hA
                refine st_call0 hA rfl rfl rfl isfn14 rfl rfl (by decide) (number_hit14 hS hg 5) ?_
                clear hA hS; rintro v w54 a ⟨rfl, hS⟩ hA
                refine st_run tbOk 1 hA (e' := (154, .bool false) :: _) rfl ?_; clear hA; intro a hA
                refine wpList_nil ?_
                replace hA := hA.sel [0, 9, 10, 11, 12, 46, 47, 48, 154] (e' := [(0, .int .u64 p), (9, .pointer (some ⟨b2, 0, none⟩)), (10, .int .i64 W), (11, .int .i64 T), (12, .slice Ar ls.length cr), (46, .slice (some ⟨b9, o10, none⟩) l.length c), (47, .int .i64 ((l.length : Nat) : Int)), (48, .int .i64 ((k : Nat) : Int)), (154, .bool false)]) rfl
                refine xt_norm ?_
                refine cd_cond_f hA rfl ?_
                refine wp_skip ?_
                refine xt_norm ?_
                refine wp_exit ?_
                refine xt_exit ?_
                refine cd_exit_ne (by decide) ?_
                refine cd_exit_eq ?_
                refine xt_norm ?_
                replace hS := hS.drop1
                replace hS := hS.front 2 (C := [(b13, rowO [.int .u8 x11f0, .int .u64 x11f1, .int .u64 x11f2, .int .u32 x11f3, .int .u16 x11f4, .int .u16 x11f5, .int .u64 x11f6, .int .u32 x11f7, .int .u8 x11f8, .int .u64 x11f9, .int .u64 x11f10, .slice x11A11 x11b11.length x11c11, .int .u8 x11f14] 51)]) (L' := L48 :: D :: Cr :: F) rfl rfl
                replace hS := hS.drop1
                replace hS := hS.front 2 (C := Cr) (L' := L48 :: D :: F) rfl rfl
                replace hS := hS.front 2 (C := D) (L' := Cr :: L48 :: F) rfl rfl
                replace hS := hS.front 2 (C := L48) (L' := D :: Cr :: F) rfl rfl
                exact ⟨(cs), (ls), L48, D, Ar, cr, Cr, (hA.sel [0, 9, 10, 11, 12, 46, 47, 48] rfl), hS, hI, hM49, hR, hdm, hsz, hdr⟩)
         · first
           | (exfalso; omega)
           | (replace hA := hA.rw 140 (v' := .bool false) rfl (vb_eq_f hc16)
              refine cd_cond_f hA rfl ?_
              refine wp_seq ?_
              refine wp_region_lit ?_
              refine st_run tbOk 2 hA (e' := (178, .bool (op == 1)) :: (179, .bool (op == 1)) :: _) rfl ?_; clear hA; intro a hA
              refine wpList_nil ?_
              replace hA := hA.sel [0, 9, 10, 11, 12, 14, 46, 47, 48, 178] (e' := [(0, .int .u64 p), (9, .pointer (some ⟨b2, 0, none⟩)), (10, .int .i64 W), (11, .int .i64 T), (12, .slice Ar ls.length cr), (14, .pointer (some ⟨b13, 0, none⟩)), (46, .slice (some ⟨b9, o10, none⟩) l.length c), (47, .int .i64 ((l.length : Nat) : Int)), (48, .int .i64 ((k : Nat) : Int)), (178, .bool (op == 1))]) rfl
              refine xt_norm ?_
              by_cases hc55 : op = 1
              · first
                | (exfalso; omega)
                | (replace hA := hA.rw 178 (v' := .bool true) rfl (vb_eq_t hc55)
                   refine cd_cond_t hA rfl ?_
                   refine wp_seq ?_
                   refine wp_region_lit ?_
                   refine st_run tbOk 1 hA (e' := (180, .pointer (some ⟨b13, 1, none⟩)) :: _) rfl ?_; clear hA; intro a hA
                   refine st_val hA rfl rfl (by decide) (rn_loadA tbOk hA [.int .u64 x11f1, .int .u64 x11f2, .int .u32 x11f3, .int .u16 x11f4, .int .u16 x11f5, .int .u64 x11f6, .int .u32 x11f7, .int .u8 x11f8, .int .u64 x11f9, .int .u64 x11f10, .slice x11A11 x11b11.length x11c11] rfl rfl rfl rfl rfl (cells_row (hS.heapAt 0 rfl) rfl)) ?_; clear hA; intro a hA
                   refine st_alloc tbOk hA hS [.int .u64 0, .int .u64 0, .int .u32 0, .int .u16 0, .int .u16 0, .int .u64 0, .int .u32 0, .int .u8 0, .int .u64 0, .int .u64 0, .slice none 0 0] rfl rfl rfl rfl rfl (by decide) ?_; clear hA hS; intro b56 w57 a hS hA
                   refine st_store tbOk hA hS [.int .u64 x11f1, .int .u64 x11f2, .int .u32 x11f3, .int .u16 x11f4, .int .u16 x11f5, .int .u64 x11f6, .int .u32 x11f7, .int .u8 x11f8, .int .u64 x11f9, .int .u64 x11f10, .slice x11A11 x11b11.length x11c11] [.int .u64 x11f1, .int .u64 x11f2, .int .u32 x11f3, .int .u16 x11f4, .int .u16 x11f5, .int .u64 x11f6, .int .u32 x11f7, .int .u8 x11f8, .int .u64 x11f9, .int .u64 x11f10, .slice x11A11 x11b11.length x11c11] rfl rfl rfl rfl rfl rfl (by simp [Value.oneCell']) (Nat.le_of_ble_eq_true rfl) rfl rfl rfl ?_; clear hS; intro w58 hS
                   refine wpList_nil ?_
                   replace hA := hA.sel [0, 9, 10, 11, 12, 14, 18, 46, 47, 48] (e' := [(0, .int .u64 p), (9, .pointer (some ⟨b2, 0, none⟩)), (10, .int .i64 W), (11, .int .i64 T), (12, .slice Ar ls.length cr), (14, .pointer (some ⟨b13, 0, none⟩)), (18, .pointer (some ⟨b56, 0, none⟩)), (46, .slice (some ⟨b9, o10, none⟩) l.length c), (47, .int .i64 ((l.length : Nat) : Int)), (48, .int .i64 ((k : Nat) : Int))]) rfl
                   refine xt_norm ?_
                   refine wp_seq_join (fun a w => ∃ (n0 : Int) (n1 : Int) (n2 : Int) (Ar5 : Option Addr), Has a 334 [(0, .int .u64 p), (9, .pointer (some ⟨b2, 0, none⟩)), (10, .int .i64 W), (11, .int .i64 T), (12, .slice Ar5 ls.length cr), (18, .pointer (some ⟨b56, 0, none⟩)), (46, .slice (some ⟨b9, o10, none⟩) l.length c), (47, .int .i64 ((l.length : Nat) : Int)), (48, .int .i64 ((k : Nat) : Int))] ∧ St w0 w (L :: D :: Cr :: [(b56, rowO [.int .u64 n0, .int .u64 n1, .int .u32 n2, .int .u16 x11f4, .int .u16 x11f5, .int .u64 x11f6, .int .u32 x11f7, .int .u8 x11f8, .int .u64 x11f9, .int .u64 x11f10, .slice x11A11 x11b11.length x11c11] 32)] :: [(b13, rowO [.int .u8 x11f0, .int .u64 x11f1, .int .u64 x11f2, .int .u32 x11f3, .int .u16 x11f4, .int .u16 x11f5, .int .u64 x11f6, .int .u32 x11f7, .int .u8 x11f8, .int .u64 x11f9, .int .u64 x11f10, .slice x11A11 x11b11.length x11c11, .int .u8 x11f14] 51)] :: F) ∧ (0 ≤ n2 ∧ n2 < 4294967296) ∧ (Own 55 25 (.slice Ar5 ls.length cr) ls.length (rows encLCall ls) Cr)) ?_ ?_
                   · refine wp_seq ?_
                     refine wp_region_lit ?_
                     refine st_run tbOk 4 hA (e' := (185, .bool (decide (((ls.length : Nat) : Int) > 0))) :: (184, .bool (decide (((ls.length : Nat) : Int) > 0))) :: (183, .int .i64 ((ls.length : Nat) : Int)) :: (182, .slice Ar ls.length cr) :: _) rfl ?_; clear hA; intro a hA
                     by_cases hc59 : ((ls.length : Nat) : Int) > 0
                     · first
                       | (exfalso; omega)
                       | (replace hA := hA.rw 184 (v' := .bool true) rfl (vb_true hc59)
                          replace hA := hA.rw 185 (v' := .bool true) rfl (vb_true hc59)
                          refine st_run tbOk 1 hA (e' := (186, .pointer (some ⟨b13, 12, none⟩)) :: _) rfl ?_; clear hA; intro a hA
                          refine st_val hA rfl rfl (by decide) (rn_load tbOk hA rfl rfl rfl rfl (cell_row (hS.heapAt 1 rfl) rfl)) ?_; clear hA; intro a hA
                          refine st_run tbOk 1 hA (e' := (188, .int .u8 (x11f14.tmod 4)) :: _) rfl ?_; clear hA; intro a hA
                          replace hA := hA.rw 188 (v' := .int .u8 nr) rfl (by rw [hnr])
                          refine st_run tbOk 2 hA (e' := (190, .bool (decide (nr > 0))) :: (189, .bool (decide (nr > 0))) :: _) rfl ?_; clear hA; intro a hA
                          refine wpList_nil ?_
                          replace hA := hA.sel [0, 9, 10, 11, 12, 14, 18, 46, 47, 48, 190] (e' := [(0, .int .u64 p), (9, .pointer (some ⟨b2, 0, none⟩)), (10, .int .i64 W), (11, .int .i64 T), (12, .slice Ar ls.length cr), (14, .pointer (some ⟨b13, 0, none⟩)), (18, .pointer (some ⟨b56, 0, none⟩)), (46, .slice (some ⟨b9, o10, none⟩) l.length c), (47, .int .i64 ((l.length : Nat) : Int)), (48, .int .i64 ((k : Nat) : Int)), (190, .bool (decide (nr > 0)))]) rfl
                          refine xt_norm ?_
                          by_cases hc60 : nr > 0
                          · first
                            | (exfalso; omega)
                            | (replace hA := hA.rw 190 (v' := .bool true) rfl (vb_true hc60)
                               refine cd_cond_t hA rfl ?_
                               refine wp_seq ?_
                               refine wp_region_lit ?_
                               refine st_run tbOk 2 hA (e' := (192, .pointer (some ⟨b13, 12, none⟩)) :: (191, .slice Ar ls.length cr) :: _) rfl ?_; clear hA; intro a hA
                               refine st_val hA rfl rfl (by decide) (rn_load tbOk hA rfl rfl rfl rfl (cell_row (hS.heapAt 1 rfl) rfl)) ?_; clear hA; intro a hA
                               refine st_run tbOk 1 hA (e' := (194, .int .u8 (IntKind.u8.wrap (x11f14.tdiv 4))) :: _) rfl ?_; clear hA; intro a hA
                               obtain ⟨nq, hnq, hnq2⟩ := u8_nat (x11f14.tdiv 4)
                               replace hA := hA.rw 194 (v' := .int .u8 ((nq : Nat) : Int)) rfl (by rw [hnq])
                               refine st_run tbOk 1 hA (e' := (195, .int .i64 (IntKind.i64.wrap ((nq : Nat) : Int))) :: _) rfl ?_; clear hA; intro a hA
                               replace hA := hA.rw 195 (v' := .int .i64 ((nq : Nat) : Int)) rfl (wr64 (by rfl) (by omega) (by omega))
                               refine st_run tbOk 2 hA (e' := (197, .int .i64 ((ls.length : Nat) : Int)) :: (196, .slice Ar ls.length cr) :: _) rfl ?_; clear hA; intro a hA
                               have hlp : ¬ ((ls.length : Nat) : Int) = 0 := by omega
                               refine st_val hA rfl rfl (by decide) (rn_rem hA rfl rfl rfl (by omega)) ?_; clear hA; intro a hA
                               have hmd61 := Nat.mod_lt nq (show 0 < ls.length by omega)
                               replace hA := hA.rw 198 (v' := .int .i64 ((nq % ls.length : Nat) : Int)) rfl (vint (Int.ofNat_tmod _ _).symm)
                               obtain ⟨b62, o63, rfl⟩ := hR.isSome (k := (nq % ls.length)) (by omega)
                               refine st_val hA rfl rfl (by decide) (rn_indexAddr tbOk hA (nq % ls.length) (o63 + ((nq % ls.length) * 25)) rfl rfl rfl rfl rfl rfl (by rfl) (by omega) (by first | rfl | simp [Nat.mul_one, Nat.zero_add] | omega)) ?_; clear hA; intro a hA
                               obtain ⟨x64, hx64⟩ := get_ex (l := ls) (k := nq % ls.length) (by omega)
                               obtain ⟨x64f0, x64f1, x64f2, x64f3, x64f4, x64f5, x64f6, x64f7, x64f8, x64f9, x64A10, x64c10, x64b10, x64f13, x64f14, x64f15, x64f16, x64f17, x64f18, x64f19, x64f20, x64f21, x64f22, x64A23, x64c23, x64b23, x64f26, x64f27, x64f28⟩ := x64
                               have hd65 := (fun x hx => hdr x hx D) _ (List.mem_of_getElem? hx64)
                               refine st_val hA rfl rfl (by decide) (rn_loadA tbOk hA ([.int .u64 x64f0, .int .u64 x64f1, .int .u32 x64f2, .int .u16 x64f3, .int .u16 x64f4, .int .u64 x64f5, .int .u32 x64f6, .int .u8 x64f7, .int .u64 x64f8, .int .u64 x64f9, .slice x64A10 x64b10.length x64c10, .int .u64 x64f13, .int .u64 x64f14, .int .u32 x64f15, .int .u16 x64f16, .int .u16 x64f17, .int .u64 x64f18, .int .u32 x64f19, .int .u8 x64f20, .int .u64 x64f21, .int .u64 x64f22, .slice x64A23 x64b23.length x64c23, .int .i64 x64f26, .int .i64 x64f27, .int .i64 x64f28]) rfl rfl rfl rfl (by rfl) ((hR.rd (hS.own_ 4 rfl)).elem (k := nq % ls.length) encLCall_ok hx64)) ?_; clear hA; intro a hA
                               refine st_alloc tbOk hA hS [.int .u64 0, .int .u64 0, .int .u32 0, .int .u16 0, .int .u16 0, .int .u64 0, .int .u32 0, .int .u8 0, .int .u64 0, .int .u64 0, .slice none 0 0, .int .u64 0, .int .u64 0, .int .u32 0, .int .u16 0, .int .u16 0, .int .u64 0, .int .u32 0, .int .u8 0, .int .u64 0, .int .u64 0, .slice none 0 0, .int .i64 0, .int .i64 0, .int .i64 0] rfl rfl rfl rfl rfl (by decide) ?_; clear hA hS; intro b66 w67 a hS hA
                               refine st_store tbOk hA hS [.int .u64 x64f0, .int .u64 x64f1, .int .u32 x64f2, .int .u16 x64f3, .int .u16 x64f4, .int .u64 x64f5, .int .u32 x64f6, .int .u8 x64f7, .int .u64 x64f8, .int .u64 x64f9, .slice x64A10 x64b10.length x64c10, .int .u64 x64f13, .int .u64 x64f14, .int .u32 x64f15, .int .u16 x64f16, .int .u16 x64f17, .int .u64 x64f18, .int .u32 x64f19, .int .u8 x64f20, .int .u64 x64f21, .int .u64 x64f22, .slice x64A23 x64b23.length x64c23, .int .i64 x64f26, .int .i64 x64f27, .int .i64 x64f28] [.int .u64 x64f0, .int .u64 x64f1, .int .u32 x64f2, .int .u16 x64f3, .int .u16 x64f4, .int .u64 x64f5, .int .u32 x64f6, .int .u8 x64f7, .int .u64 x64f8, .int .u64 x64f9, .slice x64A10 x64b10.length x64c10, .int .u64 x64f13, .int .u64 x64f14, .int .u32 x64f15, .int .u16 x64f16, .int .u16 x64f17, .int .u64 x64f18, .int .u32 x64f19, .int .u8 x64f20, .int .u64 x64f21, .int .u64 x64f22, .slice x64A23 x64b23.length x64c23, .int .i64 x64f26, .int .i64 x64f27, .int .i64 x64f28] rfl rfl rfl rfl rfl rfl (by simp [Value.oneCell']) (Nat.le_of_ble_eq_true rfl) rfl rfl rfl ?_; clear hS; intro w68 hS
                               refine wpList_nil ?_
                               replace hA := hA.sel [0, 9, 10, 11, 12, 14, 18, 19, 46, 47, 48] (e' := [(0, .int .u64 p), (9, .pointer (some ⟨b2, 0, none⟩)), (10, .int .i64 W), (11, .int .i64 T), (12, .slice (some ⟨b62, o63, none⟩) ls.length cr), (14, .pointer (some ⟨b13, 0, none⟩)), (18, .pointer (some ⟨b56, 0, none⟩)), (19, .pointer (some ⟨b66, 0, none⟩)), (46, .slice (some ⟨b9, o10, none⟩) l.length c), (47, .int .i64 ((l.length : Nat) : Int)), (48, .int .i64 ((k : Nat) : Int))]) rfl
                               refine xt_norm ?_
                               refine wp_seq ?_
                               replace hS := hS.front 1 (C := [(b56, rowO [.int .u64 x11f1, .int .u64 x11f2, .int .u32 x11f3, .int .u16 x11f4, .int .u16 x11f5, .int .u64 x11f6, .int .u32 x11f7, .int .u8 x11f8, .int .u64 x11f9, .int .u64 x11f10, .slice x11A11 x11b11.length x11c11] 32)]) (L' := [(b66, rowO [.int .u64 x64f0, .int .u64 x64f1, .int .u32 x64f2, .int .u16 x64f3, .int .u16 x64f4, .int .u64 x64f5, .int .u32 x64f6, .int .u8 x64f7, .int .u64 x64f8, .int .u64 x64f9, .slice x64A10 x64b10.length x64c10, .int .u64 x64f13, .int .u64 x64f14, .int .u32 x64f15, .int .u16 x64f16, .int .u16 x64f17, .int .u64 x64f18, .int .u32 x64f19, .int .u8 x64f20, .int .u64 x64f21, .int .u64 x64f22, .slice x64A23 x64b23.length x64c23, .int .i64 x64f26, .int .i64 x64f27, .int .i64 x64f28] 55)] :: [(b13, rowO [.int .u8 x11f0, .int .u64 x11f1, .int .u64 x11f2, .int .u32 x11f3, .int .u16 x11f4, .int .u16 x11f5, .int .u64 x11f6, .int .u32 x11f7, .int .u8 x11f8, .int .u64 x11f9, .int .u64 x11f10, .slice x11A11 x11b11.length x11c11, .int .u8 x11f14] 51)] :: L :: D :: Cr :: F) rfl rfl
                               refine wp_draw (fun w' => St w0 w' ([(b66, rowO [.int .u64 x64f0, .int .u64 x64f1, .int .u32 x64f2, .int .u16 x64f3, .int .u16 x64f4, .int .u64 x64f5, .int .u32 x64f6, .int .u8 x64f7, .int .u64 x64f8, .int .u64 x64f9, .slice x64A10 x64b10.length x64c10, .int .u64 x64f13, .int .u64 x64f14, .int .u32 x64f15, .int .u16 x64f16, .int .u16 x64f17, .int .u64 x64f18, .int .u32 x64f19, .int .u8 x64f20, .int .u64 x64f21, .int .u64 x64f22, .slice x64A23 x64b23.length x64c23, .int .i64 x64f26, .int .i64 x64f27, .int .i64 x64f28] 55)] :: [(b13, rowO [.int .u8 x11f0, .int .u64 x11f1, .int .u64 x11f2, .int .u32 x11f3, .int .u16 x11f4, .int .u16 x11f5, .int .u64 x11f6, .int .u32 x11f7, .int .u8 x11f8, .int .u64 x11f9, .int .u64 x11f10, .slice x11A11 x11b11.length x11c11, .int .u8 x11f14] 51)] :: L :: D :: Cr :: F)) [] [(0, true), (1, true), (2, true), (3, true), (4, true), (5, true), (6, true), (7, true), (8, false), (9, true), (10, false), (11, true), (12, false)] mixed (by kernel_rfl) (by rintro c a w ⟨_, _, h, _⟩; cases h) (by rfl) (by kernel_rfl) ?_
                               replace hS := hS.drew
                               obtain ⟨x9, hx9⟩ := get_ex (l := cs) (k := nq % ls.length) (by omega)
                               have hi9 := (hI.at_ _ _ _ hx9 hx64).i; dsimp only [lrq] at hi9
                               have hk9 := (List.getElem?_eq_some_iff.1 hx64).1
                               refine dr_run tbOk 2 hA (hS.tail 1 rfl) (e' := (202, .pointer (some ⟨b66, 2, none⟩)) :: (201, .pointer (some ⟨b66, 0, none⟩)) :: _) rfl ?_; clear hA; intro a hA
                               refine dr_y hA rfl rfl rfl (by decide) (hS.tail 1 rfl) (fun w' hS' => rn_load tbOk hA rfl rfl rfl rfl (cell_row (hS'.heapAt 0 rfl) rfl)) ?_; clear hA; intro a hA
                               refine dr_run tbOk 3 hA (hS.tail 1 rfl) (e' := (206, .pointer (some ⟨b66, 0, none⟩)) :: (205, .pointer (some ⟨b66, 0, none⟩)) :: (204, .int .u64 p) :: _) rfl ?_; clear hA; intro a hA
                               refine dr_y hA rfl rfl rfl (by decide) (hS.tail 1 rfl) (fun w' hS' => rn_load tbOk hA rfl rfl rfl rfl (cell_row (hS'.heapAt 0 rfl) rfl)) ?_; clear hA; intro a hA
                               refine dr_run tbOk 1 hA (hS.tail 1 rfl) (e' := (208, .pointer (some ⟨b56, 2, none⟩)) :: _) rfl ?_; clear hA; intro a hA
                               refine dr_b (o := _) rfl ?_
                               refine st_store tbOk hA hS [.int .u32 x64f2] [.int .u64 x11f1, .int .u64 x11f2, .int .u32 x64f2, .int .u16 x11f4, .int .u16 x11f5, .int .u64 x11f6, .int .u32 x11f7, .int .u8 x11f8, .int .u64 x11f9, .int .u64 x11f10, .slice x11A11 x11b11.length x11c11] rfl rfl rfl rfl rfl rfl (by intro u hu; rw [List.mem_singleton.1 hu]; rfl) (Nat.le_of_ble_eq_true rfl) rfl rfl rfl ?_; clear hS; intro w69 hS
                               refine dr_nil (.inr (hS.tail 1 rfl)) ?_
                               refine dr_run tbOk 1 hA (hS.tail 1 rfl) (e' := (209, .pointer (some ⟨b56, 0, none⟩)) :: _) rfl ?_; clear hA; intro a hA
                               refine dr_b (o := _) rfl ?_
                               refine st_store tbOk hA hS [.int .u64 p] [.int .u64 p, .int .u64 x11f2, .int .u32 x64f2, .int .u16 x11f4, .int .u16 x11f5, .int .u64 x11f6, .int .u32 x11f7, .int .u8 x11f8, .int .u64 x11f9, .int .u64 x11f10, .slice x11A11 x11b11.length x11c11] rfl rfl rfl rfl rfl rfl (by intro u hu; rw [List.mem_singleton.1 hu]; rfl) (Nat.le_of_ble_eq_true rfl) rfl rfl rfl ?_; clear hS; intro w70 hS
                               refine dr_nil (.inr (hS.tail 1 rfl)) ?_
                               refine dr_run tbOk 1 hA (hS.tail 1 rfl) (e' := (210, .pointer (some ⟨b56, 1, none⟩)) :: _) rfl ?_; clear hA; intro a hA
                               refine dr_b (o := _) rfl ?_
                               refine st_store tbOk hA hS [.int .u64 x64f0] [.int .u64 p, .int .u64 x64f0, .int .u32 x64f2, .int .u16 x11f4, .int .u16 x11f5, .int .u64 x11f6, .int .u32 x11f7, .int .u8 x11f8, .int .u64 x11f9, .int .u64 x11f10, .slice x11A11 x11b11.length x11c11] rfl rfl rfl rfl rfl rfl (by intro u hu; rw [List.mem_singleton.1 hu]; rfl) (Nat.le_of_ble_eq_true rfl) rfl rfl rfl ?_; clear hS; intro w71 hS
                               refine dr_nil (.inr (hS.tail 1 rfl)) ?_
                               refine dr_end ?_
                               replace hA := hA.sel [0, 9, 10, 11, 12, 14, 18, 46, 47, 48] (e' := [(0, .int .u64 p), (9, .pointer (some ⟨b2, 0, none⟩)), (10, .int .i64 W), (11, .int .i64 T), (12, .slice (some ⟨b62, o63, none⟩) ls.length cr), (14, .pointer (some ⟨b13, 0, none⟩)), (18, .pointer (some ⟨b56, 0, none⟩)), (46, .slice (some ⟨b9, o10, none⟩) l.length c), (47, .int .i64 ((l.length : Nat) : Int)), (48, .int .i64 ((k : Nat) : Int))]) rfl
                               refine xt_norm ?_
                               refine wp_seq ?_
                               refine wp_region_lit ?_
                               refine st_run tbOk 1 hA (e' := (211, .pointer (some ⟨b13, 12, none⟩)) :: _) rfl ?_; clear hA; intro a hA
                               refine st_val hA rfl rfl (by decide) (rn_load tbOk hA rfl rfl rfl rfl (cell_row (hS.heapAt 2 rfl) rfl)) ?_; clear hA; intro a hA
                               refine st_run tbOk 1 hA (e' := (213, .int .u8 (x11f14.tmod 4)) :: _) rfl ?_; clear hA; intro a hA
                               replace hA := hA.rw 213 (v' := .int .u8 nr) rfl (by rw [hnr])
                               refine st_run tbOk 1 hA (e' := (214, .bool (nr == 1)) :: _) rfl ?_; clear hA; intro a hA
                               refine wpList_nil ?_
                               replace hA := hA.sel [0, 9, 10, 11, 12, 18, 46, 47, 48, 214] (e' := [(0, .int .u64 p), (9, .pointer (some ⟨b2, 0, none⟩)), (10, .int .i64 W), (11, .int .i64 T), (12, .slice (some ⟨b62, o63, none⟩) ls.length cr), (18, .pointer (some ⟨b56, 0, none⟩)), (46, .slice (some ⟨b9, o10, none⟩) l.length c), (47, .int .i64 ((l.length : Nat) : Int)), (48, .int .i64 ((k : Nat) : Int)), (214, .bool (nr == 1))]) rfl
                               refine xt_norm ?_
                               by_cases hc72 : nr = 1
                               · first
                                 | (exfalso; omega)
                                 | (replace hA := hA.rw 214 (v' := .bool true) rfl (vb_eq_t hc72)
                                    refine cd_cond_t hA rfl ?_
                                    refine wp_region_lit ?_
                                    refine st_run tbOk 1 hA (e' := (215, .pointer (some ⟨b56, 1, none⟩)) :: _) rfl ?_; clear hA; intro a hA
                                    refine st_val hA rfl rfl (by decide) (rn_load tbOk hA rfl rfl rfl rfl (cell_row (hS.heapAt 0 rfl) rfl)) ?_; clear hA; intro a hA
                                    have hu9 := u64_rng (x64f0 + 1)
                                    refine st_run tbOk 1 hA (e' := (217, .int .u64 (IntKind.u64.wrap (x64f0 + 1))) :: _) rfl ?_; clear hA; intro a hA
                                    refine st_run tbOk 1 hA (e' := (218, .pointer (some ⟨b56, 1, none⟩)) :: _) rfl ?_; clear hA; intro a hA
                                    refine st_store tbOk hA hS [.int .u64 (IntKind.u64.wrap (x64f0 + 1))] [.int .u64 p, .int .u64 (IntKind.u64.wrap (x64f0 + 1)), .int .u32 x64f2, .int .u16 x11f4, .int .u16 x11f5, .int .u64 x11f6, .int .u32 x11f7, .int .u8 x11f8, .int .u64 x11f9, .int .u64 x11f10, .slice x11A11 x11b11.length x11c11] rfl rfl rfl rfl rfl rfl (by intro u hu; rw [List.mem_singleton.1 hu]; rfl) (Nat.le_of_ble_eq_true rfl) rfl rfl rfl ?_; clear hS; intro w73 hS
                                    refine wpList_nil ?_
                                    replace hA := hA.sel [0, 9, 10, 11, 12, 18, 46, 47, 48] (e' := [(0, .int .u64 p), (9, .pointer (some ⟨b2, 0, none⟩)), (10, .int .i64 W), (11, .int .i64 T), (12, .slice (some ⟨b62, o63, none⟩) ls.length cr), (18, .pointer (some ⟨b56, 0, none⟩)), (46, .slice (some ⟨b9, o10, none⟩) l.length c), (47, .int .i64 ((l.length : Nat) : Int)), (48, .int .i64 ((k : Nat) : Int))]) rfl
                                    refine xt_norm ?_
                                    replace hS := hS.front 1 (C := [(b66, rowO [.int .u64 x64f0, .int .u64 x64f1, .int .u32 x64f2, .int .u16 x64f3, .int .u16 x64f4, .int .u64 x64f5, .int .u32 x64f6, .int .u8 x64f7, .int .u64 x64f8, .int .u64 x64f9, .slice x64A10 x64b10.length x64c10, .int .u64 x64f13, .int .u64 x64f14, .int .u32 x64f15, .int .u16 x64f16, .int .u16 x64f17, .int .u64 x64f18, .int .u32 x64f19, .int .u8 x64f20, .int .u64 x64f21, .int .u64 x64f22, .slice x64A23 x64b23.length x64c23, .int .i64 x64f26, .int .i64 x64f27, .int .i64 x64f28] 55)]) (L' := [(b56, rowO [.int .u64 p, .int .u64 (IntKind.u64.wrap (x64f0 + 1)), .int .u32 x64f2, .int .u16 x11f4, .int .u16 x11f5, .int .u64 x11f6, .int .u32 x11f7, .int .u8 x11f8, .int .u64 x11f9, .int .u64 x11f10, .slice x11A11 x11b11.length x11c11] 32)] :: [(b13, rowO [.int .u8 x11f0, .int .u64 x11f1, .int .u64 x11f2, .int .u32 x11f3, .int .u16 x11f4, .int .u16 x11f5, .int .u64 x11f6, .int .u32 x11f7, .int .u8 x11f8, .int .u64 x11f9, .int .u64 x11f10, .slice x11A11 x11b11.length x11c11, .int .u8 x11f14] 51)] :: L :: D :: Cr :: F) rfl rfl
                                    replace hS := hS.drop1
                                    replace hS := hS.front 1 (C := [(b13, rowO [.int .u8 x11f0, .int .u64 x11f1, .int .u64 x11f2, .int .u32 x11f3, .int .u16 x11f4, .int .u16 x11f5, .int .u64 x11f6, .int .u32 x11f7, .int .u8 x11f8, .int .u64 x11f9, .int .u64 x11f10, .slice x11A11 x11b11.length x11c11, .int .u8 x11f14] 51)]) (L' := [(b56, rowO [.int .u64 p, .int .u64 (IntKind.u64.wrap (x64f0 + 1)), .int .u32 x64f2, .int .u16 x11f4, .int .u16 x11f5, .int .u64 x11f6, .int .u32 x11f7, .int .u8 x11f8, .int .u64 x11f9, .int .u64 x11f10, .slice x11A11 x11b11.length x11c11] 32)] :: L :: D :: Cr :: F) rfl rfl
                                    replace hS := hS.front 1 (C := [(b56, rowO [.int .u64 p, .int .u64 (IntKind.u64.wrap (x64f0 + 1)), .int .u32 x64f2, .int .u16 x11f4, .int .u16 x11f5, .int .u64 x11f6, .int .u32 x11f7, .int .u8 x11f8, .int .u64 x11f9, .int .u64 x11f10, .slice x11A11 x11b11.length x11c11] 32)]) (L' := [(b13, rowO [.int .u8 x11f0, .int .u64 x11f1, .int .u64 x11f2, .int .u32 x11f3, .int .u16 x11f4, .int .u16 x11f5, .int .u64 x11f6, .int .u32 x11f7, .int .u8 x11f8, .int .u64 x11f9, .int .u64 x11f10, .slice x11A11 x11b11.length x11c11, .int .u8 x11f14] 51)] :: L :: D :: Cr :: F) rfl rfl
                                    replace hS := hS.front 4 (C := Cr) (L' := [(b56, rowO [.int .u64 p, .int .u64 (IntKind.u64.wrap (x64f0 + 1)), .int .u32 x64f2, .int .u16 x11f4, .int .u16 x11f5, .int .u64 x11f6, .int .u32 x11f7, .int .u8 x11f8, .int .u64 x11f9, .int .u64 x11f10, .slice x11A11 x11b11.length x11c11] 32)] :: [(b13, rowO [.int .u8 x11f0, .int .u64 x11f1, .int .u64 x11f2, .int .u32 x11f3, .int .u16 x11f4, .int .u16 x11f5, .int .u64 x11f6, .int .u32 x11f7, .int .u8 x11f8, .int .u64 x11f9, .int .u64 x11f10, .slice x11A11 x11b11.length x11c11, .int .u8 x11f14] 51)] :: L :: D :: F) rfl rfl
                                    replace hS := hS.front 4 (C := D) (L' := Cr :: [(b56, rowO [.int .u64 p, .int .u64 (IntKind.u64.wrap (x64f0 + 1)), .int .u32 x64f2, .int .u16 x11f4, .int .u16 x11f5, .int .u64 x11f6, .int .u32 x11f7, .int .u8 x11f8, .int .u64 x11f9, .int .u64 x11f10, .slice x11A11 x11b11.length x11c11] 32)] :: [(b13, rowO [.int .u8 x11f0, .int .u64 x11f1, .int .u64 x11f2, .int .u32 x11f3, .int .u16 x11f4, .int .u16 x11f5, .int .u64 x11f6, .int .u32 x11f7, .int .u8 x11f8, .int .u64 x11f9, .int .u64 x11f10, .slice x11A11 x11b11.length x11c11, .int .u8 x11f14] 51)] :: L :: F) rfl rfl
                                    replace hS := hS.front 4 (C := L) (L' := D :: Cr :: [(b56, rowO [.int .u64 p, .int .u64 (IntKind.u64.wrap (x64f0 + 1)), .int .u32 x64f2, .int .u16 x11f4, .int .u16 x11f5, .int .u64 x11f6, .int .u32 x11f7, .int .u8 x11f8, .int .u64 x11f9, .int .u64 x11f10, .slice x11A11 x11b11.length x11c11] 32)] :: [(b13, rowO [.int .u8 x11f0, .int .u64 x11f1, .int .u64 x11f2, .int .u32 x11f3, .int .u16 x11f4, .int .u16 x11f5, .int .u64 x11f6, .int .u32 x11f7, .int .u8 x11f8, .int .u64 x11f9, .int .u64 x11f10, .slice x11A11 x11b11.length x11c11, .int .u8 x11f14] 51)] :: F) rfl rfl
                                    exact ⟨p, (IntKind.u64.wrap (x64f0 + 1)), x64f2, (some ⟨b62, o63, none⟩), (hA.sel [0, 9, 10, 11, 12, 18, 46, 47, 48] rfl), hS, by omega, hR⟩)
                               · first
                                 | (exfalso; omega)
                                 | (replace hA := hA.rw 214 (v' := .bool false) rfl (vb_eq_f hc72)
                                    refine cd_cond_f hA rfl ?_
                                    refine wp_skip ?_
                                    refine xt_norm ?_
                                    replace hS := hS.front 1 (C := [(b66, rowO [.int .u64 x64f0, .int .u64 x64f1, .int .u32 x64f2, .int .u16 x64f3, .int .u16 x64f4, .int .u64 x64f5, .int .u32 x64f6, .int .u8 x64f7, .int .u64 x64f8, .int .u64 x64f9, .slice x64A10 x64b10.length x64c10, .int .u64 x64f13, .int .u64 x64f14, .int .u32 x64f15, .int .u16 x64f16, .int .u16 x64f17, .int .u64 x64f18, .int .u32 x64f19, .int .u8 x64f20, .int .u64 x64f21, .int .u64 x64f22, .slice x64A23 x64b23.length x64c23, .int .i64 x64f26, .int .i64 x64f27, .int .i64 x64f28] 55)]) (L' := [(b56, rowO [.int .u64 p, .int .u64 x64f0, .int .u32 x64f2, .int .u16 x11f4, .int .u16 x11f5, .int .u64 x11f6, .int .u32 x11f7, .int .u8 x11f8, .int .u64 x11f9, .int .u64 x11f10, .slice x11A11 x11b11.length x11c11] 32)] :: [(b13, rowO [.int .u8 x11f0, .int .u64 x11f1, .int .u64 x11f2, .int .u32 x11f3, .int .u16 x11f4, .int .u16 x11f5, .int .u64 x11f6, .int .u32 x11f7, .int .u8 x11f8, .int .u64 x11f9, .int .u64 x11f10, .slice x11A11 x11b11.length x11c11, .int .u8 x11f14] 51)] :: L :: D :: Cr :: F) rfl rfl
                                    replace hS := hS.drop1
                                    replace hS := hS.front 1 (C := [(b13, rowO [.int .u8 x11f0, .int .u64 x11f1, .int .u64 x11f2, .int .u32 x11f3, .int .u16 x11f4, .int .u16 x11f5, .int .u64 x11f6, .int .u32 x11f7, .int .u8 x11f8, .int .u64 x11f9, .int .u64 x11f10, .slice x11A11 x11b11.length x11c11, .int .u8 x11f14] 51)]) (L' := [(b56, rowO [.int .u64 p, .int .u64 x64f0, .int .u32 x64f2, .int .u16 x11f4, .int .u16 x11f5, .int .u64 x11f6, .int .u32 x11f7, .int .u8 x11f8, .int .u64 x11f9, .int .u64 x11f10, .slice x11A11 x11b11.length x11c11] 32)] :: L :: D :: Cr :: F) rfl rfl
                                    replace hS := hS.front 1 (C := [(b56, rowO [.int .u64 p, .int .u64 x64f0, .int .u32 x64f2, .int .u16 x11f4, .int .u16 x11f5, .int .u64 x11f6, .int .u32 x11f7, .int .u8 x11f8, .int .u64 x11f9, .int .u64 x11f10, .slice x11A11 x11b11.length x11c11] 32)]) (L' := [(b13, rowO [.int .u8 x11f0, .int .u64 x11f1, .int .u64 x11f2, .int .u32 x11f3, .int .u16 x11f4, .int .u16 x11f5, .int .u64 x11f6, .int .u32 x11f7, .int .u8 x11f8, .int .u64 x11f9, .int .u64 x11f10, .slice x11A11 x11b11.length x11c11, .int .u8 x11f14] 51)] :: L :: D :: Cr :: F) rfl rfl
                                    replace hS := hS.front 4 (C := Cr) (L' := [(b56, rowO [.int .u64 p, .int .u64 x64f0, .int .u32 x64f2, .int .u16 x11f4, .int .u16 x11f5, .int .u64 x11f6, .int .u32 x11f7, .int .u8 x11f8, .int .u64 x11f9, .int .u64 x11f10, .slice x11A11 x11b11.length x11c11] 32)] :: [(b13, rowO [.int .u8 x11f0, .int .u64 x11f1, .int .u64 x11f2, .int .u32 x11f3, .int .u16 x11f4, .int .u16 x11f5, .int .u64 x11f6, .int .u32 x11f7, .int .u8 x11f8, .int .u64 x11f9, .int .u64 x11f10, .slice x11A11 x11b11.length x11c11, .int .u8 x11f14] 51)] :: L :: D :: F) rfl rfl
                                    replace hS := hS.front 4 (C := D) (L' := Cr :: [(b56, rowO [.int .u64 p, .int .u64 x64f0, .int .u32 x64f2, .int .u16 x11f4, .int .u16 x11f5, .int .u64 x11f6, .int .u32 x11f7, .int .u8 x11f8, .int .u64 x11f9, .int .u64 x11f10, .slice x11A11 x11b11.length x11c11] 32)] :: [(b13, rowO [.int .u8 x11f0, .int .u64 x11f1, .int .u64 x11f2, .int .u32 x11f3, .int .u16 x11f4, .int .u16 x11f5, .int .u64 x11f6, .int .u32 x11f7, .int .u8 x11f8, .int .u64 x11f9, .int .u64 x11f10, .slice x11A11 x11b11.length x11c11, .int .u8 x11f14] 51)] :: L :: F) rfl rfl
                                    replace hS := hS.front 4 (C := L) (L' := D :: Cr :: [(b56, rowO [.int .u64 p, .int .u64 x64f0, .int .u32 x64f2, .int .u16 x11f4, .int .u16 x11f5, .int .u64 x11f6, .int .u32 x11f7, .int .u8 x11f8, .int .u64 x11f9, .int .u64 x11f10, .slice x11A11 x11b11.length x11c11] 32)] :: [(b13, rowO [.int .u8 x11f0, .int .u64 x11f1, .int .u64 x11f2, .int .u32 x11f3, .int .u16 x11f4, .int .u16 x11f5, .int .u64 x11f6, .int .u32 x11f7, .int .u8 x11f8, .int .u64 x11f9, .int .u64 x11f10, .slice x11A11 x11b11.length x11c11, .int .u8 x11f14] 51)] :: F) rfl rfl
                                    exact ⟨p, x64f0, x64f2, (some ⟨b62, o63, none⟩), (hA.sel [0, 9, 10, 11, 12, 18, 46, 47, 48] rfl), hS, by omega, hR⟩))
                          · first
                            | (exfalso; omega)
                            | (replace hA := hA.rw 190 (v' := .bool false) rfl (vb_false hc60)
                               refine cd_cond_f hA rfl ?_
                               refine wp_skip ?_
                               refine xt_norm ?_
                               replace hS := hS.front 1 (C := [(b13, rowO [.int .u8 x11f0, .int .u64 x11f1, .int .u64 x11f2, .int .u32 x11f3, .int .u16 x11f4, .int .u16 x11f5, .int .u64 x11f6, .int .u32 x11f7, .int .u8 x11f8, .int .u64 x11f9, .int .u64 x11f10, .slice x11A11 x11b11.length x11c11, .int .u8 x11f14] 51)]) (L' := [(b56, rowO [.int .u64 x11f1, .int .u64 x11f2, .int .u32 x11f3, .int .u16 x11f4, .int .u16 x11f5, .int .u64 x11f6, .int .u32 x11f7, .int .u8 x11f8, .int .u64 x11f9, .int .u64 x11f10, .slice x11A11 x11b11.length x11c11] 32)] :: L :: D :: Cr :: F) rfl rfl
                               replace hS := hS.front 1 (C := [(b56, rowO [.int .u64 x11f1, .int .u64 x11f2, .int .u32 x11f3, .int .u16 x11f4, .int .u16 x11f5, .int .u64 x11f6, .int .u32 x11f7, .int .u8 x11f8, .int .u64 x11f9, .int .u64 x11f10, .slice x11A11 x11b11.length x11c11] 32)]) (L' := [(b13, rowO [.int .u8 x11f0, .int .u64 x11f1, .int .u64 x11f2, .int .u32 x11f3, .int .u16 x11f4, .int .u16 x11f5, .int .u64 x11f6, .int .u32 x11f7, .int .u8 x11f8, .int .u64 x11f9, .int .u64 x11f10, .slice x11A11 x11b11.length x11c11, .int .u8 x11f14] 51)] :: L :: D :: Cr :: F) rfl rfl
                               replace hS := hS.front 4 (C := Cr) (L' := [(b56, rowO [.int .u64 x11f1, .int .u64 x11f2, .int .u32 x11f3, .int .u16 x11f4, .int .u16 x11f5, .int .u64 x11f6, .int .u32 x11f7, .int .u8 x11f8, .int .u64 x11f9, .int .u64 x11f10, .slice x11A11 x11b11.length x11c11] 32)] :: [(b13, rowO [.int .u8 x11f0, .int .u64 x11f1, .int .u64 x11f2, .int .u32 x11f3, .int .u16 x11f4, .int .u16 x11f5, .int .u64 x11f6, .int .u32 x11f7, .int .u8 x11f8, .int .u64 x11f9, .int .u64 x11f10, .slice x11A11 x11b11.length x11c11, .int .u8 x11f14] 51)] :: L :: D :: F) rfl rfl
                               replace hS := hS.front 4 (C := D) (L' := Cr :: [(b56, rowO [.int .u64 x11f1, .int .u64 x11f2, .int .u32 x11f3, .int .u16 x11f4, .int .u16 x11f5, .int .u64 x11f6, .int .u32 x11f7, .int .u8 x11f8, .int .u64 x11f9, .int .u64 x11f10, .slice x11A11 x11b11.length x11c11] 32)] :: [(b13, rowO [.int .u8 x11f0, .int .u64 x11f1, .int .u64 x11f2, .int .u32 x11f3, .int .u16 x11f4, .int .u16 x11f5, .int .u64 x11f6, .int .u32 x11f7, .int .u8 x11f8, .int .u64 x11f9, .int .u64 x11f10, .slice x11A11 x11b11.length x11c11, .int .u8 x11f14] 51)] :: L :: F) rfl rfl
                               replace hS := hS.front 4 (C := L) (L' := D :: Cr :: [(b56, rowO [.int .u64 x11f1, .int .u64 x11f2, .int .u32 x11f3, .int .u16 x11f4, .int .u16 x11f5, .int .u64 x11f6, .int .u32 x11f7, .int .u8 x11f8, .int .u64 x11f9, .int .u64 x11f10, .slice x11A11 x11b11.length x11c11] 32)] :: [(b13, rowO [.int .u8 x11f0, .int .u64 x11f1, .int .u64 x11f2, .int .u32 x11f3, .int .u16 x11f4, .int .u16 x11f5, .int .u64 x11f6, .int .u32 x11f7, .int .u8 x11f8, .int .u64 x11f9, .int .u64 x11f10, .slice x11A11 x11b11.length x11c11, .int .u8 x11f14] 51)] :: F) rfl rfl
                               exact ⟨x11f1, x11f2, x11f3, Ar, (hA.sel [0, 9, 10, 11, 12, 18, 46, 47, 48] rfl), hS, by omega, hR⟩))
                     · first
                       | (exfalso; omega)
                       | (replace hA := hA.rw 184 (v' := .bool false) rfl (vb_false hc59)
                          replace hA := hA.rw 185 (v' := .bool false) rfl (vb_false hc59)
                          refine st_run tbOk 3 hA (e' := (188, undef) :: (187, undef) :: (186, undef) :: _) rfl ?_; clear hA; intro a hA
                          refine st_run tbOk 2 hA (e' := (190, .bool false) :: (189, undef) :: _) rfl ?_; clear hA; intro a hA
                          refine wpList_nil ?_
                          replace hA := hA.sel [0, 9, 10, 11, 12, 14, 18, 46, 47, 48, 190] (e' := [(0, .int .u64 p), (9, .pointer (some ⟨b2, 0, none⟩)), (10, .int .i64 W), (11, .int .i64 T), (12, .slice Ar ls.length cr), (14, .pointer (some ⟨b13, 0, none⟩)), (18, .pointer (some ⟨b56, 0, none⟩)), (46, .slice (some ⟨b9, o10, none⟩) l.length c), (47, .int .i64 ((l.length : Nat) : Int)), (48, .int .i64 ((k : Nat) : Int)), (190, .bool false)]) rfl
                          refine xt_norm ?_
                          refine cd_cond_f hA rfl ?_
                          refine wp_skip ?_
                          refine xt_norm ?_
                          replace hS := hS.front 1 (C := [(b13, rowO [.int .u8 x11f0, .int .u64 x11f1, .int .u64 x11f2, .int .u32 x11f3, .int .u16 x11f4, .int .u16 x11f5, .int .u64 x11f6, .int .u32 x11f7, .int .u8 x11f8, .int .u64 x11f9, .int .u64 x11f10, .slice x11A11 x11b11.length x11c11, .int .u8 x11f14] 51)]) (L' := [(b56, rowO [.int .u64 x11f1, .int .u64 x11f2, .int .u32 x11f3, .int .u16 x11f4, .int .u16 x11f5, .int .u64 x11f6, .int .u32 x11f7, .int .u8 x11f8, .int .u64 x11f9, .int .u64 x11f10, .slice x11A11 x11b11.length x11c11] 32)] :: L :: D :: Cr :: F) rfl rfl
                          replace hS := hS.front 1 (C := [(b56, rowO [.int .u64 x11f1, .int .u64 x11f2, .int .u32 x11f3, .int .u16 x11f4, .int .u16 x11f5, .int .u64 x11f6, .int .u32 x11f7, .int .u8 x11f8, .int .u64 x11f9, .int .u64 x11f10, .slice x11A11 x11b11.length x11c11] 32)]) (L' := [(b13, rowO [.int .u8 x11f0, .int .u64 x11f1, .int .u64 x11f2, .int .u32 x11f3, .int .u16 x11f4, .int .u16 x11f5, .int .u64 x11f6, .int .u32 x11f7, .int .u8 x11f8, .int .u64 x11f9, .int .u64 x11f10, .slice x11A11 x11b11.length x11c11, .int .u8 x11f14] 51)] :: L :: D :: Cr :: F) rfl rfl
                          replace hS := hS.front 4 (C := Cr) (L' := [(b56, rowO [.int .u64 x11f1, .int .u64 x11f2, .int .u32 x11f3, .int .u16 x11f4, .int .u16 x11f5, .int .u64 x11f6, .int .u32 x11f7, .int .u8 x11f8, .int .u64 x11f9, .int .u64 x11f10, .slice x11A11 x11b11.length x11c11] 32)] :: [(b13, rowO [.int .u8 x11f0, .int .u64 x11f1, .int .u64 x11f2, .int .u32 x11f3, .int .u16 x11f4, .int .u16 x11f5, .int .u64 x11f6, .int .u32 x11f7, .int .u8 x11f8, .int .u64 x11f9, .int .u64 x11f10, .slice x11A11 x11b11.length x11c11, .int .u8 x11f14] 51)] :: L :: D :: F) rfl rfl
                          replace hS := hS.front 4 (C := D) (L' := Cr :: [(b56, rowO [.int .u64 x11f1, .int .u64 x11f2, .int .u32 x11f3, .int .u16 x11f4, .int .u16 x11f5, .int .u64 x11f6, .int .u32 x11f7, .int .u8 x11f8, .int .u64 x11f9, .int .u64 x11f10, .slice x11A11 x11b11.length x11c11] 32)] :: [(b13, rowO [.int .u8 x11f0, .int .u64 x11f1, .int .u64 x11f2, .int .u32 x11f3, .int .u16 x11f4, .int .u16 x11f5, .int .u64 x11f6, .int .u32 x11f7, .int .u8 x11f8, .int .u64 x11f9, .int .u64 x11f10, .slice x11A11 x11b11.length x11c11, .int .u8 x11f14] 51)] :: L :: F) rfl rfl
                          replace hS := hS.front 4 (C := L) (L' := D :: Cr :: [(b56, rowO [.int .u64 x11f1, .int .u64 x11f2, .int .u32 x11f3, .int .u16 x11f4, .int .u16 x11f5, .int .u64 x11f6, .int .u32 x11f7, .int .u8 x11f8, .int .u64 x11f9, .int .u64 x11f10, .slice x11A11 x11b11.length x11c11] 32)] :: [(b13, rowO [.int .u8 x11f0, .int .u64 x11f1, .int .u64 x11f2, .int .u32 x11f3, .int .u16 x11f4, .int .u16 x11f5, .int .u64 x11f6, .int .u32 x11f7, .int .u8 x11f8, .int .u64 x11f9, .int .u64 x11f10, .slice x11A11 x11b11.length x11c11, .int .u8 x11f14] 51)] :: F) rfl rfl
                          exact ⟨x11f1, x11f2, x11f3, Ar, (hA.sel [0, 9, 10, 11, 12, 18, 46, 47, 48] rfl), hS, by omega, hR⟩)
                   · clear hA hS; rintro a w74 ⟨n0, n1, n2, Ar5, hA, hS, hn2, hR5⟩
                     refine wp_seq ?_
                     refine wp_region_lit ?_
                     refine st_run tbOk 1 hA (e' := (20, .bool false) :: _) rfl ?_; clear hA; intro a hA
                     refine wpList_nil ?_
                     refine xt_norm ?_
                     refine wp_seq ?_
                     refine wp_seq ?_
                     refine wp_region_lit ?_
                     have hcs : (n2 < 1 ∨ (ls.length : Int) < n2) ∨ ∃ (k1 : Nat) (y : LCall), ls[k1]? = some y ∧ n2 = (k1 : Int) + 1 := by
                         by_cases h : n2 < 1 ∨ (ls.length : Int) < n2
                         · exact .inl h
                         · obtain ⟨y, hy⟩ := get_ex (l := ls) (k := (n2 - 1).toNat) (by omega)
                           exact .inr ⟨_, y, hy, by omega⟩
                     rcases hcs with hnone | ⟨k1, ⟨yf0, yf1, yf2, yf3, yf4, yf5, yf6, yf7, yf8, yf9, yA10, yc10, yb10, yf13, yf14, yf15, yf16, yf17, yf18, yf19, yf20, yf21, yf22, yA23, yc23, yb23, yf26, yf27, yf28⟩, hy1, hn21⟩
                     · refine st_run tbOk 1 hA (e' := (219, .pointer (some ⟨b56, 2, none⟩)) :: _) rfl ?_; clear hA; intro a hA
                       refine st_val hA rfl rfl (by decide) (rn_load tbOk hA rfl rfl rfl rfl (cell_row (hS.heapAt 3 rfl) rfl)) ?_; clear hA; intro a hA
                       refine st_run tbOk 2 hA (e' := (222, .bool (decide (n2 ≥ 1))) :: (221, .bool (decide (n2 ≥ 1))) :: _) rfl ?_; clear hA; intro a hA
                       by_cases hc75 : n2 ≥ 1
                       · first
                         | (exfalso; omega)
                         | (replace hA := hA.rw 221 (v' := .bool true) rfl (vb_true hc75)
                            replace hA := hA.rw 222 (v' := .bool true) rfl (vb_true hc75)
                            refine st_run tbOk 1 hA (e' := (223, .pointer (some ⟨b56, 2, none⟩)) :: _) rfl ?_; clear hA; intro a hA
                            refine st_val hA rfl rfl (by decide) (rn_load tbOk hA rfl rfl rfl rfl (cell_row (hS.heapAt 3 rfl) rfl)) ?_; clear hA; intro a hA
                            refine st_run tbOk 1 hA (e' := (225, .int .i64 (IntKind.i64.wrap n2)) :: _) rfl ?_; clear hA; intro a hA
                            replace hA := hA.rw 225 (v' := .int .i64 n2) rfl (wr64 (by rfl) (by omega) (by omega))
                            refine st_run tbOk 4 hA (e' := (229, .bool (decide (n2 ≤ ((ls.length : Nat) : Int)))) :: (228, .bool (decide (n2 ≤ ((ls.length : Nat) : Int)))) :: (227, .int .i64 ((ls.length : Nat) : Int)) :: (226, .slice Ar5 ls.length cr) :: _) rfl ?_; clear hA; intro a hA
                            refine wpList_nil ?_
                            replace hA := hA.sel [0, 9, 10, 11, 12, 18, 20, 46, 47, 48, 229] (e' := [(0, .int .u64 p), (9, .pointer (some ⟨b2, 0, none⟩)), (10, .int .i64 W), (11, .int .i64 T), (12, .slice Ar5 ls.length cr), (18, .pointer (some ⟨b56, 0, none⟩)), (20, .bool false), (46, .slice (some ⟨b9, o10, none⟩) l.length c), (47, .int .i64 ((l.length : Nat) : Int)), (48, .int .i64 ((k : Nat) : Int)), (229, .bool (decide (n2 ≤ ((ls.length : Nat) : Int))))]) rfl
                            refine xt_norm ?_
                            by_cases hc76 : n2 ≤ ((ls.length : Nat) : Int)
                            · first
                              | (exfalso; omega)
                              | (replace hA := hA.rw 229 (v' := .bool true) rfl (vb_true hc76)
                                 refine cd_cond_t hA rfl ?_
                                 refine wp_seq ?_
                                 exfalso; omega)
                            · first
                              | (exfalso; omega)
                              | (replace hA := hA.rw 229 (v' := .bool false) rfl (vb_false hc76)
                                 refine cd_cond_f hA rfl ?_
                                 refine wp_skip ?_
                                 refine xt_norm ?_
                                 refine wp_seq ?_
                                 refine wp_region_lit ?_
                                 refine st_run tbOk 1 hA (e' := (264, .pointer (some ⟨b2, 0, none⟩)) :: _) rfl ?_; clear hA; intro a hA
                                 refine st_val hA rfl rfl (by decide) (rn_loadA tbOk hA [.int .u64 n0, .int .u64 n1, .int .u32 n2, .int .u16 x11f4, .int .u16 x11f5, .int .u64 x11f6, .int .u32 x11f7, .int .u8 x11f8, .int .u64 x11f9, .int .u64 x11f10, .slice x11A11 x11b11.length x11c11] rfl rfl rfl rfl rfl (cells_row (hS.heapAt 3 rfl) rfl)) ?_; clear hA; intro a hA
                                 replace hS := hS.front 1 (C := D) (L' := L :: Cr :: [(b56, rowO [.int .u64 n0, .int .u64 n1, .int .u32 n2, .int .u16 x11f4, .int .u16 x11f5, .int .u64 x11f6, .int .u32 x11f7, .int .u8 x11f8, .int .u64 x11f9, .int .u64 x11f10, .slice x11A11 x11b11.length x11c11] 32)] :: [(b13, rowO [.int .u8 x11f0, .int .u64 x11f1, .int .u64 x11f2, .int .u32 x11f3, .int .u16 x11f4, .int .u16 x11f5, .int .u64 x11f6, .int .u32 x11f7, .int .u8 x11f8, .int .u64 x11f9, .int .u64 x11f10, .slice x11A11 x11b11.length x11c11, .int .u8 x11f14] 51)] :: F) rfl rfl
                                 replace hS := hS.front 1 (C := L) (L' := D :: Cr :: [(b56, rowO [.int .u64 n0, .int .u64 n1, .int .u32 n2, .int .u16 x11f4, .int .u16 x11f5, .int .u64 x11f6, .int .u32 x11f7, .int .u8 x11f8, .int .u64 x11f9, .int .u64 x11f10, .slice x11A11 x11b11.length x11c11] 32)] :: [(b13, rowO [.int .u8 x11f0, .int .u64 x11f1, .int .u64 x11f2, .int .u32 x11f3, .int .u16 x11f4, .int .u16 x11f5, .int .u64 x11f6, .int .u32 x11f7, .int .u8 x11f8, .int .u64 x11f9, .int .u64 x11f10, .slice x11A11 x11b11.length x11c11, .int .u8 x11f14] 51)] :: F) rfl rfl
                                 refine st_call0 hA rfl rfl rfl isfn12 rfl rfl (by decide) (answer_none12 hS hM n0 n1 n2 x11f4 x11f5 x11f6 x11f7 x11f8 x11f9 x11f10 _ (by omega) (by omega) (by omega)) ?_
                                 clear hA hS; rintro _ w77 a ⟨L78, hM79, rfl, hS⟩ hA
                                 refine st_run tbOk 2 hA (e' := (268, .bool false) :: (267, .bool false) :: _) rfl ?_; clear hA; intro a hA
                                 refine wpList_nil ?_
                                 replace hA := hA.sel [0, 9, 10, 11, 12, 46, 47, 48, 268] (e' := [(0, .int .u64 p), (9, .pointer (some ⟨b2, 0, none⟩)), (10, .int .i64 W), (11, .int .i64 T), (12, .slice Ar5 ls.length cr), (46, .slice (some ⟨b9, o10, none⟩) l.length c), (47, .int .i64 ((l.length : Nat) : Int)), (48, .int .i64 ((k : Nat) : Int)), (268, .bool false)]) rfl
                                 refine xt_norm ?_
                                 refine cd_cond_f hA rfl ?_
                                 refine wp_skip ?_
                                 refine xb_norm ?_
                                 refine xb_norm ?_
                                 refine xt_norm ?_
                                 replace hS := hS.front 3 (C := [(b56, rowO [.int .u64 n0, .int .u64 n1, .int .u32 n2, .int .u16 x11f4, .int .u16 x11f5, .int .u64 x11f6, .int .u32 x11f7, .int .u8 x11f8, .int .u64 x11f9, .int .u64 x11f10, .slice x11A11 x11b11.length x11c11] 32)]) (L' := L78 :: D :: Cr :: [(b13, rowO [.int .u8 x11f0, .int .u64 x11f1, .int .u64 x11f2, .int .u32 x11f3, .int .u16 x11f4, .int .u16 x11f5, .int .u64 x11f6, .int .u32 x11f7, .int .u8 x11f8, .int .u64 x11f9, .int .u64 x11f10, .slice x11A11 x11b11.length x11c11, .int .u8 x11f14] 51)] :: F) rfl rfl
                                 replace hS := hS.drop1
                                 replace hS := hS.front 3 (C := [(b13, rowO [.int .u8 x11f0, .int .u64 x11f1, .int .u64 x11f2, .int .u32 x11f3, .int .u16 x11f4, .int .u16 x11f5, .int .u64 x11f6, .int .u32 x11f7, .int .u8 x11f8, .int .u64 x11f9, .int .u64 x11f10, .slice x11A11 x11b11.length x11c11, .int .u8 x11f14] 51)]) (L' := L78 :: D :: Cr :: F) rfl rfl
                                 replace hS := hS.drop1
                                 replace hS := hS.front 2 (C := Cr) (L' := L78 :: D :: F) rfl rfl
                                 replace hS := hS.front 2 (C := D) (L' := Cr :: L78 :: F) rfl rfl
                                 replace hS := hS.front 2 (C := L78) (L' := D :: Cr :: F) rfl rfl
                                 exact ⟨(cs), (ls), L78, D, Ar5, cr, Cr, (hA.sel [0, 9, 10, 11, 12, 46, 47, 48] rfl), hS, hI, hM79, hR5, hdm, hsz, hdr⟩))
                       · first
                         | (exfalso; omega)
                         | (replace hA := hA.rw 221 (v' := .bool false) rfl (vb_false hc75)
                            replace hA := hA.rw 222 (v' := .bool false) rfl (vb_false hc75)
                            refine st_run tbOk 7 hA (e' := (229, .bool false) :: (228, undef) :: (227, undef) :: (226, undef) :: (225, undef) :: (224, undef) :: (223, undef) :: _) rfl ?_; clear hA; intro a hA
                            refine wpList_nil ?_
                            replace hA := hA.sel [0, 9, 10, 11, 12, 18, 20, 46, 47, 48, 229] (e' := [(0, .int .u64 p), (9, .pointer (some ⟨b2, 0, none⟩)), (10, .int .i64 W), (11, .int .i64 T), (12, .slice Ar5 ls.length cr), (18, .pointer (some ⟨b56, 0, none⟩)), (20, .bool false), (46, .slice (some ⟨b9, o10, none⟩) l.length c), (47, .int .i64 ((l.length : Nat) : Int)), (48, .int .i64 ((k : Nat) : Int)), (229, .bool false)]) rfl
                            refine xt_norm ?_
                            refine cd_cond_f hA rfl ?_
                            refine wp_skip ?_
                            refine xt_norm ?_
                            refine wp_seq ?_
                            refine wp_region_lit ?_
                            refine st_run tbOk 1 hA (e' := (264, .pointer (some ⟨b2, 0, none⟩)) :: _) rfl ?_; clear hA; intro a hA
                            refine st_val hA rfl rfl (by decide) (rn_loadA tbOk hA [.int .u64 n0, .int .u64 n1, .int .u32 n2, .int .u16 x11f4, .int .u16 x11f5, .int .u64 x11f6, .int .u32 x11f7, .int .u8 x11f8, .int .u64 x11f9, .int .u64 x11f10, .slice x11A11 x11b11.length x11c11] rfl rfl rfl rfl rfl (cells_row (hS.heapAt 3 rfl) rfl)) ?_; clear hA; intro a hA
                            replace hS := hS.front 1 (C := D) (L' := L :: Cr :: [(b56, rowO [.int .u64 n0, .int .u64 n1, .int .u32 n2, .int .u16 x11f4, .int .u16 x11f5, .int .u64 x11f6, .int .u32 x11f7, .int .u8 x11f8, .int .u64 x11f9, .int .u64 x11f10, .slice x11A11 x11b11.length x11c11] 32)] :: [(b13, rowO [.int .u8 x11f0, .int .u64 x11f1, .int .u64 x11f2, .int .u32 x11f3, .int .u16 x11f4, .int .u16 x11f5, .int .u64 x11f6, .int .u32 x11f7, .int .u8 x11f8, .int .u64 x11f9, .int .u64 x11f10, .slice x11A11 x11b11.length x11c11, .int .u8 x11f14] 51)] :: F) rfl rfl
                            replace hS := hS.front 1 (C := L) (L' := D :: Cr :: [(b56, rowO [.int .u64 n0, .int .u64 n1, .int .u32 n2, .int .u16 x11f4, .int .u16 x11f5, .int .u64 x11f6, .int .u32 x11f7, .int .u8 x11f8, .int .u64 x11f9, .int .u64 x11f10, .slice x11A11 x11b11.length x11c11] 32)] :: [(b13, rowO [.int .u8 x11f0, .int .u64 x11f1, .int .u64 x11f2, .int .u32 x11f3, .int .u16 x11f4, .int .u16 x11f5, .int .u64 x11f6, .int .u32 x11f7, .int .u8 x11f8, .int .u64 x11f9, .int .u64 x11f10, .slice x11A11 x11b11.length x11c11, .int .u8 x11f14] 51)] :: F) rfl rfl
                            refine st_call0 hA rfl rfl rfl isfn12 rfl rfl (by decide) (answer_none12 hS hM n0 n1 n2 x11f4 x11f5 x11f6 x11f7 x11f8 x11f9 x11f10 _ (by omega) (by omega) (by omega)) ?_
                            clear hA hS; rintro _ w80 a ⟨L81, hM82, rfl, hS⟩ hA
                            refine st_run tbOk 2 hA (e' := (268, .bool false) :: (267, .bool false) :: _) rfl ?_; clear hA; intro a hA
                            refine wpList_nil ?_
                            replace hA := hA.sel [0, 9, 10, 11, 12, 46, 47, 48, 268] (e' := [(0, .int .u64 p), (9, .pointer (some ⟨b2, 0, none⟩)), (10, .int .i64 W), (11, .int .i64 T), (12, .slice Ar5 ls.length cr), (46, .slice (some ⟨b9, o10, none⟩) l.length c), (47, .int .i64 ((l.length : Nat) : Int)), (48, .int .i64 ((k : Nat) : Int)), (268, .bool false)]) rfl
                            refine xt_norm ?_
                            refine cd_cond_f hA rfl ?_
                            refine wp_skip ?_
                            refine xb_norm ?_
                            refine xb_norm ?_
                            refine xt_norm ?_
                            replace hS := hS.front 3 (C := [(b56, rowO [.int .u64 n0, .int .u64 n1, .int .u32 n2, .int .u16 x11f4, .int .u16 x11f5, .int .u64 x11f6, .int .u32 x11f7, .int .u8 x11f8, .int .u64 x11f9, .int .u64 x11f10, .slice x11A11 x11b11.length x11c11] 32)]) (L' := L81 :: D :: Cr :: [(b13, rowO [.int .u8 x11f0, .int .u64 x11f1, .int .u64 x11f2, .int .u32 x11f3, .int .u16 x11f4, .int .u16 x11f5, .int .u64 x11f6, .int .u32 x11f7, .int .u8 x11f8, .int .u64 x11f9, .int .u64 x11f10, .slice x11A11 x11b11.length x11c11, .int .u8 x11f14] 51)] :: F) rfl rfl
                            replace hS := hS.drop1
                            replace hS := hS.front 3 (C := [(b13, rowO [.int .u8 x11f0, .int .u64 x11f1, .int .u64 x11f2, .int .u32 x11f3, .int .u16 x11f4, .int .u16 x11f5, .int .u64 x11f6, .int .u32 x11f7, .int .u8 x11f8, .int .u64 x11f9, .int .u64 x11f10, .slice x11A11 x11b11.length x11c11, .int .u8 x11f14] 51)]) (L' := L81 :: D :: Cr :: F) rfl rfl
                            replace hS := hS.drop1
                            replace hS := hS.front 2 (C := Cr) (L' := L81 :: D :: F) rfl rfl
                            replace hS := hS.front 2 (C := D) (L' := Cr :: L81 :: F) rfl rfl
                            replace hS := hS.front 2 (C := L81) (L' := D :: Cr :: F) rfl rfl
                            exact ⟨(cs), (ls), L81, D, Ar5, cr, Cr, (hA.sel [0, 9, 10, 11, 12, 46, 47, 48] rfl), hS, hI, hM82, hR5, hdm, hsz, hdr⟩)
                     · have hk1l := (List.getElem?_eq_some_iff.1 hy1).1
                       obtain ⟨⟨xf0, xf1, xf2, xf3, xf4, xf5, xf6, xf7, xf8, xf9, xA10, xc10, xb10, xf13, xf14, xf15, xf16, xf17, xf18, xf19, xf20, xf21, xf22, xf23, xf24, xf25, xA26, xc26, xb26⟩, hx1⟩ := get_ex (l := cs) (k := k1) (by omega)
                       have hcv := hI.at_ _ _ _ hx1 hy1
                       have hcs1 := hcv.s; dsimp only [cst, lst] at hcs1
                       have hcq1 := congrArg (fun z => z.1) hcv.q; dsimp only [mst, rq, lrq] at hcq1
                       refine st_run tbOk 1 hA (e' := (219, .pointer (some ⟨b56, 2, none⟩)) :: _) rfl ?_; clear hA; intro a hA
                       refine st_val hA rfl rfl (by decide) (rn_load tbOk hA rfl rfl rfl rfl (cell_row (hS.heapAt 3 rfl) rfl)) ?_; clear hA; intro a hA
                       refine st_run tbOk 2 hA (e' := (222, .bool (decide (n2 ≥ 1))) :: (221, .bool (decide (n2 ≥ 1))) :: _) rfl ?_; clear hA; intro a hA
                       by_cases hc83 : n2 ≥ 1
                       · first
                         | (exfalso; omega)
                         | (replace hA := hA.rw 221 (v' := .bool true) rfl (vb_true hc83)
                            replace hA := hA.rw 222 (v' := .bool true) rfl (vb_true hc83)
                            refine st_run tbOk 1 hA (e' := (223, .pointer (some ⟨b56, 2, none⟩)) :: _) rfl ?_; clear hA; intro a hA
                            refine st_val hA rfl rfl (by decide) (rn_load tbOk hA rfl rfl rfl rfl (cell_row (hS.heapAt 3 rfl) rfl)) ?_; clear hA; intro a hA
                            refine st_run tbOk 1 hA (e' := (225, .int .i64 (IntKind.i64.wrap n2)) :: _) rfl ?_; clear hA; intro a hA
                            replace hA := hA.rw 225 (v' := .int .i64 n2) rfl (wr64 (by rfl) (by omega) (by omega))
                            refine st_run tbOk 4 hA (e' := (229, .bool (decide (n2 ≤ ((ls.length : Nat) : Int)))) :: (228, .bool (decide (n2 ≤ ((ls.length : Nat) : Int)))) :: (227, .int .i64 ((ls.length : Nat) : Int)) :: (226, .slice Ar5 ls.length cr) :: _) rfl ?_; clear hA; intro a hA
                            refine wpList_nil ?_
                            replace hA := hA.sel [0, 9, 10, 11, 12, 18, 20, 46, 47, 48, 229] (e' := [(0, .int .u64 p), (9, .pointer (some ⟨b2, 0, none⟩)), (10, .int .i64 W), (11, .int .i64 T), (12, .slice Ar5 ls.length cr), (18, .pointer (some ⟨b56, 0, none⟩)), (20, .bool false), (46, .slice (some ⟨b9, o10, none⟩) l.length c), (47, .int .i64 ((l.length : Nat) : Int)), (48, .int .i64 ((k : Nat) : Int)), (229, .bool (decide (n2 ≤ ((ls.length : Nat) : Int))))]) rfl
                            refine xt_norm ?_
                            by_cases hc84 : n2 ≤ ((ls.length : Nat) : Int)
                            · first
                              | (exfalso; omega)
                              | (replace hA := hA.rw 229 (v' := .bool true) rfl (vb_true hc84)
                                 refine cd_cond_t hA rfl ?_
                                 refine wp_seq ?_
                                 refine wp_region_lit ?_
                                 refine st_run tbOk 2 hA (e' := (231, .pointer (some ⟨b56, 2, none⟩)) :: (230, .slice Ar5 ls.length cr) :: _) rfl ?_; clear hA; intro a hA
                                 refine st_val hA rfl rfl (by decide) (rn_load tbOk hA rfl rfl rfl rfl (cell_row (hS.heapAt 3 rfl) rfl)) ?_; clear hA; intro a hA
                                 refine st_run tbOk 1 hA (e' := (233, .int .u32 (IntKind.u32.wrap (n2 - 1))) :: _) rfl ?_; clear hA; intro a hA
                                 replace hA := hA.rw 233 (v' := .int .u32 ((k1 : Nat) : Int)) rfl (vint (by rw [wrap_u32 (by omega) (by omega)]; omega))
                                 obtain ⟨b85, o86, rfl⟩ := hR5.isSome (k := k1) (by omega)
                                 refine st_val hA rfl rfl (by decide) (rn_indexAddr tbOk hA k1 (o86 + (k1 * 25)) rfl rfl rfl rfl rfl rfl (by rfl) (by omega) (by first | rfl | simp [Nat.mul_one, Nat.zero_add] | omega)) ?_; clear hA; intro a hA
                                 refine st_run tbOk 1 hA (e' := (21, .pointer (some ⟨b85, o86 + (k1 * 25), none⟩)) :: _) rfl ?_; clear hA; intro a hA
                                 refine wpList_nil ?_
                                 replace hA := hA.sel [0, 9, 10, 11, 12, 18, 21, 46, 47, 48] (e' := [(0, .int .u64 p), (9, .pointer (some ⟨b2, 0, none⟩)), (10, .int .i64 W), (11, .int .i64 T), (12, .slice (some ⟨b85, o86, none⟩) ls.length cr), (18, .pointer (some ⟨b56, 0, none⟩)), (21, .pointer (some ⟨b85, o86 + (k1 * 25), none⟩)), (46, .slice (some ⟨b9, o10, none⟩) l.length c), (47, .int .i64 ((l.length : Nat) : Int)), (48, .int .i64 ((k : Nat) : Int))]) rfl
                                 refine xt_norm ?_
                                 refine wp_seq ?_
                                 refine wp_draw (fun w' => St w0 w' (L :: D :: Cr :: [(b56, rowO [.int .u64 n0, .int .u64 n1, .int .u32 n2, .int .u16 x11f4, .int .u16 x11f5, .int .u64 x11f6, .int .u32 x11f7, .int .u8 x11f8, .int .u64 x11f9, .int .u64 x11f10, .slice x11A11 x11b11.length x11c11] 32)] :: [(b13, rowO [.int .u8 x11f0, .int .u64 x11f1, .int .u64 x11f2, .int .u32 x11f3, .int .u16 x11f4, .int .u16 x11f5, .int .u64 x11f6, .int .u32 x11f7, .int .u8 x11f8, .int .u64 x11f9, .int .u64 x11f10, .slice x11A11 x11b11.length x11c11, .int .u8 x11f14] 51)] :: F)) [] [(0, true), (1, true), (2, true), (3, true), (4, true), (5, true), (6, true), (7, true), (8, true), (9, true), (10, true), (11, true), (12, true), (13, true), (14, true), (15, true), (16, true), (17, true), (18, true), (19, true), (20, true), (21, true)] mixed (by kernel_rfl) (by rintro c a w ⟨_, _, h, _⟩; cases h) (by rfl) (by kernel_rfl) ?_
                                 replace hS := hS.drew
                                 refine dr_run tbOk 3 hA hS (e' := (237, .pointer (some ⟨b85, o86 + (k1 * 25) + 22, none⟩)) :: (236, .pointer (some ⟨b85, o86 + (k1 * 25), none⟩)) :: (235, .pointer (some ⟨b85, o86 + (k1 * 25), none⟩)) :: _) rfl ?_; clear hA; intro a hA
                                 refine dr_y hA rfl rfl rfl (by decide) hS (fun w' hS' => rn_load tbOk hA rfl rfl rfl rfl ((hR5.rd (hS'.own_ 2 rfl)).elemf (k := k1) encLCall_ok hy1 (j := 22) rfl)) ?_; clear hA; intro a hA
                                 refine dr_run tbOk 2 hA hS (e' := (240, .bool (yf26 == 1)) :: (239, .bool (yf26 == 1)) :: _) rfl ?_; clear hA; intro a hA
                                 by_cases hc87 : yf26 = 1
                                 · first
                                   | (exfalso; omega)
                                   | (replace hA := hA.rw 239 (v' := .bool true) rfl (vb_eq_t hc87)
                                      replace hA := hA.rw 240 (v' := .bool true) rfl (vb_eq_t hc87)
                                      refine dr_run tbOk 1 hA hS (e' := (241, .pointer (some ⟨b56, 0, none⟩)) :: _) rfl ?_; clear hA; intro a hA
                                      refine dr_y hA rfl rfl rfl (by decide) hS (fun w' hS' => rn_load tbOk hA rfl rfl rfl rfl (cell_row (hS'.heapAt 3 rfl) rfl)) ?_; clear hA; intro a hA
                                      refine dr_run tbOk 4 hA hS (e' := (246, .bool (n0 == p)) :: (245, .bool (n0 == p)) :: (244, .bool (n0 == p)) :: (243, .int .u64 p) :: _) rfl ?_; clear hA; intro a hA
                                      by_cases hc88 : n0 = p
                                      · first
                                        | (exfalso; omega)
                                        | (replace hA := hA.rw 244 (v' := .bool true) rfl (vb_eq_t hc88)
                                           replace hA := hA.rw 245 (v' := .bool true) rfl (vb_eq_t hc88)
                                           replace hA := hA.rw 246 (v' := .bool true) rfl (vb_eq_t hc88)
                                           refine dr_run tbOk 1 hA hS (e' := (247, .pointer (some ⟨b56, 1, none⟩)) :: _) rfl ?_; clear hA; intro a hA
                                           refine dr_y hA rfl rfl rfl (by decide) hS (fun w' hS' => rn_load tbOk hA rfl rfl rfl rfl (cell_row (hS'.heapAt 3 rfl) rfl)) ?_; clear hA; intro a hA
                                           refine dr_run tbOk 4 hA hS (e' := (252, .pointer (some ⟨b85, o86 + (k1 * 25), none⟩)) :: (251, .pointer (some ⟨b85, o86 + (k1 * 25), none⟩)) :: (250, .pointer (some ⟨b85, o86 + (k1 * 25), none⟩)) :: (249, .pointer (some ⟨b85, o86 + (k1 * 25), none⟩)) :: _) rfl ?_; clear hA; intro a hA
                                           refine dr_y hA rfl rfl rfl (by decide) hS (fun w' hS' => rn_load tbOk hA rfl rfl rfl rfl ((hR5.rd (hS'.own_ 2 rfl)).elemf (k := k1) encLCall_ok hy1 (j := 0) rfl)) ?_; clear hA; intro a hA
                                           refine dr_run tbOk 3 hA hS (e' := (20, .bool (n1 == yf0)) :: (255, .bool (n1 == yf0)) :: (254, .bool (n1 == yf0)) :: _) rfl ?_; clear hA; intro a hA
                                           refine dr_end ?_
                                           replace hA := hA.sel [0, 9, 10, 11, 12, 18, 20, 21, 46, 47, 48] (e' := [(0, .int .u64 p), (9, .pointer (some ⟨b2, 0, none⟩)), (10, .int .i64 W), (11, .int .i64 T), (12, .slice (some ⟨b85, o86, none⟩) ls.length cr), (18, .pointer (some ⟨b56, 0, none⟩)), (20, .bool (n1 == yf0)), (21, .pointer (some ⟨b85, o86 + (k1 * 25), none⟩)), (46, .slice (some ⟨b9, o10, none⟩) l.length c), (47, .int .i64 ((l.length : Nat) : Int)), (48, .int .i64 ((k : Nat) : Int))]) rfl
                                           refine xt_norm ?_
                                           refine wp_seq ?_
                                           refine wp_region_lit ?_
                                           refine st_run tbOk 1 hA (e' := (256, .bool (n1 == yf0)) :: _) rfl ?_; clear hA; intro a hA
                                           refine wpList_nil ?_
                                           refine xt_norm ?_
                                           by_cases hc89 : n1 = yf0
                                           · first
                                             | (exfalso; omega)
                                             | (replace hA := hA.rw 20 (v' := .bool true) rfl (vb_eq_t hc89)
                                                replace hA := hA.rw 256 (v' := .bool true) rfl (vb_eq_t hc89)
                                                refine cd_cond_t hA rfl ?_
                                                replace hS := hS.front 2 (C := Cr) (L' := L :: D :: [(b56, rowO [.int .u64 n0, .int .u64 n1, .int .u32 n2, .int .u16 x11f4, .int .u16 x11f5, .int .u64 x11f6, .int .u32 x11f7, .int .u8 x11f8, .int .u64 x11f9, .int .u64 x11f10, .slice x11A11 x11b11.length x11c11] 32)] :: [(b13, rowO [.int .u8 x11f0, .int .u64 x11f1, .int .u64 x11f2, .int .u32 x11f3, .int .u16 x11f4, .int .u16 x11f5, .int .u64 x11f6, .int .u32 x11f7, .int .u8 x11f8, .int .u64 x11f9, .int .u64 x11f10, .slice x11A11 x11b11.length x11c11, .int .u8 x11f14] 51)] :: F) rfl rfl
                                                have hkl := hk1l
                                                refine wp_draw (fun w' => St w0 w' (L :: D :: [(b56, rowO [.int .u64 n0, .int .u64 n1, .int .u32 n2, .int .u16 x11f4, .int .u16 x11f5, .int .u64 x11f6, .int .u32 x11f7, .int .u8 x11f8, .int .u64 x11f9, .int .u64 x11f10, .slice x11A11 x11b11.length x11c11] 32)] :: [(b13, rowO [.int .u8 x11f0, .int .u64 x11f1, .int .u64 x11f2, .int .u32 x11f3, .int .u16 x11f4, .int .u16 x11f5, .int .u64 x11f6, .int .u32 x11f7, .int .u8 x11f8, .int .u64 x11f9, .int .u64 x11f10, .slice x11A11 x11b11.length x11c11, .int .u8 x11f14] 51)] :: F)) [] [(0, true), (1, true), (2, true), (3, true), (4, true), (5, false), (6, true), (7, true), (8, false)] mixed (by kernel_rfl) (by rintro c a w ⟨_, _, h, _⟩; cases h) (by rfl) (by kernel_rfl) ?_
                                                replace hS := hS.drew
                                                refine dr_run tbOk 2 hA (hS.tail 1 rfl) (e' := (258, .pointer (some ⟨b85, o86 + (k1 * 25), none⟩)) :: (257, .pointer (some ⟨b85, o86 + (k1 * 25), none⟩)) :: _) rfl ?_; clear hA; intro a hA
                                                refine dr_y hA rfl rfl rfl (by decide) (hS.tail 1 rfl) (fun w' hS' => rn_loadA tbOk hA [.int .u64 n0, .int .u64 n1, .int .u32 n2, .int .u16 x11f4, .int .u16 x11f5, .int .u64 x11f6, .int .u32 x11f7, .int .u8 x11f8, .int .u64 x11f9, .int .u64 x11f10, .slice x11A11 x11b11.length x11c11] rfl rfl rfl rfl rfl (cells_row (hS'.heapAt 2 rfl) rfl)) ?_; clear hA; intro a hA
                                                refine dr_run tbOk 2 hA (hS.tail 1 rfl) (e' := (261, .pointer (some ⟨b85, o86 + (k1 * 25) + 22, none⟩)) :: (260, .pointer (some ⟨b85, o86 + (k1 * 25), none⟩)) :: _) rfl ?_; clear hA; intro a hA
                                                refine dr_b (o := _) rfl ?_
                                                refine st_store_own tbOk hA hR5 hS ((k1 * 25) + 22) (o86 + (k1 * 25) + 22) [.int .i64 2] (rows encLCall (ls.set k1 (yf0, yf1, yf2, yf3, yf4, yf5, yf6, yf7, yf8, yf9, yA10, yc10, yb10, yf13, yf14, yf15, yf16, yf17, yf18, yf19, yf20, yf21, yf22, yA23, yc23, yb23, 2, yf27, yf28))) rfl rfl rfl rfl (by rfl) rfl rfl (by intro u hu; first | (rw [List.mem_singleton.1 hu]; rfl) | (simp only [List.mem_cons, List.not_mem_nil, or_false] at hu; rcases hu with rfl <;> rfl)) (by simp only [rows_length encLCall_ok, List.length_set, mpl_len]; simp; omega) (rows_setf encLCall_ok (yf0, yf1, yf2, yf3, yf4, yf5, yf6, yf7, yf8, yf9, yA10, yc10, yb10, yf13, yf14, yf15, yf16, yf17, yf18, yf19, yf20, yf21, yf22, yA23, yc23, yb23, 2, yf27, yf28) (hy1) 22 [.int .i64 2] (Nat.le_of_ble_eq_true rfl) (by unfold encLCall; dsimp only; rfl)) rfl rfl ?_; clear hS; intro w90 C91 hO91 hS
                                                refine dr_nil (.inr (hS.tail 1 rfl)) ?_
                                                refine dr_run tbOk 2 hA (hS.tail 1 rfl) (e' := (263, .pointer (some ⟨b85, o86 + (k1 * 25) + 11, none⟩)) :: (262, .pointer (some ⟨b85, o86 + (k1 * 25), none⟩)) :: _) rfl ?_; clear hA; intro a hA
                                                refine dr_b (o := _) rfl ?_
                                                refine st_store_own tbOk hA hO91 hS ((k1 * 25) + 11) (o86 + (k1 * 25) + 11) [.int .u64 n0, .int .u64 n1, .int .u32 n2, .int .u16 x11f4, .int .u16 x11f5, .int .u64 x11f6, .int .u32 x11f7, .int .u8 x11f8, .int .u64 x11f9, .int .u64 x11f10, .slice x11A11 x11b11.length x11c11] (rows encLCall ((ls.set k1 (yf0, yf1, yf2, yf3, yf4, yf5, yf6, yf7, yf8, yf9, yA10, yc10, yb10, yf13, yf14, yf15, yf16, yf17, yf18, yf19, yf20, yf21, yf22, yA23, yc23, yb23, 2, yf27, yf28)).set k1 (yf0, yf1, yf2, yf3, yf4, yf5, yf6, yf7, yf8, yf9, yA10, yc10, yb10, n0, n1, n2, x11f4, x11f5, x11f6, x11f7, x11f8, x11f9, x11f10, x11A11, x11c11, x11b11, 2, yf27, yf28))) rfl rfl rfl rfl (by rfl) rfl rfl (by intro u hu; first | (rw [List.mem_singleton.1 hu]; rfl) | (simp only [List.mem_cons, List.not_mem_nil, or_false] at hu; rcases hu with rfl | rfl | rfl | rfl | rfl | rfl | rfl | rfl | rfl | rfl | rfl <;> rfl)) (by simp only [rows_length encLCall_ok, List.length_set, mpl_len]; simp; omega) (rows_setf encLCall_ok (yf0, yf1, yf2, yf3, yf4, yf5, yf6, yf7, yf8, yf9, yA10, yc10, yb10, n0, n1, n2, x11f4, x11f5, x11f6, x11f7, x11f8, x11f9, x11f10, x11A11, x11c11, x11b11, 2, yf27, yf28) ((List.getElem?_set_self (by first | exact hkl | (simp only [List.length_set]; exact hkl)))) 11 [.int .u64 n0, .int .u64 n1, .int .u32 n2, .int .u16 x11f4, .int .u16 x11f5, .int .u64 x11f6, .int .u32 x11f7, .int .u8 x11f8, .int .u64 x11f9, .int .u64 x11f10, .slice x11A11 x11b11.length x11c11] (Nat.le_of_ble_eq_true rfl) (by unfold encLCall; dsimp only; rfl)) rfl rfl ?_; clear hS; intro w92 C93 hO93 hS
                                                refine dr_nil (.inr (hS.tail 1 rfl)) ?_
                                                refine dr_end ?_
                                                replace hA := hA.sel [0, 9, 10, 11, 12, 18, 20, 46, 47, 48] (e' := [(0, .int .u64 p), (9, .pointer (some ⟨b2, 0, none⟩)), (10, .int .i64 W), (11, .int .i64 T), (12, .slice (some ⟨b85, o86, none⟩) ls.length cr), (18, .pointer (some ⟨b56, 0, none⟩)), (20, .bool true), (46, .slice (some ⟨b9, o10, none⟩) l.length c), (47, .int .i64 ((l.length : Nat) : Int)), (48, .int .i64 ((k : Nat) : Int))]) rfl
                                                refine xt_norm ?_
                                                refine wp_seq ?_
                                                refine wp_region_lit ?_
                                                have hss : (ls.set k1 (yf0, yf1, yf2, yf3, yf4, yf5, yf6, yf7, yf8, yf9, yA10, yc10, yb10, yf13, yf14, yf15, yf16, yf17, yf18, yf19, yf20, yf21, yf22, yA23, yc23, yb23, 2, yf27, yf28)).set k1 (yf0, yf1, yf2, yf3, yf4, yf5, yf6, yf7, yf8, yf9, yA10, yc10, yb10, n0, n1, n2, x11f4, x11f5, x11f6, x11f7, x11f8, x11f9, x11f10, x11A11, x11c11, x11b11, 2, yf27, yf28) = ls.set k1 (yf0, yf1, yf2, yf3, yf4, yf5, yf6, yf7, yf8, yf9, yA10, yc10, yb10, n0, n1, n2, x11f4, x11f5, x11f6, x11f7, x11f8, x11f9, x11f10, x11A11, x11c11, x11b11, 2, yf27, yf28) := by rw [List.set_set]
                                                rw [hss] at hO93
                                                have hR9 : Own 55 25 (.slice (some ⟨b85, o86, none⟩) (ls.set k1 (yf0, yf1, yf2, yf3, yf4, yf5, yf6, yf7, yf8, yf9, yA10, yc10, yb10, n0, n1, n2, x11f4, x11f5, x11f6, x11f7, x11f8, x11f9, x11f10, x11A11, x11c11, x11b11, 2, yf27, yf28)).length cr) (ls.set k1 (yf0, yf1, yf2, yf3, yf4, yf5, yf6, yf7, yf8, yf9, yA10, yc10, yb10, n0, n1, n2, x11f4, x11f5, x11f6, x11f7, x11f8, x11f9, x11f10, x11A11, x11c11, x11b11, 2, yf27, yf28)).length (rows encLCall (ls.set k1 (yf0, yf1, yf2, yf3, yf4, yf5, yf6, yf7, yf8, yf9, yA10, yc10, yb10, n0, n1, n2, x11f4, x11f5, x11f6, x11f7, x11f8, x11f9, x11f10, x11A11, x11c11, x11b11, 2, yf27, yf28))) C93 := by rw [List.length_set]; exact hO93
                                                replace hA := hA.rw 12 (v' := .slice (some ⟨b85, o86, none⟩) ((ls.set k1 (yf0, yf1, yf2, yf3, yf4, yf5, yf6, yf7, yf8, yf9, yA10, yc10, yb10, n0, n1, n2, x11f4, x11f5, x11f6, x11f7, x11f8, x11f9, x11f10, x11A11, x11c11, x11b11, 2, yf27, yf28)).length) cr) rfl (by rw [List.length_set])
                                                have hdr2 : ∀ x ∈ (ls.set k1 (yf0, yf1, yf2, yf3, yf4, yf5, yf6, yf7, yf8, yf9, yA10, yc10, yb10, n0, n1, n2, x11f4, x11f5, x11f6, x11f7, x11f8, x11f9, x11f10, x11A11, x11c11, x11b11, 2, yf27, yf28)), ∀ D, encLCall_dd w0 D x := lset_dd hdr (fun D => ⟨(hdr _ (List.mem_of_getElem? hy1) D).1, DD.of hdl⟩)
                                                refine st_run tbOk 1 hA (e' := (264, .pointer (some ⟨b2, 0, none⟩)) :: _) rfl ?_; clear hA; intro a hA
                                                refine st_val hA rfl rfl (by decide) (rn_loadA tbOk hA [.int .u64 n0, .int .u64 n1, .int .u32 n2, .int .u16 x11f4, .int .u16 x11f5, .int .u64 x11f6, .int .u32 x11f7, .int .u8 x11f8, .int .u64 x11f9, .int .u64 x11f10, .slice x11A11 x11b11.length x11c11] rfl rfl rfl rfl rfl (cells_row (hS.heapAt 3 rfl) rfl)) ?_; clear hA; intro a hA
                                                replace hS := hS.front 2 (C := D) (L' := C93 :: L :: [(b56, rowO [.int .u64 n0, .int .u64 n1, .int .u32 n2, .int .u16 x11f4, .int .u16 x11f5, .int .u64 x11f6, .int .u32 x11f7, .int .u8 x11f8, .int .u64 x11f9, .int .u64 x11f10, .slice x11A11 x11b11.length x11c11] 32)] :: [(b13, rowO [.int .u8 x11f0, .int .u64 x11f1, .int .u64 x11f2, .int .u32 x11f3, .int .u16 x11f4, .int .u16 x11f5, .int .u64 x11f6, .int .u32 x11f7, .int .u8 x11f8, .int .u64 x11f9, .int .u64 x11f10, .slice x11A11 x11b11.length x11c11, .int .u8 x11f14] 51)] :: F) rfl rfl
                                                replace hS := hS.front 2 (C := L) (L' := D :: C93 :: [(b56, rowO [.int .u64 n0, .int .u64 n1, .int .u32 n2, .int .u16 x11f4, .int .u16 x11f5, .int .u64 x11f6, .int .u32 x11f7, .int .u8 x11f8, .int .u64 x11f9, .int .u64 x11f10, .slice x11A11 x11b11.length x11c11] 32)] :: [(b13, rowO [.int .u8 x11f0, .int .u64 x11f1, .int .u64 x11f2, .int .u32 x11f3, .int .u16 x11f4, .int .u16 x11f5, .int .u64 x11f6, .int .u32 x11f7, .int .u8 x11f8, .int .u64 x11f9, .int .u64 x11f10, .slice x11A11 x11b11.length x11c11, .int .u8 x11f14] 51)] :: F) rfl rfl
                                                refine st_call0 hA rfl rfl rfl isfn12 rfl rfl (by decide) (answer_ok12 hS hM n0 n1 n2 x11f4 x11f5 x11f6 x11f7 x11f8 x11f9 x11f10 (bs := x11b11) (fun w' h => (hd12 _ (h.only 0 rfl))) (by first | omega | exact Nat.zero_le _) (k := k1) (x := (xf0, xf1, xf2, xf3, xf4, xf5, xf6, xf7, xf8, xf9, xA10, xc10, xb10, xf13, xf14, xf15, xf16, xf17, xf18, xf19, xf20, xf21, xf22, xf23, xf24, xf25, xA26, xc26, xb26)) hx1 (by omega) hn21 (show xf13 = 1 by omega) (by omega) (by show n1 = xf0; omega)) ?_
                                                clear hA hS; rintro _ w94 a ⟨L95, E97, A98, c99, hM96, hE100, rfl, hS⟩ hA
                                                have dd101 : ∀ x ∈ (cs.set k1 (xf0, xf1, xf2, xf3, xf4, xf5, xf6, xf7, xf8, xf9, xA10, xc10, xb10, 2, xf14, xf15, n0, n1, n2, x11f4, x11f5, x11f6, x11f7, x11f8, x11f9, x11f10, A98, c99, x11b11)), encCall_dd w0 (E97 ++ D) x := call_set hdm ⟨(hdm _ (List.mem_of_getElem? hx1)).1.left, hE100.right⟩
                                                have sz102 : ∀ x ∈ (cs.set k1 (xf0, xf1, xf2, xf3, xf4, xf5, xf6, xf7, xf8, xf9, xA10, xc10, xb10, 2, xf14, xf15, n0, n1, n2, x11f4, x11f5, x11f6, x11f7, x11f8, x11f9, x11f10, A98, c99, x11b11)), csz x := csz_set hsz ⟨(hsz _ (List.mem_of_getElem? hx1)).1, (show (x11b11).length ≤ 140737488351232 from (by first | omega | exact Nat.zero_le _))⟩
                                                have hcv2 : CV W T k1 (xf0, xf1, xf2, xf3, xf4, xf5, xf6, xf7, xf8, xf9, xA10, xc10, xb10, 2, xf14, xf15, n0, n1, n2, x11f4, x11f5, x11f6, x11f7, x11f8, x11f9, x11f10, A98, c99, x11b11) (yf0, yf1, yf2, yf3, yf4, yf5, yf6, yf7, yf8, yf9, yA10, yc10, yb10, n0, n1, n2, x11f4, x11f5, x11f6, x11f7, x11f8, x11f9, x11f10, x11A11, x11c11, x11b11, 2, yf27, yf28) := ⟨hcv.q, rfl, rfl, fun h => absurd (show (2 : Int) = 1 from h) (by decide), hcv.i, fun h => absurd (show (2 : Int) = 2 from rfl) h⟩
                                                refine st_run tbOk 2 hA (e' := (268, .bool false) :: (267, .bool true) :: _) rfl ?_; clear hA; intro a hA
                                                refine wpList_nil ?_
                                                replace hA := hA.sel [0, 9, 10, 11, 12, 46, 47, 48, 268] (e' := [(0, .int .u64 p), (9, .pointer (some ⟨b2, 0, none⟩)), (10, .int .i64 W), (11, .int .i64 T), (12, .slice (some ⟨b85, o86, none⟩) ((ls.set k1 (yf0, yf1, yf2, yf3, yf4, yf5, yf6, yf7, yf8, yf9, yA10, yc10, yb10, n0, n1, n2, x11f4, x11f5, x11f6, x11f7, x11f8, x11f9, x11f10, x11A11, x11c11, x11b11, 2, yf27, yf28)).length) cr), (46, .slice (some ⟨b9, o10, none⟩) l.length c), (47, .int .i64 ((l.length : Nat) : Int)), (48, .int .i64 ((k : Nat) : Int)), (268, .bool false)]) rfl
                                                refine xt_norm ?_
                                                refine cd_cond_f hA rfl ?_
                                                refine wp_skip ?_
                                                refine xb_norm ?_
                                                refine xb_norm ?_
                                                refine xt_norm ?_
                                                replace hS := hS.front 3 (C := [(b56, rowO [.int .u64 n0, .int .u64 n1, .int .u32 n2, .int .u16 x11f4, .int .u16 x11f5, .int .u64 x11f6, .int .u32 x11f7, .int .u8 x11f8, .int .u64 x11f9, .int .u64 x11f10, .slice x11A11 x11b11.length x11c11] 32)]) (L' := L95 :: (E97 ++ D) :: C93 :: [(b13, rowO [.int .u8 x11f0, .int .u64 x11f1, .int .u64 x11f2, .int .u32 x11f3, .int .u16 x11f4, .int .u16 x11f5, .int .u64 x11f6, .int .u32 x11f7, .int .u8 x11f8, .int .u64 x11f9, .int .u64 x11f10, .slice x11A11 x11b11.length x11c11, .int .u8 x11f14] 51)] :: F) rfl rfl
                                                replace hS := hS.drop1
                                                replace hS := hS.front 3 (C := [(b13, rowO [.int .u8 x11f0, .int .u64 x11f1, .int .u64 x11f2, .int .u32 x11f3, .int .u16 x11f4, .int .u16 x11f5, .int .u64 x11f6, .int .u32 x11f7, .int .u8 x11f8, .int .u64 x11f9, .int .u64 x11f10, .slice x11A11 x11b11.length x11c11, .int .u8 x11f14] 51)]) (L' := L95 :: (E97 ++ D) :: C93 :: F) rfl rfl
                                                replace hS := hS.drop1
                                                replace hS := hS.front 2 (C := C93) (L' := L95 :: (E97 ++ D) :: F) rfl rfl
                                                replace hS := hS.front 2 (C := (E97 ++ D)) (L' := C93 :: L95 :: F) rfl rfl
                                                replace hS := hS.front 2 (C := L95) (L' := (E97 ++ D) :: C93 :: F) rfl rfl
                                                exact ⟨(cs.set k1 (xf0, xf1, xf2, xf3, xf4, xf5, xf6, xf7, xf8, xf9, xA10, xc10, xb10, 2, xf14, xf15, n0, n1, n2, x11f4, x11f5, x11f6, x11f7, x11f8, x11f9, x11f10, A98, c99, x11b11)), (ls.set k1 (yf0, yf1, yf2, yf3, yf4, yf5, yf6, yf7, yf8, yf9, yA10, yc10, yb10, n0, n1, n2, x11f4, x11f5, x11f6, x11f7, x11f8, x11f9, x11f10, x11A11, x11c11, x11b11, 2, yf27, yf28)), L95, (E97 ++ D), (some ⟨b85, o86, none⟩), cr, C93, (hA.sel [0, 9, 10, 11, 12, 46, 47, 48] rfl), hS, (hI.set hcv2), hM96, hR9, dd101, sz102, hdr2⟩)
                                           · first
                                             | (exfalso; omega)
                                             | (replace hA := hA.rw 20 (v' := .bool false) rfl (vb_eq_f hc89)
                                                replace hA := hA.rw 256 (v' := .bool false) rfl (vb_eq_f hc89)
                                                refine cd_cond_f hA rfl ?_
                                                refine wp_skip ?_
                                                refine xt_norm ?_
                                                refine wp_seq ?_
                                                refine wp_region_lit ?_
                                                refine st_run tbOk 1 hA (e' := (264, .pointer (some ⟨b2, 0, none⟩)) :: _) rfl ?_; clear hA; intro a hA
                                                refine st_val hA rfl rfl (by decide) (rn_loadA tbOk hA [.int .u64 n0, .int .u64 n1, .int .u32 n2, .int .u16 x11f4, .int .u16 x11f5, .int .u64 x11f6, .int .u32 x11f7, .int .u8 x11f8, .int .u64 x11f9, .int .u64 x11f10, .slice x11A11 x11b11.length x11c11] rfl rfl rfl rfl rfl (cells_row (hS.heapAt 3 rfl) rfl)) ?_; clear hA; intro a hA
                                                replace hS := hS.front 1 (C := D) (L' := L :: Cr :: [(b56, rowO [.int .u64 n0, .int .u64 n1, .int .u32 n2, .int .u16 x11f4, .int .u16 x11f5, .int .u64 x11f6, .int .u32 x11f7, .int .u8 x11f8, .int .u64 x11f9, .int .u64 x11f10, .slice x11A11 x11b11.length x11c11] 32)] :: [(b13, rowO [.int .u8 x11f0, .int .u64 x11f1, .int .u64 x11f2, .int .u32 x11f3, .int .u16 x11f4, .int .u16 x11f5, .int .u64 x11f6, .int .u32 x11f7, .int .u8 x11f8, .int .u64 x11f9, .int .u64 x11f10, .slice x11A11 x11b11.length x11c11, .int .u8 x11f14] 51)] :: F) rfl rfl
                                                replace hS := hS.front 1 (C := L) (L' := D :: Cr :: [(b56, rowO [.int .u64 n0, .int .u64 n1, .int .u32 n2, .int .u16 x11f4, .int .u16 x11f5, .int .u64 x11f6, .int .u32 x11f7, .int .u8 x11f8, .int .u64 x11f9, .int .u64 x11f10, .slice x11A11 x11b11.length x11c11] 32)] :: [(b13, rowO [.int .u8 x11f0, .int .u64 x11f1, .int .u64 x11f2, .int .u32 x11f3, .int .u16 x11f4, .int .u16 x11f5, .int .u64 x11f6, .int .u32 x11f7, .int .u8 x11f8, .int .u64 x11f9, .int .u64 x11f10, .slice x11A11 x11b11.length x11c11, .int .u8 x11f14] 51)] :: F) rfl rfl
                                                refine st_call0 hA rfl rfl rfl isfn12 rfl rfl (by decide) (answer_no12 hS hM n0 n1 n2 x11f4 x11f5 x11f6 x11f7 x11f8 x11f9 x11f10 _ (k := k1) (x := (xf0, xf1, xf2, xf3, xf4, xf5, xf6, xf7, xf8, xf9, xA10, xc10, xb10, xf13, xf14, xf15, xf16, xf17, xf18, xf19, xf20, xf21, xf22, xf23, xf24, xf25, xA26, xc26, xb26)) hx1 (by omega) hn21 (fun h => by have h1 : xf13 = 1 := h.1; have h2 := h.2.1; have h3 : n1 = xf0 := h.2.2; omega)) ?_
                                                clear hA hS; rintro _ w103 a ⟨L104, hM105, rfl, hS⟩ hA
                                                refine st_run tbOk 2 hA (e' := (268, .bool false) :: (267, .bool false) :: _) rfl ?_; clear hA; intro a hA
                                                refine wpList_nil ?_
                                                replace hA := hA.sel [0, 9, 10, 11, 12, 46, 47, 48, 268] (e' := [(0, .int .u64 p), (9, .pointer (some ⟨b2, 0, none⟩)), (10, .int .i64 W), (11, .int .i64 T), (12, .slice (some ⟨b85, o86, none⟩) ls.length cr), (46, .slice (some ⟨b9, o10, none⟩) l.length c), (47, .int .i64 ((l.length : Nat) : Int)), (48, .int .i64 ((k : Nat) : Int)), (268, .bool false)]) rfl
                                                refine xt_norm ?_
                                                refine cd_cond_f hA rfl ?_
                                                refine wp_skip ?_
                                                refine xb_norm ?_
                                                refine xb_norm ?_
                                                refine xt_norm ?_
                                                replace hS := hS.front 3 (C := [(b56, rowO [.int .u64 n0, .int .u64 n1, .int .u32 n2, .int .u16 x11f4, .int .u16 x11f5, .int .u64 x11f6, .int .u32 x11f7, .int .u8 x11f8, .int .u64 x11f9, .int .u64 x11f10, .slice x11A11 x11b11.length x11c11] 32)]) (L' := L104 :: D :: Cr :: [(b13, rowO [.int .u8 x11f0, .int .u64 x11f1, .int .u64 x11f2, .int .u32 x11f3, .int .u16 x11f4, .int .u16 x11f5, .int .u64 x11f6, .int .u32 x11f7, .int .u8 x11f8, .int .u64 x11f9, .int .u64 x11f10, .slice x11A11 x11b11.length x11c11, .int .u8 x11f14] 51)] :: F) rfl rfl
                                                replace hS := hS.drop1
                                                replace hS := hS.front 3 (C := [(b13, rowO [.int .u8 x11f0, .int .u64 x11f1, .int .u64 x11f2, .int .u32 x11f3, .int .u16 x11f4, .int .u16 x11f5, .int .u64 x11f6, .int .u32 x11f7, .int .u8 x11f8, .int .u64 x11f9, .int .u64 x11f10, .slice x11A11 x11b11.length x11c11, .int .u8 x11f14] 51)]) (L' := L104 :: D :: Cr :: F) rfl rfl
                                                replace hS := hS.drop1
                                                replace hS := hS.front 2 (C := Cr) (L' := L104 :: D :: F) rfl rfl
                                                replace hS := hS.front 2 (C := D) (L' := Cr :: L104 :: F) rfl rfl
                                                replace hS := hS.front 2 (C := L104) (L' := D :: Cr :: F) rfl rfl
                                                exact ⟨(cs), (ls), L104, D, (some ⟨b85, o86, none⟩), cr, Cr, (hA.sel [0, 9, 10, 11, 12, 46, 47, 48] rfl), hS, hI, hM105, hR5, hdm, hsz, hdr⟩))
                                      · first
                                        | (exfalso; omega)
                                        | (replace hA := hA.rw 244 (v' := .bool false) rfl (vb_eq_f hc88)
                                           replace hA := hA.rw 245 (v' := .bool false) rfl (vb_eq_f hc88)
                                           replace hA := hA.rw 246 (v' := .bool false) rfl (vb_eq_f hc88)
                                           refine dr_run tbOk 10 hA hS (e' := (20, .bool false) :: (255, .bool false) :: (254, undef) :: (253, undef) :: (252, undef) :: (251, undef) :: (250, undef) :: (249, undef) :: (248, undef) :: (247, undef) :: _) rfl ?_; clear hA; intro a hA
                                           refine dr_end ?_
                                           replace hA := hA.sel [0, 9, 10, 11, 12, 18, 20, 21, 46, 47, 48] (e' := [(0, .int .u64 p), (9, .pointer (some ⟨b2, 0, none⟩)), (10, .int .i64 W), (11, .int .i64 T), (12, .slice (some ⟨b85, o86, none⟩) ls.length cr), (18, .pointer (some ⟨b56, 0, none⟩)), (20, .bool false), (21, .pointer (some ⟨b85, o86 + (k1 * 25), none⟩)), (46, .slice (some ⟨b9, o10, none⟩) l.length c), (47, .int .i64 ((l.length : Nat) : Int)), (48, .int .i64 ((k : Nat) : Int))]) rfl
                                           refine xt_norm ?_
                                           refine wp_seq ?_
                                           refine wp_region_lit ?_
                                           refine st_run tbOk 1 hA (e' := (256, .bool false) :: _) rfl ?_; clear hA; intro a hA
                                           refine wpList_nil ?_
                                           refine xt_norm ?_
                                           refine cd_cond_f hA rfl ?_
                                           refine wp_skip ?_
                                           refine xt_norm ?_
                                           refine wp_seq ?_
                                           refine wp_region_lit ?_
                                           refine st_run tbOk 1 hA (e' := (264, .pointer (some ⟨b2, 0, none⟩)) :: _) rfl ?_; clear hA; intro a hA
                                           refine st_val hA rfl rfl (by decide) (rn_loadA tbOk hA [.int .u64 n0, .int .u64 n1, .int .u32 n2, .int .u16 x11f4, .int .u16 x11f5, .int .u64 x11f6, .int .u32 x11f7, .int .u8 x11f8, .int .u64 x11f9, .int .u64 x11f10, .slice x11A11 x11b11.length x11c11] rfl rfl rfl rfl rfl (cells_row (hS.heapAt 3 rfl) rfl)) ?_; clear hA; intro a hA
                                           replace hS := hS.front 1 (C := D) (L' := L :: Cr :: [(b56, rowO [.int .u64 n0, .int .u64 n1, .int .u32 n2, .int .u16 x11f4, .int .u16 x11f5, .int .u64 x11f6, .int .u32 x11f7, .int .u8 x11f8, .int .u64 x11f9, .int .u64 x11f10, .slice x11A11 x11b11.length x11c11] 32)] :: [(b13, rowO [.int .u8 x11f0, .int .u64 x11f1, .int .u64 x11f2, .int .u32 x11f3, .int .u16 x11f4, .int .u16 x11f5, .int .u64 x11f6, .int .u32 x11f7, .int .u8 x11f8, .int .u64 x11f9, .int .u64 x11f10, .slice x11A11 x11b11.length x11c11, .int .u8 x11f14] 51)] :: F) rfl rfl
                                           replace hS := hS.front 1 (C := L) (L' := D :: Cr :: [(b56, rowO [.int .u64 n0, .int .u64 n1, .int .u32 n2, .int .u16 x11f4, .int .u16 x11f5, .int .u64 x11f6, .int .u32 x11f7, .int .u8 x11f8, .int .u64 x11f9, .int .u64 x11f10, .slice x11A11 x11b11.length x11c11] 32)] :: [(b13, rowO [.int .u8 x11f0, .int .u64 x11f1, .int .u64 x11f2, .int .u32 x11f3, .int .u16 x11f4, .int .u16 x11f5, .int .u64 x11f6, .int .u32 x11f7, .int .u8 x11f8, .int .u64 x11f9, .int .u64 x11f10, .slice x11A11 x11b11.length x11c11, .int .u8 x11f14] 51)] :: F) rfl rfl
                                           refine st_call0 hA rfl rfl rfl isfn12 rfl rfl (by decide) (answer_no12 hS hM n0 n1 n2 x11f4 x11f5 x11f6 x11f7 x11f8 x11f9 x11f10 _ (k := k1) (x := (xf0, xf1, xf2, xf3, xf4, xf5, xf6, xf7, xf8, xf9, xA10, xc10, xb10, xf13, xf14, xf15, xf16, xf17, xf18, xf19, xf20, xf21, xf22, xf23, xf24, xf25, xA26, xc26, xb26)) hx1 (by omega) hn21 (fun h => by have h1 : xf13 = 1 := h.1; have h2 := h.2.1; have h3 : n1 = xf0 := h.2.2; omega)) ?_
                                           clear hA hS; rintro _ w106 a ⟨L107, hM108, rfl, hS⟩ hA
                                           refine st_run tbOk 2 hA (e' := (268, .bool false) :: (267, .bool false) :: _) rfl ?_; clear hA; intro a hA
                                           refine wpList_nil ?_
                                           replace hA := hA.sel [0, 9, 10, 11, 12, 46, 47, 48, 268] (e' := [(0, .int .u64 p), (9, .pointer (some ⟨b2, 0, none⟩)), (10, .int .i64 W), (11, .int .i64 T), (12, .slice (some ⟨b85, o86, none⟩) ls.length cr), (46, .slice (some ⟨b9, o10, none⟩) l.length c), (47, .int .i64 ((l.length : Nat) : Int)), (48, .int .i64 ((k : Nat) : Int)), (268, .bool false)]) rfl
                                           refine xt_norm ?_
                                           refine cd_cond_f hA rfl ?_
                                           refine wp_skip ?_
                                           refine xb_norm ?_
                                           refine xb_norm ?_
                                           refine xt_norm ?_
                                           replace hS := hS.front 3 (C := [(b56, rowO [.int .u64 n0, .int .u64 n1, .int .u32 n2, .int .u16 x11f4, .int .u16 x11f5, .int .u64 x11f6, .int .u32 x11f7, .int .u8 x11f8, .int .u64 x11f9, .int .u64 x11f10, .slice x11A11 x11b11.length x11c11] 32)]) (L' := L107 :: D :: Cr :: [(b13, rowO [.int .u8 x11f0, .int .u64 x11f1, .int .u64 x11f2, .int .u32 x11f3, .int .u16 x11f4, .int .u16 x11f5, .int .u64 x11f6, .int .u32 x11f7, .int .u8 x11f8, .int .u64 x11f9, .int .u64 x11f10, .slice x11A11 x11b11.length x11c11, .int .u8 x11f14] 51)] :: F) rfl rfl
                                           replace hS := hS.drop1
                                           replace hS := hS.front 3 (C := [(b13, rowO [.int .u8 x11f0, .int .u64 x11f1, .int .u64 x11f2, .int .u32 x11f3, .int .u16 x11f4, .int .u16 x11f5, .int .u64 x11f6, .int .u32 x11f7, .int .u8 x11f8, .int .u64 x11f9, .int .u64 x11f10, .slice x11A11 x11b11.length x11c11, .int .u8 x11f14] 51)]) (L' := L107 :: D :: Cr :: F) rfl rfl
                                           replace hS := hS.drop1
                                           replace hS := hS.front 2 (C := Cr) (L' := L107 :: D :: F) rfl rfl
                                           replace hS := hS.front 2 (C := D) (L' := Cr :: L107 :: F) rfl rfl
                                           replace hS := hS.front 2 (C := L107) (L' := D :: Cr :: F) rfl rfl
                                           exact ⟨(cs), (ls), L107, D, (some ⟨b85, o86, none⟩), cr, Cr, (hA.sel [0, 9, 10, 11, 12, 46, 47, 48] rfl), hS, hI, hM108, hR5, hdm, hsz, hdr⟩))
                                 · first
                                   | (exfalso; omega)
                                   | (replace hA := hA.rw 239 (v' := .bool false) rfl (vb_eq_f hc87)
                                      replace hA := hA.rw 240 (v' := .bool false) rfl (vb_eq_f hc87)
                                      refine dr_run tbOk 16 hA hS (e' := (20, .bool false) :: (255, .bool false) :: (254, undef) :: (253, undef) :: (252, undef) :: (251, undef) :: (250, undef) :: (249, undef) :: (248, undef) :: (247, undef) :: (246, .bool false) :: (245, .bool false) :: (244, undef) :: (243, undef) :: (242, undef) :: (241, undef) :: _) rfl ?_; clear hA; intro a hA
                                      refine dr_end ?_
                                      replace hA := hA.sel [0, 9, 10, 11, 12, 18, 20, 21, 46, 47, 48] (e' := [(0, .int .u64 p), (9, .pointer (some ⟨b2, 0, none⟩)), (10, .int .i64 W), (11, .int .i64 T), (12, .slice (some ⟨b85, o86, none⟩) ls.length cr), (18, .pointer (some ⟨b56, 0, none⟩)), (20, .bool false), (21, .pointer (some ⟨b85, o86 + (k1 * 25), none⟩)), (46, .slice (some ⟨b9, o10, none⟩) l.length c), (47, .int .i64 ((l.length : Nat) : Int)), (48, .int .i64 ((k : Nat) : Int))]) rfl
                                      refine xt_norm ?_
                                      refine wp_seq ?_
                                      refine wp_region_lit ?_
                                      refine st_run tbOk 1 hA (e' := (256, .bool false) :: _) rfl ?_; clear hA; intro a hA
                                      refine wpList_nil ?_
                                      refine xt_norm ?_
                                      refine cd_cond_f hA rfl ?_
                                      refine wp_skip ?_
                                      refine xt_norm ?_
                                      refine wp_seq ?_
                                      refine wp_region_lit ?_
                                      refine st_run tbOk 1 hA (e' := (264, .pointer (some ⟨b2, 0, none⟩)) :: _) rfl ?_; clear hA; intro a hA
                                      refine st_val hA rfl rfl (by decide) (rn_loadA tbOk hA [.int .u64 n0, .int .u64 n1, .int .u32 n2, .int .u16 x11f4, .int .u16 x11f5, .int .u64 x11f6, .int .u32 x11f7, .int .u8 x11f8, .int .u64 x11f9, .int .u64 x11f10, .slice x11A11 x11b11.length x11c11] rfl rfl rfl rfl rfl (cells_row (hS.heapAt 3 rfl) rfl)) ?_; clear hA; intro a hA
                                      replace hS := hS.front 1 (C := D) (L' := L :: Cr :: [(b56, rowO [.int .u64 n0, .int .u64 n1, .int .u32 n2, .int .u16 x11f4, .int .u16 x11f5, .int .u64 x11f6, .int .u32 x11f7, .int .u8 x11f8, .int .u64 x11f9, .int .u64 x11f10, .slice x11A11 x11b11.length x11c11] 32)] :: [(b13, rowO [.int .u8 x11f0, .int .u64 x11f1, .int .u64 x11f2, .int .u32 x11f3, .int .u16 x11f4, .int .u16 x11f5, .int .u64 x11f6, .int .u32 x11f7, .int .u8 x11f8, .int .u64 x11f9, .int .u64 x11f10, .slice x11A11 x11b11.length x11c11, .int .u8 x11f14] 51)] :: F) rfl rfl
                                      replace hS := hS.front 1 (C := L) (L' := D :: Cr :: [(b56, rowO [.int .u64 n0, .int .u64 n1, .int .u32 n2, .int .u16 x11f4, .int .u16 x11f5, .int .u64 x11f6, .int .u32 x11f7, .int .u8 x11f8, .int .u64 x11f9, .int .u64 x11f10, .slice x11A11 x11b11.length x11c11] 32)] :: [(b13, rowO [.int .u8 x11f0, .int .u64 x11f1, .int .u64 x11f2, .int .u32 x11f3, .int .u16 x11f4, .int .u16 x11f5, .int .u64 x11f6, .int .u32 x11f7, .int .u8 x11f8, .int .u64 x11f9, .int .u64 x11f10, .slice x11A11 x11b11.length x11c11, .int .u8 x11f14] 51)] :: F) rfl rfl
                                      refine st_call0 hA rfl rfl rfl isfn12 rfl rfl (by decide) (answer_no12 hS hM n0 n1 n2 x11f4 x11f5 x11f6 x11f7 x11f8 x11f9 x11f10 _ (k := k1) (x := (xf0, xf1, xf2, xf3, xf4, xf5, xf6, xf7, xf8, xf9, xA10, xc10, xb10, xf13, xf14, xf15, xf16, xf17, xf18, xf19, xf20, xf21, xf22, xf23, xf24, xf25, xA26, xc26, xb26)) hx1 (by omega) hn21 (fun h => by have h1 : xf13 = 1 := h.1; have h2 := h.2.1; have h3 : n1 = xf0 := h.2.2; omega)) ?_
                                      clear hA hS; rintro _ w109 a ⟨L110, hM111, rfl, hS⟩ hA
                                      refine st_run tbOk 2 hA (e' := (268, .bool false) :: (267, .bool false) :: _) rfl ?_; clear hA; intro a hA
                                      refine wpList_nil ?_
                                      replace hA := hA.sel [0, 9, 10, 11, 12, 46, 47, 48, 268] (e' := [(0, .int .u64 p), (9, .pointer (some ⟨b2, 0, none⟩)), (10, .int .i64 W), (11, .int .i64 T), (12, .slice (some ⟨b85, o86, none⟩) ls.length cr), (46, .slice (some ⟨b9, o10, none⟩) l.length c), (47, .int .i64 ((l.length : Nat) : Int)), (48, .int .i64 ((k : Nat) : Int)), (268, .bool false)]) rfl
                                      refine xt_norm ?_
                                      refine cd_cond_f hA rfl ?_
                                      refine wp_skip ?_
                                      refine xb_norm ?_
                                      refine xb_norm ?_
                                      refine xt_norm ?_
                                      replace hS := hS.front 3 (C := [(b56, rowO [.int .u64 n0, .int .u64 n1, .int .u32 n2, .int .u16 x11f4, .int .u16 x11f5, .int .u64 x11f6, .int .u32 x11f7, .int .u8 x11f8, .int .u64 x11f9, .int .u64 x11f10, .slice x11A11 x11b11.length x11c11] 32)]) (L' := L110 :: D :: Cr :: [(b13, rowO [.int .u8 x11f0, .int .u64 x11f1, .int .u64 x11f2, .int .u32 x11f3, .int .u16 x11f4, .int .u16 x11f5, .int .u64 x11f6, .int .u32 x11f7, .int .u8 x11f8, .int .u64 x11f9, .int .u64 x11f10, .slice x11A11 x11b11.length x11c11, .int .u8 x11f14] 51)] :: F) rfl rfl
                                      replace hS := hS.drop1
                                      replace hS := hS.front 3 (C := [(b13, rowO [.int .u8 x11f0, .int .u64 x11f1, .int .u64 x11f2, .int .u32 x11f3, .int .u16 x11f4, .int .u16 x11f5, .int .u64 x11f6, .int .u32 x11f7, .int .u8 x11f8, .int .u64 x11f9, .int .u64 x11f10, .slice x11A11 x11b11.length x11c11, .int .u8 x11f14] 51)]) (L' := L110 :: D :: Cr :: F) rfl rfl
                                      replace hS := hS.drop1
                                      replace hS := hS.front 2 (C := Cr) (L' := L110 :: D :: F) rfl rfl
                                      replace hS := hS.front 2 (C := D) (L' := Cr :: L110 :: F) rfl rfl
                                      replace hS := hS.front 2 (C := L110) (L' := D :: Cr :: F) rfl rfl
                                      exact ⟨(cs), (ls), L110, D, (some ⟨b85, o86, none⟩), cr, Cr, (hA.sel [0, 9, 10, 11, 12, 46, 47, 48] rfl), hS, hI, hM111, hR5, hdm, hsz, hdr⟩))
                            · first
                              | (exfalso; omega)
                              | (replace hA := hA.rw 229 (v' := .bool false) rfl (vb_false hc84)
                                 refine cd_cond_f hA rfl ?_
                                 refine wp_skip ?_
                                 refine xt_norm ?_
                                 refine wp_seq ?_
                                 refine wp_region_lit ?_
                                 refine st_run tbOk 1 hA (e' := (264, .pointer (some ⟨b2, 0, none⟩)) :: _) rfl ?_; clear hA; intro a hA
                                 refine st_val hA rfl rfl (by decide) (rn_loadA tbOk hA [.int .u64 n0, .int .u64 n1, .int .u32 n2, .int .u16 x11f4, .int .u16 x11f5, .int .u64 x11f6, .int .u32 x11f7, .int .u8 x11f8, .int .u64 x11f9, .int .u64 x11f10, .slice x11A11 x11b11.length x11c11] rfl rfl rfl rfl rfl (cells_row (hS.heapAt 3 rfl) rfl)) ?_; clear hA; intro a hA
                                 replace hS := hS.front 1 (C := D) (L' := L :: Cr :: [(b56, rowO [.int .u64 n0, .int .u64 n1, .int .u32 n2, .int .u16 x11f4, .int .u16 x11f5, .int .u64 x11f6, .int .u32 x11f7, .int .u8 x11f8, .int .u64 x11f9, .int .u64 x11f10, .slice x11A11 x11b11.length x11c11] 32)] :: [(b13, rowO [.int .u8 x11f0, .int .u64 x11f1, .int .u64 x11f2, .int .u32 x11f3, .int .u16 x11f4, .int .u16 x11f5, .int .u64 x11f6, .int .u32 x11f7, .int .u8 x11f8, .int .u64 x11f9, .int .u64 x11f10, .slice x11A11 x11b11.length x11c11, .int .u8 x11f14] 51)] :: F) rfl rfl
                                 replace hS := hS.front 1 (C := L) (L' := D :: Cr :: [(b56, rowO [.int .u64 n0, .int .u64 n1, .int .u32 n2, .int .u16 x11f4, .int .u16 x11f5, .int .u64 x11f6, .int .u32 x11f7, .int .u8 x11f8, .int .u64 x11f9, .int .u64 x11f10, .slice x11A11 x11b11.length x11c11] 32)] :: [(b13, rowO [.int .u8 x11f0, .int .u64 x11f1, .int .u64 x11f2, .int .u32 x11f3, .int .u16 x11f4, .int .u16 x11f5, .int .u64 x11f6, .int .u32 x11f7, .int .u8 x11f8, .int .u64 x11f9, .int .u64 x11f10, .slice x11A11 x11b11.length x11c11, .int .u8 x11f14] 51)] :: F) rfl rfl
                                 refine st_call0 hA rfl rfl rfl isfn12 rfl rfl (by decide) (answer_no12 hS hM n0 n1 n2 x11f4 x11f5 x11f6 x11f7 x11f8 x11f9 x11f10 _ (k := k1) (x := (xf0, xf1, xf2, xf3, xf4, xf5, xf6, xf7, xf8, xf9, xA10, xc10, xb10, xf13, xf14, xf15, xf16, xf17, xf18, xf19, xf20, xf21, xf22, xf23, xf24, xf25, xA26, xc26, xb26)) hx1 (by omega) hn21 (fun h => by have h1 : xf13 = 1 := h.1; have h2 := h.2.1; have h3 : n1 = xf0 := h.2.2; omega)) ?_
                                 clear hA hS; rintro _ w112 a ⟨L113, hM114, rfl, hS⟩ hA
                                 refine st_run tbOk 2 hA (e' := (268, .bool false) :: (267, .bool false) :: _) rfl ?_; clear hA; intro a hA
                                 refine wpList_nil ?_
                                 replace hA := hA.sel [0, 9, 10, 11, 12, 46, 47, 48, 268] (e' := [(0, .int .u64 p), (9, .pointer (some ⟨b2, 0, none⟩)), (10, .int .i64 W), (11, .int .i64 T), (12, .slice Ar5 ls.length cr), (46, .slice (some ⟨b9, o10, none⟩) l.length c), (47, .int .i64 ((l.length : Nat) : Int)), (48, .int .i64 ((k : Nat) : Int)), (268, .bool false)]) rfl
                                 refine xt_norm ?_
                                 refine cd_cond_f hA rfl ?_
                                 refine wp_skip ?_
                                 refine xb_norm ?_
                                 refine xb_norm ?_
                                 refine xt_norm ?_
                                 replace hS := hS.front 3 (C := [(b56, rowO [.int .u64 n0, .int .u64 n1, .int .u32 n2, .int .u16 x11f4, .int .u16 x11f5, .int .u64 x11f6, .int .u32 x11f7, .int .u8 x11f8, .int .u64 x11f9, .int .u64 x11f10, .slice x11A11 x11b11.length x11c11] 32)]) (L' := L113 :: D :: Cr :: [(b13, rowO [.int .u8 x11f0, .int .u64 x11f1, .int .u64 x11f2, .int .u32 x11f3, .int .u16 x11f4, .int .u16 x11f5, .int .u64 x11f6, .int .u32 x11f7, .int .u8 x11f8, .int .u64 x11f9, .int .u64 x11f10, .slice x11A11 x11b11.length x11c11, .int .u8 x11f14] 51)] :: F) rfl rfl
                                 replace hS := hS.drop1
                                 replace hS := hS.front 3 (C := [(b13, rowO [.int .u8 x11f0, .int .u64 x11f1, .int .u64 x11f2, .int .u32 x11f3, .int .u16 x11f4, .int .u16 x11f5, .int .u64 x11f6, .int .u32 x11f7, .int .u8 x11f8, .int .u64 x11f9, .int .u64 x11f10, .slice x11A11 x11b11.length x11c11, .int .u8 x11f14] 51)]) (L' := L113 :: D :: Cr :: F) rfl rfl
                                 replace hS := hS.drop1
                                 replace hS := hS.front 2 (C := Cr) (L' := L113 :: D :: F) rfl rfl
                                 replace hS := hS.front 2 (C := D) (L' := Cr :: L113 :: F) rfl rfl
                                 replace hS := hS.front 2 (C := L113) (L' := D :: Cr :: F) rfl rfl
                                 exact ⟨(cs), (ls), L113, D, Ar5, cr, Cr, (hA.sel [0, 9, 10, 11, 12, 46, 47, 48] rfl), hS, hI, hM114, hR5, hdm, hsz, hdr⟩))
                       · first
                         | (exfalso; omega)
                         | (replace hA := hA.rw 221 (v' := .bool false) rfl (vb_false hc83)
                            replace hA := hA.rw 222 (v' := .bool false) rfl (vb_false hc83)
                            refine st_run tbOk 7 hA (e' := (229, .bool false) :: (228, undef) :: (227, undef) :: (226, undef) :: (225, undef) :: (224, undef) :: (223, undef) :: _) rfl ?_; clear hA; intro a hA
                            refine wpList_nil ?_
                            replace hA := hA.sel [0, 9, 10, 11, 12, 18, 20, 46, 47, 48, 229] (e' := [(0, .int .u64 p), (9, .pointer (some ⟨b2, 0, none⟩)), (10, .int .i64 W), (11, .int .i64 T), (12, .slice Ar5 ls.length cr), (18, .pointer (some ⟨b56, 0, none⟩)), (20, .bool false), (46, .slice (some ⟨b9, o10, none⟩) l.length c), (47, .int .i64 ((l.length : Nat) : Int)), (48, .int .i64 ((k : Nat) : Int)), (229, .bool false)]) rfl
                            refine xt_norm ?_
                            refine cd_cond_f hA rfl ?_
                            refine wp_skip ?_
                            refine xt_norm ?_
                            refine wp_seq ?_
                            refine wp_region_lit ?_
                            refine st_run tbOk 1 hA (e' := (264, .pointer (some ⟨b2, 0, none⟩)) :: _) rfl ?_; clear hA; intro a hA
                            refine st_val hA rfl rfl (by decide) (rn_loadA tbOk hA [.int .u64 n0, .int .u64 n1, .int .u32 n2, .int .u16 x11f4, .int .u16 x11f5, .int .u64 x11f6, .int .u32 x11f7, .int .u8 x11f8, .int .u64 x11f9, .int .u64 x11f10, .slice x11A11 x11b11.length x11c11] rfl rfl rfl rfl rfl (cells_row (hS.heapAt 3 rfl) rfl)) ?_; clear hA; intro a hA
                            replace hS := hS.front 1 (C := D) (L' := L :: Cr :: [(b56, rowO [.int .u64 n0, .int .u64 n1, .int .u32 n2, .int .u16 x11f4, .int .u16 x11f5, .int .u64 x11f6, .int .u32 x11f7, .int .u8 x11f8, .int .u64 x11f9, .int .u64 x11f10, .slice x11A11 x11b11.length x11c11] 32)] :: [(b13, rowO [.int .u8 x11f0, .int .u64 x11f1, .int .u64 x11f2, .int .u32 x11f3, .int .u16 x11f4, .int .u16 x11f5, .int .u64 x11f6, .int .u32 x11f7, .int .u8 x11f8, .int .u64 x11f9, .int .u64 x11f10, .slice x11A11 x11b11.length x11c11, .int .u8 x11f14] 51)] :: F) rfl rfl
                            replace hS := hS.front 1 (C := L) (L' := D :: Cr :: [(b56, rowO [.int .u64 n0, .int .u64 n1, .int .u32 n2, .int .u16 x11f4, .int .u16 x11f5, .int .u64 x11f6, .int .u32 x11f7, .int .u8 x11f8, .int .u64 x11f9, .int .u64 x11f10, .slice x11A11 x11b11.length x11c11] 32)] :: [(b13, rowO [.int .u8 x11f0, .int .u64 x11f1, .int .u64 x11f2, .int .u32 x11f3, .int .u16 x11f4, .int .u16 x11f5, .int .u64 x11f6, .int .u32 x11f7, .int .u8 x11f8, .int .u64 x11f9, .int .u64 x11f10, .slice x11A11 x11b11.length x11c11, .int .u8 x11f14] 51)] :: F) rfl rfl
                            refine st_call0 hA rfl rfl rfl isfn12 rfl rfl (by decide) (answer_no12 hS hM n0 n1 n2 x11f4 x11f5 x11f6 x11f7 x11f8 x11f9 x11f10 _ (k := k1) (x := (xf0, xf1, xf2, xf3, xf4, xf5, xf6, xf7, xf8, xf9, xA10, xc10, xb10, xf13, xf14, xf15, xf16, xf17, xf18, xf19, xf20, xf21, xf22, xf23, xf24, xf25, xA26, xc26, xb26)) hx1 (by omega) hn21 (fun h => by have h1 : xf13 = 1 := h.1; have h2 := h.2.1; have h3 : n1 = xf0 := h.2.2; omega)) ?_
                            clear hA hS; rintro _ w115 a ⟨L116, hM117, rfl, hS⟩ hA
                            refine st_run tbOk 2 hA (e' := (268, .bool false) :: (267, .bool false) :: _) rfl ?_; clear hA; intro a hA
                            refine wpList_nil ?_
                            replace hA := hA.sel [0, 9, 10, 11, 12, 46, 47, 48, 268] (e' := [(0, .int .u64 p), (9, .pointer (some ⟨b2, 0, none⟩)), (10, .int .i64 W), (11, .int .i64 T), (12, .slice Ar5 ls.length cr), (46, .slice (some ⟨b9, o10, none⟩) l.length c), (47, .int .i64 ((l.length : Nat) : Int)), (48, .int .i64 ((k : Nat) : Int)), (268, .bool false)]) rfl
                            refine xt_norm ?_
                            refine cd_cond_f hA rfl ?_
                            refine wp_skip ?_
                            refine xb_norm ?_
                            refine xb_norm ?_
                            refine xt_norm ?_
                            replace hS := hS.front 3 (C := [(b56, rowO [.int .u64 n0, .int .u64 n1, .int .u32 n2, .int .u16 x11f4, .int .u16 x11f5, .int .u64 x11f6, .int .u32 x11f7, .int .u8 x11f8, .int .u64 x11f9, .int .u64 x11f10, .slice x11A11 x11b11.length x11c11] 32)]) (L' := L116 :: D :: Cr :: [(b13, rowO [.int .u8 x11f0, .int .u64 x11f1, .int .u64 x11f2, .int .u32 x11f3, .int .u16 x11f4, .int .u16 x11f5, .int .u64 x11f6, .int .u32 x11f7, .int .u8 x11f8, .int .u64 x11f9, .int .u64 x11f10, .slice x11A11 x11b11.length x11c11, .int .u8 x11f14] 51)] :: F) rfl rfl
                            replace hS := hS.drop1
                            replace hS := hS.front 3 (C := [(b13, rowO [.int .u8 x11f0, .int .u64 x11f1, .int .u64 x11f2, .int .u32 x11f3, .int .u16 x11f4, .int .u16 x11f5, .int .u64 x11f6, .int .u32 x11f7, .int .u8 x11f8, .int .u64 x11f9, .int .u64 x11f10, .slice x11A11 x11b11.length x11c11, .int .u8 x11f14] 51)]) (L' := L116 :: D :: Cr :: F) rfl rfl
                            replace hS := hS.drop1
                            replace hS := hS.front 2 (C := Cr) (L' := L116 :: D :: F) rfl rfl
                            replace hS := hS.front 2 (C := D) (L' := Cr :: L116 :: F) rfl rfl
                            replace hS := hS.front 2 (C := L116) (L' := D :: Cr :: F) rfl rfl
                            exact ⟨(cs), (ls), L116, D, Ar5, cr, Cr, (hA.sel [0, 9, 10, 11, 12, 46, 47, 48] rfl), hS, hI, hM117, hR5, hdm, hsz, hdr⟩))
              · first
                | (exfalso; omega)
                | (replace hA := hA.rw 178 (v' := .bool false) rfl (vb_eq_f hc55)
                   refine cd_cond_f hA rfl ?_
                   refine wp_seq ?_
                   refine wp_region_lit ?_
                   refine st_run tbOk 1 hA (e' := (22, .slice none 0 0) :: _) rfl ?_; clear hA; intro a hA
                   refine wpList_nil ?_
                   replace hA := hA.sel [0, 9, 10, 11, 12, 22, 46, 47, 48] (e' := [(0, .int .u64 p), (9, .pointer (some ⟨b2, 0, none⟩)), (10, .int .i64 W), (11, .int .i64 T), (12, .slice Ar ls.length cr), (22, .slice none 0 0), (46, .slice (some ⟨b9, o10, none⟩) l.length c), (47, .int .i64 ((l.length : Nat) : Int)), (48, .int .i64 ((k : Nat) : Int))]) rfl
                   refine xt_norm ?_
                   refine wp_seq ?_
                   refine wp_seq ?_
                   refine wp_region_lit ?_
                   refine st_run tbOk 3 hA (e' := (57, .int .i64 0) :: (56, .int .i64 ((ls.length : Nat) : Int)) :: (55, .slice Ar ls.length cr) :: _) rfl ?_; clear hA; intro a hA
                   refine wpList_nil ?_
                   replace hA := hA.sel [0, 9, 10, 11, 12, 22, 46, 47, 48, 56, 57] (e' := [(0, .int .u64 p), (9, .pointer (some ⟨b2, 0, none⟩)), (10, .int .i64 W), (11, .int .i64 T), (12, .slice Ar ls.length cr), (22, .slice none 0 0), (46, .slice (some ⟨b9, o10, none⟩) l.length c), (47, .int .i64 ((l.length : Nat) : Int)), (48, .int .i64 ((k : Nat) : Int)), (56, .int .i64 ((ls.length : Nat) : Int)), (57, .int .i64 0)]) rfl
                   refine xt_norm ?_
                   refine wp_block ?_
                   replace hS := hS.nil
                   replace hS := hS.front 1 (C := [(b13, rowO [.int .u8 x11f0, .int .u64 x11f1, .int .u64 x11f2, .int .u32 x11f3, .int .u16 x11f4, .int .u16 x11f5, .int .u64 x11f6, .int .u32 x11f7, .int .u8 x11f8, .int .u64 x11f9, .int .u64 x11f10, .slice x11A11 x11b11.length x11c11, .int .u8 x11f14] 51)]) (L' := [] :: L :: D :: Cr :: F) rfl rfl
                   replace hS := hS.drop1
                   replace hS := hS.front 3 (C := Cr) (L' := [] :: L :: D :: F) rfl rfl
                   replace hS := hS.front 3 (C := D) (L' := Cr :: [] :: L :: F) rfl rfl
                   replace hS := hS.front 3 (C := L) (L' := D :: Cr :: [] :: F) rfl rfl
                   refine wp_loop_ghost (fun m a w => ∃ (j : Nat) (out : List Msg) (C6 : Chunk) (Au : Option Addr) (cu : Nat) (U : Chunk), m = ls.length - j ∧ Has a 334 [(0, .int .u64 p), (9, .pointer (some ⟨b2, 0, none⟩)), (10, .int .i64 W), (11, .int .i64 T), (12, .slice Ar ls.length cr), (22, .slice Au out.length cu), (46, .slice (some ⟨b9, o10, none⟩) l.length c), (47, .int .i64 ((l.length : Nat) : Int)), (48, .int .i64 ((k : Nat) : Int)), (56, .int .i64 ((ls.length : Nat) : Int)), (57, .int .i64 ((j : Nat) : Int))] ∧ St w0 w (L :: D :: C6 :: U :: F) ∧ (j ≤ ls.length) ∧ (Own 55 25 (.slice Ar ls.length cr) ls.length (rows encLCall (mpl (ltick W T) ls j)) C6) ∧ (Own 32 11 (.slice Au out.length cu) out.length (rows encMessage out) U) ∧ (out.map mst = fml (lagain W T) (fun y => mst (lrq y)) ls j) ∧ (∀ y ∈ out, ∀ D, encMessage_dd w0 D y)) (ls.length - 0)
                     ⟨0, ([]), Cr, none, 0, ([]), rfl, (hA.sel [0, 9, 10, 11, 12, 22, 46, 47, 48, 56, 57] rfl), hS, Nat.zero_le _, (by rw [mpl_zero]; exact hR), (Own.nil 32 11), rfl, fun y hy => by simp at hy⟩ ?_
                   clear hA hS; rintro m0 a w118 ⟨j, out, C6, Au, cu, U, rfl, hA, hS, hj, hR6, hU, hum, hud⟩
                   have hol : out.length ≤ j := by
                       have h := congrArg List.length hum
                       rw [List.length_map] at h
                       rw [h]; exact fml_le _ _ _ _
                   refine wp_seq ?_
                   refine wp_region_lit ?_
                   refine st_run tbOk 1 hA (e' := (58, .bool (decide (((j : Nat) : Int) < ((ls.length : Nat) : Int)))) :: _) rfl ?_; clear hA; intro a hA
                   refine wpList_nil ?_
                   refine xt_norm ?_
                   refine wp_seq ?_
                   by_cases hc119 : ((j : Nat) : Int) < ((ls.length : Nat) : Int)
                   · first
                     | (exfalso; omega)
                     | (replace hA := hA.rw 58 (v' := .bool true) rfl (vb_true hc119)
                        refine cd_cond_t hA rfl ?_
                        refine wp_skip ?_
                        refine xt_norm ?_
                        refine wp_seq ?_
                        refine wp_block ?_
                        refine wp_seq ?_
                        refine wp_region_lit ?_
                        refine st_run tbOk 2 hA (e' := (23, .int .i64 ((j : Nat) : Int)) :: (59, .int .i64 ((j : Nat) : Int)) :: _) rfl ?_; clear hA; intro a hA
                        refine wpList_nil ?_
                        replace hA := hA.sel [0, 9, 10, 11, 12, 22, 23, 46, 47, 48, 56, 57] (e' := [(0, .int .u64 p), (9, .pointer (some ⟨b2, 0, none⟩)), (10, .int .i64 W), (11, .int .i64 T), (12, .slice Ar ls.length cr), (22, .slice Au out.length cu), (23, .int .i64 ((j : Nat) : Int)), (46, .slice (some ⟨b9, o10, none⟩) l.length c), (47, .int .i64 ((l.length : Nat) : Int)), (48, .int .i64 ((k : Nat) : Int)), (56, .int .i64 ((ls.length : Nat) : Int)), (57, .int .i64 ((j : Nat) : Int))]) rfl
                        refine xt_norm ?_
                        refine wp_seq ?_
                        refine wp_region_lit ?_
                        obtain ⟨y, hyj⟩ := get_ex (l := ls) (k := j) (by omega)
                        have gx : (mpl (ltick W T) ls j)[j]? = some y := mpl_at hyj
                        have hkl : j < (mpl (ltick W T) ls j).length := by rw [mpl_len]; omega
                        obtain ⟨x9, hx9⟩ := get_ex (l := cs) (k := j) (by omega)
                        have hcv := hI.at_ _ _ _ hx9 hyj
                        have hg9 := hcv.g; rw [hcv.s] at hg9
                        obtain ⟨yf0, yf1, yf2, yf3, yf4, yf5, yf6, yf7, yf8, yf9, yA10, yc10, yb10, yf13, yf14, yf15, yf16, yf17, yf18, yf19, yf20, yf21, yf22, yA23, yc23, yb23, yf26, yf27, yf28⟩ := y
                        dsimp only [lst, lage, lsent] at hg9
                        refine st_run tbOk 2 hA (e' := (61, .int .i64 ((j : Nat) : Int)) :: (60, .slice Ar ls.length cr) :: _) rfl ?_; clear hA; intro a hA
                        obtain ⟨b120, o121, rfl⟩ := hR6.isSome (k := j) (by omega)
                        refine st_val hA rfl rfl (by decide) (rn_indexAddr tbOk hA j (o121 + (j * 25)) rfl rfl rfl rfl rfl rfl (by rfl) (by omega) (by first | rfl | simp [Nat.mul_one, Nat.zero_add] | omega)) ?_; clear hA; intro a hA
                        refine st_run tbOk 1 hA (e' := (24, .pointer (some ⟨b120, o121 + (j * 25), none⟩)) :: _) rfl ?_; clear hA; intro a hA
                        refine wpList_nil ?_
                        replace hA := hA.sel [0, 9, 10, 11, 12, 22, 24, 46, 47, 48, 56, 57] (e' := [(0, .int .u64 p), (9, .pointer (some ⟨b2, 0, none⟩)), (10, .int .i64 W), (11, .int .i64 T), (12, .slice (some ⟨b120, o121, none⟩) ls.length cr), (22, .slice Au out.length cu), (24, .pointer (some ⟨b120, o121 + (j * 25), none⟩)), (46, .slice (some ⟨b9, o10, none⟩) l.length c), (47, .int .i64 ((l.length : Nat) : Int)), (48, .int .i64 ((k : Nat) : Int)), (56, .int .i64 ((ls.length : Nat) : Int)), (57, .int .i64 ((j : Nat) : Int))]) rfl
                        refine xt_norm ?_
                        refine wp_seq ?_
                        refine wp_seq ?_
                        refine wp_region_lit ?_
                        refine st_run tbOk 3 hA (e' := (65, .pointer (some ⟨b120, o121 + (j * 25) + 22, none⟩)) :: (64, .pointer (some ⟨b120, o121 + (j * 25), none⟩)) :: (63, .pointer (some ⟨b120, o121 + (j * 25), none⟩)) :: _) rfl ?_; clear hA; intro a hA
                        refine st_val hA rfl rfl (by decide) (rn_load tbOk hA rfl rfl rfl rfl ((hR6.rd (hS.own_ 2 rfl)).elemf (k := j) encLCall_ok gx (j := 22) rfl)) ?_; clear hA; intro a hA
                        refine st_run tbOk 1 hA (e' := (67, .bool (yf26 != 1)) :: _) rfl ?_; clear hA; intro a hA
                        refine wpList_nil ?_
                        replace hA := hA.sel [0, 9, 10, 11, 12, 22, 24, 46, 47, 48, 56, 57, 67] (e' := [(0, .int .u64 p), (9, .pointer (some ⟨b2, 0, none⟩)), (10, .int .i64 W), (11, .int .i64 T), (12, .slice (some ⟨b120, o121, none⟩) ls.length cr), (22, .slice Au out.length cu), (24, .pointer (some ⟨b120, o121 + (j * 25), none⟩)), (46, .slice (some ⟨b9, o10, none⟩) l.length c), (47, .int .i64 ((l.length : Nat) : Int)), (48, .int .i64 ((k : Nat) : Int)), (56, .int .i64 ((ls.length : Nat) : Int)), (57, .int .i64 ((j : Nat) : Int)), (67, .bool (yf26 != 1))]) rfl
                        refine xt_norm ?_
                        by_cases hc122 : yf26 = 1
                        · first
                          | (exfalso; omega)
                          | (replace hA := hA.rw 67 (v' := .bool false) rfl (vb_ne_f hc122)
                             refine cd_cond_f hA rfl ?_
                             refine wp_skip ?_
                             refine xt_norm ?_
                             refine wp_seq ?_
                             refine wp_region_lit ?_
                             have hg8 := hg9 (by omega)
                             refine st_run tbOk 3 hA (e' := (70, .pointer (some ⟨b120, o121 + (j * 25) + 23, none⟩)) :: (69, .pointer (some ⟨b120, o121 + (j * 25), none⟩)) :: (68, .pointer (some ⟨b120, o121 + (j * 25), none⟩)) :: _) rfl ?_; clear hA; intro a hA
                             refine st_val hA rfl rfl (by decide) (rn_load tbOk hA rfl rfl rfl rfl ((hR6.rd (hS.own_ 2 rfl)).elemf (k := j) encLCall_ok gx (j := 23) rfl)) ?_; clear hA; intro a hA
                             refine st_run tbOk 1 hA (e' := (72, .int .i64 (IntKind.i64.wrap (yf27 + 1))) :: _) rfl ?_; clear hA; intro a hA
                             replace hA := hA.rw 72 (v' := .int .i64 (yf27 + 1)) rfl (wr64 (by omega) (by omega) (by omega))
                             refine st_run tbOk 2 hA (e' := (74, .pointer (some ⟨b120, o121 + (j * 25) + 23, none⟩)) :: (73, .pointer (some ⟨b120, o121 + (j * 25), none⟩)) :: _) rfl ?_; clear hA; intro a hA
                             replace hS := hS.front 2 (C := C6) (L' := L :: D :: U :: F) rfl rfl
                             refine st_store_own tbOk hA hR6 hS ((j * 25) + 23) (o121 + (j * 25) + 23) [.int .i64 (yf27 + 1)] (rows encLCall ((mpl (ltick W T) ls j).set j (yf0, yf1, yf2, yf3, yf4, yf5, yf6, yf7, yf8, yf9, yA10, yc10, yb10, yf13, yf14, yf15, yf16, yf17, yf18, yf19, yf20, yf21, yf22, yA23, yc23, yb23, yf26, yf27 + 1, yf28))) rfl rfl rfl rfl (by rfl) rfl rfl (by intro u hu; first | (rw [List.mem_singleton.1 hu]; rfl) | (simp only [List.mem_cons, List.not_mem_nil, or_false] at hu; rcases hu with rfl <;> rfl)) (by simp only [rows_length encLCall_ok, List.length_set, mpl_len]; simp; omega) (rows_setf encLCall_ok (yf0, yf1, yf2, yf3, yf4, yf5, yf6, yf7, yf8, yf9, yA10, yc10, yb10, yf13, yf14, yf15, yf16, yf17, yf18, yf19, yf20, yf21, yf22, yA23, yc23, yb23, yf26, yf27 + 1, yf28) (gx) 23 [.int .i64 (yf27 + 1)] (Nat.le_of_ble_eq_true rfl) (by unfold encLCall; dsimp only; rfl)) rfl rfl ?_; clear hS; intro w123 C124 hO124 hS
                             refine wpList_nil ?_
                             replace hA := hA.sel [0, 9, 10, 11, 12, 22, 24, 46, 47, 48, 56, 57] (e' := [(0, .int .u64 p), (9, .pointer (some ⟨b2, 0, none⟩)), (10, .int .i64 W), (11, .int .i64 T), (12, .slice (some ⟨b120, o121, none⟩) ls.length cr), (22, .slice Au out.length cu), (24, .pointer (some ⟨b120, o121 + (j * 25), none⟩)), (46, .slice (some ⟨b9, o10, none⟩) l.length c), (47, .int .i64 ((l.length : Nat) : Int)), (48, .int .i64 ((k : Nat) : Int)), (56, .int .i64 ((ls.length : Nat) : Int)), (57, .int .i64 ((j : Nat) : Int))]) rfl
                             refine xt_norm ?_
                             refine wp_seq ?_
                             refine wp_region_lit ?_
                             refine st_run tbOk 3 hA (e' := (77, .pointer (some ⟨b120, o121 + (j * 25) + 23, none⟩)) :: (76, .pointer (some ⟨b120, o121 + (j * 25), none⟩)) :: (75, .pointer (some ⟨b120, o121 + (j * 25), none⟩)) :: _) rfl ?_; clear hA; intro a hA
                             refine st_val hA rfl rfl (by decide) (rn_load tbOk hA rfl rfl rfl rfl ((hO124.rd (hS.own_ 0 rfl)).elemf (k := j) encLCall_ok (List.getElem?_set_self (by first | exact hkl | (simp only [List.length_set]; first | exact hkl | omega))) (j := 23) rfl)) ?_; clear hA; intro a hA
                             refine st_run tbOk 3 hA (e' := (81, .bool ((yf27 + 1) == W)) :: (80, .bool ((yf27 + 1) == W)) :: (79, .int .i64 W) :: _) rfl ?_; clear hA; intro a hA
                             by_cases hc125 : yf27 + 1 = W
                             · first
                               | (exfalso; omega)
                               | (replace hA := hA.rw 80 (v' := .bool true) rfl (vb_eq_t hc125)
                                  replace hA := hA.rw 81 (v' := .bool true) rfl (vb_eq_t hc125)
                                  refine st_run tbOk 3 hA (e' := (84, .pointer (some ⟨b120, o121 + (j * 25) + 24, none⟩)) :: (83, .pointer (some ⟨b120, o121 + (j * 25), none⟩)) :: (82, .pointer (some ⟨b120, o121 + (j * 25), none⟩)) :: _) rfl ?_; clear hA; intro a hA
                                  refine st_val hA rfl rfl (by decide) (rn_load tbOk hA rfl rfl rfl rfl ((hO124.rd (hS.own_ 0 rfl)).elemf (k := j) encLCall_ok (List.getElem?_set_self (by first | exact hkl | (simp only [List.length_set]; first | exact hkl | omega))) (j := 24) rfl)) ?_; clear hA; intro a hA
                                  refine st_run tbOk 3 hA (e' := (88, .bool (yf28 == T)) :: (87, .bool (yf28 == T)) :: (86, .int .i64 T) :: _) rfl ?_; clear hA; intro a hA
                                  refine wpList_nil ?_
                                  replace hA := hA.sel [0, 9, 10, 11, 12, 22, 24, 46, 47, 48, 56, 57, 88] (e' := [(0, .int .u64 p), (9, .pointer (some ⟨b2, 0, none⟩)), (10, .int .i64 W), (11, .int .i64 T), (12, .slice (some ⟨b120, o121, none⟩) ls.length cr), (22, .slice Au out.length cu), (24, .pointer (some ⟨b120, o121 + (j * 25), none⟩)), (46, .slice (some ⟨b9, o10, none⟩) l.length c), (47, .int .i64 ((l.length : Nat) : Int)), (48, .int .i64 ((k : Nat) : Int)), (56, .int .i64 ((ls.length : Nat) : Int)), (57, .int .i64 ((j : Nat) : Int)), (88, .bool (yf28 == T))]) rfl
                                  refine xt_norm ?_
                                  by_cases hc126 : yf28 = T
                                  · first
                                    | (exfalso; omega)
                                    | (replace hA := hA.rw 88 (v' := .bool true) rfl (vb_eq_t hc126)
                                       refine cd_cond_t hA rfl ?_
                                       refine wp_region_lit ?_
                                       refine st_run tbOk 3 hA (e' := (91, .pointer (some ⟨b120, o121 + (j * 25) + 22, none⟩)) :: (90, .pointer (some ⟨b120, o121 + (j * 25), none⟩)) :: (89, .pointer (some ⟨b120, o121 + (j * 25), none⟩)) :: _) rfl ?_; clear hA; intro a hA
                                       refine st_store_own tbOk hA hO124 hS ((j * 25) + 22) (o121 + (j * 25) + 22) [.int .i64 3] (rows encLCall (((mpl (ltick W T) ls j).set j (yf0, yf1, yf2, yf3, yf4, yf5, yf6, yf7, yf8, yf9, yA10, yc10, yb10, yf13, yf14, yf15, yf16, yf17, yf18, yf19, yf20, yf21, yf22, yA23, yc23, yb23, yf26, yf27 + 1, yf28)).set j (yf0, yf1, yf2, yf3, yf4, yf5, yf6, yf7, yf8, yf9, yA10, yc10, yb10, yf13, yf14, yf15, yf16, yf17, yf18, yf19, yf20, yf21, yf22, yA23, yc23, yb23, 3, yf27 + 1, yf28))) rfl rfl rfl rfl (by rfl) rfl rfl (by intro u hu; first | (rw [List.mem_singleton.1 hu]; rfl) | (simp only [List.mem_cons, List.not_mem_nil, or_false] at hu; rcases hu with rfl <;> rfl)) (by simp only [rows_length encLCall_ok, List.length_set, mpl_len]; simp; omega) (rows_setf encLCall_ok (yf0, yf1, yf2, yf3, yf4, yf5, yf6, yf7, yf8, yf9, yA10, yc10, yb10, yf13, yf14, yf15, yf16, yf17, yf18, yf19, yf20, yf21, yf22, yA23, yc23, yb23, 3, yf27 + 1, yf28) ((List.getElem?_set_self (by first | exact hkl | (simp only [List.length_set]; exact hkl)))) 22 [.int .i64 3] (Nat.le_of_ble_eq_true rfl) (by unfold encLCall; dsimp only; rfl)) rfl rfl ?_; clear hS; intro w127 C128 hO128 hS
                                       refine wpList_nil ?_
                                       replace hA := hA.sel [0, 9, 10, 11, 12, 22, 46, 47, 48, 56, 57] (e' := [(0, .int .u64 p), (9, .pointer (some ⟨b2, 0, none⟩)), (10, .int .i64 W), (11, .int .i64 T), (12, .slice (some ⟨b120, o121, none⟩) ls.length cr), (22, .slice Au out.length cu), (46, .slice (some ⟨b9, o10, none⟩) l.length c), (47, .int .i64 ((l.length : Nat) : Int)), (48, .int .i64 ((k : Nat) : Int)), (56, .int .i64 ((ls.length : Nat) : Int)), (57, .int .i64 ((j : Nat) : Int))]) rfl
                                       refine xb_norm ?_
                                       refine xt_norm ?_
                                       refine wp_region_lit ?_
                                       refine st_run tbOk 1 hA (e' := (116, .int .i64 (IntKind.i64.wrap (((j : Nat) : Int) + 1))) :: _) rfl ?_; clear hA; intro a hA
                                       replace hA := hA.rw 116 (v' := .int .i64 ((j + 1 : Nat) : Int)) rfl (wr64 (by omega) (by omega) (by omega))
                                       refine st_run tbOk 1 hA (e' := (57, .int .i64 ((j + 1 : Nat) : Int)) :: _) rfl ?_; clear hA; intro a hA
                                       refine wpList_nil ?_
                                       replace hA := hA.sel [0, 9, 10, 11, 12, 22, 46, 47, 48, 56, 57] (e' := [(0, .int .u64 p), (9, .pointer (some ⟨b2, 0, none⟩)), (10, .int .i64 W), (11, .int .i64 T), (12, .slice (some ⟨b120, o121, none⟩) ls.length cr), (22, .slice Au out.length cu), (46, .slice (some ⟨b9, o10, none⟩) l.length c), (47, .int .i64 ((l.length : Nat) : Int)), (48, .int .i64 ((k : Nat) : Int)), (56, .int .i64 ((ls.length : Nat) : Int)), (57, .int .i64 ((j + 1 : Nat) : Int))]) rfl
                                       have hss : ((mpl (ltick W T) ls j).set j (yf0, yf1, yf2, yf3, yf4, yf5, yf6, yf7, yf8, yf9, yA10, yc10, yb10, yf13, yf14, yf15, yf16, yf17, yf18, yf19, yf20, yf21, yf22, yA23, yc23, yb23, yf26, yf27 + 1, yf28)).set j (yf0, yf1, yf2, yf3, yf4, yf5, yf6, yf7, yf8, yf9, yA10, yc10, yb10, yf13, yf14, yf15, yf16, yf17, yf18, yf19, yf20, yf21, yf22, yA23, yc23, yb23, 3, yf27 + 1, yf28) = mpl (ltick W T) ls (j + 1) := by (try simp only [List.set_set]); exact mpl_step hyj (y := (yf0, yf1, yf2, yf3, yf4, yf5, yf6, yf7, yf8, yf9, yA10, yc10, yb10, yf13, yf14, yf15, yf16, yf17, yf18, yf19, yf20, yf21, yf22, yA23, yc23, yb23, 3, yf27 + 1, yf28)) (lt_b (by dsimp only [lst, lage, lsent]; omega) (by dsimp only [lst, lage, lsent]; omega) (by dsimp only [lst, lage, lsent]; omega))
                                       have hU1 : (out).map mst = fml (lagain W T) (fun y => mst (lrq y)) ls (j + 1) := by rw [fml_n hyj (la_n (fun h => by dsimp only [lst, lage, lsent] at h; omega))]; exact hum
                                       rw [hss] at hO128
                                       replace hS := hS.front 3 (C := U) (L' := C128 :: L :: D :: F) rfl rfl
                                       replace hS := hS.front 1 (C := C128) (L' := U :: L :: D :: F) rfl rfl
                                       replace hS := hS.front 3 (C := D) (L' := C128 :: U :: L :: F) rfl rfl
                                       replace hS := hS.front 3 (C := L) (L' := D :: C128 :: U :: F) rfl rfl
                                       exact lp_next _ (by omega) ⟨(j + 1), (out), C128, Au, cu, U, rfl, (hA.sel [0, 9, 10, 11, 12, 22, 46, 47, 48, 56, 57] rfl), hS, by omega, hO128, hU, hU1, hud⟩)
                                  · first
                                    | (exfalso; omega)
                                    | (replace hA := hA.rw 88 (v' := .bool false) rfl (vb_eq_f hc126)
                                       refine cd_cond_f hA rfl ?_
                                       refine wp_seq ?_
                                       refine wp_region_lit ?_
                                       refine st_run tbOk 3 hA (e' := (94, .pointer (some ⟨b120, o121 + (j * 25) + 23, none⟩)) :: (93, .pointer (some ⟨b120, o121 + (j * 25), none⟩)) :: (92, .pointer (some ⟨b120, o121 + (j * 25), none⟩)) :: _) rfl ?_; clear hA; intro a hA
                                       refine st_val hA rfl rfl (by decide) (rn_load tbOk hA rfl rfl rfl rfl ((hO124.rd (hS.own_ 0 rfl)).elemf (k := j) encLCall_ok (List.getElem?_set_self (by first | exact hkl | (simp only [List.length_set]; first | exact hkl | omega))) (j := 23) rfl)) ?_; clear hA; intro a hA
                                       refine st_run tbOk 2 hA (e' := (97, .bool ((yf27 + 1) == W)) :: (96, .int .i64 W) :: _) rfl ?_; clear hA; intro a hA
                                       refine wpList_nil ?_
                                       replace hA := hA.sel [0, 9, 10, 11, 12, 22, 24, 46, 47, 48, 56, 57, 97] (e' := [(0, .int .u64 p), (9, .pointer (some ⟨b2, 0, none⟩)), (10, .int .i64 W), (11, .int .i64 T), (12, .slice (some ⟨b120, o121, none⟩) ls.length cr), (22, .slice Au out.length cu), (24, .pointer (some ⟨b120, o121 + (j * 25), none⟩)), (46, .slice (some ⟨b9, o10, none⟩) l.length c), (47, .int .i64 ((l.length : Nat) : Int)), (48, .int .i64 ((k : Nat) : Int)), (56, .int .i64 ((ls.length : Nat) : Int)), (57, .int .i64 ((j : Nat) : Int)), (97, .bool ((yf27 + 1) == W))]) rfl
                                       refine xt_norm ?_
                                       by_cases hc129 : yf27 + 1 = W
                                       · first
                                         | (exfalso; omega)
                                         | (replace hA := hA.rw 97 (v' := .bool true) rfl (vb_eq_t hc129)
                                            refine cd_cond_t hA rfl ?_
                                            refine wp_seq ?_
                                            refine wp_region_lit ?_
                                            refine st_run tbOk 5 hA (e' := (102, .pointer (some ⟨b120, o121 + (j * 25) + 24, none⟩)) :: (101, .pointer (some ⟨b120, o121 + (j * 25), none⟩)) :: (100, .pointer (some ⟨b120, o121 + (j * 25), none⟩)) :: (99, .pointer (some ⟨b120, o121 + (j * 25), none⟩)) :: (98, .pointer (some ⟨b120, o121 + (j * 25), none⟩)) :: _) rfl ?_; clear hA; intro a hA
                                            refine st_val hA rfl rfl (by decide) (rn_load tbOk hA rfl rfl rfl rfl ((hO124.rd (hS.own_ 0 rfl)).elemf (k := j) encLCall_ok (List.getElem?_set_self (by first | exact hkl | (simp only [List.length_set]; first | exact hkl | omega))) (j := 24) rfl)) ?_; clear hA; intro a hA
                                            refine st_run tbOk 1 hA (e' := (104, .int .i64 (IntKind.i64.wrap (yf28 + 1))) :: _) rfl ?_; clear hA; intro a hA
                                            replace hA := hA.rw 104 (v' := .int .i64 (yf28 + 1)) rfl (wr64 (by omega) (by omega) (by omega))
                                            refine st_run tbOk 2 hA (e' := (106, .pointer (some ⟨b120, o121 + (j * 25) + 23, none⟩)) :: (105, .pointer (some ⟨b120, o121 + (j * 25), none⟩)) :: _) rfl ?_; clear hA; intro a hA
                                            refine st_store_own tbOk hA hO124 hS ((j * 25) + 23) (o121 + (j * 25) + 23) [.int .i64 0] (rows encLCall (((mpl (ltick W T) ls j).set j (yf0, yf1, yf2, yf3, yf4, yf5, yf6, yf7, yf8, yf9, yA10, yc10, yb10, yf13, yf14, yf15, yf16, yf17, yf18, yf19, yf20, yf21, yf22, yA23, yc23, yb23, yf26, yf27 + 1, yf28)).set j (yf0, yf1, yf2, yf3, yf4, yf5, yf6, yf7, yf8, yf9, yA10, yc10, yb10, yf13, yf14, yf15, yf16, yf17, yf18, yf19, yf20, yf21, yf22, yA23, yc23, yb23, yf26, 0, yf28))) rfl rfl rfl rfl (by rfl) rfl rfl (by intro u hu; first | (rw [List.mem_singleton.1 hu]; rfl) | (simp only [List.mem_cons, List.not_mem_nil, or_false] at hu; rcases hu with rfl <;> rfl)) (by simp only [rows_length encLCall_ok, List.length_set, mpl_len]; simp; omega) (rows_setf encLCall_ok (yf0, yf1, yf2, yf3, yf4, yf5, yf6, yf7, yf8, yf9, yA10, yc10, yb10, yf13, yf14, yf15, yf16, yf17, yf18, yf19, yf20, yf21, yf22, yA23, yc23, yb23, yf26, 0, yf28) ((List.getElem?_set_self (by first | exact hkl | (simp only [List.length_set]; exact hkl)))) 23 [.int .i64 0] (Nat.le_of_ble_eq_true rfl) (by unfold encLCall; dsimp only; rfl)) rfl rfl ?_; clear hS; intro w130 C131 hO131 hS
                                            refine st_run tbOk 2 hA (e' := (108, .pointer (some ⟨b120, o121 + (j * 25) + 24, none⟩)) :: (107, .pointer (some ⟨b120, o121 + (j * 25), none⟩)) :: _) rfl ?_; clear hA; intro a hA
                                            refine st_store_own tbOk hA hO131 hS ((j * 25) + 24) (o121 + (j * 25) + 24) [.int .i64 (yf28 + 1)] (rows encLCall ((((mpl (ltick W T) ls j).set j (yf0, yf1, yf2, yf3, yf4, yf5, yf6, yf7, yf8, yf9, yA10, yc10, yb10, yf13, yf14, yf15, yf16, yf17, yf18, yf19, yf20, yf21, yf22, yA23, yc23, yb23, yf26, yf27 + 1, yf28)).set j (yf0, yf1, yf2, yf3, yf4, yf5, yf6, yf7, yf8, yf9, yA10, yc10, yb10, yf13, yf14, yf15, yf16, yf17, yf18, yf19, yf20, yf21, yf22, yA23, yc23, yb23, yf26, 0, yf28)).set j (yf0, yf1, yf2, yf3, yf4, yf5, yf6, yf7, yf8, yf9, yA10, yc10, yb10, yf13, yf14, yf15, yf16, yf17, yf18, yf19, yf20, yf21, yf22, yA23, yc23, yb23, yf26, 0, yf28 + 1))) rfl rfl rfl rfl (by rfl) rfl rfl (by intro u hu; first | (rw [List.mem_singleton.1 hu]; rfl) | (simp only [List.mem_cons, List.not_mem_nil, or_false] at hu; rcases hu with rfl <;> rfl)) (by simp only [rows_length encLCall_ok, List.length_set, mpl_len]; simp; omega) (rows_setf encLCall_ok (yf0, yf1, yf2, yf3, yf4, yf5, yf6, yf7, yf8, yf9, yA10, yc10, yb10, yf13, yf14, yf15, yf16, yf17, yf18, yf19, yf20, yf21, yf22, yA23, yc23, yb23, yf26, 0, yf28 + 1) ((List.getElem?_set_self (by first | exact hkl | (simp only [List.length_set]; exact hkl)))) 24 [.int .i64 (yf28 + 1)] (Nat.le_of_ble_eq_true rfl) (by unfold encLCall; dsimp only; rfl)) rfl rfl ?_; clear hS; intro w132 C133 hO133 hS
                                            refine wpList_nil ?_
                                            replace hA := hA.sel [0, 9, 10, 11, 12, 22, 24, 46, 47, 48, 56, 57] (e' := [(0, .int .u64 p), (9, .pointer (some ⟨b2, 0, none⟩)), (10, .int .i64 W), (11, .int .i64 T), (12, .slice (some ⟨b120, o121, none⟩) ls.length cr), (22, .slice Au out.length cu), (24, .pointer (some ⟨b120, o121 + (j * 25), none⟩)), (46, .slice (some ⟨b9, o10, none⟩) l.length c), (47, .int .i64 ((l.length : Nat) : Int)), (48, .int .i64 ((k : Nat) : Int)), (56, .int .i64 ((ls.length : Nat) : Int)), (57, .int .i64 ((j : Nat) : Int))]) rfl
                                            refine xt_norm ?_
                                            refine wp_region_lit ?_
                                            refine st_run tbOk 4 hA (e' := (112, .pointer (some ⟨b120, o121 + (j * 25), none⟩)) :: (111, .pointer (some ⟨b120, o121 + (j * 25), none⟩)) :: (110, .pointer (some ⟨b120, o121 + (j * 25), none⟩)) :: (109, .slice Au out.length cu) :: _) rfl ?_; clear hA; intro a hA
                                            refine st_val hA rfl rfl (by decide) (rn_loadA tbOk hA ([.int .u64 yf0, .int .u64 yf1, .int .u32 yf2, .int .u16 yf3, .int .u16 yf4, .int .u64 yf5, .int .u32 yf6, .int .u8 yf7, .int .u64 yf8, .int .u64 yf9, .slice yA10 yb10.length yc10]) rfl rfl rfl rfl (by rfl) (elemp encLCall_ok (hO133.rd (hS.own_ 0 rfl)) (k := j) (List.getElem?_set_self (by first | exact hkl | (simp only [List.length_set]; first | exact hkl | omega))) (j := 0) (n := 11) rfl)) ?_; clear hA; intro a hA
                                            refine st_buildSlice tbOk hA hS [.int .u64 yf0, .int .u64 yf1, .int .u32 yf2, .int .u16 yf3, .int .u16 yf4, .int .u64 yf5, .int .u32 yf6, .int .u8 yf7, .int .u64 yf8, .int .u64 yf9, .slice yA10 yb10.length yc10] rfl rfl rfl rfl rfl (by decide) (by kernel_rfl) rfl rfl (by decide) ?_; clear hA hS; intro b134 w135 a hS hA
                                            replace hS := hS.front 4 (C := U) (L' := [(b134, rowO [.int .u64 yf0, .int .u64 yf1, .int .u32 yf2, .int .u16 yf3, .int .u16 yf4, .int .u64 yf5, .int .u32 yf6, .int .u8 yf7, .int .u64 yf8, .int .u64 yf9, .slice yA10 yb10.length yc10] 32)] :: C133 :: L :: D :: F) rfl rfl
                                            refine st_append tbOk hA (m := out.length) (q := 1) (xs := rows encMessage out) (news := rows encMessage ([(yf0, yf1, yf2, yf3, yf4, yf5, yf6, yf7, yf8, yf9, yA10, yc10, yb10)] : List (Int × Int × Int × Int × Int × Int × Int × Int × Int × Int × Option Addr × Nat × List UInt8))) rfl rfl rfl rfl rfl rfl rfl rfl (by decide) hU hS (((Own.full (T := 32) (size := 11) (g := b134) (m := 1) rfl (by decide)).rd (hS.own_ 1 rfl)).x) (rows_one encMessage_ok _) (maxLen_le (by first | omega | (simp; omega))) (by show (out.length + 1) * 80 ≤ 140737488355328; first | omega | (simp; omega)) rfl rfl (by decide) ?_
                                            clear hA hS; intro v136 w137 C138 a hO138 hS hA
                                            replace hO138 := Own.app (l := out) (l2 := ([(yf0, yf1, yf2, yf3, yf4, yf5, yf6, yf7, yf8, yf9, yA10, yc10, yb10)] : List (Int × Int × Int × Int × Int × Int × Int × Int × Int × Int × Option Addr × Nat × List UInt8))) hO138
                                            obtain ⟨A139, c140, rfl, hmc140, hxc140⟩ := hO138.open'
                                            refine st_run tbOk 1 hA (e' := (22, .slice A139 ((out ++ ([(yf0, yf1, yf2, yf3, yf4, yf5, yf6, yf7, yf8, yf9, yA10, yc10, yb10)] : List (Int × Int × Int × Int × Int × Int × Int × Int × Int × Int × Option Addr × Nat × List UInt8))).length) c140) :: _) rfl ?_; clear hA; intro a hA
                                            refine wpList_nil ?_
                                            replace hA := hA.sel [0, 9, 10, 11, 12, 22, 46, 47, 48, 56, 57] (e' := [(0, .int .u64 p), (9, .pointer (some ⟨b2, 0, none⟩)), (10, .int .i64 W), (11, .int .i64 T), (12, .slice (some ⟨b120, o121, none⟩) ls.length cr), (22, .slice A139 ((out ++ ([(yf0, yf1, yf2, yf3, yf4, yf5, yf6, yf7, yf8, yf9, yA10, yc10, yb10)] : List (Int × Int × Int × Int × Int × Int × Int × Int × Int × Int × Option Addr × Nat × List UInt8))).length) c140), (46, .slice (some ⟨b9, o10, none⟩) l.length c), (47, .int .i64 ((l.length : Nat) : Int)), (48, .int .i64 ((k : Nat) : Int)), (56, .int .i64 ((ls.length : Nat) : Int)), (57, .int .i64 ((j : Nat) : Int))]) rfl
                                            refine xb_norm ?_
                                            refine xt_norm ?_
                                            refine wp_region_lit ?_
                                            refine st_run tbOk 1 hA (e' := (116, .int .i64 (IntKind.i64.wrap (((j : Nat) : Int) + 1))) :: _) rfl ?_; clear hA; intro a hA
                                            replace hA := hA.rw 116 (v' := .int .i64 ((j + 1 : Nat) : Int)) rfl (wr64 (by omega) (by omega) (by omega))
                                            refine st_run tbOk 1 hA (e' := (57, .int .i64 ((j + 1 : Nat) : Int)) :: _) rfl ?_; clear hA; intro a hA
                                            refine wpList_nil ?_
                                            replace hA := hA.sel [0, 9, 10, 11, 12, 22, 46, 47, 48, 56, 57] (e' := [(0, .int .u64 p), (9, .pointer (some ⟨b2, 0, none⟩)), (10, .int .i64 W), (11, .int .i64 T), (12, .slice (some ⟨b120, o121, none⟩) ls.length cr), (22, .slice A139 ((out ++ ([(yf0, yf1, yf2, yf3, yf4, yf5, yf6, yf7, yf8, yf9, yA10, yc10, yb10)] : List (Int × Int × Int × Int × Int × Int × Int × Int × Int × Int × Option Addr × Nat × List UInt8))).length) c140), (46, .slice (some ⟨b9, o10, none⟩) l.length c), (47, .int .i64 ((l.length : Nat) : Int)), (48, .int .i64 ((k : Nat) : Int)), (56, .int .i64 ((ls.length : Nat) : Int)), (57, .int .i64 ((j + 1 : Nat) : Int))]) rfl
                                            have hss : (((mpl (ltick W T) ls j).set j (yf0, yf1, yf2, yf3, yf4, yf5, yf6, yf7, yf8, yf9, yA10, yc10, yb10, yf13, yf14, yf15, yf16, yf17, yf18, yf19, yf20, yf21, yf22, yA23, yc23, yb23, yf26, yf27 + 1, yf28)).set j (yf0, yf1, yf2, yf3, yf4, yf5, yf6, yf7, yf8, yf9, yA10, yc10, yb10, yf13, yf14, yf15, yf16, yf17, yf18, yf19, yf20, yf21, yf22, yA23, yc23, yb23, yf26, 0, yf28)).set j (yf0, yf1, yf2, yf3, yf4, yf5, yf6, yf7, yf8, yf9, yA10, yc10, yb10, yf13, yf14, yf15, yf16, yf17, yf18, yf19, yf20, yf21, yf22, yA23, yc23, yb23, yf26, 0, yf28 + 1) = mpl (ltick W T) ls (j + 1) := by (try simp only [List.set_set]); exact mpl_step hyj (y := (yf0, yf1, yf2, yf3, yf4, yf5, yf6, yf7, yf8, yf9, yA10, yc10, yb10, yf13, yf14, yf15, yf16, yf17, yf18, yf19, yf20, yf21, yf22, yA23, yc23, yb23, yf26, 0, yf28 + 1)) (lt_c (by dsimp only [lst, lage, lsent]; omega) (by dsimp only [lst, lage, lsent]; omega) (by dsimp only [lst, lage, lsent]; omega))
                                            have hU1 : (out ++ ([(yf0, yf1, yf2, yf3, yf4, yf5, yf6, yf7, yf8, yf9, yA10, yc10, yb10)] : List (Int × Int × Int × Int × Int × Int × Int × Int × Int × Int × Option Addr × Nat × List UInt8))).map mst = fml (lagain W T) (fun y => mst (lrq y)) ls (j + 1) := by rw [List.map_append, hum, fml_y hyj (la_y (by dsimp only [lst, lage, lsent]; omega) (by dsimp only [lst, lage, lsent]; omega) (by dsimp only [lst, lage, lsent]; omega))]; rfl
                                            have hud2 : ∀ y ∈ (out ++ ([(yf0, yf1, yf2, yf3, yf4, yf5, yf6, yf7, yf8, yf9, yA10, yc10, yb10)] : List (Int × Int × Int × Int × Int × Int × Int × Int × Int × Int × Option Addr × Nat × List UInt8))), ∀ D, encMessage_dd w0 D y := madd_dd hud (fun D => (hdr _ (List.mem_of_getElem? hyj) D).1)
                                            rw [hss] at hO133
                                            replace hS := hS.front 1 (C := [(b134, rowO [.int .u64 yf0, .int .u64 yf1, .int .u32 yf2, .int .u16 yf3, .int .u16 yf4, .int .u64 yf5, .int .u32 yf6, .int .u8 yf7, .int .u64 yf8, .int .u64 yf9, .slice yA10 yb10.length yc10] 32)]) (L' := C138 :: C133 :: L :: D :: F) rfl rfl
                                            replace hS := hS.drop1
                                            replace hS := hS.front 1 (C := C133) (L' := C138 :: L :: D :: F) rfl rfl
                                            replace hS := hS.front 3 (C := D) (L' := C133 :: C138 :: L :: F) rfl rfl
                                            replace hS := hS.front 3 (C := L) (L' := D :: C133 :: C138 :: F) rfl rfl
                                            exact lp_next _ (by omega) ⟨(j + 1), (out ++ ([(yf0, yf1, yf2, yf3, yf4, yf5, yf6, yf7, yf8, yf9, yA10, yc10, yb10)] : List (Int × Int × Int × Int × Int × Int × Int × Int × Int × Int × Option Addr × Nat × List UInt8))), C133, A139, c140, C138, rfl, (hA.sel [0, 9, 10, 11, 12, 22, 46, 47, 48, 56, 57] rfl), hS, by omega, hO133, hO138, hU1, hud2⟩)
                                       · first
                                         | (exfalso; omega)
                                         | (replace hA := hA.rw 97 (v' := .bool false) rfl (vb_eq_f hc129)
                                            refine cd_cond_f hA rfl ?_
                                            refine wp_skip ?_
                                            refine xb_norm ?_
                                            refine xt_norm ?_
                                            refine wp_region_lit ?_
                                            refine st_run tbOk 1 hA (e' := (116, .int .i64 (IntKind.i64.wrap (((j : Nat) : Int) + 1))) :: _) rfl ?_; clear hA; intro a hA
                                            replace hA := hA.rw 116 (v' := .int .i64 ((j + 1 : Nat) : Int)) rfl (wr64 (by omega) (by omega) (by omega))
                                            refine st_run tbOk 1 hA (e' := (57, .int .i64 ((j + 1 : Nat) : Int)) :: _) rfl ?_; clear hA; intro a hA
                                            refine wpList_nil ?_
                                            replace hA := hA.sel [0, 9, 10, 11, 12, 22, 46, 47, 48, 56, 57] (e' := [(0, .int .u64 p), (9, .pointer (some ⟨b2, 0, none⟩)), (10, .int .i64 W), (11, .int .i64 T), (12, .slice (some ⟨b120, o121, none⟩) ls.length cr), (22, .slice Au out.length cu), (46, .slice (some ⟨b9, o10, none⟩) l.length c), (47, .int .i64 ((l.length : Nat) : Int)), (48, .int .i64 ((k : Nat) : Int)), (56, .int .i64 ((ls.length : Nat) : Int)), (57, .int .i64 ((j + 1 : Nat) : Int))]) rfl
                                            have hss : (mpl (ltick W T) ls j).set j (yf0, yf1, yf2, yf3, yf4, yf5, yf6, yf7, yf8, yf9, yA10, yc10, yb10, yf13, yf14, yf15, yf16, yf17, yf18, yf19, yf20, yf21, yf22, yA23, yc23, yb23, yf26, yf27 + 1, yf28) = mpl (ltick W T) ls (j + 1) := by (try simp only [List.set_set]); exact mpl_step hyj (y := (yf0, yf1, yf2, yf3, yf4, yf5, yf6, yf7, yf8, yf9, yA10, yc10, yb10, yf13, yf14, yf15, yf16, yf17, yf18, yf19, yf20, yf21, yf22, yA23, yc23, yb23, yf26, yf27 + 1, yf28)) (lt_a (by dsimp only [lst, lage, lsent]; omega) (by dsimp only [lst, lage, lsent]; omega))
                                            have hU1 : (out).map mst = fml (lagain W T) (fun y => mst (lrq y)) ls (j + 1) := by rw [fml_n hyj (la_n (fun h => by dsimp only [lst, lage, lsent] at h; omega))]; exact hum
                                            rw [hss] at hO124
                                            replace hS := hS.front 3 (C := U) (L' := C124 :: L :: D :: F) rfl rfl
                                            replace hS := hS.front 1 (C := C124) (L' := U :: L :: D :: F) rfl rfl
                                            replace hS := hS.front 3 (C := D) (L' := C124 :: U :: L :: F) rfl rfl
                                            replace hS := hS.front 3 (C := L) (L' := D :: C124 :: U :: F) rfl rfl
                                            exact lp_next _ (by omega) ⟨(j + 1), (out), C124, Au, cu, U, rfl, (hA.sel [0, 9, 10, 11, 12, 22, 46, 47, 48, 56, 57] rfl), hS, by omega, hO124, hU, hU1, hud⟩)))
                             · first
                               | (exfalso; omega)
                               | (replace hA := hA.rw 80 (v' := .bool false) rfl (vb_eq_f hc125)
                                  replace hA := hA.rw 81 (v' := .bool false) rfl (vb_eq_f hc125)
                                  refine st_run tbOk 7 hA (e' := (88, .bool false) :: (87, undef) :: (86, undef) :: (85, undef) :: (84, undef) :: (83, undef) :: (82, undef) :: _) rfl ?_; clear hA; intro a hA
                                  refine wpList_nil ?_
                                  replace hA := hA.sel [0, 9, 10, 11, 12, 22, 24, 46, 47, 48, 56, 57, 88] (e' := [(0, .int .u64 p), (9, .pointer (some ⟨b2, 0, none⟩)), (10, .int .i64 W), (11, .int .i64 T), (12, .slice (some ⟨b120, o121, none⟩) ls.length cr), (22, .slice Au out.length cu), (24, .pointer (some ⟨b120, o121 + (j * 25), none⟩)), (46, .slice (some ⟨b9, o10, none⟩) l.length c), (47, .int .i64 ((l.length : Nat) : Int)), (48, .int .i64 ((k : Nat) : Int)), (56, .int .i64 ((ls.length : Nat) : Int)), (57, .int .i64 ((j : Nat) : Int)), (88, .bool false)]) rfl
                                  refine xt_norm ?_
                                  refine cd_cond_f hA rfl ?_
                                  refine wp_seq ?_
                                  refine wp_region_lit ?_
                                  refine st_run tbOk 3 hA (e' := (94, .pointer (some ⟨b120, o121 + (j * 25) + 23, none⟩)) :: (93, .pointer (some ⟨b120, o121 + (j * 25), none⟩)) :: (92, .pointer (some ⟨b120, o121 + (j * 25), none⟩)) :: _) rfl ?_; clear hA; intro a hA
                                  refine st_val hA rfl rfl (by decide) (rn_load tbOk hA rfl rfl rfl rfl ((hO124.rd (hS.own_ 0 rfl)).elemf (k := j) encLCall_ok (List.getElem?_set_self (by first | exact hkl | (simp only [List.length_set]; first | exact hkl | omega))) (j := 23) rfl)) ?_; clear hA; intro a hA
                                  refine st_run tbOk 2 hA (e' := (97, .bool ((yf27 + 1) == W)) :: (96, .int .i64 W) :: _) rfl ?_; clear hA; intro a hA
                                  refine wpList_nil ?_
                                  replace hA := hA.sel [0, 9, 10, 11, 12, 22, 24, 46, 47, 48, 56, 57, 97] (e' := [(0, .int .u64 p), (9, .pointer (some ⟨b2, 0, none⟩)), (10, .int .i64 W), (11, .int .i64 T), (12, .slice (some ⟨b120, o121, none⟩) ls.length cr), (22, .slice Au out.length cu), (24, .pointer (some ⟨b120, o121 + (j * 25), none⟩)), (46, .slice (some ⟨b9, o10, none⟩) l.length c), (47, .int .i64 ((l.length : Nat) : Int)), (48, .int .i64 ((k : Nat) : Int)), (56, .int .i64 ((ls.length : Nat) : Int)), (57, .int .i64 ((j : Nat) : Int)), (97, .bool ((yf27 + 1) == W))]) rfl
                                  refine xt_norm ?_
                                  by_cases hc141 : yf27 + 1 = W
                                  · first
                                    | (exfalso; omega)
                                    | (replace hA := hA.rw 97 (v' := .bool true) rfl (vb_eq_t hc141)
                                       refine cd_cond_t hA rfl ?_
                                       refine wp_seq ?_
                                       refine wp_region_lit ?_
                                       refine st_run tbOk 5 hA (e' := (102, .pointer (some ⟨b120, o121 + (j * 25) + 24, none⟩)) :: (101, .pointer (some ⟨b120, o121 + (j * 25), none⟩)) :: (100, .pointer (some ⟨b120, o121 + (j * 25), none⟩)) :: (99, .pointer (some ⟨b120, o121 + (j * 25), none⟩)) :: (98, .pointer (some ⟨b120, o121 + (j * 25), none⟩)) :: _) rfl ?_; clear hA; intro a hA
                                       refine st_val hA rfl rfl (by decide) (rn_load tbOk hA rfl rfl rfl rfl ((hO124.rd (hS.own_ 0 rfl)).elemf (k := j) encLCall_ok (List.getElem?_set_self (by first | exact hkl | (simp only [List.length_set]; first | exact hkl | omega))) (j := 24) rfl)) ?_; clear hA; intro a hA
                                       refine st_run tbOk 1 hA (e' := (104, .int .i64 (IntKind.i64.wrap (yf28 + 1))) :: _) rfl ?_; clear hA; intro a hA
                                       replace hA := hA.rw 104 (v' := .int .i64 (yf28 + 1)) rfl (wr64 (by omega) (by omega) (by omega))
                                       refine st_run tbOk 2 hA (e' := (106, .pointer (some ⟨b120, o121 + (j * 25) + 23, none⟩)) :: (105, .pointer (some ⟨b120, o121 + (j * 25), none⟩)) :: _) rfl ?_; clear hA; intro a hA
                                       refine st_store_own tbOk hA hO124 hS ((j * 25) + 23) (o121 + (j * 25) + 23) [.int .i64 0] (rows encLCall (((mpl (ltick W T) ls j).set j (yf0, yf1, yf2, yf3, yf4, yf5, yf6, yf7, yf8, yf9, yA10, yc10, yb10, yf13, yf14, yf15, yf16, yf17, yf18, yf19, yf20, yf21, yf22, yA23, yc23, yb23, yf26, yf27 + 1, yf28)).set j (yf0, yf1, yf2, yf3, yf4, yf5, yf6, yf7, yf8, yf9, yA10, yc10, yb10, yf13, yf14, yf15, yf16, yf17, yf18, yf19, yf20, yf21, yf22, yA23, yc23, yb23, yf26, 0, yf28))) rfl rfl rfl rfl (by rfl) rfl rfl (by intro u hu; first | (rw [List.mem_singleton.1 hu]; rfl) | (simp only [List.mem_cons, List.not_mem_nil, or_false] at hu; rcases hu with rfl <;> rfl)) (by simp only [rows_length encLCall_ok, List.length_set, mpl_len]; simp; omega) (rows_setf encLCall_ok (yf0, yf1, yf2, yf3, yf4, yf5, yf6, yf7, yf8, yf9, yA10, yc10, yb10, yf13, yf14, yf15, yf16, yf17, yf18, yf19, yf20, yf21, yf22, yA23, yc23, yb23, yf26, 0, yf28) ((List.getElem?_set_self (by first | exact hkl | (simp only [List.length_set]; exact hkl)))) 23 [.int .i64 0] (Nat.le_of_ble_eq_true rfl) (by unfold encLCall; dsimp only; rfl)) rfl rfl ?_; clear hS; intro w142 C143 hO143 hS
                                       refine st_run tbOk 2 hA (e' := (108, .pointer (some ⟨b120, o121 + (j * 25) + 24, none⟩)) :: (107, .pointer (some ⟨b120, o121 + (j * 25), none⟩)) :: _) rfl ?_; clear hA; intro a hA
                                       refine st_store_own tbOk hA hO143 hS ((j * 25) + 24) (o121 + (j * 25) + 24) [.int .i64 (yf28 + 1)] (rows encLCall ((((mpl (ltick W T) ls j).set j (yf0, yf1, yf2, yf3, yf4, yf5, yf6, yf7, yf8, yf9, yA10, yc10, yb10, yf13, yf14, yf15, yf16, yf17, yf18, yf19, yf20, yf21, yf22, yA23, yc23, yb23, yf26, yf27 + 1, yf28)).set j (yf0, yf1, yf2, yf3, yf4, yf5, yf6, yf7, yf8, yf9, yA10, yc10, yb10, yf13, yf14, yf15, yf16, yf17, yf18, yf19, yf20, yf21, yf22, yA23, yc23, yb23, yf26, 0, yf28)).set j (yf0, yf1, yf2, yf3, yf4, yf5, yf6, yf7, yf8, yf9, yA10, yc10, yb10, yf13, yf14, yf15, yf16, yf17, yf18, yf19, yf20, yf21, yf22, yA23, yc23, yb23, yf26, 0, yf28 + 1))) rfl rfl rfl rfl (by rfl) rfl rfl (by intro u hu; first | (rw [List.mem_singleton.1 hu]; rfl) | (simp only [List.mem_cons, List.not_mem_nil, or_false] at hu; rcases hu with rfl <;> rfl)) (by simp only [rows_length encLCall_ok, List.length_set, mpl_len]; simp; omega) (rows_setf encLCall_ok (yf0, yf1, yf2, yf3, yf4, yf5, yf6, yf7, yf8, yf9, yA10, yc10, yb10, yf13, yf14, yf15, yf16, yf17, yf18, yf19, yf20, yf21, yf22, yA23, yc23, yb23, yf26, 0, yf28 + 1) ((List.getElem?_set_self (by first | exact hkl | (simp only [List.length_set]; exact hkl)))) 24 [.int .i64 (yf28 + 1)] (Nat.le_of_ble_eq_true rfl) (by unfold encLCall; dsimp only; rfl)) rfl rfl ?_; clear hS; intro w144 C145 hO145 hS
                                       refine wpList_nil ?_
                                       replace hA := hA.sel [0, 9, 10, 11, 12, 22, 24, 46, 47, 48, 56, 57] (e' := [(0, .int .u64 p), (9, .pointer (some ⟨b2, 0, none⟩)), (10, .int .i64 W), (11, .int .i64 T), (12, .slice (some ⟨b120, o121, none⟩) ls.length cr), (22, .slice Au out.length cu), (24, .pointer (some ⟨b120, o121 + (j * 25), none⟩)), (46, .slice (some ⟨b9, o10, none⟩) l.length c), (47, .int .i64 ((l.length : Nat) : Int)), (48, .int .i64 ((k : Nat) : Int)), (56, .int .i64 ((ls.length : Nat) : Int)), (57, .int .i64 ((j : Nat) : Int))]) rfl
                                       refine xt_norm ?_
                                       refine wp_region_lit ?_
                                       refine st_run tbOk 4 hA (e' := (112, .pointer (some ⟨b120, o121 + (j * 25), none⟩)) :: (111, .pointer (some ⟨b120, o121 + (j * 25), none⟩)) :: (110, .pointer (some ⟨b120, o121 + (j * 25), none⟩)) :: (109, .slice Au out.length cu) :: _) rfl ?_; clear hA; intro a hA
                                       refine st_val hA rfl rfl (by decide) (rn_loadA tbOk hA ([.int .u64 yf0, .int .u64 yf1, .int .u32 yf2, .int .u16 yf3, .int .u16 yf4, .int .u64 yf5, .int .u32 yf6, .int .u8 yf7, .int .u64 yf8, .int .u64 yf9, .slice yA10 yb10.length yc10]) rfl rfl rfl rfl (by rfl) (elemp encLCall_ok (hO145.rd (hS.own_ 0 rfl)) (k := j) (List.getElem?_set_self (by first | exact hkl | (simp only [List.length_set]; first | exact hkl | omega))) (j := 0) (n := 11) rfl)) ?_; clear hA; intro a hA
                                       refine st_buildSlice tbOk hA hS [.int .u64 yf0, .int .u64 yf1, .int .u32 yf2, .int .u16 yf3, .int .u16 yf4, .int .u64 yf5, .int .u32 yf6, .int .u8 yf7, .int .u64 yf8, .int .u64 yf9, .slice yA10 yb10.length yc10] rfl rfl rfl rfl rfl (by decide) (by kernel_rfl) rfl rfl (by decide) ?_; clear hA hS; intro b146 w147 a hS hA
                                       replace hS := hS.front 4 (C := U) (L' := [(b146, rowO [.int .u64 yf0, .int .u64 yf1, .int .u32 yf2, .int .u16 yf3, .int .u16 yf4, .int .u64 yf5, .int .u32 yf6, .int .u8 yf7, .int .u64 yf8, .int .u64 yf9, .slice yA10 yb10.length yc10] 32)] :: C145 :: L :: D :: F) rfl rfl
                                       refine st_append tbOk hA (m := out.length) (q := 1) (xs := rows encMessage out) (news := rows encMessage ([(yf0, yf1, yf2, yf3, yf4, yf5, yf6, yf7, yf8, yf9, yA10, yc10, yb10)] : List (Int × Int × Int × Int × Int × Int × Int × Int × Int × Int × Option Addr × Nat × List UInt8))) rfl rfl rfl rfl rfl rfl rfl rfl (by decide) hU hS (((Own.full (T := 32) (size := 11) (g := b146) (m := 1) rfl (by decide)).rd (hS.own_ 1 rfl)).x) (rows_one encMessage_ok _) (maxLen_le (by first | omega | (simp; omega))) (by show (out.length + 1) * 80 ≤ 140737488355328; first | omega | (simp; omega)) rfl rfl (by decide) ?_
                                       clear hA hS; intro v148 w149 C150 a hO150 hS hA
                                       replace hO150 := Own.app (l := out) (l2 := ([(yf0, yf1, yf2, yf3, yf4, yf5, yf6, yf7, yf8, yf9, yA10, yc10, yb10)] : List (Int × Int × Int × Int × Int × Int × Int × Int × Int × Int × Option Addr × Nat × List UInt8))) hO150
                                       obtain ⟨A151, c152, rfl, hmc152, hxc152⟩ := hO150.open'
                                       refine st_run tbOk 1 hA (e' := (22, .slice A151 ((out ++ ([(yf0, yf1, yf2, yf3, yf4, yf5, yf6, yf7, yf8, yf9, yA10, yc10, yb10)] : List (Int × Int × Int × Int × Int × Int × Int × Int × Int × Int × Option Addr × Nat × List UInt8))).length) c152) :: _) rfl ?_; clear hA; intro a hA
                                       refine wpList_nil ?_
                                       replace hA := hA.sel [0, 9, 10, 11, 12, 22, 46, 47, 48, 56, 57] (e' := [(0, .int .u64 p), (9, .pointer (some ⟨b2, 0, none⟩)), (10, .int .i64 W), (11, .int .i64 T), (12, .slice (some ⟨b120, o121, none⟩) ls.length cr), (22, .slice A151 ((out ++ ([(yf0, yf1, yf2, yf3, yf4, yf5, yf6, yf7, yf8, yf9, yA10, yc10, yb10)] : List (Int × Int × Int × Int × Int × Int × Int × Int × Int × Int × Option Addr × Nat × List UInt8))).length) c152), (46, .slice (some ⟨b9, o10, none⟩) l.length c), (47, .int .i64 ((l.length : Nat) : Int)), (48, .int .i64 ((k : Nat) : Int)), (56, .int .i64 ((ls.length : Nat) : Int)), (57, .int .i64 ((j : Nat) : Int))]) rfl
                                       refine xb_norm ?_
                                       refine xt_norm ?_
                                       refine wp_region_lit ?_
                                       refine st_run tbOk 1 hA (e' := (116, .int .i64 (IntKind.i64.wrap (((j : Nat) : Int) + 1))) :: _) rfl ?_; clear hA; intro a hA
                                       replace hA := hA.rw 116 (v' := .int .i64 ((j + 1 : Nat) : Int)) rfl (wr64 (by omega) (by omega) (by omega))
                                       refine st_run tbOk 1 hA (e' := (57, .int .i64 ((j + 1 : Nat) : Int)) :: _) rfl ?_; clear hA; intro a hA
                                       refine wpList_nil ?_
                                       replace hA := hA.sel [0, 9, 10, 11, 12, 22, 46, 47, 48, 56, 57] (e' := [(0, .int .u64 p), (9, .pointer (some ⟨b2, 0, none⟩)), (10, .int .i64 W), (11, .int .i64 T), (12, .slice (some ⟨b120, o121, none⟩) ls.length cr), (22, .slice A151 ((out ++ ([(yf0, yf1, yf2, yf3, yf4, yf5, yf6, yf7, yf8, yf9, yA10, yc10, yb10)] : List (Int × Int × Int × Int × Int × Int × Int × Int × Int × Int × Option Addr × Nat × List UInt8))).length) c152), (46, .slice (some ⟨b9, o10, none⟩) l.length c), (47, .int .i64 ((l.length : Nat) : Int)), (48, .int .i64 ((k : Nat) : Int)), (56, .int .i64 ((ls.length : Nat) : Int)), (57, .int .i64 ((j + 1 : Nat) : Int))]) rfl
                                       have hss : (((mpl (ltick W T) ls j).set j (yf0, yf1, yf2, yf3, yf4, yf5, yf6, yf7, yf8, yf9, yA10, yc10, yb10, yf13, yf14, yf15, yf16, yf17, yf18, yf19, yf20, yf21, yf22, yA23, yc23, yb23, yf26, yf27 + 1, yf28)).set j (yf0, yf1, yf2, yf3, yf4, yf5, yf6, yf7, yf8, yf9, yA10, yc10, yb10, yf13, yf14, yf15, yf16, yf17, yf18, yf19, yf20, yf21, yf22, yA23, yc23, yb23, yf26, 0, yf28)).set j (yf0, yf1, yf2, yf3, yf4, yf5, yf6, yf7, yf8, yf9, yA10, yc10, yb10, yf13, yf14, yf15, yf16, yf17, yf18, yf19, yf20, yf21, yf22, yA23, yc23, yb23, yf26, 0, yf28 + 1) = mpl (ltick W T) ls (j + 1) := by (try simp only [List.set_set]); exact mpl_step hyj (y := (yf0, yf1, yf2, yf3, yf4, yf5, yf6, yf7, yf8, yf9, yA10, yc10, yb10, yf13, yf14, yf15, yf16, yf17, yf18, yf19, yf20, yf21, yf22, yA23, yc23, yb23, yf26, 0, yf28 + 1)) (lt_c (by dsimp only [lst, lage, lsent]; omega) (by dsimp only [lst, lage, lsent]; omega) (by dsimp only [lst, lage, lsent]; omega))
                                       have hU1 : (out ++ ([(yf0, yf1, yf2, yf3, yf4, yf5, yf6, yf7, yf8, yf9, yA10, yc10, yb10)] : List (Int × Int × Int × Int × Int × Int × Int × Int × Int × Int × Option Addr × Nat × List UInt8))).map mst = fml (lagain W T) (fun y => mst (lrq y)) ls (j + 1) := by rw [List.map_append, hum, fml_y hyj (la_y (by dsimp only [lst, lage, lsent]; omega) (by dsimp only [lst, lage, lsent]; omega) (by dsimp only [lst, lage, lsent]; omega))]; rfl
                                       have hud2 : ∀ y ∈ (out ++ ([(yf0, yf1, yf2, yf3, yf4, yf5, yf6, yf7, yf8, yf9, yA10, yc10, yb10)] : List (Int × Int × Int × Int × Int × Int × Int × Int × Int × Int × Option Addr × Nat × List UInt8))), ∀ D, encMessage_dd w0 D y := madd_dd hud (fun D => (hdr _ (List.mem_of_getElem? hyj) D).1)
                                       rw [hss] at hO145
                                       replace hS := hS.front 1 (C := [(b146, rowO [.int .u64 yf0, .int .u64 yf1, .int .u32 yf2, .int .u16 yf3, .int .u16 yf4, .int .u64 yf5, .int .u32 yf6, .int .u8 yf7, .int .u64 yf8, .int .u64 yf9, .slice yA10 yb10.length yc10] 32)]) (L' := C150 :: C145 :: L :: D :: F) rfl rfl
                                       replace hS := hS.drop1
                                       replace hS := hS.front 1 (C := C145) (L' := C150 :: L :: D :: F) rfl rfl
                                       replace hS := hS.front 3 (C := D) (L' := C145 :: C150 :: L :: F) rfl rfl
                                       replace hS := hS.front 3 (C := L) (L' := D :: C145 :: C150 :: F) rfl rfl
                                       exact lp_next _ (by omega) ⟨(j + 1), (out ++ ([(yf0, yf1, yf2, yf3, yf4, yf5, yf6, yf7, yf8, yf9, yA10, yc10, yb10)] : List (Int × Int × Int × Int × Int × Int × Int × Int × Int × Int × Option Addr × Nat × List UInt8))), C145, A151, c152, C150, rfl, (hA.sel [0, 9, 10, 11, 12, 22, 46, 47, 48, 56, 57] rfl), hS, by omega, hO145, hO150, hU1, hud2⟩)
                                  · first
                                    | (exfalso; omega)
                                    | (replace hA := hA.rw 97 (v' := .bool false) rfl (vb_eq_f hc141)
                                       refine cd_cond_f hA rfl ?_
                                       refine wp_skip ?_
                                       refine xb_norm ?_
                                       refine xt_norm ?_
                                       refine wp_region_lit ?_
                                       refine st_run tbOk 1 hA (e' := (116, .int .i64 (IntKind.i64.wrap (((j : Nat) : Int) + 1))) :: _) rfl ?_; clear hA; intro a hA
                                       replace hA := hA.rw 116 (v' := .int .i64 ((j + 1 : Nat) : Int)) rfl (wr64 (by omega) (by omega) (by omega))
                                       refine st_run tbOk 1 hA (e' := (57, .int .i64 ((j + 1 : Nat) : Int)) :: _) rfl ?_; clear hA; intro a hA
                                       refine wpList_nil ?_
                                       replace hA := hA.sel [0, 9, 10, 11, 12, 22, 46, 47, 48, 56, 57] (e' := [(0, .int .u64 p), (9, .pointer (some ⟨b2, 0, none⟩)), (10, .int .i64 W), (11, .int .i64 T), (12, .slice (some ⟨b120, o121, none⟩) ls.length cr), (22, .slice Au out.length cu), (46, .slice (some ⟨b9, o10, none⟩) l.length c), (47, .int .i64 ((l.length : Nat) : Int)), (48, .int .i64 ((k : Nat) : Int)), (56, .int .i64 ((ls.length : Nat) : Int)), (57, .int .i64 ((j + 1 : Nat) : Int))]) rfl
                                       have hss : (mpl (ltick W T) ls j).set j (yf0, yf1, yf2, yf3, yf4, yf5, yf6, yf7, yf8, yf9, yA10, yc10, yb10, yf13, yf14, yf15, yf16, yf17, yf18, yf19, yf20, yf21, yf22, yA23, yc23, yb23, yf26, yf27 + 1, yf28) = mpl (ltick W T) ls (j + 1) := by (try simp only [List.set_set]); exact mpl_step hyj (y := (yf0, yf1, yf2, yf3, yf4, yf5, yf6, yf7, yf8, yf9, yA10, yc10, yb10, yf13, yf14, yf15, yf16, yf17, yf18, yf19, yf20, yf21, yf22, yA23, yc23, yb23, yf26, yf27 + 1, yf28)) (lt_a (by dsimp only [lst, lage, lsent]; omega) (by dsimp only [lst, lage, lsent]; omega))
                                       have hU1 : (out).map mst = fml (lagain W T) (fun y => mst (lrq y)) ls (j + 1) := by rw [fml_n hyj (la_n (fun h => by dsimp only [lst, lage, lsent] at h; omega))]; exact hum
                                       rw [hss] at hO124
                                       replace hS := hS.front 3 (C := U) (L' := C124 :: L :: D :: F) rfl rfl
                                       replace hS := hS.front 1 (C := C124) (L' := U :: L :: D :: F) rfl rfl
                                       replace hS := hS.front 3 (C := D) (L' := C124 :: U :: L :: F) rfl rfl
                                       replace hS := hS.front 3 (C := L) (L' := D :: C124 :: U :: F) rfl rfl
                                       exact lp_next _ (by omega) ⟨(j + 1), (out), C124, Au, cu, U, rfl, (hA.sel [0, 9, 10, 11, 12, 22, 46, 47, 48, 56, 57] rfl), hS, by omega, hO124, hU, hU1, hud⟩)))
                        · first
                          | (exfalso; omega)
                          | (replace hA := hA.rw 67 (v' := .bool true) rfl (vb_ne_t hc122)
                             refine cd_cond_t hA rfl ?_
                             refine wp_exit ?_
                             refine xt_exit ?_
                             refine cd_exit_eq ?_
                             refine xt_norm ?_
                             refine wp_region_lit ?_
                             refine st_run tbOk 1 hA (e' := (116, .int .i64 (IntKind.i64.wrap (((j : Nat) : Int) + 1))) :: _) rfl ?_; clear hA; intro a hA
                             replace hA := hA.rw 116 (v' := .int .i64 ((j + 1 : Nat) : Int)) rfl (wr64 (by omega) (by omega) (by omega))
                             refine st_run tbOk 1 hA (e' := (57, .int .i64 ((j + 1 : Nat) : Int)) :: _) rfl ?_; clear hA; intro a hA
                             refine wpList_nil ?_
                             replace hA := hA.sel [0, 9, 10, 11, 12, 22, 46, 47, 48, 56, 57] (e' := [(0, .int .u64 p), (9, .pointer (some ⟨b2, 0, none⟩)), (10, .int .i64 W), (11, .int .i64 T), (12, .slice (some ⟨b120, o121, none⟩) ls.length cr), (22, .slice Au out.length cu), (46, .slice (some ⟨b9, o10, none⟩) l.length c), (47, .int .i64 ((l.length : Nat) : Int)), (48, .int .i64 ((k : Nat) : Int)), (56, .int .i64 ((ls.length : Nat) : Int)), (57, .int .i64 ((j + 1 : Nat) : Int))]) rfl
                             have hst9 : ¬ lst (yf0, yf1, yf2, yf3, yf4, yf5, yf6, yf7, yf8, yf9, yA10, yc10, yb10, yf13, yf14, yf15, yf16, yf17, yf18, yf19, yf20, yf21, yf22, yA23, yc23, yb23, yf26, yf27, yf28) = 1 := by dsimp only [lst]; omega
                             have hss : mpl (ltick W T) ls j = mpl (ltick W T) ls (j + 1) := mpl_same hyj (lt_n hst9)
                             have hU1 : (out).map mst = fml (lagain W T) (fun y => mst (lrq y)) ls (j + 1) := by rw [fml_n hyj (la_n (fun h => hst9 h.1))]; exact hum
                             rw [hss] at hR6
                             replace hS := hS.front 3 (C := U) (L' := L :: D :: C6 :: F) rfl rfl
                             replace hS := hS.front 3 (C := C6) (L' := U :: L :: D :: F) rfl rfl
                             replace hS := hS.front 3 (C := D) (L' := C6 :: U :: L :: F) rfl rfl
                             replace hS := hS.front 3 (C := L) (L' := D :: C6 :: U :: F) rfl rfl
                             exact lp_next _ (by omega) ⟨(j + 1), (out), C6, Au, cu, U, rfl, (hA.sel [0, 9, 10, 11, 12, 22, 46, 47, 48, 56, 57] rfl), hS, by omega, hR6, hU, hU1, hud⟩))
                   · first
                     | (exfalso; omega)
                     | (replace hA := hA.rw 58 (v' := .bool false) rfl (vb_false hc119)
                        refine cd_cond_f hA rfl ?_
                        refine wp_exit ?_
                        refine xt_exit ?_
                        refine xt_exit ?_
                        refine cd_exit_eq ?_
                        refine xt_norm ?_
                        refine wp_seq ?_
                        refine wp_region_lit ?_
                        have hjl : j = ls.length := by omega
                        subst hjl
                        rw [mpl_all] at hR6; rw [fml_all] at hum
                        have hR7 : Own 55 25 (.slice Ar (ls.map (ltick W T)).length cr) (ls.map (ltick W T)).length (rows encLCall (ls.map (ltick W T))) C6 := by rw [List.length_map]; exact hR6
                        replace hA := hA.rw 12 (v' := .slice Ar ((ls.map (ltick W T)).length) cr) rfl (by rw [List.length_map])
                        refine st_run tbOk 1 hA (e' := (117, .pointer (some ⟨b2, 0, none⟩)) :: _) rfl ?_; clear hA; intro a hA
                        replace hS := hS.front 1 (C := D) (L' := L :: C6 :: U :: F) rfl rfl
                        replace hS := hS.front 1 (C := L) (L' := D :: C6 :: U :: F) rfl rfl
                        refine st_call0 hA rfl rfl rfl isfn10 rfl rfl (by decide) (ctick10 hS hM hdm hsz (hI.gd (by omega) (by omega)) (by first | omega | exact Nat.le_of_ble_eq_true rfl) (by first | decide | omega) (by first | decide | omega)) ?_
                        clear hA hS; rintro _ w153 a ⟨L154, D155, out156, A157, c158, C159, hM160, hU161, hum162, hud163, hdx164, rfl, hS⟩ hA
                        have dd165 : ∀ x ∈ (cs.map (tick1 W T)), encCall_dd w0 D155 x := tick_dd (hdx164.calls hdm)
                        have sz166 : ∀ x ∈ (cs.map (tick1 W T)), csz x := tick_sz hsz
                        have hgo2 : out156.map mst = out.map mst := hum162.trans (hI.again.trans hum.symm)
                        have hgl : out156.length = out.length := by have h := congrArg List.length hgo2; simpa using h
                        refine st_run tbOk 1 hA (e' := (25, .slice A157 out156.length c158) :: _) rfl ?_; clear hA; intro a hA
                        refine wpList_nil ?_
                        replace hA := hA.sel [0, 9, 10, 11, 12, 22, 25, 46, 47, 48] (e' := [(0, .int .u64 p), (9, .pointer (some ⟨b2, 0, none⟩)), (10, .int .i64 W), (11, .int .i64 T), (12, .slice Ar ((ls.map (ltick W T)).length) cr), (22, .slice Au out.length cu), (25, .slice A157 out156.length c158), (46, .slice (some ⟨b9, o10, none⟩) l.length c), (47, .int .i64 ((l.length : Nat) : Int)), (48, .int .i64 ((k : Nat) : Int))]) rfl
                        refine xt_norm ?_
                        refine wp_seq ?_
                        refine wp_seq ?_
                        refine wp_region_lit ?_
                        refine st_run tbOk 5 hA (e' := (123, .bool (((out156.length : Nat) : Int) != ((out.length : Nat) : Int))) :: (122, .int .i64 ((out.length : Nat) : Int)) :: (121, .slice Au out.length cu) :: (120, .int .i64 ((out156.length : Nat) : Int)) :: (119, .slice A157 out156.length c158) :: _) rfl ?_; clear hA; intro a hA
                        refine wpList_nil ?_
                        replace hA := hA.sel [0, 9, 10, 11, 12, 22, 25, 46, 47, 48, 123] (e' := [(0, .int .u64 p), (9, .pointer (some ⟨b2, 0, none⟩)), (10, .int .i64 W), (11, .int .i64 T), (12, .slice Ar ((ls.map (ltick W T)).length) cr), (22, .slice Au out.length cu), (25, .slice A157 out156.length c158), (46, .slice (some ⟨b9, o10, none⟩) l.length c), (47, .int .i64 ((l.length : Nat) : Int)), (48, .int .i64 ((k : Nat) : Int)), (123, .bool (((out156.length : Nat) : Int) != ((out.length : Nat) : Int)))]) rfl
                        refine xt_norm ?_
                        by_cases hc167 : ((out156.length : Nat) : Int) = ((out.length : Nat) : Int)
                        · first
                          | (exfalso; omega)
                          | (replace hA := hA.rw 123 (v' := .bool false) rfl (vb_ne_f hc167)
                             refine cd_cond_f hA rfl ?_
                             refine wp_skip ?_
                             refine xt_norm ?_
                             refine wp_seq ?_
                             refine wp_region_lit ?_
                             refine st_run tbOk 3 hA (e' := (126, .int .i64 0) :: (125, .int .i64 ((out156.length : Nat) : Int)) :: (124, .slice A157 out156.length c158) :: _) rfl ?_; clear hA; intro a hA
                             refine wpList_nil ?_
                             replace hA := hA.sel [0, 9, 10, 11, 12, 22, 25, 46, 47, 48, 125, 126] (e' := [(0, .int .u64 p), (9, .pointer (some ⟨b2, 0, none⟩)), (10, .int .i64 W), (11, .int .i64 T), (12, .slice Ar ((ls.map (ltick W T)).length) cr), (22, .slice Au out.length cu), (25, .slice A157 out156.length c158), (46, .slice (some ⟨b9, o10, none⟩) l.length c), (47, .int .i64 ((l.length : Nat) : Int)), (48, .int .i64 ((k : Nat) : Int)), (125, .int .i64 ((out156.length : Nat) : Int)), (126, .int .i64 0)]) rfl
                             refine xt_norm ?_
                             refine wp_block ?_
                             refine wp_loop_ghost (fun m a w => ∃ (i : Nat), m = out156.length - i ∧ Has a 334 [(0, .int .u64 p), (9, .pointer (some ⟨b2, 0, none⟩)), (10, .int .i64 W), (11, .int .i64 T), (12, .slice Ar ((ls.map (ltick W T)).length) cr), (22, .slice Au out.length cu), (25, .slice A157 out156.length c158), (46, .slice (some ⟨b9, o10, none⟩) l.length c), (47, .int .i64 ((l.length : Nat) : Int)), (48, .int .i64 ((k : Nat) : Int)), (125, .int .i64 ((out156.length : Nat) : Int)), (126, .int .i64 ((i : Nat) : Int))] ∧ St w0 w (C159 :: L154 :: D155 :: C6 :: U :: F) ∧ (i ≤ out156.length)) (out156.length - 0)
                               ⟨0, rfl, (hA.sel [0, 9, 10, 11, 12, 22, 25, 46, 47, 48, 125, 126] rfl), hS, Nat.zero_le _⟩ ?_
                             clear hA hS; rintro m0 a w168 ⟨i, rfl, hA, hS, hi⟩
                             refine wp_seq ?_
                             refine wp_region_lit ?_
                             refine st_run tbOk 1 hA (e' := (127, .bool (decide (((i : Nat) : Int) < ((out156.length : Nat) : Int)))) :: _) rfl ?_; clear hA; intro a hA
                             refine wpList_nil ?_
                             refine xt_norm ?_
                             refine wp_seq ?_
                             by_cases hc169 : ((i : Nat) : Int) < ((out156.length : Nat) : Int)
                             · first
                               | (exfalso; omega)
                               | (replace hA := hA.rw 127 (v' := .bool true) rfl (vb_true hc169)
                                  refine cd_cond_t hA rfl ?_
                                  refine wp_skip ?_
                                  refine xt_norm ?_
                                  refine wp_seq ?_
                                  refine wp_block ?_
                                  refine wp_seq ?_
                                  refine wp_region_lit ?_
                                  refine st_run tbOk 2 hA (e' := (26, .int .i64 ((i : Nat) : Int)) :: (128, .int .i64 ((i : Nat) : Int)) :: _) rfl ?_; clear hA; intro a hA
                                  refine wpList_nil ?_
                                  replace hA := hA.sel [0, 9, 10, 11, 12, 22, 25, 26, 46, 47, 48, 125, 126] (e' := [(0, .int .u64 p), (9, .pointer (some ⟨b2, 0, none⟩)), (10, .int .i64 W), (11, .int .i64 T), (12, .slice Ar ((ls.map (ltick W T)).length) cr), (22, .slice Au out.length cu), (25, .slice A157 out156.length c158), (26, .int .i64 ((i : Nat) : Int)), (46, .slice (some ⟨b9, o10, none⟩) l.length c), (47, .int .i64 ((l.length : Nat) : Int)), (48, .int .i64 ((k : Nat) : Int)), (125, .int .i64 ((out156.length : Nat) : Int)), (126, .int .i64 ((i : Nat) : Int))]) rfl
                                  refine xt_norm ?_
                                  refine wp_seq ?_
                                  obtain ⟨b170, o171, rfl⟩ := hU161.isSome (k := i) (by omega)
                                  obtain ⟨b172, o173, rfl⟩ := hU.isSome (k := i) (by omega)
                                  obtain ⟨x174, hx174⟩ := get_ex (l := out156) (k := i) (by omega)
                                  obtain ⟨x174f0, x174f1, x174f2, x174f3, x174f4, x174f5, x174f6, x174f7, x174f8, x174f9, x174A10, x174c10, x174b10⟩ := x174
                                  have hd175 := hud163 _ (List.mem_of_getElem? hx174)
                                  obtain ⟨x176, hx176⟩ := get_ex (l := out) (k := i) (by omega)
                                  obtain ⟨x176f0, x176f1, x176f2, x176f3, x176f4, x176f5, x176f6, x176f7, x176f8, x176f9, x176A10, x176c10, x176b10⟩ := x176
                                  have hd177 := (fun y hy => hud y hy D155) _ (List.mem_of_getElem? hx176)
                                  have hsm := map_at hgo2 hx174 hx176; simp only [mst, mdat, Prod.mk.injEq] at hsm
                                  refine wp_draw (fun w' => St w0 w' (C159 :: L154 :: D155 :: C6 :: U :: F)) [] [(0, true), (1, true), (2, true), (3, true), (4, true), (5, true), (6, true), (7, true), (8, false), (9, true)] mixed (by kernel_rfl) (by rintro c a w ⟨_, _, h, _⟩; cases h) (by rfl) (by kernel_rfl) ?_
                                  replace hS := hS.drew
                                  refine dr_run tbOk 2 hA hS (e' := (130, .int .i64 ((i : Nat) : Int)) :: (129, .slice (some ⟨b170, o171, none⟩) out156.length c158) :: _) rfl ?_; clear hA; intro a hA
                                  refine dr_y hA rfl rfl rfl (by decide) hS (fun w' hS' => rn_indexAddr tbOk hA i (o171 + (i * 11)) rfl rfl rfl rfl rfl rfl (by rfl) (by omega) (by first | rfl | simp [Nat.mul_one, Nat.zero_add] | omega)) ?_; clear hA; intro a hA
                                  refine dr_y hA rfl rfl rfl (by decide) hS (fun w' hS' => rn_loadA tbOk hA ([.int .u64 x174f0, .int .u64 x174f1, .int .u32 x174f2, .int .u16 x174f3, .int .u16 x174f4, .int .u64 x174f5, .int .u32 x174f6, .int .u8 x174f7, .int .u64 x174f8, .int .u64 x174f9, .slice x174A10 x174b10.length x174c10]) rfl rfl rfl rfl (by rfl) ((hU161.rd (hS'.own_ 0 rfl)).elem (k := i) encMessage_ok hx174)) ?_; clear hA; intro a hA
                                  refine dr_run tbOk 2 hA hS (e' := (134, .int .i64 ((i : Nat) : Int)) :: (133, .slice (some ⟨b172, o173, none⟩) out.length cu) :: _) rfl ?_; clear hA; intro a hA
                                  refine dr_y hA rfl rfl rfl (by decide) hS (fun w' hS' => rn_indexAddr tbOk hA i (o173 + (i * 11)) rfl rfl rfl rfl rfl rfl (by rfl) (by omega) (by first | rfl | simp [Nat.mul_one, Nat.zero_add] | omega)) ?_; clear hA; intro a hA
                                  refine dr_y hA rfl rfl rfl (by decide) hS (fun w' hS' => rn_loadA tbOk hA ([.int .u64 x176f0, .int .u64 x176f1, .int .u32 x176f2, .int .u16 x176f3, .int .u16 x176f4, .int .u64 x176f5, .int .u32 x176f6, .int .u8 x176f7, .int .u64 x176f8, .int .u64 x176f9, .slice x176A10 x176b10.length x176c10]) rfl rfl rfl rfl (by rfl) ((hU.rd (hS'.own_ 4 rfl)).elem (k := i) encMessage_ok hx176)) ?_; clear hA; intro a hA
                                  refine dr_b (o := _) rfl ?_
                                  refine st_call0 hA rfl rfl rfl isfn13 rfl rfl (by decide) (same04_13 hS x174f0 x174f1 x174f2 x174f3 x174f4 x174f5 x174f6 x174f7 x174f8 x174f9 x176f0 x176f1 x176f2 x176f3 x176f4 x176f5 x176f6 x176f7 x176f8 x176f9 (bs := x174b10) (cs := x176b10) (fun w' h => (hd175 _ (h.only 2 rfl))) (fun w' h => (hd177 _ (h.only 2 rfl)))) ?_
                                  clear hA hS; rintro v w178 a ⟨rfl, hS⟩ hA
                                  replace hA := hA.rw 137 (v' := .bool true) rfl (congrArg Value.bool (by rw [decide_eq_true_eq]; obtain ⟨q0, q1, q2, q3, q4, q5, q6, q7, q8, q9, qb⟩ := hsm; exact ⟨q0, q1, q2, q3, q4, ⟨q5, q6, q7, q8⟩, q9, qb⟩))
                                  refine dr_nil (.inr hS) ?_
                                  refine dr_run tbOk 1 hA hS (e' := (138, .bool false) :: _) rfl ?_; clear hA; intro a hA
                                  refine dr_end ?_
                                  replace hA := hA.sel [0, 9, 10, 11, 12, 22, 25, 46, 47, 48, 125, 126, 138] (e' := [(0, .int .u64 p), (9, .pointer (some ⟨b2, 0, none⟩)), (10, .int .i64 W), (11, .int .i64 T), (12, .slice Ar ((ls.map (ltick W T)).length) cr), (22, .slice (some ⟨b172, o173, none⟩) out.length cu), (25, .slice (some ⟨b170, o171, none⟩) out156.length c158), (46, .slice (some ⟨b9, o10, none⟩) l.length c), (47, .int .i64 ((l.length : Nat) : Int)), (48, .int .i64 ((k : Nat) : Int)), (125, .int .i64 ((out156.length : Nat) : Int)), (126, .int .i64 ((i : Nat) : Int)), (138, .bool false)]) rfl
                                  refine xt_norm ?_
                                  refine cd_cond_f hA rfl ?_
                                  refine wp_skip ?_
                                  refine xb_norm ?_
                                  refine xt_norm ?_
                                  refine wp_region_lit ?_
                                  refine st_run tbOk 1 hA (e' := (139, .int .i64 (IntKind.i64.wrap (((i : Nat) : Int) + 1))) :: _) rfl ?_; clear hA; intro a hA
                                  replace hA := hA.rw 139 (v' := .int .i64 ((i + 1 : Nat) : Int)) rfl (wr64 (by omega) (by omega) (by omega))
                                  refine st_run tbOk 1 hA (e' := (126, .int .i64 ((i + 1 : Nat) : Int)) :: _) rfl ?_; clear hA; intro a hA
                                  refine wpList_nil ?_
                                  replace hA := hA.sel [0, 9, 10, 11, 12, 22, 25, 46, 47, 48, 125, 126] (e' := [(0, .int .u64 p), (9, .pointer (some ⟨b2, 0, none⟩)), (10, .int .i64 W), (11, .int .i64 T), (12, .slice Ar ((ls.map (ltick W T)).length) cr), (22, .slice (some ⟨b172, o173, none⟩) out.length cu), (25, .slice (some ⟨b170, o171, none⟩) out156.length c158), (46, .slice (some ⟨b9, o10, none⟩) l.length c), (47, .int .i64 ((l.length : Nat) : Int)), (48, .int .i64 ((k : Nat) : Int)), (125, .int .i64 ((out156.length : Nat) : Int)), (126, .int .i64 ((i + 1 : Nat) : Int))]) rfl
                                  replace hS := hS.front 4 (C := U) (L' := C159 :: L154 :: D155 :: C6 :: F) rfl rfl
                                  replace hS := hS.front 4 (C := C6) (L' := U :: C159 :: L154 :: D155 :: F) rfl rfl
                                  replace hS := hS.front 4 (C := D155) (L' := C6 :: U :: C159 :: L154 :: F) rfl rfl
                                  replace hS := hS.front 4 (C := L154) (L' := D155 :: C6 :: U :: C159 :: F) rfl rfl
                                  replace hS := hS.front 4 (C := C159) (L' := L154 :: D155 :: C6 :: U :: F) rfl rfl
                                  exact lp_next _ (by omega) ⟨(i + 1), rfl, (hA.sel [0, 9, 10, 11, 12, 22, 25, 46, 47, 48, 125, 126] rfl), hS, by omega⟩)
                             · first
                               | (exfalso; omega)
                               | (replace hA := hA.rw 127 (v' := .bool false) rfl (vb_false hc169)
                                  refine cd_cond_f hA rfl ?_
                                  refine wp_exit ?_
                                  refine xt_exit ?_
                                  refine xt_exit ?_
                                  refine cd_exit_eq ?_
                                  refine xb_norm ?_
                                  refine xb_norm ?_
                                  refine xt_norm ?_
                                  replace hS := hS.drop1
                                  replace hS := hS.front 3 (C := U) (L' := L154 :: D155 :: C6 :: F) rfl rfl
                                  replace hS := hS.drop1
                                  replace hS := hS.front 2 (C := C6) (L' := L154 :: D155 :: F) rfl rfl
                                  replace hS := hS.front 2 (C := D155) (L' := C6 :: L154 :: F) rfl rfl
                                  replace hS := hS.front 2 (C := L154) (L' := D155 :: C6 :: F) rfl rfl
                                  exact ⟨(cs.map (tick1 W T)), (ls.map (ltick W T)), L154, D155, Ar, cr, C6, (hA.sel [0, 9, 10, 11, 12, 46, 47, 48] rfl), hS, hI.tick, hM160, hR7, dd165, sz166, (lmap_dd hdr)⟩))
                        · first
                          | (exfalso; omega)
                          | (replace hA := hA.rw 123 (v' := .bool true) rfl (vb_ne_t hc167)
                             refine cd_cond_t hA rfl ?_
                             refine wp_seq ?_
                             refine wp_region_lit ?_
                             refine st_run tbOk 1 hA (e' := (8, .bool false) :: _) rfl ?_; clear hA; intro a hA
                             refine wpList_nil ?_
                             replace hA := hA.sel [8] (e' := [(8, .bool false)]) rfl
                             refine xt_norm ?_
                             refine wp_ret (xt_ret (xb_ret (xb_ret (xt_ret (xt_ret (xb_ret (xt_ret ?_)))))))
                             refine ret1 (fn := Tryd.f6) hA rfl rfl ?_
                             exfalso; omega))))
       · clear hA hS; rintro a w179 ⟨cs', ls', L', D', Ar', cr', Cr', hA, hS, hI', hM', hR', hdm', hsz', hdr'⟩
         refine wp_region_lit ?_
         refine st_run tbOk 1 hA (e' := (269, .int .i64 (IntKind.i64.wrap (((k : Nat) : Int) + 1))) :: _) rfl ?_; clear hA; intro a hA
         replace hA := hA.rw 269 (v' := .int .i64 ((k + 1 : Nat) : Int)) rfl (wr64 (by omega) (by omega) (by omega))
         refine st_run tbOk 1 hA (e' := (48, .int .i64 ((k + 1 : Nat) : Int)) :: _) rfl ?_; clear hA; intro a hA
         refine wpList_nil ?_
         replace hA := hA.sel [0, 9, 10, 11, 12, 46, 47, 48] (e' := [(0, .int .u64 p), (9, .pointer (some ⟨b2, 0, none⟩)), (10, .int .i64 W), (11, .int .i64 T), (12, .slice Ar' ls'.length cr'), (46, .slice A l.length c), (47, .int .i64 ((l.length : Nat) : Int)), (48, .int .i64 ((k + 1 : Nat) : Int))]) rfl
         replace hS := hS.front 2 (C := Cr') (L' := L' :: D' :: F) rfl rfl
         replace hS := hS.front 2 (C := D') (L' := Cr' :: L' :: F) rfl rfl
         replace hS := hS.front 2 (C := L') (L' := D' :: Cr' :: F) rfl rfl
         exact lp_next _ (by omega) ⟨(k + 1), (cs'), (ls'), L', D', Ar', cr', Cr', rfl, (hA.sel [0, 9, 10, 11, 12, 46, 47, 48] rfl), hS, by omega, hI', hM', hR', hdm', hsz', hdr'⟩)
  · first
    | (exfalso; omega)
    | (replace hA := hA.rw 49 (v' := .bool false) rfl (vb_false hc8)
       refine cd_cond_f hA rfl ?_
       refine wp_exit ?_
       refine xt_exit ?_
       refine xt_exit ?_
       refine cd_exit_eq ?_
       refine xt_norm ?_
       refine wp_seq ?_
       refine wp_seq ?_
       refine wp_region_lit ?_
       refine st_run tbOk 1 hA (e' := (27, .int .i64 0) :: _) rfl ?_; clear hA; intro a hA
       refine wpList_nil ?_
       replace hA := hA.sel [9, 12, 27] (e' := [(9, .pointer (some ⟨b2, 0, none⟩)), (12, .slice Ar ls.length cr), (27, .int .i64 0)]) rfl
       refine xt_norm ?_
       refine wp_block ?_
       replace hS := hS.front 2 (C := Cr) (L' := L :: D :: F) rfl rfl
       replace hS := hS.front 2 (C := D) (L' := Cr :: L :: F) rfl rfl
       replace hS := hS.front 2 (C := L) (L' := D :: Cr :: F) rfl rfl
       refine wp_loop_ghost (fun m a w => ∃ (i : Nat) (L4 : Chunk) (D4 : Chunk), m = 66 - i ∧ Has a 334 [(9, .pointer (some ⟨b2, 0, none⟩)), (12, .slice Ar ls.length cr), (27, .int .i64 ((i : Nat) : Int))] ∧ St w0 w (L4 :: D4 :: Cr :: F) ∧ (i ≤ 66) ∧ (CR b2 p W T cs L4) ∧ (∀ x ∈ cs, encCall_dd w0 D4 x)) (66 - 0)
         ⟨0, L, D, rfl, (hA.sel [9, 12, 27] rfl), hS, Nat.zero_le _, hM, hdm⟩ ?_
       clear hA hS; rintro m0 a w180 ⟨i, L4, D4, rfl, hA, hS, hi, hM4, hdm4⟩
       refine wp_seq ?_
       refine wp_seq ?_
       refine wp_region_lit ?_
       refine st_run tbOk 2 hA (e' := (271, .bool (decide (((i : Nat) : Int) < 66))) :: (270, .int .i64 ((i : Nat) : Int)) :: _) rfl ?_; clear hA; intro a hA
       refine wpList_nil ?_
       replace hA := hA.sel [9, 12, 27, 271] (e' := [(9, .pointer (some ⟨b2, 0, none⟩)), (12, .slice Ar ls.length cr), (27, .int .i64 ((i : Nat) : Int)), (271, .bool (decide (((i : Nat) : Int) < 66)))]) rfl
       refine xt_norm ?_
       by_cases hc181 : ((i : Nat) : Int) < 66
       · first
         | (exfalso; omega)
         | (replace hA := hA.rw 271 (v' := .bool true) rfl (vb_true hc181)
            refine cd_cond_t hA rfl ?_
            refine wp_skip ?_
            refine xt_norm ?_
            refine wp_seq ?_
            refine wp_block ?_
            refine wp_seq ?_
            refine wp_region_lit ?_
            have hcs : (i < 1 ∨ ls.length < i) ∨ (∃ (k1 : Nat) (y : LCall) (x : Call), ls[k1]? = some y ∧ cs[k1]? = some x ∧ i = k1 + 1 ∧ ¬ cst x = 3) ∨ ∃ (k1 : Nat) (y : LCall) (x : Call), ls[k1]? = some y ∧ cs[k1]? = some x ∧ i = k1 + 1 ∧ cst x = 3 := by
                by_cases h : i < 1 ∨ ls.length < i
                · exact .inl h
                · obtain ⟨y, hy⟩ := get_ex (l := ls) (k := i - 1) (by omega)
                  obtain ⟨x, hx⟩ := get_ex (l := cs) (k := i - 1) (by omega)
                  by_cases h3 : cst x = 3
                  · exact .inr (.inr ⟨_, y, x, hy, hx, by omega, h3⟩)
                  · exact .inr (.inl ⟨_, y, x, hy, hx, by omega, h3⟩)
            rcases hcs with hnone | ⟨k1, ⟨yf0, yf1, yf2, yf3, yf4, yf5, yf6, yf7, yf8, yf9, yA10, yc10, yb10, yf13, yf14, yf15, yf16, yf17, yf18, yf19, yf20, yf21, yf22, yA23, yc23, yb23, yf26, yf27, yf28⟩, ⟨xf0, xf1, xf2, xf3, xf4, xf5, xf6, xf7, xf8, xf9, xA10, xc10, xb10, xf13, xf14, xf15, xf16, xf17, xf18, xf19, xf20, xf21, xf22, xf23, xf24, xf25, xA26, xc26, xb26⟩, hy1, hx1, hi1, hst⟩ | ⟨k1, ⟨yf0, yf1, yf2, yf3, yf4, yf5, yf6, yf7, yf8, yf9, yA10, yc10, yb10, yf13, yf14, yf15, yf16, yf17, yf18, yf19, yf20, yf21, yf22, yA23, yc23, yb23, yf26, yf27, yf28⟩, ⟨xf0, xf1, xf2, xf3, xf4, xf5, xf6, xf7, xf8, xf9, xA10, xc10, xb10, xf13, xf14, xf15, xf16, xf17, xf18, xf19, xf20, xf21, xf22, xf23, xf24, xf25, xA26, xc26, xb26⟩, hy1, hx1, hi1, hst⟩
            · refine st_run tbOk 3 hA (e' := (277, .int .u32 (IntKind.u32.wrap ((i : Nat) : Int))) :: (276, .int .i64 ((i : Nat) : Int)) :: (275, .pointer (some ⟨b2, 0, none⟩)) :: _) rfl ?_; clear hA; intro a hA
              replace hA := hA.rw 277 (v' := .int .u32 ((i : Nat) : Int)) rfl (vint (wrap_u32 (by omega) (by omega)))
              replace hS := hS.front 1 (C := D4) (L' := L4 :: Cr :: F) rfl rfl
              replace hS := hS.front 1 (C := L4) (L' := D4 :: Cr :: F) rfl rfl
              refine st_call0 hA rfl rfl rfl isfn11 rfl rfl (by decide) (cget_none11 hS hM4 (by omega) (by omega) (by omega)) ?_
              clear hA hS; rintro _ w182 a ⟨L183, hM184, rfl, hS⟩ hA
              refine st_run tbOk 4 hA (e' := (281, .iface 52 (.int .i64 12)) :: (280, .agg #[.int .u64 0, .int .u64 0, .int .u32 0, .int .u16 0, .int .u16 0, .int .u64 0, .int .u32 0, .int .u8 0, .int .u64 0, .int .u64 0, .slice none 0 0]) :: (279, .int .i64 0) :: (274, .tuple #[.int .i64 0, .agg #[.int .u64 0, .int .u64 0, .int .u32 0, .int .u16 0, .int .u16 0, .int .u64 0, .int .u32 0, .int .u8 0, .int .u64 0, .int .u64 0, .slice none 0 0], .iface 52 (.int .i64 12)]) :: _) rfl ?_; clear hA; intro a hA
              refine st_alloc tbOk hA hS [.int .u64 0, .int .u64 0, .int .u32 0, .int .u16 0, .int .u16 0, .int .u64 0, .int .u32 0, .int .u8 0, .int .u64 0, .int .u64 0, .slice none 0 0] rfl rfl rfl rfl rfl (by decide) ?_; clear hA hS; intro b185 w186 a hS hA
              refine st_run tbOk 1 hA (e' := (28, .int .i64 0) :: _) rfl ?_; clear hA; intro a hA
              refine st_store tbOk hA hS [.int .u64 0, .int .u64 0, .int .u32 0, .int .u16 0, .int .u16 0, .int .u64 0, .int .u32 0, .int .u8 0, .int .u64 0, .int .u64 0, .slice none 0 0] [.int .u64 0, .int .u64 0, .int .u32 0, .int .u16 0, .int .u16 0, .int .u64 0, .int .u32 0, .int .u8 0, .int .u64 0, .int .u64 0, .slice none 0 0] rfl rfl rfl rfl rfl rfl (by simp [Value.oneCell']) (Nat.le_of_ble_eq_true rfl) rfl rfl rfl ?_; clear hS; intro w187 hS
              refine st_run tbOk 1 hA (e' := (30, .iface 52 (.int .i64 12)) :: _) rfl ?_; clear hA; intro a hA
              refine wpList_nil ?_
              replace hA := hA.sel [9, 12, 27, 28, 29, 30] (e' := [(9, .pointer (some ⟨b2, 0, none⟩)), (12, .slice Ar ls.length cr), (27, .int .i64 ((i : Nat) : Int)), (28, .int .i64 0), (29, .pointer (some ⟨b185, 0, none⟩)), (30, .iface 52 (.int .i64 12))]) rfl
              refine xt_norm ?_
              refine wp_seq ?_
              refine wp_seq ?_
              refine wp_region_lit ?_
              refine st_run tbOk 3 hA (e' := (284, .bool (decide (((i : Nat) : Int) < 1))) :: (283, .bool (decide (((i : Nat) : Int) < 1))) :: (282, .int .i64 ((i : Nat) : Int)) :: _) rfl ?_; clear hA; intro a hA
              by_cases hc188 : ((i : Nat) : Int) < 1
              · first
                | (exfalso; omega)
                | (replace hA := hA.rw 283 (v' := .bool true) rfl (vb_true hc188)
                   replace hA := hA.rw 284 (v' := .bool true) rfl (vb_true hc188)
                   refine st_run tbOk 5 hA (e' := (289, .bool true) :: (288, undef) :: (287, undef) :: (286, undef) :: (285, undef) :: _) rfl ?_; clear hA; intro a hA
                   refine wpList_nil ?_
                   replace hA := hA.sel [9, 12, 27, 28, 29, 30, 289] (e' := [(9, .pointer (some ⟨b2, 0, none⟩)), (12, .slice Ar ls.length cr), (27, .int .i64 ((i : Nat) : Int)), (28, .int .i64 0), (29, .pointer (some ⟨b185, 0, none⟩)), (30, .iface 52 (.int .i64 12)), (289, .bool true)]) rfl
                   refine xt_norm ?_
                   refine cd_cond_t hA rfl ?_
                   refine wp_seq ?_
                   refine wp_seq ?_
                   refine wp_region_lit ?_
                   refine st_run tbOk 4 hA (e' := (293, .iface 52 (.int .i64 12)) :: (292, .bool false) :: (291, .bool false) :: (290, .int .i64 0) :: _) rfl ?_; clear hA; intro a hA
                   refine st_call0 hA rfl rfl rfl isfn14 rfl rfl (by decide) (number_hit14 hS hg 12) ?_
                   clear hA hS; rintro v w189 a ⟨rfl, hS⟩ hA
                   refine st_run tbOk 2 hA (e' := (296, .bool false) :: (295, .bool false) :: _) rfl ?_; clear hA; intro a hA
                   refine wpList_nil ?_
                   replace hA := hA.sel [9, 12, 27, 296] (e' := [(9, .pointer (some ⟨b2, 0, none⟩)), (12, .slice Ar ls.length cr), (27, .int .i64 ((i : Nat) : Int)), (296, .bool false)]) rfl
                   refine xt_norm ?_
                   refine cd_cond_f hA rfl ?_
                   refine wp_skip ?_
                   refine xt_norm ?_
                   refine wp_exit ?_
                   refine xt_exit ?_
                   refine cd_exit_eq ?_
                   refine xt_norm ?_
                   refine wp_region_lit ?_
                   refine st_run tbOk 2 hA (e' := (273, .int .i64 (IntKind.i64.wrap (((i : Nat) : Int) + 1))) :: (272, .int .i64 ((i : Nat) : Int)) :: _) rfl ?_; clear hA; intro a hA
                   replace hA := hA.rw 273 (v' := .int .i64 ((i + 1 : Nat) : Int)) rfl (wr64 (by omega) (by omega) (by omega))
                   refine st_run tbOk 1 hA (e' := (27, .int .i64 ((i + 1 : Nat) : Int)) :: _) rfl ?_; clear hA; intro a hA
                   refine wpList_nil ?_
                   replace hA := hA.sel [9, 12, 27] (e' := [(9, .pointer (some ⟨b2, 0, none⟩)), (12, .slice Ar ls.length cr), (27, .int .i64 ((i + 1 : Nat) : Int))]) rfl
                   replace hS := hS.drop1
                   replace hS := hS.front 2 (C := Cr) (L' := L183 :: D4 :: F) rfl rfl
                   replace hS := hS.front 2 (C := D4) (L' := Cr :: L183 :: F) rfl rfl
                   replace hS := hS.front 2 (C := L183) (L' := D4 :: Cr :: F) rfl rfl
                   exact lp_next _ (by omega) ⟨(i + 1), L183, D4, rfl, (hA.sel [9, 12, 27] rfl), hS, by omega, hM184, hdm4⟩)
              · first
                | (exfalso; omega)
                | (replace hA := hA.rw 283 (v' := .bool false) rfl (vb_false hc188)
                   replace hA := hA.rw 284 (v' := .bool false) rfl (vb_false hc188)
                   refine st_run tbOk 5 hA (e' := (289, .bool (decide (((i : Nat) : Int) > ((ls.length : Nat) : Int)))) :: (288, .bool (decide (((i : Nat) : Int) > ((ls.length : Nat) : Int)))) :: (287, .int .i64 ((ls.length : Nat) : Int)) :: (286, .slice Ar ls.length cr) :: (285, .int .i64 ((i : Nat) : Int)) :: _) rfl ?_; clear hA; intro a hA
                   refine wpList_nil ?_
                   replace hA := hA.sel [9, 12, 27, 28, 29, 30, 289] (e' := [(9, .pointer (some ⟨b2, 0, none⟩)), (12, .slice Ar ls.length cr), (27, .int .i64 ((i : Nat) : Int)), (28, .int .i64 0), (29, .pointer (some ⟨b185, 0, none⟩)), (30, .iface 52 (.int .i64 12)), (289, .bool (decide (((i : Nat) : Int) > ((ls.length : Nat) : Int))))]) rfl
                   refine xt_norm ?_
                   by_cases hc190 : ((i : Nat) : Int) > ((ls.length : Nat) : Int)
                   · first
                     | (exfalso; omega)
                     | (replace hA := hA.rw 289 (v' := .bool true) rfl (vb_true hc190)
                        refine cd_cond_t hA rfl ?_
                        refine wp_seq ?_
                        refine wp_seq ?_
                        refine wp_region_lit ?_
                        refine st_run tbOk 4 hA (e' := (293, .iface 52 (.int .i64 12)) :: (292, .bool false) :: (291, .bool false) :: (290, .int .i64 0) :: _) rfl ?_; clear hA; intro a hA
                        refine st_call0 hA rfl rfl rfl isfn14 rfl rfl (by decide) (number_hit14 hS hg 12) ?_
                        clear hA hS; rintro v w191 a ⟨rfl, hS⟩ hA
                        refine st_run tbOk 2 hA (e' := (296, .bool false) :: (295, .bool false) :: _) rfl ?_; clear hA; intro a hA
                        refine wpList_nil ?_
                        replace hA := hA.sel [9, 12, 27, 296] (e' := [(9, .pointer (some ⟨b2, 0, none⟩)), (12, .slice Ar ls.length cr), (27, .int .i64 ((i : Nat) : Int)), (296, .bool false)]) rfl
                        refine xt_norm ?_
                        refine cd_cond_f hA rfl ?_
                        refine wp_skip ?_
                        refine xt_norm ?_
                        refine wp_exit ?_
                        refine xt_exit ?_
                        refine cd_exit_eq ?_
                        refine xt_norm ?_
                        refine wp_region_lit ?_
                        refine st_run tbOk 2 hA (e' := (273, .int .i64 (IntKind.i64.wrap (((i : Nat) : Int) + 1))) :: (272, .int .i64 ((i : Nat) : Int)) :: _) rfl ?_; clear hA; intro a hA
                        replace hA := hA.rw 273 (v' := .int .i64 ((i + 1 : Nat) : Int)) rfl (wr64 (by omega) (by omega) (by omega))
                        refine st_run tbOk 1 hA (e' := (27, .int .i64 ((i + 1 : Nat) : Int)) :: _) rfl ?_; clear hA; intro a hA
                        refine wpList_nil ?_
                        replace hA := hA.sel [9, 12, 27] (e' := [(9, .pointer (some ⟨b2, 0, none⟩)), (12, .slice Ar ls.length cr), (27, .int .i64 ((i + 1 : Nat) : Int))]) rfl
                        replace hS := hS.drop1
                        replace hS := hS.front 2 (C := Cr) (L' := L183 :: D4 :: F) rfl rfl
                        replace hS := hS.front 2 (C := D4) (L' := Cr :: L183 :: F) rfl rfl
                        replace hS := hS.front 2 (C := L183) (L' := D4 :: Cr :: F) rfl rfl
                        exact lp_next _ (by omega) ⟨(i + 1), L183, D4, rfl, (hA.sel [9, 12, 27] rfl), hS, by omega, hM184, hdm4⟩)
                   · first
                     | (exfalso; omega)
                     | (replace hA := hA.rw 289 (v' := .bool false) rfl (vb_false hc190)
                        refine cd_cond_f hA rfl ?_
                        refine wp_skip ?_
                        refine xt_norm ?_
                        refine wp_seq ?_
                        exfalso; omega))
            · have hcv := hI.at_ _ _ _ hx1 hy1
              have hcs1 := hcv.s; dsimp only [cst, lst] at hcs1 hst
              have hk1l := (List.getElem?_eq_some_iff.1 hy1).1
              have hdv : encLCall_dd w0 D4 (yf0, yf1, yf2, yf3, yf4, yf5, yf6, yf7, yf8, yf9, yA10, yc10, yb10, yf13, yf14, yf15, yf16, yf17, yf18, yf19, yf20, yf21, yf22, yA23, yc23, yb23, yf26, yf27, yf28) := hdr _ (List.mem_of_getElem? hy1) D4
              have hsm := hcv.r; simp only [mst, mdat, rp, lrp, Prod.mk.injEq] at hsm
              replace hA := hA.rw 27 (v' := .int .i64 ((k1 + 1 : Nat) : Int)) rfl (vint (by omega))
              refine st_run tbOk 3 hA (e' := (277, .int .u32 (IntKind.u32.wrap ((k1 + 1 : Nat) : Int))) :: (276, .int .i64 ((k1 + 1 : Nat) : Int)) :: (275, .pointer (some ⟨b2, 0, none⟩)) :: _) rfl ?_; clear hA; intro a hA
              replace hA := hA.rw 277 (v' := .int .u32 ((k1 + 1 : Nat) : Int)) rfl (vint (wrap_u32 (by omega) (by omega)))
              replace hS := hS.front 1 (C := D4) (L' := L4 :: Cr :: F) rfl rfl
              replace hS := hS.front 1 (C := L4) (L' := D4 :: Cr :: F) rfl rfl
              refine st_call0 hA rfl rfl rfl isfn11 rfl rfl (by decide) (cget_ok11 hS hM4 (k := k1) (x := (xf0, xf1, xf2, xf3, xf4, xf5, xf6, xf7, xf8, xf9, xA10, xc10, xb10, xf13, xf14, xf15, xf16, xf17, xf18, xf19, xf20, xf21, xf22, xf23, xf24, xf25, xA26, xc26, xb26)) hx1 (by omega) (by omega) hst hdm4 hsz) ?_
              clear hA hS; rintro _ w192 a ⟨L193, E195, A196, c197, hM194, hE198, rfl, hS⟩ hA
              have dd199 := encCall_lefts (E := E195) hdm4
              refine st_run tbOk 4 hA (e' := (281, .nilIface) :: (280, .agg #[.int .u64 xf16, .int .u64 xf17, .int .u32 xf18, .int .u16 xf19, .int .u16 xf20, .int .u64 xf21, .int .u32 xf22, .int .u8 xf23, .int .u64 xf24, .int .u64 xf25, .slice A196 xb26.length c197]) :: (279, .int .i64 xf13) :: (274, .tuple #[.int .i64 xf13, .agg #[.int .u64 xf16, .int .u64 xf17, .int .u32 xf18, .int .u16 xf19, .int .u16 xf20, .int .u64 xf21, .int .u32 xf22, .int .u8 xf23, .int .u64 xf24, .int .u64 xf25, .slice A196 xb26.length c197], .nilIface]) :: _) rfl ?_; clear hA; intro a hA
              refine st_alloc tbOk hA hS [.int .u64 0, .int .u64 0, .int .u32 0, .int .u16 0, .int .u16 0, .int .u64 0, .int .u32 0, .int .u8 0, .int .u64 0, .int .u64 0, .slice none 0 0] rfl rfl rfl rfl rfl (by decide) ?_; clear hA hS; intro b200 w201 a hS hA
              refine st_run tbOk 1 hA (e' := (28, .int .i64 xf13) :: _) rfl ?_; clear hA; intro a hA
              refine st_store tbOk hA hS [.int .u64 xf16, .int .u64 xf17, .int .u32 xf18, .int .u16 xf19, .int .u16 xf20, .int .u64 xf21, .int .u32 xf22, .int .u8 xf23, .int .u64 xf24, .int .u64 xf25, .slice A196 xb26.length c197] [.int .u64 xf16, .int .u64 xf17, .int .u32 xf18, .int .u16 xf19, .int .u16 xf20, .int .u64 xf21, .int .u32 xf22, .int .u8 xf23, .int .u64 xf24, .int .u64 xf25, .slice A196 xb26.length c197] rfl rfl rfl rfl rfl rfl (by simp [Value.oneCell']) (Nat.le_of_ble_eq_true rfl) rfl rfl rfl ?_; clear hS; intro w202 hS
              refine st_run tbOk 1 hA (e' := (30, .nilIface) :: _) rfl ?_; clear hA; intro a hA
              refine wpList_nil ?_
              replace hA := hA.sel [9, 12, 27, 28, 29, 30] (e' := [(9, .pointer (some ⟨b2, 0, none⟩)), (12, .slice Ar ls.length cr), (27, .int .i64 ((k1 + 1 : Nat) : Int)), (28, .int .i64 xf13), (29, .pointer (some ⟨b200, 0, none⟩)), (30, .nilIface)]) rfl
              refine xt_norm ?_
              refine wp_seq ?_
              refine wp_seq ?_
              refine wp_region_lit ?_
              refine st_run tbOk 3 hA (e' := (284, .bool (decide (((k1 + 1 : Nat) : Int) < 1))) :: (283, .bool (decide (((k1 + 1 : Nat) : Int) < 1))) :: (282, .int .i64 ((k1 + 1 : Nat) : Int)) :: _) rfl ?_; clear hA; intro a hA
              by_cases hc203 : ((k1 + 1 : Nat) : Int) < 1
              · first
                | (exfalso; omega)
                | (replace hA := hA.rw 283 (v' := .bool true) rfl (vb_true hc203)
                   replace hA := hA.rw 284 (v' := .bool true) rfl (vb_true hc203)
                   refine st_run tbOk 5 hA (e' := (289, .bool true) :: (288, undef) :: (287, undef) :: (286, undef) :: (285, undef) :: _) rfl ?_; clear hA; intro a hA
                   refine wpList_nil ?_
                   replace hA := hA.sel [9, 12, 27, 28, 29, 30, 289] (e' := [(9, .pointer (some ⟨b2, 0, none⟩)), (12, .slice Ar ls.length cr), (27, .int .i64 ((k1 + 1 : Nat) : Int)), (28, .int .i64 xf13), (29, .pointer (some ⟨b200, 0, none⟩)), (30, .nilIface), (289, .bool true)]) rfl
                   refine xt_norm ?_
                   refine cd_cond_t hA rfl ?_
                   refine wp_seq ?_
                   refine wp_seq ?_
                   exfalso; omega)
              · first
                | (exfalso; omega)
                | (replace hA := hA.rw 283 (v' := .bool false) rfl (vb_false hc203)
                   replace hA := hA.rw 284 (v' := .bool false) rfl (vb_false hc203)
                   refine st_run tbOk 5 hA (e' := (289, .bool (decide (((k1 + 1 : Nat) : Int) > ((ls.length : Nat) : Int)))) :: (288, .bool (decide (((k1 + 1 : Nat) : Int) > ((ls.length : Nat) : Int)))) :: (287, .int .i64 ((ls.length : Nat) : Int)) :: (286, .slice Ar ls.length cr) :: (285, .int .i64 ((k1 + 1 : Nat) : Int)) :: _) rfl ?_; clear hA; intro a hA
                   refine wpList_nil ?_
                   replace hA := hA.sel [9, 12, 27, 28, 29, 30, 289] (e' := [(9, .pointer (some ⟨b2, 0, none⟩)), (12, .slice Ar ls.length cr), (27, .int .i64 ((k1 + 1 : Nat) : Int)), (28, .int .i64 xf13), (29, .pointer (some ⟨b200, 0, none⟩)), (30, .nilIface), (289, .bool (decide (((k1 + 1 : Nat) : Int) > ((ls.length : Nat) : Int))))]) rfl
                   refine xt_norm ?_
                   by_cases hc204 : ((k1 + 1 : Nat) : Int) > ((ls.length : Nat) : Int)
                   · first
                     | (exfalso; omega)
                     | (replace hA := hA.rw 289 (v' := .bool true) rfl (vb_true hc204)
                        refine cd_cond_t hA rfl ?_
                        refine wp_seq ?_
                        refine wp_seq ?_
                        exfalso; omega)
                   · first
                     | (exfalso; omega)
                     | (replace hA := hA.rw 289 (v' := .bool false) rfl (vb_false hc204)
                        refine cd_cond_f hA rfl ?_
                        refine wp_skip ?_
                        refine xt_norm ?_
                        refine wp_seq ?_
                        refine wp_region_lit ?_
                        refine st_run tbOk 3 hA (e' := (299, .int .i64 (IntKind.i64.wrap (((k1 + 1 : Nat) : Int) - 1))) :: (298, .int .i64 ((k1 + 1 : Nat) : Int)) :: (297, .slice Ar ls.length cr) :: _) rfl ?_; clear hA; intro a hA
                        replace hA := hA.rw 299 (v' := .int .i64 (((k1 + 1 : Nat) : Int) - 1)) rfl (wr64 (by omega) (by omega) (by omega))
                        replace hA := hA.rw 299 (v' := .int .i64 ((k1 : Nat) : Int)) rfl (vint (by omega))
                        obtain ⟨b205, o206, rfl⟩ := hR.isSome (k := k1) (by omega)
                        refine st_val hA rfl rfl (by decide) (rn_indexAddr tbOk hA k1 (o206 + (k1 * 25)) rfl rfl rfl rfl rfl rfl (by rfl) (by omega) (by first | rfl | simp [Nat.mul_one, Nat.zero_add] | omega)) ?_; clear hA; intro a hA
                        refine st_val hA rfl rfl (by decide) (rn_loadA tbOk hA ([.int .u64 yf0, .int .u64 yf1, .int .u32 yf2, .int .u16 yf3, .int .u16 yf4, .int .u64 yf5, .int .u32 yf6, .int .u8 yf7, .int .u64 yf8, .int .u64 yf9, .slice yA10 yb10.length yc10, .int .u64 yf13, .int .u64 yf14, .int .u32 yf15, .int .u16 yf16, .int .u16 yf17, .int .u64 yf18, .int .u32 yf19, .int .u8 yf20, .int .u64 yf21, .int .u64 yf22, .slice yA23 yb23.length yc23, .int .i64 yf26, .int .i64 yf27, .int .i64 yf28]) rfl rfl rfl rfl (by rfl) ((hR.rd (hS.own_ 3 rfl)).elem (k := k1) encLCall_ok hy1)) ?_; clear hA; intro a hA
                        refine st_alloc tbOk hA hS [.int .u64 0, .int .u64 0, .int .u32 0, .int .u16 0, .int .u16 0, .int .u64 0, .int .u32 0, .int .u8 0, .int .u64 0, .int .u64 0, .slice none 0 0, .int .u64 0, .int .u64 0, .int .u32 0, .int .u16 0, .int .u16 0, .int .u64 0, .int .u32 0, .int .u8 0, .int .u64 0, .int .u64 0, .slice none 0 0, .int .i64 0, .int .i64 0, .int .i64 0] rfl rfl rfl rfl rfl (by decide) ?_; clear hA hS; intro b207 w208 a hS hA
                        refine st_store tbOk hA hS [.int .u64 yf0, .int .u64 yf1, .int .u32 yf2, .int .u16 yf3, .int .u16 yf4, .int .u64 yf5, .int .u32 yf6, .int .u8 yf7, .int .u64 yf8, .int .u64 yf9, .slice yA10 yb10.length yc10, .int .u64 yf13, .int .u64 yf14, .int .u32 yf15, .int .u16 yf16, .int .u16 yf17, .int .u64 yf18, .int .u32 yf19, .int .u8 yf20, .int .u64 yf21, .int .u64 yf22, .slice yA23 yb23.length yc23, .int .i64 yf26, .int .i64 yf27, .int .i64 yf28] [.int .u64 yf0, .int .u64 yf1, .int .u32 yf2, .int .u16 yf3, .int .u16 yf4, .int .u64 yf5, .int .u32 yf6, .int .u8 yf7, .int .u64 yf8, .int .u64 yf9, .slice yA10 yb10.length yc10, .int .u64 yf13, .int .u64 yf14, .int .u32 yf15, .int .u16 yf16, .int .u16 yf17, .int .u64 yf18, .int .u32 yf19, .int .u8 yf20, .int .u64 yf21, .int .u64 yf22, .slice yA23 yb23.length yc23, .int .i64 yf26, .int .i64 yf27, .int .i64 yf28] rfl rfl rfl rfl rfl rfl (by simp [Value.oneCell']) (Nat.le_of_ble_eq_true rfl) rfl rfl rfl ?_; clear hS; intro w209 hS
                        refine wpList_nil ?_
                        replace hA := hA.sel [9, 12, 27, 28, 29, 30, 31] (e' := [(9, .pointer (some ⟨b2, 0, none⟩)), (12, .slice (some ⟨b205, o206, none⟩) ls.length cr), (27, .int .i64 ((k1 + 1 : Nat) : Int)), (28, .int .i64 xf13), (29, .pointer (some ⟨b200, 0, none⟩)), (30, .nilIface), (31, .pointer (some ⟨b207, 0, none⟩))]) rfl
                        refine xt_norm ?_
                        refine wp_seq ?_
                        refine wp_region_lit ?_
                        refine st_run tbOk 2 hA (e' := (303, .pointer (some ⟨b207, 22, none⟩)) :: (302, .int .i64 xf13) :: _) rfl ?_; clear hA; intro a hA
                        refine st_val hA rfl rfl (by decide) (rn_load tbOk hA rfl rfl rfl rfl (cell_row (hS.heapAt 0 rfl) rfl)) ?_; clear hA; intro a hA
                        refine st_run tbOk 2 hA (e' := (306, .bool (xf13 != yf26)) :: (305, .bool (xf13 != yf26)) :: _) rfl ?_; clear hA; intro a hA
                        by_cases hc210 : xf13 = yf26
                        · first
                          | (exfalso; omega)
                          | (replace hA := hA.rw 305 (v' := .bool false) rfl (vb_ne_f hc210)
                             replace hA := hA.rw 306 (v' := .bool false) rfl (vb_ne_f hc210)
                             refine st_val hA rfl rfl (by decide) (rn_loadA tbOk hA [.int .u64 xf16, .int .u64 xf17, .int .u32 xf18, .int .u16 xf19, .int .u16 xf20, .int .u64 xf21, .int .u32 xf22, .int .u8 xf23, .int .u64 xf24, .int .u64 xf25, .slice A196 xb26.length c197] rfl rfl rfl rfl rfl (cells_row (hS.heapAt 1 rfl) rfl)) ?_; clear hA; intro a hA
                             refine st_run tbOk 1 hA (e' := (308, .pointer (some ⟨b207, 11, none⟩)) :: _) rfl ?_; clear hA; intro a hA
                             refine st_val hA rfl rfl (by decide) (rn_loadA tbOk hA [.int .u64 yf13, .int .u64 yf14, .int .u32 yf15, .int .u16 yf16, .int .u16 yf17, .int .u64 yf18, .int .u32 yf19, .int .u8 yf20, .int .u64 yf21, .int .u64 yf22, .slice yA23 yb23.length yc23] rfl rfl rfl rfl rfl (cells_row (hS.heapAt 0 rfl) rfl)) ?_; clear hA; intro a hA
                             refine st_call0 hA rfl rfl rfl isfn13 rfl rfl (by decide) (same04_13 hS xf16 xf17 xf18 xf19 xf20 xf21 xf22 xf23 xf24 xf25 yf13 yf14 yf15 yf16 yf17 yf18 yf19 yf20 yf21 yf22 (bs := xb26) (cs := yb23) (fun w' h => (hE198.right _ (h.only 3 rfl))) (fun w' h => ((hdv.2.left) _ (h.only 3 rfl)))) ?_
                             clear hA hS; rintro v w211 a ⟨rfl, hS⟩ hA
                             replace hA := hA.rw 310 (v' := .bool true) rfl (congrArg Value.bool (by rw [decide_eq_true_eq]; obtain ⟨q0, q1, q2, q3, q4, q5, q6, q7, q8, q9, qb⟩ := hsm; exact ⟨q0, q1, q2, q3, q4, ⟨q5, q6, q7, q8⟩, q9, qb⟩))
                             refine st_run tbOk 7 hA (e' := (317, .bool (xf13 != 3)) :: (316, .int .i64 xf13) :: (315, .bool true) :: (314, .nilIface) :: (313, .bool false) :: (312, .bool false) :: (311, .bool false) :: _) rfl ?_; clear hA; intro a hA
                             by_cases hc212 : xf13 = 3
                             · first
                               | (exfalso; omega)
                               | (replace hA := hA.rw 317 (v' := .bool false) rfl (vb_ne_f hc212)
                                  refine st_run tbOk 11 hA (e' := (328, .bool true) :: (327, undef) :: (326, undef) :: (325, undef) :: (324, undef) :: (323, undef) :: (322, undef) :: (321, undef) :: (320, .bool true) :: (319, .bool true) :: (318, .bool true) :: _) rfl ?_; clear hA; intro a hA
                                  refine wpList_nil ?_
                                  replace hA := hA.sel [9, 12, 27, 328] (e' := [(9, .pointer (some ⟨b2, 0, none⟩)), (12, .slice (some ⟨b205, o206, none⟩) ls.length cr), (27, .int .i64 ((k1 + 1 : Nat) : Int)), (328, .bool true)]) rfl
                                  refine xt_norm ?_
                                  refine cd_cond_t hA rfl ?_
                                  refine wp_seq ?_
                                  refine wp_region_lit ?_
                                  refine st_run tbOk 1 hA (e' := (8, .bool false) :: _) rfl ?_; clear hA; intro a hA
                                  refine wpList_nil ?_
                                  replace hA := hA.sel [8] (e' := [(8, .bool false)]) rfl
                                  refine xt_norm ?_
                                  refine wp_ret (xb_ret (xt_ret (xt_ret (xb_ret (xt_ret ?_)))))
                                  refine ret1 (fn := Tryd.f6) hA rfl rfl ?_
                                  exfalso; omega)
                             · first
                               | (exfalso; omega)
                               | (replace hA := hA.rw 317 (v' := .bool true) rfl (vb_ne_t hc212)
                                  refine st_run tbOk 11 hA (e' := (328, .bool false) :: (327, .bool false) :: (326, undef) :: (325, undef) :: (324, undef) :: (323, .bool false) :: (322, .bool false) :: (321, .nilIface) :: (320, .bool false) :: (319, .bool false) :: (318, .bool false) :: _) rfl ?_; clear hA; intro a hA
                                  refine wpList_nil ?_
                                  replace hA := hA.sel [9, 12, 27, 328] (e' := [(9, .pointer (some ⟨b2, 0, none⟩)), (12, .slice (some ⟨b205, o206, none⟩) ls.length cr), (27, .int .i64 ((k1 + 1 : Nat) : Int)), (328, .bool false)]) rfl
                                  refine xt_norm ?_
                                  refine cd_cond_f hA rfl ?_
                                  refine wp_skip ?_
                                  refine xb_norm ?_
                                  refine xt_norm ?_
                                  refine wp_region_lit ?_
                                  refine st_run tbOk 2 hA (e' := (273, .int .i64 (IntKind.i64.wrap (((k1 + 1 : Nat) : Int) + 1))) :: (272, .int .i64 ((k1 + 1 : Nat) : Int)) :: _) rfl ?_; clear hA; intro a hA
                                  replace hA := hA.rw 273 (v' := .int .i64 (((k1 + 1) + 1 : Nat) : Int)) rfl (wr64 (by omega) (by omega) (by omega))
                                  refine st_run tbOk 1 hA (e' := (27, .int .i64 (((k1 + 1) + 1 : Nat) : Int)) :: _) rfl ?_; clear hA; intro a hA
                                  refine wpList_nil ?_
                                  replace hA := hA.sel [9, 12, 27] (e' := [(9, .pointer (some ⟨b2, 0, none⟩)), (12, .slice (some ⟨b205, o206, none⟩) ls.length cr), (27, .int .i64 (((k1 + 1) + 1 : Nat) : Int))]) rfl
                                  replace hS := hS.drop1
                                  replace hS := hS.drop1
                                  replace hS := hS.front 2 (C := Cr) (L' := L193 :: (E195 ++ D4) :: F) rfl rfl
                                  replace hS := hS.front 2 (C := (E195 ++ D4)) (L' := Cr :: L193 :: F) rfl rfl
                                  replace hS := hS.front 2 (C := L193) (L' := (E195 ++ D4) :: Cr :: F) rfl rfl
                                  replace hA := hA.rw 27 (v' := .int .i64 ((i + 1 : Nat) : Int)) rfl (vint (by omega))
                                  exact lp_next _ (by omega) ⟨(i + 1), L193, (E195 ++ D4), rfl, (hA.sel [9, 12, 27] rfl), hS, by omega, hM194, dd199⟩))
                        · first
                          | (exfalso; omega)
                          | (replace hA := hA.rw 305 (v' := .bool true) rfl (vb_ne_t hc210)
                             replace hA := hA.rw 306 (v' := .bool true) rfl (vb_ne_t hc210)
                             refine st_run tbOk 22 hA (e' := (328, .bool true) :: (327, undef) :: (326, undef) :: (325, undef) :: (324, undef) :: (323, undef) :: (322, undef) :: (321, undef) :: (320, .bool true) :: (319, .bool true) :: (318, undef) :: (317, undef) :: (316, undef) :: (315, undef) :: (314, undef) :: (313, .bool true) :: (312, .bool true) :: (311, undef) :: (310, undef) :: (309, undef) :: (308, undef) :: (307, undef) :: _) rfl ?_; clear hA; intro a hA
                             refine wpList_nil ?_
                             replace hA := hA.sel [9, 12, 27, 328] (e' := [(9, .pointer (some ⟨b2, 0, none⟩)), (12, .slice (some ⟨b205, o206, none⟩) ls.length cr), (27, .int .i64 ((k1 + 1 : Nat) : Int)), (328, .bool true)]) rfl
                             refine xt_norm ?_
                             refine cd_cond_t hA rfl ?_
                             refine wp_seq ?_
                             refine wp_region_lit ?_
                             refine st_run tbOk 1 hA (e' := (8, .bool false) :: _) rfl ?_; clear hA; intro a hA
                             refine wpList_nil ?_
                             replace hA := hA.sel [8] (e' := [(8, .bool false)]) rfl
                             refine xt_norm ?_
                             refine wp_ret (xb_ret (xt_ret (xt_ret (xb_ret (xt_ret ?_)))))
                             refine ret1 (fn := Tryd.f6) hA rfl rfl ?_
                             exfalso; omega)))
            · have hcv := hI.at_ _ _ _ hx1 hy1
              have hcs1 := hcv.s; dsimp only [cst, lst] at hcs1 hst
              have hk1l := (List.getElem?_eq_some_iff.1 hy1).1
              have hdv : encLCall_dd w0 D4 (yf0, yf1, yf2, yf3, yf4, yf5, yf6, yf7, yf8, yf9, yA10, yc10, yb10, yf13, yf14, yf15, yf16, yf17, yf18, yf19, yf20, yf21, yf22, yA23, yc23, yb23, yf26, yf27, yf28) := hdr _ (List.mem_of_getElem? hy1) D4
              have hsm := (hcv.n (by show ¬ xf13 = 2; omega)).symm; simp only [mst, mdat, zmsg, lrp, Prod.mk.injEq] at hsm
              replace hA := hA.rw 27 (v' := .int .i64 ((k1 + 1 : Nat) : Int)) rfl (vint (by omega))
              refine st_run tbOk 3 hA (e' := (277, .int .u32 (IntKind.u32.wrap ((k1 + 1 : Nat) : Int))) :: (276, .int .i64 ((k1 + 1 : Nat) : Int)) :: (275, .pointer (some ⟨b2, 0, none⟩)) :: _) rfl ?_; clear hA; intro a hA
              replace hA := hA.rw 277 (v' := .int .u32 ((k1 + 1 : Nat) : Int)) rfl (vint (wrap_u32 (by omega) (by omega)))
              replace hS := hS.front 1 (C := D4) (L' := L4 :: Cr :: F) rfl rfl
              replace hS := hS.front 1 (C := L4) (L' := D4 :: Cr :: F) rfl rfl
              refine st_call0 hA rfl rfl rfl isfn11 rfl rfl (by decide) (cget_failed11 hS hM4 (k := k1) (x := (xf0, xf1, xf2, xf3, xf4, xf5, xf6, xf7, xf8, xf9, xA10, xc10, xb10, xf13, xf14, xf15, xf16, xf17, xf18, xf19, xf20, xf21, xf22, xf23, xf24, xf25, xA26, xc26, xb26)) hx1 (by omega) (by omega) hst) ?_
              clear hA hS; rintro _ w213 a ⟨L214, hM215, rfl, hS⟩ hA
              refine st_run tbOk 4 hA (e' := (281, .iface 52 (.int .i64 10)) :: (280, .agg #[.int .u64 0, .int .u64 0, .int .u32 0, .int .u16 0, .int .u16 0, .int .u64 0, .int .u32 0, .int .u8 0, .int .u64 0, .int .u64 0, .slice none 0 0]) :: (279, .int .i64 3) :: (274, .tuple #[.int .i64 3, .agg #[.int .u64 0, .int .u64 0, .int .u32 0, .int .u16 0, .int .u16 0, .int .u64 0, .int .u32 0, .int .u8 0, .int .u64 0, .int .u64 0, .slice none 0 0], .iface 52 (.int .i64 10)]) :: _) rfl ?_; clear hA; intro a hA
              refine st_alloc tbOk hA hS [.int .u64 0, .int .u64 0, .int .u32 0, .int .u16 0, .int .u16 0, .int .u64 0, .int .u32 0, .int .u8 0, .int .u64 0, .int .u64 0, .slice none 0 0] rfl rfl rfl rfl rfl (by decide) ?_; clear hA hS; intro b216 w217 a hS hA
              refine st_run tbOk 1 hA (e' := (28, .int .i64 3) :: _) rfl ?_; clear hA; intro a hA
              refine st_store tbOk hA hS [.int .u64 0, .int .u64 0, .int .u32 0, .int .u16 0, .int .u16 0, .int .u64 0, .int .u32 0, .int .u8 0, .int .u64 0, .int .u64 0, .slice none 0 0] [.int .u64 0, .int .u64 0, .int .u32 0, .int .u16 0, .int .u16 0, .int .u64 0, .int .u32 0, .int .u8 0, .int .u64 0, .int .u64 0, .slice none 0 0] rfl rfl rfl rfl rfl rfl (by simp [Value.oneCell']) (Nat.le_of_ble_eq_true rfl) rfl rfl rfl ?_; clear hS; intro w218 hS
              refine st_run tbOk 1 hA (e' := (30, .iface 52 (.int .i64 10)) :: _) rfl ?_; clear hA; intro a hA
              refine wpList_nil ?_
              replace hA := hA.sel [9, 12, 27, 28, 29, 30] (e' := [(9, .pointer (some ⟨b2, 0, none⟩)), (12, .slice Ar ls.length cr), (27, .int .i64 ((k1 + 1 : Nat) : Int)), (28, .int .i64 3), (29, .pointer (some ⟨b216, 0, none⟩)), (30, .iface 52 (.int .i64 10))]) rfl
              refine xt_norm ?_
              refine wp_seq ?_
              refine wp_seq ?_
              refine wp_region_lit ?_
              refine st_run tbOk 3 hA (e' := (284, .bool (decide (((k1 + 1 : Nat) : Int) < 1))) :: (283, .bool (decide (((k1 + 1 : Nat) : Int) < 1))) :: (282, .int .i64 ((k1 + 1 : Nat) : Int)) :: _) rfl ?_; clear hA; intro a hA
              by_cases hc219 : ((k1 + 1 : Nat) : Int) < 1
              · first
                | (exfalso; omega)
                | (replace hA := hA.rw 283 (v' := .bool true) rfl (vb_true hc219)
                   replace hA := hA.rw 284 (v' := .bool true) rfl (vb_true hc219)
                   refine st_run tbOk 5 hA (e' := (289, .bool true) :: (288, undef) :: (287, undef) :: (286, undef) :: (285, undef) :: _) rfl ?_; clear hA; intro a hA
                   refine wpList_nil ?_
                   replace hA := hA.sel [9, 12, 27, 28, 29, 30, 289] (e' := [(9, .pointer (some ⟨b2, 0, none⟩)), (12, .slice Ar ls.length cr), (27, .int .i64 ((k1 + 1 : Nat) : Int)), (28, .int .i64 3), (29, .pointer (some ⟨b216, 0, none⟩)), (30, .iface 52 (.int .i64 10)), (289, .bool true)]) rfl
                   refine xt_norm ?_
                   refine cd_cond_t hA rfl ?_
                   refine wp_seq ?_
                   refine wp_seq ?_
                   exfalso; omega)
              · first
                | (exfalso; omega)
                | (replace hA := hA.rw 283 (v' := .bool false) rfl (vb_false hc219)
                   replace hA := hA.rw 284 (v' := .bool false) rfl (vb_false hc219)
                   refine st_run tbOk 5 hA (e' := (289, .bool (decide (((k1 + 1 : Nat) : Int) > ((ls.length : Nat) : Int)))) :: (288, .bool (decide (((k1 + 1 : Nat) : Int) > ((ls.length : Nat) : Int)))) :: (287, .int .i64 ((ls.length : Nat) : Int)) :: (286, .slice Ar ls.length cr) :: (285, .int .i64 ((k1 + 1 : Nat) : Int)) :: _) rfl ?_; clear hA; intro a hA
                   refine wpList_nil ?_
                   replace hA := hA.sel [9, 12, 27, 28, 29, 30, 289] (e' := [(9, .pointer (some ⟨b2, 0, none⟩)), (12, .slice Ar ls.length cr), (27, .int .i64 ((k1 + 1 : Nat) : Int)), (28, .int .i64 3), (29, .pointer (some ⟨b216, 0, none⟩)), (30, .iface 52 (.int .i64 10)), (289, .bool (decide (((k1 + 1 : Nat) : Int) > ((ls.length : Nat) : Int))))]) rfl
                   refine xt_norm ?_
                   by_cases hc220 : ((k1 + 1 : Nat) : Int) > ((ls.length : Nat) : Int)
                   · first
                     | (exfalso; omega)
                     | (replace hA := hA.rw 289 (v' := .bool true) rfl (vb_true hc220)
                        refine cd_cond_t hA rfl ?_
                        refine wp_seq ?_
                        refine wp_seq ?_
                        exfalso; omega)
                   · first
                     | (exfalso; omega)
                     | (replace hA := hA.rw 289 (v' := .bool false) rfl (vb_false hc220)
                        refine cd_cond_f hA rfl ?_
                        refine wp_skip ?_
                        refine xt_norm ?_
                        refine wp_seq ?_
                        refine wp_region_lit ?_
                        refine st_run tbOk 3 hA (e' := (299, .int .i64 (IntKind.i64.wrap (((k1 + 1 : Nat) : Int) - 1))) :: (298, .int .i64 ((k1 + 1 : Nat) : Int)) :: (297, .slice Ar ls.length cr) :: _) rfl ?_; clear hA; intro a hA
                        replace hA := hA.rw 299 (v' := .int .i64 (((k1 + 1 : Nat) : Int) - 1)) rfl (wr64 (by omega) (by omega) (by omega))
                        replace hA := hA.rw 299 (v' := .int .i64 ((k1 : Nat) : Int)) rfl (vint (by omega))
                        obtain ⟨b221, o222, rfl⟩ := hR.isSome (k := k1) (by omega)
                        refine st_val hA rfl rfl (by decide) (rn_indexAddr tbOk hA k1 (o222 + (k1 * 25)) rfl rfl rfl rfl rfl rfl (by rfl) (by omega) (by first | rfl | simp [Nat.mul_one, Nat.zero_add] | omega)) ?_; clear hA; intro a hA
                        refine st_val hA rfl rfl (by decide) (rn_loadA tbOk hA ([.int .u64 yf0, .int .u64 yf1, .int .u32 yf2, .int .u16 yf3, .int .u16 yf4, .int .u64 yf5, .int .u32 yf6, .int .u8 yf7, .int .u64 yf8, .int .u64 yf9, .slice yA10 yb10.length yc10, .int .u64 yf13, .int .u64 yf14, .int .u32 yf15, .int .u16 yf16, .int .u16 yf17, .int .u64 yf18, .int .u32 yf19, .int .u8 yf20, .int .u64 yf21, .int .u64 yf22, .slice yA23 yb23.length yc23, .int .i64 yf26, .int .i64 yf27, .int .i64 yf28]) rfl rfl rfl rfl (by rfl) ((hR.rd (hS.own_ 3 rfl)).elem (k := k1) encLCall_ok hy1)) ?_; clear hA; intro a hA
                        refine st_alloc tbOk hA hS [.int .u64 0, .int .u64 0, .int .u32 0, .int .u16 0, .int .u16 0, .int .u64 0, .int .u32 0, .int .u8 0, .int .u64 0, .int .u64 0, .slice none 0 0, .int .u64 0, .int .u64 0, .int .u32 0, .int .u16 0, .int .u16 0, .int .u64 0, .int .u32 0, .int .u8 0, .int .u64 0, .int .u64 0, .slice none 0 0, .int .i64 0, .int .i64 0, .int .i64 0] rfl rfl rfl rfl rfl (by decide) ?_; clear hA hS; intro b223 w224 a hS hA
                        refine st_store tbOk hA hS [.int .u64 yf0, .int .u64 yf1, .int .u32 yf2, .int .u16 yf3, .int .u16 yf4, .int .u64 yf5, .int .u32 yf6, .int .u8 yf7, .int .u64 yf8, .int .u64 yf9, .slice yA10 yb10.length yc10, .int .u64 yf13, .int .u64 yf14, .int .u32 yf15, .int .u16 yf16, .int .u16 yf17, .int .u64 yf18, .int .u32 yf19, .int .u8 yf20, .int .u64 yf21, .int .u64 yf22, .slice yA23 yb23.length yc23, .int .i64 yf26, .int .i64 yf27, .int .i64 yf28] [.int .u64 yf0, .int .u64 yf1, .int .u32 yf2, .int .u16 yf3, .int .u16 yf4, .int .u64 yf5, .int .u32 yf6, .int .u8 yf7, .int .u64 yf8, .int .u64 yf9, .slice yA10 yb10.length yc10, .int .u64 yf13, .int .u64 yf14, .int .u32 yf15, .int .u16 yf16, .int .u16 yf17, .int .u64 yf18, .int .u32 yf19, .int .u8 yf20, .int .u64 yf21, .int .u64 yf22, .slice yA23 yb23.length yc23, .int .i64 yf26, .int .i64 yf27, .int .i64 yf28] rfl rfl rfl rfl rfl rfl (by simp [Value.oneCell']) (Nat.le_of_ble_eq_true rfl) rfl rfl rfl ?_; clear hS; intro w225 hS
                        refine wpList_nil ?_
                        replace hA := hA.sel [9, 12, 27, 28, 29, 30, 31] (e' := [(9, .pointer (some ⟨b2, 0, none⟩)), (12, .slice (some ⟨b221, o222, none⟩) ls.length cr), (27, .int .i64 ((k1 + 1 : Nat) : Int)), (28, .int .i64 3), (29, .pointer (some ⟨b216, 0, none⟩)), (30, .iface 52 (.int .i64 10)), (31, .pointer (some ⟨b223, 0, none⟩))]) rfl
                        refine xt_norm ?_
                        refine wp_seq ?_
                        refine wp_region_lit ?_
                        refine st_run tbOk 2 hA (e' := (303, .pointer (some ⟨b223, 22, none⟩)) :: (302, .int .i64 3) :: _) rfl ?_; clear hA; intro a hA
                        refine st_val hA rfl rfl (by decide) (rn_load tbOk hA rfl rfl rfl rfl (cell_row (hS.heapAt 0 rfl) rfl)) ?_; clear hA; intro a hA
                        refine st_run tbOk 2 hA (e' := (306, .bool (3 != yf26)) :: (305, .bool (3 != yf26)) :: _) rfl ?_; clear hA; intro a hA
                        by_cases hc226 : 3 = yf26
                        · first
                          | (exfalso; omega)
                          | (replace hA := hA.rw 305 (v' := .bool false) rfl (vb_ne_f hc226)
                             replace hA := hA.rw 306 (v' := .bool false) rfl (vb_ne_f hc226)
                             refine st_val hA rfl rfl (by decide) (rn_loadA tbOk hA [.int .u64 0, .int .u64 0, .int .u32 0, .int .u16 0, .int .u16 0, .int .u64 0, .int .u32 0, .int .u8 0, .int .u64 0, .int .u64 0, .slice none 0 0] rfl rfl rfl rfl rfl (cells_row (hS.heapAt 1 rfl) rfl)) ?_; clear hA; intro a hA
                             refine st_run tbOk 1 hA (e' := (308, .pointer (some ⟨b223, 11, none⟩)) :: _) rfl ?_; clear hA; intro a hA
                             refine st_val hA rfl rfl (by decide) (rn_loadA tbOk hA [.int .u64 yf13, .int .u64 yf14, .int .u32 yf15, .int .u16 yf16, .int .u16 yf17, .int .u64 yf18, .int .u32 yf19, .int .u8 yf20, .int .u64 yf21, .int .u64 yf22, .slice yA23 yb23.length yc23] rfl rfl rfl rfl rfl (cells_row (hS.heapAt 0 rfl) rfl)) ?_; clear hA; intro a hA
                             refine st_call0 hA rfl rfl rfl isfn13 rfl rfl (by decide) (same04_13 hS 0 0 0 0 0 0 0 0 0 0 yf13 yf14 yf15 yf16 yf17 yf18 yf19 yf20 yf21 yf22 (bs := ([] : List UInt8)) (cs := yb23) RdSX.nil (fun w' h => (hdv.2 _ (h.only 3 rfl)))) ?_
                             clear hA hS; rintro v w227 a ⟨rfl, hS⟩ hA
                             replace hA := hA.rw 310 (v' := .bool true) rfl (congrArg Value.bool (by rw [decide_eq_true_eq]; obtain ⟨q0, q1, q2, q3, q4, q5, q6, q7, q8, q9, qb⟩ := hsm; exact ⟨q0, q1, q2, q3, q4, ⟨q5, q6, q7, q8⟩, q9, qb⟩))
                             refine st_run tbOk 14 hA (e' := (324, .iface 52 (.int .i64 10)) :: (323, .bool true) :: (322, .bool true) :: (321, .iface 52 (.int .i64 10)) :: (320, .bool false) :: (319, .bool false) :: (318, .bool false) :: (317, .bool false) :: (316, .int .i64 3) :: (315, .bool false) :: (314, .iface 52 (.int .i64 10)) :: (313, .bool false) :: (312, .bool false) :: (311, .bool false) :: _) rfl ?_; clear hA; intro a hA
                             refine st_call0 hA rfl rfl rfl isfn14 rfl rfl (by decide) (number_hit14 hS hg 10) ?_
                             clear hA hS; rintro v w228 a ⟨rfl, hS⟩ hA
                             refine st_run tbOk 3 hA (e' := (328, .bool false) :: (327, .bool false) :: (326, .bool false) :: _) rfl ?_; clear hA; intro a hA
                             refine wpList_nil ?_
                             replace hA := hA.sel [9, 12, 27, 328] (e' := [(9, .pointer (some ⟨b2, 0, none⟩)), (12, .slice (some ⟨b221, o222, none⟩) ls.length cr), (27, .int .i64 ((k1 + 1 : Nat) : Int)), (328, .bool false)]) rfl
                             refine xt_norm ?_
                             refine cd_cond_f hA rfl ?_
                             refine wp_skip ?_
                             refine xb_norm ?_
                             refine xt_norm ?_
                             refine wp_region_lit ?_
                             refine st_run tbOk 2 hA (e' := (273, .int .i64 (IntKind.i64.wrap (((k1 + 1 : Nat) : Int) + 1))) :: (272, .int .i64 ((k1 + 1 : Nat) : Int)) :: _) rfl ?_; clear hA; intro a hA
                             replace hA := hA.rw 273 (v' := .int .i64 (((k1 + 1) + 1 : Nat) : Int)) rfl (wr64 (by omega) (by omega) (by omega))
                             refine st_run tbOk 1 hA (e' := (27, .int .i64 (((k1 + 1) + 1 : Nat) : Int)) :: _) rfl ?_; clear hA; intro a hA
                             refine wpList_nil ?_
                             replace hA := hA.sel [9, 12, 27] (e' := [(9, .pointer (some ⟨b2, 0, none⟩)), (12, .slice (some ⟨b221, o222, none⟩) ls.length cr), (27, .int .i64 (((k1 + 1) + 1 : Nat) : Int))]) rfl
                             replace hS := hS.drop1
                             replace hS := hS.drop1
                             replace hS := hS.front 2 (C := Cr) (L' := L214 :: D4 :: F) rfl rfl
                             replace hS := hS.front 2 (C := D4) (L' := Cr :: L214 :: F) rfl rfl
                             replace hS := hS.front 2 (C := L214) (L' := D4 :: Cr :: F) rfl rfl
                             replace hA := hA.rw 27 (v' := .int .i64 ((i + 1 : Nat) : Int)) rfl (vint (by omega))
                             exact lp_next _ (by omega) ⟨(i + 1), L214, D4, rfl, (hA.sel [9, 12, 27] rfl), hS, by omega, hM215, hdm4⟩)
                        · first
                          | (exfalso; omega)
                          | (replace hA := hA.rw 305 (v' := .bool true) rfl (vb_ne_t hc226)
                             replace hA := hA.rw 306 (v' := .bool true) rfl (vb_ne_t hc226)
                             refine st_run tbOk 22 hA (e' := (328, .bool true) :: (327, undef) :: (326, undef) :: (325, undef) :: (324, undef) :: (323, undef) :: (322, undef) :: (321, undef) :: (320, .bool true) :: (319, .bool true) :: (318, undef) :: (317, undef) :: (316, undef) :: (315, undef) :: (314, undef) :: (313, .bool true) :: (312, .bool true) :: (311, undef) :: (310, undef) :: (309, undef) :: (308, undef) :: (307, undef) :: _) rfl ?_; clear hA; intro a hA
                             refine wpList_nil ?_
                             replace hA := hA.sel [9, 12, 27, 328] (e' := [(9, .pointer (some ⟨b2, 0, none⟩)), (12, .slice (some ⟨b221, o222, none⟩) ls.length cr), (27, .int .i64 ((k1 + 1 : Nat) : Int)), (328, .bool true)]) rfl
                             refine xt_norm ?_
                             refine cd_cond_t hA rfl ?_
                             refine wp_seq ?_
                             refine wp_region_lit ?_
                             refine st_run tbOk 1 hA (e' := (8, .bool false) :: _) rfl ?_; clear hA; intro a hA
                             refine wpList_nil ?_
                             replace hA := hA.sel [8] (e' := [(8, .bool false)]) rfl
                             refine xt_norm ?_
                             refine wp_ret (xb_ret (xt_ret (xt_ret (xb_ret (xt_ret ?_)))))
                             refine ret1 (fn := Tryd.f6) hA rfl rfl ?_
                             exfalso; omega))))
       · first
         | (exfalso; omega)
         | (replace hA := hA.rw 271 (v' := .bool false) rfl (vb_false hc181)
            refine cd_cond_f hA rfl ?_
            refine wp_exit ?_
            refine xt_exit ?_
            refine xt_exit ?_
            refine cd_exit_eq ?_
            refine xt_norm ?_
            refine wp_seq ?_
            refine wp_region_lit ?_
            have hml9 := hI.len
            refine st_run tbOk 1 hA (e' := (329, .pointer (some ⟨b2, 0, none⟩)) :: _) rfl ?_; clear hA; intro a hA
            replace hS := hS.front 1 (C := D4) (L' := L4 :: Cr :: F) rfl rfl
            replace hS := hS.front 1 (C := L4) (L' := D4 :: Cr :: F) rfl rfl
            refine st_call0 hA rfl rfl rfl isfn15 rfl rfl (by decide) (clen15 hS hM4) ?_
            clear hA hS; rintro _ w229 a ⟨L230, hM231, rfl, hS⟩ hA
            refine st_run tbOk 4 hA (e' := (8, .bool (((cs.length : Nat) : Int) == ((ls.length : Nat) : Int))) :: (333, .bool (((cs.length : Nat) : Int) == ((ls.length : Nat) : Int))) :: (332, .int .i64 ((ls.length : Nat) : Int)) :: (331, .slice Ar ls.length cr) :: _) rfl ?_; clear hA; intro a hA
            refine wpList_nil ?_
            replace hA := hA.sel [8] (e' := [(8, .bool (((cs.length : Nat) : Int) == ((ls.length : Nat) : Int)))]) rfl
            refine xt_norm ?_
            refine wp_ret ?_
            refine ret1 (fn := Tryd.f6) hA rfl rfl ?_
            replace hS := hS.drop1
            replace hS := hS.drop1
            replace hS := hS.drop1
            exact ⟨congrArg Value.bool (beq_iff_eq.2 (by omega)), hS⟩))
end Go.Proofs.YtjdkcdeldmjdmaaDoor
