import Derived.Test.YtlodnipimofpeaaDoorG
set_option linter.unusedVariables false
set_option linter.unusedSimpArgs false
set_option maxRecDepth 4000
namespace Go.Proofs.YtlodnipimofpeaaDoor
open Go Go.SK
set_option maxHeartbeats 4000000 in
theorem script3 {w0 w : World} {F : List Chunk} (hS : St w0 w F) (hg : HG w0) {v : Value} {l : List (Int × Int × Int)} (hr : RdS w0 F 3 v l.length (rows encAct l)) (hw : ∀ x ∈ l, encAct_good x) (hb : l.length * 8 ≤ 140737488351232) :
    Ret Tryd.prog 3 #[v] w (fun v w' => v = .bool true ∧ St w0 w' F) := by
  obtain ⟨A, c, rfl, hmc, hcx⟩ := (hr w hS).open'
  refine enter (vs := [.slice A l.length c]) 180 Tryd.func3 rfl rfl (by simp) ?_; intro a hA
  refine wp_seq ?_
  refine wp_region_lit ?_
  refine st_run tbOk 1 hA (e' := (2, .bool false) :: _) rfl ?_; clear hA; intro a hA
  refine wpList_nil ?_
  replace hA := hA.sel [0] (e' := [(0, .slice A l.length c)]) rfl
  refine xt_norm ?_
  refine wp_seq ?_
  refine wp_seq ?_
  refine wp_region_lit ?_
  refine st_call0 hA rfl rfl rfl isfn4 rfl rfl (by decide) (awake4 hS) ?_
  clear hA hS; rintro v w1 a ⟨rfl, hS⟩ hA
  refine st_run tbOk 1 hA (e' := (24, .bool false) :: _) rfl ?_; clear hA; intro a hA
  refine wpList_nil ?_
  replace hA := hA.sel [0, 24] (e' := [(0, .slice A l.length c), (24, .bool false)]) rfl
  refine xt_norm ?_
  refine cd_cond_f hA rfl ?_
  refine wp_skip ?_
  refine xt_norm ?_
  refine wp_seq ?_
  refine wp_region_lit ?_
  refine st_run tbOk 1 hA (e' := (25, .agg #[.int .i64 0, .slice none 0 0]) :: _) rfl ?_; clear hA; intro a hA
  refine st_box hA hS [.int .i64 0, .slice none 0 0] rfl rfl rfl rfl rfl (by decide) ?_; clear hA hS; intro b2 w3 a hS hA
  obtain ⟨L4, hM5, hS⟩ : ∃ Z, XR b2 0 [] Z ∧ St w0 w3 (Z :: F) := ⟨_, XR.new _, hS⟩
  refine st_run tbOk 1 hA (e' := (3, .pointer (some ⟨b2, 0, none⟩)) :: _) rfl ?_; clear hA; intro a hA
  refine wpList_nil ?_
  replace hA := hA.sel [0, 3] (e' := [(0, .slice A l.length c), (3, .pointer (some ⟨b2, 0, none⟩))]) rfl
  refine xt_norm ?_
  refine wp_seq ?_
  refine wp_region_lit ?_
  refine st_run tbOk 1 hA (e' := (4, .int .i64 0) :: _) rfl ?_; clear hA; intro a hA
  refine wpList_nil ?_
  refine xt_norm ?_
  refine wp_seq ?_
  refine wp_region_lit ?_
  refine st_alloc tbOk hA hS [.slice none 0 0] rfl rfl rfl rfl rfl (by decide) ?_; clear hA hS; intro b6 w7 a hS hA
  refine st_alloc tbOk hA hS [.slice none 0 0] rfl rfl rfl rfl rfl (by decide) ?_; clear hA hS; intro b8 w9 a hS hA
  refine wpList_nil ?_
  refine xt_norm ?_
  refine wp_seq ?_
  refine wp_region_lit ?_
  refine st_run tbOk 2 hA (e' := (7, .func (.func 5) #[] #[.pointer (some ⟨b6, 0, none⟩), .pointer (some ⟨b8, 0, none⟩)]) :: (27, .func (.func 5) #[] #[.pointer (some ⟨b6, 0, none⟩), .pointer (some ⟨b8, 0, none⟩)]) :: _) rfl ?_; clear hA; intro a hA
  refine wpList_nil ?_
  replace hA := hA.sel [0, 3, 4, 5, 6, 7] (e' := [(0, .slice A l.length c), (3, .pointer (some ⟨b2, 0, none⟩)), (4, .int .i64 0), (5, .pointer (some ⟨b6, 0, none⟩)), (6, .pointer (some ⟨b8, 0, none⟩)), (7, .func (.func 5) #[] #[.pointer (some ⟨b6, 0, none⟩), .pointer (some ⟨b8, 0, none⟩)])]) rfl
  refine xt_norm ?_
  refine wp_seq ?_
  refine wp_seq ?_
  refine wp_region_lit ?_
  refine st_run tbOk 3 hA (e' := (30, .int .i64 0) :: (29, .int .i64 ((l.length : Nat) : Int)) :: (28, .slice A l.length c) :: _) rfl ?_; clear hA; intro a hA
  refine wpList_nil ?_
  replace hA := hA.sel [3, 4, 5, 6, 7, 28, 29, 30] (e' := [(3, .pointer (some ⟨b2, 0, none⟩)), (4, .int .i64 0), (5, .pointer (some ⟨b6, 0, none⟩)), (6, .pointer (some ⟨b8, 0, none⟩)), (7, .func (.func 5) #[] #[.pointer (some ⟨b6, 0, none⟩), .pointer (some ⟨b8, 0, none⟩)]), (28, .slice A l.length c), (29, .int .i64 ((l.length : Nat) : Int)), (30, .int .i64 0)]) rfl
  refine xt_norm ?_
  refine wp_block ?_
  replace hS := hS.nil
  replace hS := hS.nil
  replace hS := hS.front 2 (C := [(b8, rowO [.slice none 0 0] 28)]) (L' := [] :: [] :: [(b6, rowO [.slice none 0 0] 28)] :: L4 :: F) rfl rfl
  replace hS := hS.front 1 (C := []) (L' := [(b8, rowO [.slice none 0 0] 28)] :: [] :: [(b6, rowO [.slice none 0 0] 28)] :: L4 :: F) rfl rfl
  replace hS := hS.front 3 (C := [(b6, rowO [.slice none 0 0] 28)]) (L' := [] :: [(b8, rowO [.slice none 0 0] 28)] :: [] :: L4 :: F) rfl rfl
  replace hS := hS.front 4 (C := L4) (L' := [(b6, rowO [.slice none 0 0] 28)] :: [] :: [(b8, rowO [.slice none 0 0] 28)] :: [] :: F) rfl rfl
  refine wp_loop_ghost (fun m a w => ∃ (k : Nat) (t : Nat) (al : List (Int × Int)) (L : Chunk) (A5 : Option Addr) (c5 : Nat) (C5 : Chunk) (A6 : Option Addr) (c6 : Nat) (C6 : Chunk), m = l.length - k ∧ Has a 180 [(3, .pointer (some ⟨b2, 0, none⟩)), (4, .int .i64 ((t : Nat) : Int)), (5, .pointer (some ⟨b6, 0, none⟩)), (6, .pointer (some ⟨b8, 0, none⟩)), (7, .func (.func 5) #[] #[.pointer (some ⟨b6, 0, none⟩), .pointer (some ⟨b8, 0, none⟩)]), (28, .slice A l.length c), (29, .int .i64 ((l.length : Nat) : Int)), (30, .int .i64 ((k : Nat) : Int))] ∧ St w0 w (L :: [(b6, rowO [.slice A5 ((ids al).length) c5] 28)] :: C5 :: [(b8, rowO [.slice A6 ((lf al ((t : Nat) : Int)).length) c6] 28)] :: C6 :: F) ∧ (k ≤ l.length) ∧ (t ≤ k) ∧ (TV al ((t : Nat) : Int)) ∧ (XR b2 ((t : Nat) : Int) al L) ∧ (Own 3 1 (.slice A5 (ids al).length c5) (ids al).length (rows encI (ids al)) C5) ∧ (Own 3 1 (.slice A6 (lf al ((t : Nat) : Int)).length c6) (lf al ((t : Nat) : Int)).length (rows encI (lf al ((t : Nat) : Int))) C6)) (l.length - 0)
    ⟨0, 0, ([]), L4, none, 0, ([]), none, 0, ([]), rfl, (hA.sel [3, 4, 5, 6, 7, 28, 29, 30] rfl), hS, Nat.zero_le _, Nat.le_refl _, TV.nil _, hM5, (Own.nil 3 1), (Own.nil 3 1)⟩ ?_
  clear hA hS; rintro m0 a w10 ⟨k, t, al, L, A5, c5, C5, A6, c6, C6, rfl, hA, hS, hk, ht, hT, hM, h5, h6⟩
  have hl5 := ids_len al; have hl6 := lf_len al ((t : Nat) : Int)
  have hal := hT.len
  refine wp_seq ?_
  refine wp_region_lit ?_
  refine st_run tbOk 1 hA (e' := (31, .bool (decide (((k : Nat) : Int) < ((l.length : Nat) : Int)))) :: _) rfl ?_; clear hA; intro a hA
  refine wpList_nil ?_
  refine xt_norm ?_
  refine wp_seq ?_
  by_cases hc11 : ((k : Nat) : Int) < ((l.length : Nat) : Int)
  · first
    | (exfalso; omega)
    | (replace hA := hA.rw 31 (v' := .bool true) rfl (vb_true hc11)
       refine cd_cond_t hA rfl ?_
       refine wp_skip ?_
       refine xt_norm ?_
       refine wp_seq ?_
       refine wp_block ?_
       refine wp_seq ?_
       refine wp_region_lit ?_
       obtain ⟨b12, o13, rfl⟩ := (hr _ (hS.tail 5 rfl)).isSome (k := k) (by omega)
       refine st_val hA rfl rfl (by decide) (rn_indexAddr tbOk hA k (o13 + (k * 3)) rfl rfl rfl rfl rfl rfl (by rfl) (by omega) (by first | rfl | simp [Nat.mul_one, Nat.zero_add] | omega)) ?_; clear hA; intro a hA
       obtain ⟨x14, hx14⟩ := get_ex (l := l) (k := k) (by omega)
       obtain ⟨⟨hgx14_0, hkx14_0⟩, ⟨hgx14_1, hkx14_1⟩, ⟨hgx14_2, hkx14_2⟩⟩ := hw x14 (List.mem_of_getElem? hx14)
       refine st_val hA rfl rfl (by decide) (rn_loadA tbOk hA ([.int .u8 x14.1, .int .i8 x14.2.1, .int .i32 x14.2.2]) rfl rfl rfl rfl (by rfl) ((hr _ (hS.tail 5 rfl)).elem (k := k) encAct_ok hx14)) ?_; clear hA; intro a hA
       refine st_alloc tbOk hA hS [.int .u8 0, .int .i8 0, .int .i32 0] rfl rfl rfl rfl rfl (by decide) ?_; clear hA hS; intro b15 w16 a hS hA
       refine st_store tbOk hA hS [.int .u8 x14.1, .int .i8 x14.2.1, .int .i32 x14.2.2] [.int .u8 x14.1, .int .i8 x14.2.1, .int .i32 x14.2.2] rfl rfl rfl rfl rfl rfl (by simp [Value.oneCell']) (Nat.le_of_ble_eq_true rfl) rfl rfl rfl ?_; clear hS; intro w17 hS
       refine wpList_nil ?_
       replace hA := hA.sel [3, 4, 5, 6, 7, 9, 28, 29, 30] (e' := [(3, .pointer (some ⟨b2, 0, none⟩)), (4, .int .i64 ((t : Nat) : Int)), (5, .pointer (some ⟨b6, 0, none⟩)), (6, .pointer (some ⟨b8, 0, none⟩)), (7, .func (.func 5) #[] #[.pointer (some ⟨b6, 0, none⟩), .pointer (some ⟨b8, 0, none⟩)]), (9, .pointer (some ⟨b15, 0, none⟩)), (28, .slice (some ⟨b12, o13, none⟩) l.length c), (29, .int .i64 ((l.length : Nat) : Int)), (30, .int .i64 ((k : Nat) : Int))]) rfl
       refine xt_norm ?_
       refine wp_seq ?_
       refine wp_draw (fun w' => St w0 w' ([(b15, rowO [.int .u8 x14.1, .int .i8 x14.2.1, .int .i32 x14.2.2] 32)] :: L :: [(b6, rowO [.slice A5 ((ids al).length) c5] 28)] :: C5 :: [(b8, rowO [.slice A6 ((lf al ((t : Nat) : Int)).length) c6] 28)] :: C6 :: F)) [] [(0, true), (1, true), (2, true), (3, true), (4, true), (5, true), (6, true), (7, true)] mixed (by kernel_rfl) (by rintro c a w ⟨_, _, h, _⟩; cases h) (by rfl) (by kernel_rfl) ?_
       replace hS := hS.drew
       refine dr_run tbOk 1 hA hS (e' := (34, .pointer (some ⟨b15, 1, none⟩)) :: _) rfl ?_; clear hA; intro a hA
       refine dr_y hA rfl rfl rfl (by decide) hS (fun w' hS' => rn_load tbOk hA rfl rfl rfl rfl (cell_row (hS'.heapAt 0 rfl) rfl)) ?_; clear hA; intro a hA
       refine dr_run tbOk 1 hA hS (e' := (36, .int .i64 (IntKind.i64.wrap x14.2.1)) :: _) rfl ?_; clear hA; intro a hA
       replace hA := hA.rw 36 (v' := .int .i64 x14.2.1) rfl (wr64 (by rfl) (by omega) (by omega))
       refine dr_run tbOk 1 hA hS (e' := (37, .pointer (some ⟨b15, 2, none⟩)) :: _) rfl ?_; clear hA; intro a hA
       refine dr_y hA rfl rfl rfl (by decide) hS (fun w' hS' => rn_load tbOk hA rfl rfl rfl rfl (cell_row (hS'.heapAt 0 rfl) rfl)) ?_; clear hA; intro a hA
       refine dr_run tbOk 1 hA hS (e' := (39, .int .i64 (IntKind.i64.wrap x14.2.2)) :: _) rfl ?_; clear hA; intro a hA
       replace hA := hA.rw 39 (v' := .int .i64 x14.2.2) rfl (wr64 (by rfl) (by omega) (by omega))
       refine dr_run tbOk 2 hA hS (e' := (11, .int .i64 x14.2.2) :: (10, .int .i64 x14.2.1) :: _) rfl ?_; clear hA; intro a hA
       refine dr_end ?_
       replace hA := hA.sel [3, 4, 5, 6, 7, 9, 10, 11, 28, 29, 30] (e' := [(3, .pointer (some ⟨b2, 0, none⟩)), (4, .int .i64 ((t : Nat) : Int)), (5, .pointer (some ⟨b6, 0, none⟩)), (6, .pointer (some ⟨b8, 0, none⟩)), (7, .func (.func 5) #[] #[.pointer (some ⟨b6, 0, none⟩), .pointer (some ⟨b8, 0, none⟩)]), (9, .pointer (some ⟨b15, 0, none⟩)), (10, .int .i64 x14.2.1), (11, .int .i64 x14.2.2), (28, .slice (some ⟨b12, o13, none⟩) l.length c), (29, .int .i64 ((l.length : Nat) : Int)), (30, .int .i64 ((k : Nat) : Int))]) rfl
       refine xt_norm ?_
       refine wp_seq_join (fun a w => ∃ (t2 : Nat) (al2 : List (Int × Int)) (L2 : Chunk) (A5' : Option Addr) (c5' : Nat) (C5' : Chunk) (A6' : Option Addr) (c6' : Nat) (C6' : Chunk), Has a 180 [(3, .pointer (some ⟨b2, 0, none⟩)), (4, .int .i64 ((t2 : Nat) : Int)), (5, .pointer (some ⟨b6, 0, none⟩)), (6, .pointer (some ⟨b8, 0, none⟩)), (7, .func (.func 5) #[] #[.pointer (some ⟨b6, 0, none⟩), .pointer (some ⟨b8, 0, none⟩)]), (28, .slice (some ⟨b12, o13, none⟩) l.length c), (29, .int .i64 ((l.length : Nat) : Int)), (30, .int .i64 ((k : Nat) : Int))] ∧ St w0 w (L2 :: [(b6, rowO [.slice A5' ((ids al2).length) c5'] 28)] :: C5' :: [(b8, rowO [.slice A6' ((lf al2 ((t2 : Nat) : Int)).length) c6'] 28)] :: C6' :: F) ∧ (t2 ≤ k + 1) ∧ (TV al2 ((t2 : Nat) : Int)) ∧ (XR b2 ((t2 : Nat) : Int) al2 L2) ∧ (Own 3 1 (.slice A5' (ids al2).length c5') (ids al2).length (rows encI (ids al2)) C5') ∧ (Own 3 1 (.slice A6' (lf al2 ((t2 : Nat) : Int)).length c6') (lf al2 ((t2 : Nat) : Int)).length (rows encI (lf al2 ((t2 : Nat) : Int))) C6')) ?_ ?_
       · refine wp_seq ?_
         refine wp_region_lit ?_
         have htm : x14.1.tmod 4 = x14.1 % 4 := Int.tmod_eq_emod_of_nonneg (by omega)
         refine st_run tbOk 1 hA (e' := (40, .pointer (some ⟨b15, 0, none⟩)) :: _) rfl ?_; clear hA; intro a hA
         refine st_val hA rfl rfl (by decide) (rn_load tbOk hA rfl rfl rfl rfl (cell_row (hS.heapAt 0 rfl) rfl)) ?_; clear hA; intro a hA
         refine st_run tbOk 1 hA (e' := (42, .int .u8 (x14.1.tmod 4)) :: _) rfl ?_; clear hA; intro a hA
         refine wpList_nil ?_
         replace hA := hA.sel [3, 4, 5, 6, 7, 9, 10, 11, 28, 29, 30, 42] (e' := [(3, .pointer (some ⟨b2, 0, none⟩)), (4, .int .i64 ((t : Nat) : Int)), (5, .pointer (some ⟨b6, 0, none⟩)), (6, .pointer (some ⟨b8, 0, none⟩)), (7, .func (.func 5) #[] #[.pointer (some ⟨b6, 0, none⟩), .pointer (some ⟨b8, 0, none⟩)]), (9, .pointer (some ⟨b15, 0, none⟩)), (10, .int .i64 x14.2.1), (11, .int .i64 x14.2.2), (28, .slice (some ⟨b12, o13, none⟩) l.length c), (29, .int .i64 ((l.length : Nat) : Int)), (30, .int .i64 ((k : Nat) : Int)), (42, .int .u8 (x14.1.tmod 4))]) rfl
         refine xt_norm ?_
         refine wp_block ?_
         refine wp_seq_join (fun a w => ∃ (bb : Bool), Has a 180 [(3, .pointer (some ⟨b2, 0, none⟩)), (4, .int .i64 ((t : Nat) : Int)), (5, .pointer (some ⟨b6, 0, none⟩)), (6, .pointer (some ⟨b8, 0, none⟩)), (7, .func (.func 5) #[] #[.pointer (some ⟨b6, 0, none⟩), .pointer (some ⟨b8, 0, none⟩)]), (9, .pointer (some ⟨b15, 0, none⟩)), (10, .int .i64 x14.2.1), (11, .int .i64 x14.2.2), (28, .slice (some ⟨b12, o13, none⟩) l.length c), (29, .int .i64 ((l.length : Nat) : Int)), (30, .int .i64 ((k : Nat) : Int)), (42, .int .u8 (x14.1.tmod 4)), (85, .bool bb)] ∧ St w0 w ([(b15, rowO [.int .u8 x14.1, .int .i8 x14.2.1, .int .i32 x14.2.2] 32)] :: L :: [(b6, rowO [.slice A5 ((ids al).length) c5] 28)] :: C5 :: [(b8, rowO [.slice A6 ((lf al ((t : Nat) : Int)).length) c6] 28)] :: C6 :: F) ∧ ((bb = true → x14.1.tmod 4 = 0 ∨ x14.1.tmod 4 = 1) ∧ (bb = false → ¬ x14.1.tmod 4 = 0 ∧ ¬ x14.1.tmod 4 = 1))) ?_ ?_
         · refine wp_seq ?_
           refine wp_region_lit ?_
           refine st_run tbOk 2 hA (e' := (85, .bool ((x14.1.tmod 4) == 0)) :: (86, .bool ((x14.1.tmod 4) == 0)) :: _) rfl ?_; clear hA; intro a hA
           refine wpList_nil ?_
           replace hA := hA.sel [3, 4, 5, 6, 7, 9, 10, 11, 28, 29, 30, 42, 85] (e' := [(3, .pointer (some ⟨b2, 0, none⟩)), (4, .int .i64 ((t : Nat) : Int)), (5, .pointer (some ⟨b6, 0, none⟩)), (6, .pointer (some ⟨b8, 0, none⟩)), (7, .func (.func 5) #[] #[.pointer (some ⟨b6, 0, none⟩), .pointer (some ⟨b8, 0, none⟩)]), (9, .pointer (some ⟨b15, 0, none⟩)), (10, .int .i64 x14.2.1), (11, .int .i64 x14.2.2), (28, .slice (some ⟨b12, o13, none⟩) l.length c), (29, .int .i64 ((l.length : Nat) : Int)), (30, .int .i64 ((k : Nat) : Int)), (42, .int .u8 (x14.1.tmod 4)), (85, .bool ((x14.1.tmod 4) == 0))]) rfl
           refine xt_norm ?_
           by_cases hc18 : x14.1.tmod 4 = 0
           · first
             | (exfalso; omega)
             | (replace hA := hA.rw 85 (v' := .bool true) rfl (vb_eq_t hc18)
                refine cd_cond_t hA rfl ?_
                refine wp_skip ?_
                refine xt_norm ?_
                exact ⟨true, (hA.sel [3, 4, 5, 6, 7, 9, 10, 11, 28, 29, 30, 42, 85] rfl), hS, ⟨fun _ => by omega, fun h => by cases h⟩⟩)
           · first
             | (exfalso; omega)
             | (replace hA := hA.rw 85 (v' := .bool false) rfl (vb_eq_f hc18)
                refine cd_cond_f hA rfl ?_
                refine wp_region_lit ?_
                refine st_run tbOk 2 hA (e' := (85, .bool ((x14.1.tmod 4) == 1)) :: (87, .bool ((x14.1.tmod 4) == 1)) :: _) rfl ?_; clear hA; intro a hA
                refine wpList_nil ?_
                replace hA := hA.sel [3, 4, 5, 6, 7, 9, 10, 11, 28, 29, 30, 42, 85] (e' := [(3, .pointer (some ⟨b2, 0, none⟩)), (4, .int .i64 ((t : Nat) : Int)), (5, .pointer (some ⟨b6, 0, none⟩)), (6, .pointer (some ⟨b8, 0, none⟩)), (7, .func (.func 5) #[] #[.pointer (some ⟨b6, 0, none⟩), .pointer (some ⟨b8, 0, none⟩)]), (9, .pointer (some ⟨b15, 0, none⟩)), (10, .int .i64 x14.2.1), (11, .int .i64 x14.2.2), (28, .slice (some ⟨b12, o13, none⟩) l.length c), (29, .int .i64 ((l.length : Nat) : Int)), (30, .int .i64 ((k : Nat) : Int)), (42, .int .u8 (x14.1.tmod 4)), (85, .bool ((x14.1.tmod 4) == 1))]) rfl
                refine xt_norm ?_
                exact ⟨((x14.1.tmod 4) == 1), (hA.sel [3, 4, 5, 6, 7, 9, 10, 11, 28, 29, 30, 42, 85] rfl), hS, ⟨fun h => by have := beq_iff_eq.1 h; omega, fun h => by have := beq_eq_false_iff_ne.1 h; omega⟩⟩)
         · clear hA hS; rintro a w19 ⟨bb, hA, hS, hbb⟩
           by_cases hc20 : bb = true
           · first
             | (exfalso; omega)
             | (replace hA := hA.rw 85 (v' := .bool true) rfl (vb_t hc20)
                refine cd_cond_t hA rfl ?_
                refine wp_seq_join (fun a w => ∃ (nn : Int), Has a 180 [(3, .pointer (some ⟨b2, 0, none⟩)), (4, .int .i64 ((t : Nat) : Int)), (5, .pointer (some ⟨b6, 0, none⟩)), (6, .pointer (some ⟨b8, 0, none⟩)), (7, .func (.func 5) #[] #[.pointer (some ⟨b6, 0, none⟩), .pointer (some ⟨b8, 0, none⟩)]), (10, .int .i64 x14.2.1), (11, .int .i64 nn), (28, .slice (some ⟨b12, o13, none⟩) l.length c), (29, .int .i64 ((l.length : Nat) : Int)), (30, .int .i64 ((k : Nat) : Int))] ∧ St w0 w ([(b15, rowO [.int .u8 x14.1, .int .i8 x14.2.1, .int .i32 x14.2.2] 32)] :: L :: [(b6, rowO [.slice A5 ((ids al).length) c5] 28)] :: C5 :: [(b8, rowO [.slice A6 ((lf al ((t : Nat) : Int)).length) c6] 28)] :: C6 :: F) ∧ (-2147483648 ≤ nn ∧ nn ≤ 2147483647)) ?_ ?_
                · refine wp_seq ?_
                  refine wp_region_lit ?_
                  have hbt := hbb.1 (by assumption)
                  refine st_run tbOk 1 hA (e' := (88, .pointer (some ⟨b15, 0, none⟩)) :: _) rfl ?_; clear hA; intro a hA
                  refine st_val hA rfl rfl (by decide) (rn_load tbOk hA rfl rfl rfl rfl (cell_row (hS.heapAt 0 rfl) rfl)) ?_; clear hA; intro a hA
                  refine st_run tbOk 1 hA (e' := (90, .int .u8 (x14.1.tmod 4)) :: _) rfl ?_; clear hA; intro a hA
                  refine st_run tbOk 1 hA (e' := (91, .bool ((x14.1.tmod 4) == 1)) :: _) rfl ?_; clear hA; intro a hA
                  refine wpList_nil ?_
                  replace hA := hA.sel [3, 4, 5, 6, 7, 10, 11, 28, 29, 30, 91] (e' := [(3, .pointer (some ⟨b2, 0, none⟩)), (4, .int .i64 ((t : Nat) : Int)), (5, .pointer (some ⟨b6, 0, none⟩)), (6, .pointer (some ⟨b8, 0, none⟩)), (7, .func (.func 5) #[] #[.pointer (some ⟨b6, 0, none⟩), .pointer (some ⟨b8, 0, none⟩)]), (10, .int .i64 x14.2.1), (11, .int .i64 x14.2.2), (28, .slice (some ⟨b12, o13, none⟩) l.length c), (29, .int .i64 ((l.length : Nat) : Int)), (30, .int .i64 ((k : Nat) : Int)), (91, .bool ((x14.1.tmod 4) == 1))]) rfl
                  refine xt_norm ?_
                  by_cases hc21 : x14.1.tmod 4 = 1
                  · first
                    | (exfalso; omega)
                    | (replace hA := hA.rw 91 (v' := .bool true) rfl (vb_eq_t hc21)
                       refine cd_cond_t hA rfl ?_
                       refine wp_region_lit ?_
                       have hq1 := Int.tmod_lt_of_pos (x14.2.2) (show (0 : Int) < 5 by decide); have hq2 := Int.lt_tmod_of_pos (x14.2.2) (show (0 : Int) < 5 by decide)
                       refine st_run tbOk 2 hA (e' := (93, .int .i64 (x14.2.2.tmod 5)) :: (92, .int .i64 x14.2.2) :: _) rfl ?_; clear hA; intro a hA
                       refine st_run tbOk 1 hA (e' := (94, .int .i64 (IntKind.i64.wrap ((x14.2.2.tmod 5) + 2))) :: _) rfl ?_; clear hA; intro a hA
                       replace hA := hA.rw 94 (v' := .int .i64 ((x14.2.2.tmod 5) + 2)) rfl (wr64 (by omega) (by omega) (by omega))
                       refine st_run tbOk 1 hA (e' := (11, .int .i64 ((x14.2.2.tmod 5) + 2)) :: _) rfl ?_; clear hA; intro a hA
                       refine wpList_nil ?_
                       replace hA := hA.sel [3, 4, 5, 6, 7, 10, 11, 28, 29, 30] (e' := [(3, .pointer (some ⟨b2, 0, none⟩)), (4, .int .i64 ((t : Nat) : Int)), (5, .pointer (some ⟨b6, 0, none⟩)), (6, .pointer (some ⟨b8, 0, none⟩)), (7, .func (.func 5) #[] #[.pointer (some ⟨b6, 0, none⟩), .pointer (some ⟨b8, 0, none⟩)]), (10, .int .i64 x14.2.1), (11, .int .i64 ((x14.2.2.tmod 5) + 2)), (28, .slice (some ⟨b12, o13, none⟩) l.length c), (29, .int .i64 ((l.length : Nat) : Int)), (30, .int .i64 ((k : Nat) : Int))]) rfl
                       refine xt_norm ?_
                       exact ⟨((x14.2.2.tmod 5) + 2), (hA.sel [3, 4, 5, 6, 7, 10, 11, 28, 29, 30] rfl), hS, by omega⟩)
                  · first
                    | (exfalso; omega)
                    | (replace hA := hA.rw 91 (v' := .bool false) rfl (vb_eq_f hc21)
                       refine cd_cond_f hA rfl ?_
                       refine wp_skip ?_
                       refine xt_norm ?_
                       exact ⟨x14.2.2, (hA.sel [3, 4, 5, 6, 7, 10, 11, 28, 29, 30] rfl), hS, by omega⟩)
                · clear hA hS; rintro a w22 ⟨nn, hA, hS, hnn⟩
                  refine wp_seq ?_
                  refine wp_region_lit ?_
                  refine st_run tbOk 1 hA (e' := (12, .int .i64 0) :: _) rfl ?_; clear hA; intro a hA
                  refine wpList_nil ?_
                  refine xt_norm ?_
                  refine wp_seq ?_
                  refine wp_seq ?_
                  refine wp_region_lit ?_
                  refine st_val hA rfl rfl (by decide) (rn_load tbOk hA rfl rfl rfl rfl (cell_row (hS.heapAt 2 rfl) rfl)) ?_; clear hA; intro a hA
                  refine st_run tbOk 2 hA (e' := (97, .int .i64 0) :: (96, .int .i64 (((ids al).length : Nat) : Int)) :: _) rfl ?_; clear hA; intro a hA
                  refine wpList_nil ?_
                  refine xt_norm ?_
                  refine wp_block ?_
                  replace hA := hA.rw 12 (v' := .int .i64 (hasF al x14.2.1 0)) rfl (vint (by simp [hasF]))
                  refine wp_loop_ghost (fun m a w => ∃ (j : Nat), m = (ids al).length - j ∧ Has a 180 [(3, .pointer (some ⟨b2, 0, none⟩)), (4, .int .i64 ((t : Nat) : Int)), (5, .pointer (some ⟨b6, 0, none⟩)), (6, .pointer (some ⟨b8, 0, none⟩)), (7, .func (.func 5) #[] #[.pointer (some ⟨b6, 0, none⟩), .pointer (some ⟨b8, 0, none⟩)]), (10, .int .i64 x14.2.1), (11, .int .i64 nn), (12, .int .i64 (hasF al x14.2.1 j)), (28, .slice (some ⟨b12, o13, none⟩) l.length c), (29, .int .i64 ((l.length : Nat) : Int)), (30, .int .i64 ((k : Nat) : Int)), (95, .slice A5 ((ids al).length) c5), (96, .int .i64 (((ids al).length : Nat) : Int)), (97, .int .i64 ((j : Nat) : Int))] ∧ St w0 w ([(b15, rowO [.int .u8 x14.1, .int .i8 x14.2.1, .int .i32 x14.2.2] 32)] :: L :: [(b6, rowO [.slice A5 ((ids al).length) c5] 28)] :: C5 :: [(b8, rowO [.slice A6 ((lf al ((t : Nat) : Int)).length) c6] 28)] :: C6 :: F) ∧ (j ≤ (ids al).length)) ((ids al).length - 0)
                    ⟨0, rfl, (hA.sel [3, 4, 5, 6, 7, 10, 11, 12, 28, 29, 30, 95, 96, 97] rfl), hS, Nat.zero_le _⟩ ?_
                  clear hA hS; rintro m0 a w23 ⟨j, rfl, hA, hS, hj⟩
                  refine wp_seq ?_
                  refine wp_region_lit ?_
                  refine st_run tbOk 1 hA (e' := (98, .bool (decide (((j : Nat) : Int) < (((ids al).length : Nat) : Int)))) :: _) rfl ?_; clear hA; intro a hA
                  refine wpList_nil ?_
                  refine xt_norm ?_
                  refine wp_seq ?_
                  by_cases hc24 : ((j : Nat) : Int) < (((ids al).length : Nat) : Int)
                  · first
                    | (exfalso; omega)
                    | (replace hA := hA.rw 98 (v' := .bool true) rfl (vb_true hc24)
                       refine cd_cond_t hA rfl ?_
                       refine wp_skip ?_
                       refine xt_norm ?_
                       refine wp_seq ?_
                       refine wp_block ?_
                       refine wp_seq ?_
                       refine wp_region_lit ?_
                       obtain ⟨y, hy⟩ := get_ex (l := al) (k := j) (by omega)
                       have hyb := hT.bd _ (List.mem_of_getElem? hy)
                       obtain ⟨b25, o26, rfl⟩ := h5.isSome (k := j) (by omega)
                       refine st_val hA rfl rfl (by decide) (rn_indexAddr tbOk hA j (o26 + j) rfl rfl rfl rfl rfl rfl (by rfl) (by omega) (by first | rfl | simp [Nat.mul_one, Nat.zero_add] | omega)) ?_; clear hA; intro a hA
                       refine st_val hA rfl rfl (by decide) (rn_load tbOk hA rfl rfl rfl rfl ((h5.rd (hS.own_ 3 rfl)).elem0 (k := j) encI_ok (ids_get hy) rfl)) ?_; clear hA; intro a hA
                       refine st_run tbOk 1 hA (e' := (14, .int .i64 y.1) :: _) rfl ?_; clear hA; intro a hA
                       refine wpList_nil ?_
                       replace hA := hA.sel [3, 4, 5, 6, 7, 10, 11, 12, 14, 28, 29, 30, 95, 96, 97] (e' := [(3, .pointer (some ⟨b2, 0, none⟩)), (4, .int .i64 ((t : Nat) : Int)), (5, .pointer (some ⟨b6, 0, none⟩)), (6, .pointer (some ⟨b8, 0, none⟩)), (7, .func (.func 5) #[] #[.pointer (some ⟨b6, 0, none⟩), .pointer (some ⟨b8, 0, none⟩)]), (10, .int .i64 x14.2.1), (11, .int .i64 nn), (12, .int .i64 (hasF al x14.2.1 j)), (14, .int .i64 y.1), (28, .slice (some ⟨b12, o13, none⟩) l.length c), (29, .int .i64 ((l.length : Nat) : Int)), (30, .int .i64 ((k : Nat) : Int)), (95, .slice (some ⟨b25, o26, none⟩) ((ids al).length) c5), (96, .int .i64 (((ids al).length : Nat) : Int)), (97, .int .i64 ((j : Nat) : Int))]) rfl
                       refine xt_norm ?_
                       refine wp_seq ?_
                       refine wp_region_lit ?_
                       refine st_run tbOk 3 hA (e' := (103, .bool (y.1 == x14.2.1)) :: (102, .int .i64 x14.2.1) :: (101, .int .i64 y.1) :: _) rfl ?_; clear hA; intro a hA
                       refine wpList_nil ?_
                       replace hA := hA.sel [3, 4, 5, 6, 7, 10, 11, 12, 28, 29, 30, 95, 96, 97, 103] (e' := [(3, .pointer (some ⟨b2, 0, none⟩)), (4, .int .i64 ((t : Nat) : Int)), (5, .pointer (some ⟨b6, 0, none⟩)), (6, .pointer (some ⟨b8, 0, none⟩)), (7, .func (.func 5) #[] #[.pointer (some ⟨b6, 0, none⟩), .pointer (some ⟨b8, 0, none⟩)]), (10, .int .i64 x14.2.1), (11, .int .i64 nn), (12, .int .i64 (hasF al x14.2.1 j)), (28, .slice (some ⟨b12, o13, none⟩) l.length c), (29, .int .i64 ((l.length : Nat) : Int)), (30, .int .i64 ((k : Nat) : Int)), (95, .slice (some ⟨b25, o26, none⟩) ((ids al).length) c5), (96, .int .i64 (((ids al).length : Nat) : Int)), (97, .int .i64 ((j : Nat) : Int)), (103, .bool (y.1 == x14.2.1))]) rfl
                       refine xt_norm ?_
                       by_cases hc27 : y.1 = x14.2.1
                       · first
                         | (exfalso; omega)
                         | (replace hA := hA.rw 103 (v' := .bool true) rfl (vb_eq_t hc27)
                            refine cd_cond_t hA rfl ?_
                            refine wp_region_lit ?_
                            refine st_run tbOk 1 hA (e' := (12, .int .i64 1) :: _) rfl ?_; clear hA; intro a hA
                            refine wpList_nil ?_
                            replace hA := hA.sel [3, 4, 5, 6, 7, 10, 11, 12, 28, 29, 30, 95, 96, 97] (e' := [(3, .pointer (some ⟨b2, 0, none⟩)), (4, .int .i64 ((t : Nat) : Int)), (5, .pointer (some ⟨b6, 0, none⟩)), (6, .pointer (some ⟨b8, 0, none⟩)), (7, .func (.func 5) #[] #[.pointer (some ⟨b6, 0, none⟩), .pointer (some ⟨b8, 0, none⟩)]), (10, .int .i64 x14.2.1), (11, .int .i64 nn), (12, .int .i64 1), (28, .slice (some ⟨b12, o13, none⟩) l.length c), (29, .int .i64 ((l.length : Nat) : Int)), (30, .int .i64 ((k : Nat) : Int)), (95, .slice (some ⟨b25, o26, none⟩) ((ids al).length) c5), (96, .int .i64 (((ids al).length : Nat) : Int)), (97, .int .i64 ((j : Nat) : Int))]) rfl
                            refine xb_norm ?_
                            refine xt_norm ?_
                            refine wp_region_lit ?_
                            refine st_run tbOk 1 hA (e' := (104, .int .i64 (IntKind.i64.wrap (((j : Nat) : Int) + 1))) :: _) rfl ?_; clear hA; intro a hA
                            replace hA := hA.rw 104 (v' := .int .i64 ((j + 1 : Nat) : Int)) rfl (wr64 (by omega) (by omega) (by omega))
                            refine st_run tbOk 1 hA (e' := (97, .int .i64 ((j + 1 : Nat) : Int)) :: _) rfl ?_; clear hA; intro a hA
                            refine wpList_nil ?_
                            replace hA := hA.sel [3, 4, 5, 6, 7, 10, 11, 12, 28, 29, 30, 95, 96, 97] (e' := [(3, .pointer (some ⟨b2, 0, none⟩)), (4, .int .i64 ((t : Nat) : Int)), (5, .pointer (some ⟨b6, 0, none⟩)), (6, .pointer (some ⟨b8, 0, none⟩)), (7, .func (.func 5) #[] #[.pointer (some ⟨b6, 0, none⟩), .pointer (some ⟨b8, 0, none⟩)]), (10, .int .i64 x14.2.1), (11, .int .i64 nn), (12, .int .i64 1), (28, .slice (some ⟨b12, o13, none⟩) l.length c), (29, .int .i64 ((l.length : Nat) : Int)), (30, .int .i64 ((k : Nat) : Int)), (95, .slice (some ⟨b25, o26, none⟩) ((ids al).length) c5), (96, .int .i64 (((ids al).length : Nat) : Int)), (97, .int .i64 ((j + 1 : Nat) : Int))]) rfl
                            replace hA := hA.rw 12 (v' := .int .i64 (hasF al x14.2.1 (j + 1))) rfl (vint (hasF_yes hy (by omega)).symm)
                            exact lp_next _ (by omega) ⟨(j + 1), rfl, (hA.sel [3, 4, 5, 6, 7, 10, 11, 12, 28, 29, 30, 95, 96, 97] rfl), hS, by omega⟩)
                       · first
                         | (exfalso; omega)
                         | (replace hA := hA.rw 103 (v' := .bool false) rfl (vb_eq_f hc27)
                            refine cd_cond_f hA rfl ?_
                            refine wp_skip ?_
                            refine xb_norm ?_
                            refine xt_norm ?_
                            refine wp_region_lit ?_
                            refine st_run tbOk 1 hA (e' := (104, .int .i64 (IntKind.i64.wrap (((j : Nat) : Int) + 1))) :: _) rfl ?_; clear hA; intro a hA
                            replace hA := hA.rw 104 (v' := .int .i64 ((j + 1 : Nat) : Int)) rfl (wr64 (by omega) (by omega) (by omega))
                            refine st_run tbOk 1 hA (e' := (97, .int .i64 ((j + 1 : Nat) : Int)) :: _) rfl ?_; clear hA; intro a hA
                            refine wpList_nil ?_
                            replace hA := hA.sel [3, 4, 5, 6, 7, 10, 11, 12, 28, 29, 30, 95, 96, 97] (e' := [(3, .pointer (some ⟨b2, 0, none⟩)), (4, .int .i64 ((t : Nat) : Int)), (5, .pointer (some ⟨b6, 0, none⟩)), (6, .pointer (some ⟨b8, 0, none⟩)), (7, .func (.func 5) #[] #[.pointer (some ⟨b6, 0, none⟩), .pointer (some ⟨b8, 0, none⟩)]), (10, .int .i64 x14.2.1), (11, .int .i64 nn), (12, .int .i64 (hasF al x14.2.1 j)), (28, .slice (some ⟨b12, o13, none⟩) l.length c), (29, .int .i64 ((l.length : Nat) : Int)), (30, .int .i64 ((k : Nat) : Int)), (95, .slice (some ⟨b25, o26, none⟩) ((ids al).length) c5), (96, .int .i64 (((ids al).length : Nat) : Int)), (97, .int .i64 ((j + 1 : Nat) : Int))]) rfl
                            replace hA := hA.rw 12 (v' := .int .i64 (hasF al x14.2.1 (j + 1))) rfl (vint (hasF_no hy (by omega)).symm)
                            exact lp_next _ (by omega) ⟨(j + 1), rfl, (hA.sel [3, 4, 5, 6, 7, 10, 11, 12, 28, 29, 30, 95, 96, 97] rfl), hS, by omega⟩))
                  · first
                    | (exfalso; omega)
                    | (replace hA := hA.rw 98 (v' := .bool false) rfl (vb_false hc24)
                       refine cd_cond_f hA rfl ?_
                       refine wp_exit ?_
                       refine xt_exit ?_
                       refine xt_exit ?_
                       refine cd_exit_eq ?_
                       refine xt_norm ?_
                       refine wp_seq ?_
                       refine wp_region_lit ?_
                       refine st_run tbOk 3 hA (e' := (107, .int .i64 nn) :: (106, .int .i64 x14.2.1) :: (105, .pointer (some ⟨b2, 0, none⟩)) :: _) rfl ?_; clear hA; intro a hA
                       have hjl : j = al.length := by omega
                       subst hjl
                       have hfa := hasF_all hT.nd x14.2.1
                       have hfb : hasF al x14.2.1 al.length = 0 ∨ hasF al x14.2.1 al.length = 1 := by rw [hasF]; split <;> simp
                       have hcs : nn < 1 ∨ 1000000 < nn ∨ (1 ≤ nn ∧ nn ≤ 1000000 ∧ 64 ≤ (al.filter (fun y => !(wid x14.2.1 y))).length) ∨ (1 ≤ nn ∧ nn ≤ 1000000 ∧ (al.filter (fun y => !(wid x14.2.1 y))).length < 64) := by omega
                       rcases hcs with h1 | h1 | ⟨h1, h2, h3⟩ | ⟨h1, h2, h3⟩
                       · replace hS := hS.front 1 (C := L) (L' := [(b15, rowO [.int .u8 x14.1, .int .i8 x14.2.1, .int .i32 x14.2.2] 32)] :: [(b6, rowO [.slice A5 ((ids al).length) c5] 28)] :: C5 :: [(b8, rowO [.slice A6 ((lf al ((t : Nat) : Int)).length) c6] 28)] :: C6 :: F) rfl rfl
                         refine st_call0 hA rfl rfl rfl isfn6 rfl rfl (by decide) (set_lo6 hS hM x14.2.1 nn h1) ?_
                         clear hA hS; rintro v w29 a ⟨L28, hM30, rfl, hS⟩ hA
                         have hT2 := hT
                         refine st_run tbOk 1 hA (e' := (15, .iface 36 (.int .i64 4)) :: _) rfl ?_; clear hA; intro a hA
                         refine wpList_nil ?_
                         replace hA := hA.sel [3, 4, 5, 6, 7, 10, 11, 12, 15, 28, 29, 30] (e' := [(3, .pointer (some ⟨b2, 0, none⟩)), (4, .int .i64 ((t : Nat) : Int)), (5, .pointer (some ⟨b6, 0, none⟩)), (6, .pointer (some ⟨b8, 0, none⟩)), (7, .func (.func 5) #[] #[.pointer (some ⟨b6, 0, none⟩), .pointer (some ⟨b8, 0, none⟩)]), (10, .int .i64 x14.2.1), (11, .int .i64 nn), (12, .int .i64 (hasF al x14.2.1 al.length)), (15, .iface 36 (.int .i64 4)), (28, .slice (some ⟨b12, o13, none⟩) l.length c), (29, .int .i64 ((l.length : Nat) : Int)), (30, .int .i64 ((k : Nat) : Int))]) rfl
                         refine xt_norm ?_
                         refine wp_block ?_
                         refine wp_seq ?_
                         refine wp_region_lit ?_
                         refine st_run tbOk 3 hA (e' := (125, .bool (decide (nn < 1))) :: (124, .bool (decide (nn < 1))) :: (123, .int .i64 nn) :: _) rfl ?_; clear hA; intro a hA
                         by_cases hc31 : nn < 1
                         · first
                           | (exfalso; omega)
                           | (replace hA := hA.rw 124 (v' := .bool true) rfl (vb_true hc31)
                              replace hA := hA.rw 125 (v' := .bool true) rfl (vb_true hc31)
                              refine st_run tbOk 4 hA (e' := (122, .bool true) :: (128, .bool true) :: (127, undef) :: (126, undef) :: _) rfl ?_; clear hA; intro a hA
                              refine wpList_nil ?_
                              replace hA := hA.sel [3, 4, 5, 6, 7, 10, 11, 12, 15, 28, 29, 30, 122] (e' := [(3, .pointer (some ⟨b2, 0, none⟩)), (4, .int .i64 ((t : Nat) : Int)), (5, .pointer (some ⟨b6, 0, none⟩)), (6, .pointer (some ⟨b8, 0, none⟩)), (7, .func (.func 5) #[] #[.pointer (some ⟨b6, 0, none⟩), .pointer (some ⟨b8, 0, none⟩)]), (10, .int .i64 x14.2.1), (11, .int .i64 nn), (12, .int .i64 (hasF al x14.2.1 al.length)), (15, .iface 36 (.int .i64 4)), (28, .slice (some ⟨b12, o13, none⟩) l.length c), (29, .int .i64 ((l.length : Nat) : Int)), (30, .int .i64 ((k : Nat) : Int)), (122, .bool true)]) rfl
                              refine xt_norm ?_
                              refine cd_cond_t hA rfl ?_
                              refine wp_seq ?_
                              refine wp_region_lit ?_
                              refine st_run tbOk 1 hA (e' := (129, .iface 36 (.int .i64 4)) :: _) rfl ?_; clear hA; intro a hA
                              refine st_call0 hA rfl rfl rfl isfn7 rfl rfl (by decide) (number_hit7 hS hg 4) ?_
                              clear hA hS; rintro v w32 a ⟨rfl, hS⟩ hA
                              refine st_run tbOk 1 hA (e' := (131, .bool false) :: _) rfl ?_; clear hA; intro a hA
                              refine wpList_nil ?_
                              replace hA := hA.sel [3, 4, 5, 6, 7, 28, 29, 30, 131] (e' := [(3, .pointer (some ⟨b2, 0, none⟩)), (4, .int .i64 ((t : Nat) : Int)), (5, .pointer (some ⟨b6, 0, none⟩)), (6, .pointer (some ⟨b8, 0, none⟩)), (7, .func (.func 5) #[] #[.pointer (some ⟨b6, 0, none⟩), .pointer (some ⟨b8, 0, none⟩)]), (28, .slice (some ⟨b12, o13, none⟩) l.length c), (29, .int .i64 ((l.length : Nat) : Int)), (30, .int .i64 ((k : Nat) : Int)), (131, .bool false)]) rfl
                              refine xt_norm ?_
                              refine cd_cond_f hA rfl ?_
                              refine wp_skip ?_
                              refine xb_norm ?_
                              refine xb_norm ?_
                              refine xt_norm ?_
                              replace hS := hS.front 1 (C := [(b15, rowO [.int .u8 x14.1, .int .i8 x14.2.1, .int .i32 x14.2.2] 32)]) (L' := L28 :: [(b6, rowO [.slice A5 ((ids al).length) c5] 28)] :: C5 :: [(b8, rowO [.slice A6 ((lf al ((t : Nat) : Int)).length) c6] 28)] :: C6 :: F) rfl rfl
                              replace hS := hS.drop1
                              replace hS := hS.front 4 (C := C6) (L' := L28 :: [(b6, rowO [.slice A5 ((ids al).length) c5] 28)] :: C5 :: [(b8, rowO [.slice A6 ((lf al ((t : Nat) : Int)).length) c6] 28)] :: F) rfl rfl
                              replace hS := hS.front 4 (C := [(b8, rowO [.slice A6 ((lf al ((t : Nat) : Int)).length) c6] 28)]) (L' := C6 :: L28 :: [(b6, rowO [.slice A5 ((ids al).length) c5] 28)] :: C5 :: F) rfl rfl
                              replace hS := hS.front 4 (C := C5) (L' := [(b8, rowO [.slice A6 ((lf al ((t : Nat) : Int)).length) c6] 28)] :: C6 :: L28 :: [(b6, rowO [.slice A5 ((ids al).length) c5] 28)] :: F) rfl rfl
                              replace hS := hS.front 4 (C := [(b6, rowO [.slice A5 ((ids al).length) c5] 28)]) (L' := C5 :: [(b8, rowO [.slice A6 ((lf al ((t : Nat) : Int)).length) c6] 28)] :: C6 :: L28 :: F) rfl rfl
                              replace hS := hS.front 4 (C := L28) (L' := [(b6, rowO [.slice A5 ((ids al).length) c5] 28)] :: C5 :: [(b8, rowO [.slice A6 ((lf al ((t : Nat) : Int)).length) c6] 28)] :: C6 :: F) rfl rfl
                              exact ⟨t, al, L28, A5, c5, C5, A6, c6, C6, (hA.sel [3, 4, 5, 6, 7, 28, 29, 30] rfl), hS, by omega, hT2, hM30, h5, h6⟩)
                         · first
                           | (exfalso; omega)
                           | (replace hA := hA.rw 124 (v' := .bool false) rfl (vb_false hc31)
                              replace hA := hA.rw 125 (v' := .bool false) rfl (vb_false hc31)
                              refine st_run tbOk 4 hA (e' := (122, .bool (decide (nn > 1000000))) :: (128, .bool (decide (nn > 1000000))) :: (127, .bool (decide (nn > 1000000))) :: (126, .int .i64 nn) :: _) rfl ?_; clear hA; intro a hA
                              refine wpList_nil ?_
                              replace hA := hA.sel [3, 4, 5, 6, 7, 10, 11, 12, 15, 28, 29, 30, 122] (e' := [(3, .pointer (some ⟨b2, 0, none⟩)), (4, .int .i64 ((t : Nat) : Int)), (5, .pointer (some ⟨b6, 0, none⟩)), (6, .pointer (some ⟨b8, 0, none⟩)), (7, .func (.func 5) #[] #[.pointer (some ⟨b6, 0, none⟩), .pointer (some ⟨b8, 0, none⟩)]), (10, .int .i64 x14.2.1), (11, .int .i64 nn), (12, .int .i64 (hasF al x14.2.1 al.length)), (15, .iface 36 (.int .i64 4)), (28, .slice (some ⟨b12, o13, none⟩) l.length c), (29, .int .i64 ((l.length : Nat) : Int)), (30, .int .i64 ((k : Nat) : Int)), (122, .bool (decide (nn > 1000000)))]) rfl
                              refine xt_norm ?_
                              by_cases hc33 : nn > 1000000
                              · first
                                | (exfalso; omega)
                                | (replace hA := hA.rw 122 (v' := .bool true) rfl (vb_true hc33)
                                   refine cd_cond_t hA rfl ?_
                                   refine wp_seq ?_
                                   refine wp_region_lit ?_
                                   refine st_run tbOk 1 hA (e' := (129, .iface 36 (.int .i64 4)) :: _) rfl ?_; clear hA; intro a hA
                                   refine st_call0 hA rfl rfl rfl isfn7 rfl rfl (by decide) (number_hit7 hS hg 4) ?_
                                   clear hA hS; rintro v w34 a ⟨rfl, hS⟩ hA
                                   refine st_run tbOk 1 hA (e' := (131, .bool false) :: _) rfl ?_; clear hA; intro a hA
                                   refine wpList_nil ?_
                                   replace hA := hA.sel [3, 4, 5, 6, 7, 28, 29, 30, 131] (e' := [(3, .pointer (some ⟨b2, 0, none⟩)), (4, .int .i64 ((t : Nat) : Int)), (5, .pointer (some ⟨b6, 0, none⟩)), (6, .pointer (some ⟨b8, 0, none⟩)), (7, .func (.func 5) #[] #[.pointer (some ⟨b6, 0, none⟩), .pointer (some ⟨b8, 0, none⟩)]), (28, .slice (some ⟨b12, o13, none⟩) l.length c), (29, .int .i64 ((l.length : Nat) : Int)), (30, .int .i64 ((k : Nat) : Int)), (131, .bool false)]) rfl
                                   refine xt_norm ?_
                                   refine cd_cond_f hA rfl ?_
                                   refine wp_skip ?_
                                   refine xb_norm ?_
                                   refine xb_norm ?_
                                   refine xt_norm ?_
                                   replace hS := hS.front 1 (C := [(b15, rowO [.int .u8 x14.1, .int .i8 x14.2.1, .int .i32 x14.2.2] 32)]) (L' := L28 :: [(b6, rowO [.slice A5 ((ids al).length) c5] 28)] :: C5 :: [(b8, rowO [.slice A6 ((lf al ((t : Nat) : Int)).length) c6] 28)] :: C6 :: F) rfl rfl
                                   replace hS := hS.drop1
                                   replace hS := hS.front 4 (C := C6) (L' := L28 :: [(b6, rowO [.slice A5 ((ids al).length) c5] 28)] :: C5 :: [(b8, rowO [.slice A6 ((lf al ((t : Nat) : Int)).length) c6] 28)] :: F) rfl rfl
                                   replace hS := hS.front 4 (C := [(b8, rowO [.slice A6 ((lf al ((t : Nat) : Int)).length) c6] 28)]) (L' := C6 :: L28 :: [(b6, rowO [.slice A5 ((ids al).length) c5] 28)] :: C5 :: F) rfl rfl
                                   replace hS := hS.front 4 (C := C5) (L' := [(b8, rowO [.slice A6 ((lf al ((t : Nat) : Int)).length) c6] 28)] :: C6 :: L28 :: [(b6, rowO [.slice A5 ((ids al).length) c5] 28)] :: F) rfl rfl
                                   replace hS := hS.front 4 (C := [(b6, rowO [.slice A5 ((ids al).length) c5] 28)]) (L' := C5 :: [(b8, rowO [.slice A6 ((lf al ((t : Nat) : Int)).length) c6] 28)] :: C6 :: L28 :: F) rfl rfl
                                   replace hS := hS.front 4 (C := L28) (L' := [(b6, rowO [.slice A5 ((ids al).length) c5] 28)] :: C5 :: [(b8, rowO [.slice A6 ((lf al ((t : Nat) : Int)).length) c6] 28)] :: C6 :: F) rfl rfl
                                   exact ⟨t, al, L28, A5, c5, C5, A6, c6, C6, (hA.sel [3, 4, 5, 6, 7, 28, 29, 30] rfl), hS, by omega, hT2, hM30, h5, h6⟩)
                              · first
                                | (exfalso; omega)
                                | (replace hA := hA.rw 122 (v' := .bool false) rfl (vb_false hc33)
                                   refine cd_cond_f hA rfl ?_
                                   refine wp_seq ?_
                                   refine wp_region_lit ?_
                                   refine st_val hA rfl rfl (by decide) (rn_load tbOk hA rfl rfl rfl rfl (cell_row (hS.heapAt 2 rfl) rfl)) ?_; clear hA; intro a hA
                                   refine st_run tbOk 3 hA (e' := (136, .int .i64 (IntKind.i64.wrap ((((ids al).length : Nat) : Int) - (hasF al x14.2.1 al.length)))) :: (135, .int .i64 (hasF al x14.2.1 al.length)) :: (134, .int .i64 (((ids al).length : Nat) : Int)) :: _) rfl ?_; clear hA; intro a hA
                                   replace hA := hA.rw 136 (v' := .int .i64 ((((ids al).length : Nat) : Int) - (hasF al x14.2.1 al.length))) rfl (wr64 (by omega) (by omega) (by omega))
                                   refine st_run tbOk 2 hA (e' := (132, .bool (decide ((((ids al).length : Nat) : Int) - (hasF al x14.2.1 al.length) ≥ 64))) :: (137, .bool (decide ((((ids al).length : Nat) : Int) - (hasF al x14.2.1 al.length) ≥ 64))) :: _) rfl ?_; clear hA; intro a hA
                                   refine wpList_nil ?_
                                   replace hA := hA.sel [3, 4, 5, 6, 7, 10, 11, 15, 28, 29, 30, 132] (e' := [(3, .pointer (some ⟨b2, 0, none⟩)), (4, .int .i64 ((t : Nat) : Int)), (5, .pointer (some ⟨b6, 0, none⟩)), (6, .pointer (some ⟨b8, 0, none⟩)), (7, .func (.func 5) #[] #[.pointer (some ⟨b6, 0, none⟩), .pointer (some ⟨b8, 0, none⟩)]), (10, .int .i64 x14.2.1), (11, .int .i64 nn), (15, .iface 36 (.int .i64 4)), (28, .slice (some ⟨b12, o13, none⟩) l.length c), (29, .int .i64 ((l.length : Nat) : Int)), (30, .int .i64 ((k : Nat) : Int)), (132, .bool (decide ((((ids al).length : Nat) : Int) - (hasF al x14.2.1 al.length) ≥ 64)))]) rfl
                                   refine xt_norm ?_
                                   by_cases hc35 : (((ids al).length : Nat) : Int) - (hasF al x14.2.1 al.length) ≥ 64
                                   · first
                                     | (exfalso; omega)
                                     | (replace hA := hA.rw 132 (v' := .bool true) rfl (vb_true hc35)
                                        refine cd_cond_t hA rfl ?_
                                        refine wp_seq ?_
                                        refine wp_region_lit ?_
                                        refine st_run tbOk 1 hA (e' := (138, .iface 36 (.int .i64 4)) :: _) rfl ?_; clear hA; intro a hA
                                        refine st_call0 hA rfl rfl rfl isfn7 rfl rfl (by decide) (number_hit7 hS hg 4) ?_
                                        clear hA hS; rintro v w36 a ⟨rfl, hS⟩ hA
                                        refine st_run tbOk 1 hA (e' := (140, .bool true) :: _) rfl ?_; clear hA; intro a hA
                                        refine wpList_nil ?_
                                        replace hA := hA.sel [3, 4, 5, 6, 7, 28, 29, 30, 140] (e' := [(3, .pointer (some ⟨b2, 0, none⟩)), (4, .int .i64 ((t : Nat) : Int)), (5, .pointer (some ⟨b6, 0, none⟩)), (6, .pointer (some ⟨b8, 0, none⟩)), (7, .func (.func 5) #[] #[.pointer (some ⟨b6, 0, none⟩), .pointer (some ⟨b8, 0, none⟩)]), (28, .slice (some ⟨b12, o13, none⟩) l.length c), (29, .int .i64 ((l.length : Nat) : Int)), (30, .int .i64 ((k : Nat) : Int)), (140, .bool true)]) rfl
                                        refine xt_norm ?_
                                        refine cd_cond_t hA rfl ?_
                                        refine wp_seq ?_
                                        refine wp_region_lit ?_
                                        refine st_run tbOk 1 hA (e' := (2, .bool false) :: _) rfl ?_; clear hA; intro a hA
                                        refine wpList_nil ?_
                                        replace hA := hA.sel [2] (e' := [(2, .bool false)]) rfl
                                        refine xt_norm ?_
                                        refine wp_ret (xb_ret (xb_ret (xt_ret (xb_ret (xt_ret (xt_ret (xb_ret (xt_ret ?_))))))))
                                        refine ret1 (fn := Tryd.f3) hA rfl rfl ?_
                                        exfalso; omega)
                                   · first
                                     | (exfalso; omega)
                                     | (replace hA := hA.rw 132 (v' := .bool false) rfl (vb_false hc35)
                                        refine cd_cond_f hA rfl ?_
                                        refine wp_seq ?_
                                        refine wp_region_lit ?_
                                        refine st_run tbOk 2 hA (e' := (110, .int .i64 x14.2.1) :: (109, .func (.func 5) #[] #[.pointer (some ⟨b6, 0, none⟩), .pointer (some ⟨b8, 0, none⟩)]) :: _) rfl ?_; clear hA; intro a hA
                                        exfalso; omega)))
                       · replace hS := hS.front 1 (C := L) (L' := [(b15, rowO [.int .u8 x14.1, .int .i8 x14.2.1, .int .i32 x14.2.2] 32)] :: [(b6, rowO [.slice A5 ((ids al).length) c5] 28)] :: C5 :: [(b8, rowO [.slice A6 ((lf al ((t : Nat) : Int)).length) c6] 28)] :: C6 :: F) rfl rfl
                         refine st_call0 hA rfl rfl rfl isfn6 rfl rfl (by decide) (set_hi6 hS hM x14.2.1 nn h1) ?_
                         clear hA hS; rintro v w38 a ⟨L37, hM39, rfl, hS⟩ hA
                         have hT2 := hT
                         refine st_run tbOk 1 hA (e' := (15, .iface 36 (.int .i64 4)) :: _) rfl ?_; clear hA; intro a hA
                         refine wpList_nil ?_
                         replace hA := hA.sel [3, 4, 5, 6, 7, 10, 11, 12, 15, 28, 29, 30] (e' := [(3, .pointer (some ⟨b2, 0, none⟩)), (4, .int .i64 ((t : Nat) : Int)), (5, .pointer (some ⟨b6, 0, none⟩)), (6, .pointer (some ⟨b8, 0, none⟩)), (7, .func (.func 5) #[] #[.pointer (some ⟨b6, 0, none⟩), .pointer (some ⟨b8, 0, none⟩)]), (10, .int .i64 x14.2.1), (11, .int .i64 nn), (12, .int .i64 (hasF al x14.2.1 al.length)), (15, .iface 36 (.int .i64 4)), (28, .slice (some ⟨b12, o13, none⟩) l.length c), (29, .int .i64 ((l.length : Nat) : Int)), (30, .int .i64 ((k : Nat) : Int))]) rfl
                         refine xt_norm ?_
                         refine wp_block ?_
                         refine wp_seq ?_
                         refine wp_region_lit ?_
                         refine st_run tbOk 3 hA (e' := (125, .bool (decide (nn < 1))) :: (124, .bool (decide (nn < 1))) :: (123, .int .i64 nn) :: _) rfl ?_; clear hA; intro a hA
                         by_cases hc40 : nn < 1
                         · first
                           | (exfalso; omega)
                           | (replace hA := hA.rw 124 (v' := .bool true) rfl (vb_true hc40)
                              replace hA := hA.rw 125 (v' := .bool true) rfl (vb_true hc40)
                              refine st_run tbOk 4 hA (e' := (122, .bool true) :: (128, .bool true) :: (127, undef) :: (126, undef) :: _) rfl ?_; clear hA; intro a hA
                              refine wpList_nil ?_
                              replace hA := hA.sel [3, 4, 5, 6, 7, 10, 11, 12, 15, 28, 29, 30, 122] (e' := [(3, .pointer (some ⟨b2, 0, none⟩)), (4, .int .i64 ((t : Nat) : Int)), (5, .pointer (some ⟨b6, 0, none⟩)), (6, .pointer (some ⟨b8, 0, none⟩)), (7, .func (.func 5) #[] #[.pointer (some ⟨b6, 0, none⟩), .pointer (some ⟨b8, 0, none⟩)]), (10, .int .i64 x14.2.1), (11, .int .i64 nn), (12, .int .i64 (hasF al x14.2.1 al.length)), (15, .iface 36 (.int .i64 4)), (28, .slice (some ⟨b12, o13, none⟩) l.length c), (29, .int .i64 ((l.length : Nat) : Int)), (30, .int .i64 ((k : Nat) : Int)), (122, .bool true)]) rfl
                              refine xt_norm ?_
                              refine cd_cond_t hA rfl ?_
                              refine wp_seq ?_
                              refine wp_region_lit ?_
                              refine st_run tbOk 1 hA (e' := (129, .iface 36 (.int .i64 4)) :: _) rfl ?_; clear hA; intro a hA
                              refine st_call0 hA rfl rfl rfl isfn7 rfl rfl (by decide) (number_hit7 hS hg 4) ?_
                              clear hA hS; rintro v w41 a ⟨rfl, hS⟩ hA
                              refine st_run tbOk 1 hA (e' := (131, .bool false) :: _) rfl ?_; clear hA; intro a hA
                              refine wpList_nil ?_
                              replace hA := hA.sel [3, 4, 5, 6, 7, 28, 29, 30, 131] (e' := [(3, .pointer (some ⟨b2, 0, none⟩)), (4, .int .i64 ((t : Nat) : Int)), (5, .pointer (some ⟨b6, 0, none⟩)), (6, .pointer (some ⟨b8, 0, none⟩)), (7, .func (.func 5) #[] #[.pointer (some ⟨b6, 0, none⟩), .pointer (some ⟨b8, 0, none⟩)]), (28, .slice (some ⟨b12, o13, none⟩) l.length c), (29, .int .i64 ((l.length : Nat) : Int)), (30, .int .i64 ((k : Nat) : Int)), (131, .bool false)]) rfl
                              refine xt_norm ?_
                              refine cd_cond_f hA rfl ?_
                              refine wp_skip ?_
                              refine xb_norm ?_
                              refine xb_norm ?_
                              refine xt_norm ?_
                              replace hS := hS.front 1 (C := [(b15, rowO [.int .u8 x14.1, .int .i8 x14.2.1, .int .i32 x14.2.2] 32)]) (L' := L37 :: [(b6, rowO [.slice A5 ((ids al).length) c5] 28)] :: C5 :: [(b8, rowO [.slice A6 ((lf al ((t : Nat) : Int)).length) c6] 28)] :: C6 :: F) rfl rfl
                              replace hS := hS.drop1
                              replace hS := hS.front 4 (C := C6) (L' := L37 :: [(b6, rowO [.slice A5 ((ids al).length) c5] 28)] :: C5 :: [(b8, rowO [.slice A6 ((lf al ((t : Nat) : Int)).length) c6] 28)] :: F) rfl rfl
                              replace hS := hS.front 4 (C := [(b8, rowO [.slice A6 ((lf al ((t : Nat) : Int)).length) c6] 28)]) (L' := C6 :: L37 :: [(b6, rowO [.slice A5 ((ids al).length) c5] 28)] :: C5 :: F) rfl rfl
                              replace hS := hS.front 4 (C := C5) (L' := [(b8, rowO [.slice A6 ((lf al ((t : Nat) : Int)).length) c6] 28)] :: C6 :: L37 :: [(b6, rowO [.slice A5 ((ids al).length) c5] 28)] :: F) rfl rfl
                              replace hS := hS.front 4 (C := [(b6, rowO [.slice A5 ((ids al).length) c5] 28)]) (L' := C5 :: [(b8, rowO [.slice A6 ((lf al ((t : Nat) : Int)).length) c6] 28)] :: C6 :: L37 :: F) rfl rfl
                              replace hS := hS.front 4 (C := L37) (L' := [(b6, rowO [.slice A5 ((ids al).length) c5] 28)] :: C5 :: [(b8, rowO [.slice A6 ((lf al ((t : Nat) : Int)).length) c6] 28)] :: C6 :: F) rfl rfl
                              exact ⟨t, al, L37, A5, c5, C5, A6, c6, C6, (hA.sel [3, 4, 5, 6, 7, 28, 29, 30] rfl), hS, by omega, hT2, hM39, h5, h6⟩)
                         · first
                           | (exfalso; omega)
                           | (replace hA := hA.rw 124 (v' := .bool false) rfl (vb_false hc40)
                              replace hA := hA.rw 125 (v' := .bool false) rfl (vb_false hc40)
                              refine st_run tbOk 4 hA (e' := (122, .bool (decide (nn > 1000000))) :: (128, .bool (decide (nn > 1000000))) :: (127, .bool (decide (nn > 1000000))) :: (126, .int .i64 nn) :: _) rfl ?_; clear hA; intro a hA
                              refine wpList_nil ?_
                              replace hA := hA.sel [3, 4, 5, 6, 7, 10, 11, 12, 15, 28, 29, 30, 122] (e' := [(3, .pointer (some ⟨b2, 0, none⟩)), (4, .int .i64 ((t : Nat) : Int)), (5, .pointer (some ⟨b6, 0, none⟩)), (6, .pointer (some ⟨b8, 0, none⟩)), (7, .func (.func 5) #[] #[.pointer (some ⟨b6, 0, none⟩), .pointer (some ⟨b8, 0, none⟩)]), (10, .int .i64 x14.2.1), (11, .int .i64 nn), (12, .int .i64 (hasF al x14.2.1 al.length)), (15, .iface 36 (.int .i64 4)), (28, .slice (some ⟨b12, o13, none⟩) l.length c), (29, .int .i64 ((l.length : Nat) : Int)), (30, .int .i64 ((k : Nat) : Int)), (122, .bool (decide (nn > 1000000)))]) rfl
                              refine xt_norm ?_
                              by_cases hc42 : nn > 1000000
                              · first
                                | (exfalso; omega)
                                | (replace hA := hA.rw 122 (v' := .bool true) rfl (vb_true hc42)
                                   refine cd_cond_t hA rfl ?_
                                   refine wp_seq ?_
                                   refine wp_region_lit ?_
                                   refine st_run tbOk 1 hA (e' := (129, .iface 36 (.int .i64 4)) :: _) rfl ?_; clear hA; intro a hA
                                   refine st_call0 hA rfl rfl rfl isfn7 rfl rfl (by decide) (number_hit7 hS hg 4) ?_
                                   clear hA hS; rintro v w43 a ⟨rfl, hS⟩ hA
                                   refine st_run tbOk 1 hA (e' := (131, .bool false) :: _) rfl ?_; clear hA; intro a hA
                                   refine wpList_nil ?_
                                   replace hA := hA.sel [3, 4, 5, 6, 7, 28, 29, 30, 131] (e' := [(3, .pointer (some ⟨b2, 0, none⟩)), (4, .int .i64 ((t : Nat) : Int)), (5, .pointer (some ⟨b6, 0, none⟩)), (6, .pointer (some ⟨b8, 0, none⟩)), (7, .func (.func 5) #[] #[.pointer (some ⟨b6, 0, none⟩), .pointer (some ⟨b8, 0, none⟩)]), (28, .slice (some ⟨b12, o13, none⟩) l.length c), (29, .int .i64 ((l.length : Nat) : Int)), (30, .int .i64 ((k : Nat) : Int)), (131, .bool false)]) rfl
                                   refine xt_norm ?_
                                   refine cd_cond_f hA rfl ?_
                                   refine wp_skip ?_
                                   refine xb_norm ?_
                                   refine xb_norm ?_
                                   refine xt_norm ?_
                                   replace hS := hS.front 1 (C := [(b15, rowO [.int .u8 x14.1, .int .i8 x14.2.1, .int .i32 x14.2.2] 32)]) (L' := L37 :: [(b6, rowO [.slice A5 ((ids al).length) c5] 28)] :: C5 :: [(b8, rowO [.slice A6 ((lf al ((t : Nat) : Int)).length) c6] 28)] :: C6 :: F) rfl rfl
                                   replace hS := hS.drop1
                                   replace hS := hS.front 4 (C := C6) (L' := L37 :: [(b6, rowO [.slice A5 ((ids al).length) c5] 28)] :: C5 :: [(b8, rowO [.slice A6 ((lf al ((t : Nat) : Int)).length) c6] 28)] :: F) rfl rfl
                                   replace hS := hS.front 4 (C := [(b8, rowO [.slice A6 ((lf al ((t : Nat) : Int)).length) c6] 28)]) (L' := C6 :: L37 :: [(b6, rowO [.slice A5 ((ids al).length) c5] 28)] :: C5 :: F) rfl rfl
                                   replace hS := hS.front 4 (C := C5) (L' := [(b8, rowO [.slice A6 ((lf al ((t : Nat) : Int)).length) c6] 28)] :: C6 :: L37 :: [(b6, rowO [.slice A5 ((ids al).length) c5] 28)] :: F) rfl rfl
                                   replace hS := hS.front 4 (C := [(b6, rowO [.slice A5 ((ids al).length) c5] 28)]) (L' := C5 :: [(b8, rowO [.slice A6 ((lf al ((t : Nat) : Int)).length) c6] 28)] :: C6 :: L37 :: F) rfl rfl
                                   replace hS := hS.front 4 (C := L37) (L' := [(b6, rowO [.slice A5 ((ids al).length) c5] 28)] :: C5 :: [(b8, rowO [.slice A6 ((lf al ((t : Nat) : Int)).length) c6] 28)] :: C6 :: F) rfl rfl
                                   exact ⟨t, al, L37, A5, c5, C5, A6, c6, C6, (hA.sel [3, 4, 5, 6, 7, 28, 29, 30] rfl), hS, by omega, hT2, hM39, h5, h6⟩)
                              · first
                                | (exfalso; omega)
                                | (replace hA := hA.rw 122 (v' := .bool false) rfl (vb_false hc42)
                                   refine cd_cond_f hA rfl ?_
                                   refine wp_seq ?_
                                   refine wp_region_lit ?_
                                   refine st_val hA rfl rfl (by decide) (rn_load tbOk hA rfl rfl rfl rfl (cell_row (hS.heapAt 2 rfl) rfl)) ?_; clear hA; intro a hA
                                   refine st_run tbOk 3 hA (e' := (136, .int .i64 (IntKind.i64.wrap ((((ids al).length : Nat) : Int) - (hasF al x14.2.1 al.length)))) :: (135, .int .i64 (hasF al x14.2.1 al.length)) :: (134, .int .i64 (((ids al).length : Nat) : Int)) :: _) rfl ?_; clear hA; intro a hA
                                   replace hA := hA.rw 136 (v' := .int .i64 ((((ids al).length : Nat) : Int) - (hasF al x14.2.1 al.length))) rfl (wr64 (by omega) (by omega) (by omega))
                                   refine st_run tbOk 2 hA (e' := (132, .bool (decide ((((ids al).length : Nat) : Int) - (hasF al x14.2.1 al.length) ≥ 64))) :: (137, .bool (decide ((((ids al).length : Nat) : Int) - (hasF al x14.2.1 al.length) ≥ 64))) :: _) rfl ?_; clear hA; intro a hA
                                   refine wpList_nil ?_
                                   replace hA := hA.sel [3, 4, 5, 6, 7, 10, 11, 15, 28, 29, 30, 132] (e' := [(3, .pointer (some ⟨b2, 0, none⟩)), (4, .int .i64 ((t : Nat) : Int)), (5, .pointer (some ⟨b6, 0, none⟩)), (6, .pointer (some ⟨b8, 0, none⟩)), (7, .func (.func 5) #[] #[.pointer (some ⟨b6, 0, none⟩), .pointer (some ⟨b8, 0, none⟩)]), (10, .int .i64 x14.2.1), (11, .int .i64 nn), (15, .iface 36 (.int .i64 4)), (28, .slice (some ⟨b12, o13, none⟩) l.length c), (29, .int .i64 ((l.length : Nat) : Int)), (30, .int .i64 ((k : Nat) : Int)), (132, .bool (decide ((((ids al).length : Nat) : Int) - (hasF al x14.2.1 al.length) ≥ 64)))]) rfl
                                   refine xt_norm ?_
                                   by_cases hc44 : (((ids al).length : Nat) : Int) - (hasF al x14.2.1 al.length) ≥ 64
                                   · first
                                     | (exfalso; omega)
                                     | (replace hA := hA.rw 132 (v' := .bool true) rfl (vb_true hc44)
                                        refine cd_cond_t hA rfl ?_
                                        refine wp_seq ?_
                                        refine wp_region_lit ?_
                                        refine st_run tbOk 1 hA (e' := (138, .iface 36 (.int .i64 4)) :: _) rfl ?_; clear hA; intro a hA
                                        refine st_call0 hA rfl rfl rfl isfn7 rfl rfl (by decide) (number_hit7 hS hg 4) ?_
                                        clear hA hS; rintro v w45 a ⟨rfl, hS⟩ hA
                                        refine st_run tbOk 1 hA (e' := (140, .bool true) :: _) rfl ?_; clear hA; intro a hA
                                        refine wpList_nil ?_
                                        replace hA := hA.sel [3, 4, 5, 6, 7, 28, 29, 30, 140] (e' := [(3, .pointer (some ⟨b2, 0, none⟩)), (4, .int .i64 ((t : Nat) : Int)), (5, .pointer (some ⟨b6, 0, none⟩)), (6, .pointer (some ⟨b8, 0, none⟩)), (7, .func (.func 5) #[] #[.pointer (some ⟨b6, 0, none⟩), .pointer (some ⟨b8, 0, none⟩)]), (28, .slice (some ⟨b12, o13, none⟩) l.length c), (29, .int .i64 ((l.length : Nat) : Int)), (30, .int .i64 ((k : Nat) : Int)), (140, .bool true)]) rfl
                                        refine xt_norm ?_
                                        refine cd_cond_t hA rfl ?_
                                        refine wp_seq ?_
                                        refine wp_region_lit ?_
                                        refine st_run tbOk 1 hA (e' := (2, .bool false) :: _) rfl ?_; clear hA; intro a hA
                                        refine wpList_nil ?_
                                        replace hA := hA.sel [2] (e' := [(2, .bool false)]) rfl
                                        refine xt_norm ?_
                                        refine wp_ret (xb_ret (xb_ret (xt_ret (xb_ret (xt_ret (xt_ret (xb_ret (xt_ret ?_))))))))
                                        refine ret1 (fn := Tryd.f3) hA rfl rfl ?_
                                        exfalso; omega)
                                   · first
                                     | (exfalso; omega)
                                     | (replace hA := hA.rw 132 (v' := .bool false) rfl (vb_false hc44)
                                        refine cd_cond_f hA rfl ?_
                                        refine wp_seq ?_
                                        refine wp_region_lit ?_
                                        refine st_run tbOk 2 hA (e' := (110, .int .i64 x14.2.1) :: (109, .func (.func 5) #[] #[.pointer (some ⟨b6, 0, none⟩), .pointer (some ⟨b8, 0, none⟩)]) :: _) rfl ?_; clear hA; intro a hA
                                        exfalso; omega)))
                       · replace hS := hS.front 1 (C := L) (L' := [(b15, rowO [.int .u8 x14.1, .int .i8 x14.2.1, .int .i32 x14.2.2] 32)] :: [(b6, rowO [.slice A5 ((ids al).length) c5] 28)] :: C5 :: [(b8, rowO [.slice A6 ((lf al ((t : Nat) : Int)).length) c6] 28)] :: C6 :: F) rfl rfl
                         refine st_call0 hA rfl rfl rfl isfn6 rfl rfl (by decide) (set_full6 hS hM x14.2.1 nn h1 h2 h3 hal) ?_
                         clear hA hS; rintro v w47 a ⟨L46, hM48, rfl, hS⟩ hA
                         have hT2 := hT
                         refine st_run tbOk 1 hA (e' := (15, .iface 36 (.int .i64 5)) :: _) rfl ?_; clear hA; intro a hA
                         refine wpList_nil ?_
                         replace hA := hA.sel [3, 4, 5, 6, 7, 10, 11, 12, 15, 28, 29, 30] (e' := [(3, .pointer (some ⟨b2, 0, none⟩)), (4, .int .i64 ((t : Nat) : Int)), (5, .pointer (some ⟨b6, 0, none⟩)), (6, .pointer (some ⟨b8, 0, none⟩)), (7, .func (.func 5) #[] #[.pointer (some ⟨b6, 0, none⟩), .pointer (some ⟨b8, 0, none⟩)]), (10, .int .i64 x14.2.1), (11, .int .i64 nn), (12, .int .i64 (hasF al x14.2.1 al.length)), (15, .iface 36 (.int .i64 5)), (28, .slice (some ⟨b12, o13, none⟩) l.length c), (29, .int .i64 ((l.length : Nat) : Int)), (30, .int .i64 ((k : Nat) : Int))]) rfl
                         refine xt_norm ?_
                         refine wp_block ?_
                         refine wp_seq ?_
                         refine wp_region_lit ?_
                         refine st_run tbOk 3 hA (e' := (125, .bool (decide (nn < 1))) :: (124, .bool (decide (nn < 1))) :: (123, .int .i64 nn) :: _) rfl ?_; clear hA; intro a hA
                         by_cases hc49 : nn < 1
                         · first
                           | (exfalso; omega)
                           | (replace hA := hA.rw 124 (v' := .bool true) rfl (vb_true hc49)
                              replace hA := hA.rw 125 (v' := .bool true) rfl (vb_true hc49)
                              refine st_run tbOk 4 hA (e' := (122, .bool true) :: (128, .bool true) :: (127, undef) :: (126, undef) :: _) rfl ?_; clear hA; intro a hA
                              refine wpList_nil ?_
                              replace hA := hA.sel [3, 4, 5, 6, 7, 10, 11, 12, 15, 28, 29, 30, 122] (e' := [(3, .pointer (some ⟨b2, 0, none⟩)), (4, .int .i64 ((t : Nat) : Int)), (5, .pointer (some ⟨b6, 0, none⟩)), (6, .pointer (some ⟨b8, 0, none⟩)), (7, .func (.func 5) #[] #[.pointer (some ⟨b6, 0, none⟩), .pointer (some ⟨b8, 0, none⟩)]), (10, .int .i64 x14.2.1), (11, .int .i64 nn), (12, .int .i64 (hasF al x14.2.1 al.length)), (15, .iface 36 (.int .i64 5)), (28, .slice (some ⟨b12, o13, none⟩) l.length c), (29, .int .i64 ((l.length : Nat) : Int)), (30, .int .i64 ((k : Nat) : Int)), (122, .bool true)]) rfl
                              refine xt_norm ?_
                              refine cd_cond_t hA rfl ?_
                              refine wp_seq ?_
                              refine wp_region_lit ?_
                              refine st_run tbOk 1 hA (e' := (129, .iface 36 (.int .i64 5)) :: _) rfl ?_; clear hA; intro a hA
                              refine st_call0 hA rfl rfl rfl isfn7 rfl rfl (by decide) (number_hit7 hS hg 5) ?_
                              clear hA hS; rintro v w50 a ⟨rfl, hS⟩ hA
                              refine st_run tbOk 1 hA (e' := (131, .bool true) :: _) rfl ?_; clear hA; intro a hA
                              refine wpList_nil ?_
                              replace hA := hA.sel [3, 4, 5, 6, 7, 28, 29, 30, 131] (e' := [(3, .pointer (some ⟨b2, 0, none⟩)), (4, .int .i64 ((t : Nat) : Int)), (5, .pointer (some ⟨b6, 0, none⟩)), (6, .pointer (some ⟨b8, 0, none⟩)), (7, .func (.func 5) #[] #[.pointer (some ⟨b6, 0, none⟩), .pointer (some ⟨b8, 0, none⟩)]), (28, .slice (some ⟨b12, o13, none⟩) l.length c), (29, .int .i64 ((l.length : Nat) : Int)), (30, .int .i64 ((k : Nat) : Int)), (131, .bool true)]) rfl
                              refine xt_norm ?_
                              refine cd_cond_t hA rfl ?_
                              refine wp_seq ?_
                              refine wp_region_lit ?_
                              refine st_run tbOk 1 hA (e' := (2, .bool false) :: _) rfl ?_; clear hA; intro a hA
                              refine wpList_nil ?_
                              replace hA := hA.sel [2] (e' := [(2, .bool false)]) rfl
                              refine xt_norm ?_
                              refine wp_ret (xb_ret (xb_ret (xt_ret (xb_ret (xt_ret (xt_ret (xb_ret (xt_ret ?_))))))))
                              refine ret1 (fn := Tryd.f3) hA rfl rfl ?_
                              exfalso; omega)
                         · first
                           | (exfalso; omega)
                           | (replace hA := hA.rw 124 (v' := .bool false) rfl (vb_false hc49)
                              replace hA := hA.rw 125 (v' := .bool false) rfl (vb_false hc49)
                              refine st_run tbOk 4 hA (e' := (122, .bool (decide (nn > 1000000))) :: (128, .bool (decide (nn > 1000000))) :: (127, .bool (decide (nn > 1000000))) :: (126, .int .i64 nn) :: _) rfl ?_; clear hA; intro a hA
                              refine wpList_nil ?_
                              replace hA := hA.sel [3, 4, 5, 6, 7, 10, 11, 12, 15, 28, 29, 30, 122] (e' := [(3, .pointer (some ⟨b2, 0, none⟩)), (4, .int .i64 ((t : Nat) : Int)), (5, .pointer (some ⟨b6, 0, none⟩)), (6, .pointer (some ⟨b8, 0, none⟩)), (7, .func (.func 5) #[] #[.pointer (some ⟨b6, 0, none⟩), .pointer (some ⟨b8, 0, none⟩)]), (10, .int .i64 x14.2.1), (11, .int .i64 nn), (12, .int .i64 (hasF al x14.2.1 al.length)), (15, .iface 36 (.int .i64 5)), (28, .slice (some ⟨b12, o13, none⟩) l.length c), (29, .int .i64 ((l.length : Nat) : Int)), (30, .int .i64 ((k : Nat) : Int)), (122, .bool (decide (nn > 1000000)))]) rfl
                              refine xt_norm ?_
                              by_cases hc51 : nn > 1000000
                              · first
                                | (exfalso; omega)
                                | (replace hA := hA.rw 122 (v' := .bool true) rfl (vb_true hc51)
                                   refine cd_cond_t hA rfl ?_
                                   refine wp_seq ?_
                                   refine wp_region_lit ?_
                                   refine st_run tbOk 1 hA (e' := (129, .iface 36 (.int .i64 5)) :: _) rfl ?_; clear hA; intro a hA
                                   refine st_call0 hA rfl rfl rfl isfn7 rfl rfl (by decide) (number_hit7 hS hg 5) ?_
                                   clear hA hS; rintro v w52 a ⟨rfl, hS⟩ hA
                                   refine st_run tbOk 1 hA (e' := (131, .bool true) :: _) rfl ?_; clear hA; intro a hA
                                   refine wpList_nil ?_
                                   replace hA := hA.sel [3, 4, 5, 6, 7, 28, 29, 30, 131] (e' := [(3, .pointer (some ⟨b2, 0, none⟩)), (4, .int .i64 ((t : Nat) : Int)), (5, .pointer (some ⟨b6, 0, none⟩)), (6, .pointer (some ⟨b8, 0, none⟩)), (7, .func (.func 5) #[] #[.pointer (some ⟨b6, 0, none⟩), .pointer (some ⟨b8, 0, none⟩)]), (28, .slice (some ⟨b12, o13, none⟩) l.length c), (29, .int .i64 ((l.length : Nat) : Int)), (30, .int .i64 ((k : Nat) : Int)), (131, .bool true)]) rfl
                                   refine xt_norm ?_
                                   refine cd_cond_t hA rfl ?_
                                   refine wp_seq ?_
                                   refine wp_region_lit ?_
                                   refine st_run tbOk 1 hA (e' := (2, .bool false) :: _) rfl ?_; clear hA; intro a hA
                                   refine wpList_nil ?_
                                   replace hA := hA.sel [2] (e' := [(2, .bool false)]) rfl
                                   refine xt_norm ?_
                                   refine wp_ret (xb_ret (xb_ret (xt_ret (xb_ret (xt_ret (xt_ret (xb_ret (xt_ret ?_))))))))
                                   refine ret1 (fn := Tryd.f3) hA rfl rfl ?_
                                   exfalso; omega)
                              · first
                                | (exfalso; omega)
                                | (replace hA := hA.rw 122 (v' := .bool false) rfl (vb_false hc51)
                                   refine cd_cond_f hA rfl ?_
                                   refine wp_seq ?_
                                   refine wp_region_lit ?_
                                   refine st_val hA rfl rfl (by decide) (rn_load tbOk hA rfl rfl rfl rfl (cell_row (hS.heapAt 2 rfl) rfl)) ?_; clear hA; intro a hA
                                   refine st_run tbOk 3 hA (e' := (136, .int .i64 (IntKind.i64.wrap ((((ids al).length : Nat) : Int) - (hasF al x14.2.1 al.length)))) :: (135, .int .i64 (hasF al x14.2.1 al.length)) :: (134, .int .i64 (((ids al).length : Nat) : Int)) :: _) rfl ?_; clear hA; intro a hA
                                   replace hA := hA.rw 136 (v' := .int .i64 ((((ids al).length : Nat) : Int) - (hasF al x14.2.1 al.length))) rfl (wr64 (by omega) (by omega) (by omega))
                                   refine st_run tbOk 2 hA (e' := (132, .bool (decide ((((ids al).length : Nat) : Int) - (hasF al x14.2.1 al.length) ≥ 64))) :: (137, .bool (decide ((((ids al).length : Nat) : Int) - (hasF al x14.2.1 al.length) ≥ 64))) :: _) rfl ?_; clear hA; intro a hA
                                   refine wpList_nil ?_
                                   replace hA := hA.sel [3, 4, 5, 6, 7, 10, 11, 15, 28, 29, 30, 132] (e' := [(3, .pointer (some ⟨b2, 0, none⟩)), (4, .int .i64 ((t : Nat) : Int)), (5, .pointer (some ⟨b6, 0, none⟩)), (6, .pointer (some ⟨b8, 0, none⟩)), (7, .func (.func 5) #[] #[.pointer (some ⟨b6, 0, none⟩), .pointer (some ⟨b8, 0, none⟩)]), (10, .int .i64 x14.2.1), (11, .int .i64 nn), (15, .iface 36 (.int .i64 5)), (28, .slice (some ⟨b12, o13, none⟩) l.length c), (29, .int .i64 ((l.length : Nat) : Int)), (30, .int .i64 ((k : Nat) : Int)), (132, .bool (decide ((((ids al).length : Nat) : Int) - (hasF al x14.2.1 al.length) ≥ 64)))]) rfl
                                   refine xt_norm ?_
                                   by_cases hc53 : (((ids al).length : Nat) : Int) - (hasF al x14.2.1 al.length) ≥ 64
                                   · first
                                     | (exfalso; omega)
                                     | (replace hA := hA.rw 132 (v' := .bool true) rfl (vb_true hc53)
                                        refine cd_cond_t hA rfl ?_
                                        refine wp_seq ?_
                                        refine wp_region_lit ?_
                                        refine st_run tbOk 1 hA (e' := (138, .iface 36 (.int .i64 5)) :: _) rfl ?_; clear hA; intro a hA
                                        refine st_call0 hA rfl rfl rfl isfn7 rfl rfl (by decide) (number_hit7 hS hg 5) ?_
                                        clear hA hS; rintro v w54 a ⟨rfl, hS⟩ hA
                                        refine st_run tbOk 1 hA (e' := (140, .bool false) :: _) rfl ?_; clear hA; intro a hA
                                        refine wpList_nil ?_
                                        replace hA := hA.sel [3, 4, 5, 6, 7, 28, 29, 30, 140] (e' := [(3, .pointer (some ⟨b2, 0, none⟩)), (4, .int .i64 ((t : Nat) : Int)), (5, .pointer (some ⟨b6, 0, none⟩)), (6, .pointer (some ⟨b8, 0, none⟩)), (7, .func (.func 5) #[] #[.pointer (some ⟨b6, 0, none⟩), .pointer (some ⟨b8, 0, none⟩)]), (28, .slice (some ⟨b12, o13, none⟩) l.length c), (29, .int .i64 ((l.length : Nat) : Int)), (30, .int .i64 ((k : Nat) : Int)), (140, .bool false)]) rfl
                                        refine xt_norm ?_
                                        refine cd_cond_f hA rfl ?_
                                        refine wp_skip ?_
                                        refine xb_norm ?_
                                        refine xb_norm ?_
                                        refine xt_norm ?_
                                        replace hS := hS.front 1 (C := [(b15, rowO [.int .u8 x14.1, .int .i8 x14.2.1, .int .i32 x14.2.2] 32)]) (L' := L46 :: [(b6, rowO [.slice A5 ((ids al).length) c5] 28)] :: C5 :: [(b8, rowO [.slice A6 ((lf al ((t : Nat) : Int)).length) c6] 28)] :: C6 :: F) rfl rfl
                                        replace hS := hS.drop1
                                        replace hS := hS.front 4 (C := C6) (L' := L46 :: [(b6, rowO [.slice A5 ((ids al).length) c5] 28)] :: C5 :: [(b8, rowO [.slice A6 ((lf al ((t : Nat) : Int)).length) c6] 28)] :: F) rfl rfl
                                        replace hS := hS.front 4 (C := [(b8, rowO [.slice A6 ((lf al ((t : Nat) : Int)).length) c6] 28)]) (L' := C6 :: L46 :: [(b6, rowO [.slice A5 ((ids al).length) c5] 28)] :: C5 :: F) rfl rfl
                                        replace hS := hS.front 4 (C := C5) (L' := [(b8, rowO [.slice A6 ((lf al ((t : Nat) : Int)).length) c6] 28)] :: C6 :: L46 :: [(b6, rowO [.slice A5 ((ids al).length) c5] 28)] :: F) rfl rfl
                                        replace hS := hS.front 4 (C := [(b6, rowO [.slice A5 ((ids al).length) c5] 28)]) (L' := C5 :: [(b8, rowO [.slice A6 ((lf al ((t : Nat) : Int)).length) c6] 28)] :: C6 :: L46 :: F) rfl rfl
                                        replace hS := hS.front 4 (C := L46) (L' := [(b6, rowO [.slice A5 ((ids al).length) c5] 28)] :: C5 :: [(b8, rowO [.slice A6 ((lf al ((t : Nat) : Int)).length) c6] 28)] :: C6 :: F) rfl rfl
                                        exact ⟨t, al, L46, A5, c5, C5, A6, c6, C6, (hA.sel [3, 4, 5, 6, 7, 28, 29, 30] rfl), hS, by omega, hT2, hM48, h5, h6⟩)
                                   · first
                                     | (exfalso; omega)
                                     | (replace hA := hA.rw 132 (v' := .bool false) rfl (vb_false hc53)
                                        refine cd_cond_f hA rfl ?_
                                        refine wp_seq ?_
                                        refine wp_region_lit ?_
                                        refine st_run tbOk 2 hA (e' := (110, .int .i64 x14.2.1) :: (109, .func (.func 5) #[] #[.pointer (some ⟨b6, 0, none⟩), .pointer (some ⟨b8, 0, none⟩)]) :: _) rfl ?_; clear hA; intro a hA
                                        exfalso; omega)))
                       · replace hS := hS.front 1 (C := L) (L' := [(b15, rowO [.int .u8 x14.1, .int .i8 x14.2.1, .int .i32 x14.2.2] 32)] :: [(b6, rowO [.slice A5 ((ids al).length) c5] 28)] :: C5 :: [(b8, rowO [.slice A6 ((lf al ((t : Nat) : Int)).length) c6] 28)] :: C6 :: F) rfl rfl
                         refine st_call0 hA rfl rfl rfl isfn6 rfl rfl (by decide) (set_ok6 hS hM x14.2.1 nn h1 h2 h3 hal (by omega) (by omega)) ?_
                         clear hA hS; rintro v w56 a ⟨L55, hM57, rfl, hS⟩ hA
                         have hT2 := hT.set x14.2.1 nn h3 h1 h2
                         refine st_run tbOk 1 hA (e' := (15, .nilIface) :: _) rfl ?_; clear hA; intro a hA
                         refine wpList_nil ?_
                         replace hA := hA.sel [3, 4, 5, 6, 7, 10, 11, 12, 15, 28, 29, 30] (e' := [(3, .pointer (some ⟨b2, 0, none⟩)), (4, .int .i64 ((t : Nat) : Int)), (5, .pointer (some ⟨b6, 0, none⟩)), (6, .pointer (some ⟨b8, 0, none⟩)), (7, .func (.func 5) #[] #[.pointer (some ⟨b6, 0, none⟩), .pointer (some ⟨b8, 0, none⟩)]), (10, .int .i64 x14.2.1), (11, .int .i64 nn), (12, .int .i64 (hasF al x14.2.1 al.length)), (15, .nilIface), (28, .slice (some ⟨b12, o13, none⟩) l.length c), (29, .int .i64 ((l.length : Nat) : Int)), (30, .int .i64 ((k : Nat) : Int))]) rfl
                         refine xt_norm ?_
                         refine wp_block ?_
                         refine wp_seq ?_
                         refine wp_region_lit ?_
                         refine st_run tbOk 3 hA (e' := (125, .bool (decide (nn < 1))) :: (124, .bool (decide (nn < 1))) :: (123, .int .i64 nn) :: _) rfl ?_; clear hA; intro a hA
                         by_cases hc58 : nn < 1
                         · first
                           | (exfalso; omega)
                           | (replace hA := hA.rw 124 (v' := .bool true) rfl (vb_true hc58)
                              replace hA := hA.rw 125 (v' := .bool true) rfl (vb_true hc58)
                              refine st_run tbOk 4 hA (e' := (122, .bool true) :: (128, .bool true) :: (127, undef) :: (126, undef) :: _) rfl ?_; clear hA; intro a hA
                              refine wpList_nil ?_
                              replace hA := hA.sel [3, 4, 5, 6, 7, 10, 11, 12, 15, 28, 29, 30, 122] (e' := [(3, .pointer (some ⟨b2, 0, none⟩)), (4, .int .i64 ((t : Nat) : Int)), (5, .pointer (some ⟨b6, 0, none⟩)), (6, .pointer (some ⟨b8, 0, none⟩)), (7, .func (.func 5) #[] #[.pointer (some ⟨b6, 0, none⟩), .pointer (some ⟨b8, 0, none⟩)]), (10, .int .i64 x14.2.1), (11, .int .i64 nn), (12, .int .i64 (hasF al x14.2.1 al.length)), (15, .nilIface), (28, .slice (some ⟨b12, o13, none⟩) l.length c), (29, .int .i64 ((l.length : Nat) : Int)), (30, .int .i64 ((k : Nat) : Int)), (122, .bool true)]) rfl
                              refine xt_norm ?_
                              refine cd_cond_t hA rfl ?_
                              refine wp_seq ?_
                              refine wp_region_lit ?_
                              refine st_run tbOk 1 hA (e' := (129, .nilIface) :: _) rfl ?_; clear hA; intro a hA
                              refine st_call0 hA rfl rfl rfl isfn7 rfl rfl (by decide) (number_nil7 hS hg) ?_
                              clear hA hS; rintro v w59 a ⟨rfl, hS⟩ hA
                              refine st_run tbOk 1 hA (e' := (131, .bool true) :: _) rfl ?_; clear hA; intro a hA
                              refine wpList_nil ?_
                              replace hA := hA.sel [3, 4, 5, 6, 7, 28, 29, 30, 131] (e' := [(3, .pointer (some ⟨b2, 0, none⟩)), (4, .int .i64 ((t : Nat) : Int)), (5, .pointer (some ⟨b6, 0, none⟩)), (6, .pointer (some ⟨b8, 0, none⟩)), (7, .func (.func 5) #[] #[.pointer (some ⟨b6, 0, none⟩), .pointer (some ⟨b8, 0, none⟩)]), (28, .slice (some ⟨b12, o13, none⟩) l.length c), (29, .int .i64 ((l.length : Nat) : Int)), (30, .int .i64 ((k : Nat) : Int)), (131, .bool true)]) rfl
                              refine xt_norm ?_
                              refine cd_cond_t hA rfl ?_
                              refine wp_seq ?_
                              refine wp_region_lit ?_
                              refine st_run tbOk 1 hA (e' := (2, .bool false) :: _) rfl ?_; clear hA; intro a hA
                              refine wpList_nil ?_
                              replace hA := hA.sel [2] (e' := [(2, .bool false)]) rfl
                              refine xt_norm ?_
                              refine wp_ret (xb_ret (xb_ret (xt_ret (xb_ret (xt_ret (xt_ret (xb_ret (xt_ret ?_))))))))
                              refine ret1 (fn := Tryd.f3) hA rfl rfl ?_
                              exfalso; omega)
                         · first
                           | (exfalso; omega)
                           | (replace hA := hA.rw 124 (v' := .bool false) rfl (vb_false hc58)
                              replace hA := hA.rw 125 (v' := .bool false) rfl (vb_false hc58)
                              refine st_run tbOk 4 hA (e' := (122, .bool (decide (nn > 1000000))) :: (128, .bool (decide (nn > 1000000))) :: (127, .bool (decide (nn > 1000000))) :: (126, .int .i64 nn) :: _) rfl ?_; clear hA; intro a hA
                              refine wpList_nil ?_
                              replace hA := hA.sel [3, 4, 5, 6, 7, 10, 11, 12, 15, 28, 29, 30, 122] (e' := [(3, .pointer (some ⟨b2, 0, none⟩)), (4, .int .i64 ((t : Nat) : Int)), (5, .pointer (some ⟨b6, 0, none⟩)), (6, .pointer (some ⟨b8, 0, none⟩)), (7, .func (.func 5) #[] #[.pointer (some ⟨b6, 0, none⟩), .pointer (some ⟨b8, 0, none⟩)]), (10, .int .i64 x14.2.1), (11, .int .i64 nn), (12, .int .i64 (hasF al x14.2.1 al.length)), (15, .nilIface), (28, .slice (some ⟨b12, o13, none⟩) l.length c), (29, .int .i64 ((l.length : Nat) : Int)), (30, .int .i64 ((k : Nat) : Int)), (122, .bool (decide (nn > 1000000)))]) rfl
                              refine xt_norm ?_
                              by_cases hc60 : nn > 1000000
                              · first
                                | (exfalso; omega)
                                | (replace hA := hA.rw 122 (v' := .bool true) rfl (vb_true hc60)
                                   refine cd_cond_t hA rfl ?_
                                   refine wp_seq ?_
                                   refine wp_region_lit ?_
                                   refine st_run tbOk 1 hA (e' := (129, .nilIface) :: _) rfl ?_; clear hA; intro a hA
                                   refine st_call0 hA rfl rfl rfl isfn7 rfl rfl (by decide) (number_nil7 hS hg) ?_
                                   clear hA hS; rintro v w61 a ⟨rfl, hS⟩ hA
                                   refine st_run tbOk 1 hA (e' := (131, .bool true) :: _) rfl ?_; clear hA; intro a hA
                                   refine wpList_nil ?_
                                   replace hA := hA.sel [3, 4, 5, 6, 7, 28, 29, 30, 131] (e' := [(3, .pointer (some ⟨b2, 0, none⟩)), (4, .int .i64 ((t : Nat) : Int)), (5, .pointer (some ⟨b6, 0, none⟩)), (6, .pointer (some ⟨b8, 0, none⟩)), (7, .func (.func 5) #[] #[.pointer (some ⟨b6, 0, none⟩), .pointer (some ⟨b8, 0, none⟩)]), (28, .slice (some ⟨b12, o13, none⟩) l.length c), (29, .int .i64 ((l.length : Nat) : Int)), (30, .int .i64 ((k : Nat) : Int)), (131, .bool true)]) rfl
                                   refine xt_norm ?_
                                   refine cd_cond_t hA rfl ?_
                                   refine wp_seq ?_
                                   refine wp_region_lit ?_
                                   refine st_run tbOk 1 hA (e' := (2, .bool false) :: _) rfl ?_; clear hA; intro a hA
                                   refine wpList_nil ?_
                                   replace hA := hA.sel [2] (e' := [(2, .bool false)]) rfl
                                   refine xt_norm ?_
                                   refine wp_ret (xb_ret (xb_ret (xt_ret (xb_ret (xt_ret (xt_ret (xb_ret (xt_ret ?_))))))))
                                   refine ret1 (fn := Tryd.f3) hA rfl rfl ?_
                                   exfalso; omega)
                              · first
                                | (exfalso; omega)
                                | (replace hA := hA.rw 122 (v' := .bool false) rfl (vb_false hc60)
                                   refine cd_cond_f hA rfl ?_
                                   refine wp_seq ?_
                                   refine wp_region_lit ?_
                                   refine st_val hA rfl rfl (by decide) (rn_load tbOk hA rfl rfl rfl rfl (cell_row (hS.heapAt 2 rfl) rfl)) ?_; clear hA; intro a hA
                                   refine st_run tbOk 3 hA (e' := (136, .int .i64 (IntKind.i64.wrap ((((ids al).length : Nat) : Int) - (hasF al x14.2.1 al.length)))) :: (135, .int .i64 (hasF al x14.2.1 al.length)) :: (134, .int .i64 (((ids al).length : Nat) : Int)) :: _) rfl ?_; clear hA; intro a hA
                                   replace hA := hA.rw 136 (v' := .int .i64 ((((ids al).length : Nat) : Int) - (hasF al x14.2.1 al.length))) rfl (wr64 (by omega) (by omega) (by omega))
                                   refine st_run tbOk 2 hA (e' := (132, .bool (decide ((((ids al).length : Nat) : Int) - (hasF al x14.2.1 al.length) ≥ 64))) :: (137, .bool (decide ((((ids al).length : Nat) : Int) - (hasF al x14.2.1 al.length) ≥ 64))) :: _) rfl ?_; clear hA; intro a hA
                                   refine wpList_nil ?_
                                   replace hA := hA.sel [3, 4, 5, 6, 7, 10, 11, 15, 28, 29, 30, 132] (e' := [(3, .pointer (some ⟨b2, 0, none⟩)), (4, .int .i64 ((t : Nat) : Int)), (5, .pointer (some ⟨b6, 0, none⟩)), (6, .pointer (some ⟨b8, 0, none⟩)), (7, .func (.func 5) #[] #[.pointer (some ⟨b6, 0, none⟩), .pointer (some ⟨b8, 0, none⟩)]), (10, .int .i64 x14.2.1), (11, .int .i64 nn), (15, .nilIface), (28, .slice (some ⟨b12, o13, none⟩) l.length c), (29, .int .i64 ((l.length : Nat) : Int)), (30, .int .i64 ((k : Nat) : Int)), (132, .bool (decide ((((ids al).length : Nat) : Int) - (hasF al x14.2.1 al.length) ≥ 64)))]) rfl
                                   refine xt_norm ?_
                                   by_cases hc62 : (((ids al).length : Nat) : Int) - (hasF al x14.2.1 al.length) ≥ 64
                                   · first
                                     | (exfalso; omega)
                                     | (replace hA := hA.rw 132 (v' := .bool true) rfl (vb_true hc62)
                                        refine cd_cond_t hA rfl ?_
                                        refine wp_seq ?_
                                        refine wp_region_lit ?_
                                        refine st_run tbOk 1 hA (e' := (138, .nilIface) :: _) rfl ?_; clear hA; intro a hA
                                        refine st_call0 hA rfl rfl rfl isfn7 rfl rfl (by decide) (number_nil7 hS hg) ?_
                                        clear hA hS; rintro v w63 a ⟨rfl, hS⟩ hA
                                        refine st_run tbOk 1 hA (e' := (140, .bool true) :: _) rfl ?_; clear hA; intro a hA
                                        refine wpList_nil ?_
                                        replace hA := hA.sel [3, 4, 5, 6, 7, 28, 29, 30, 140] (e' := [(3, .pointer (some ⟨b2, 0, none⟩)), (4, .int .i64 ((t : Nat) : Int)), (5, .pointer (some ⟨b6, 0, none⟩)), (6, .pointer (some ⟨b8, 0, none⟩)), (7, .func (.func 5) #[] #[.pointer (some ⟨b6, 0, none⟩), .pointer (some ⟨b8, 0, none⟩)]), (28, .slice (some ⟨b12, o13, none⟩) l.length c), (29, .int .i64 ((l.length : Nat) : Int)), (30, .int .i64 ((k : Nat) : Int)), (140, .bool true)]) rfl
                                        refine xt_norm ?_
                                        refine cd_cond_t hA rfl ?_
                                        refine wp_seq ?_
                                        refine wp_region_lit ?_
                                        refine st_run tbOk 1 hA (e' := (2, .bool false) :: _) rfl ?_; clear hA; intro a hA
                                        refine wpList_nil ?_
                                        replace hA := hA.sel [2] (e' := [(2, .bool false)]) rfl
                                        refine xt_norm ?_
                                        refine wp_ret (xb_ret (xb_ret (xt_ret (xb_ret (xt_ret (xt_ret (xb_ret (xt_ret ?_))))))))
                                        refine ret1 (fn := Tryd.f3) hA rfl rfl ?_
                                        exfalso; omega)
                                   · first
                                     | (exfalso; omega)
                                     | (replace hA := hA.rw 132 (v' := .bool false) rfl (vb_false hc62)
                                        refine cd_cond_f hA rfl ?_
                                        refine wp_seq ?_
                                        refine wp_region_lit ?_
                                        refine st_run tbOk 2 hA (e' := (110, .int .i64 x14.2.1) :: (109, .func (.func 5) #[] #[.pointer (some ⟨b6, 0, none⟩), .pointer (some ⟨b8, 0, none⟩)]) :: _) rfl ?_; clear hA; intro a hA
                                        rcases id_cases al x14.2.1 with hno | ⟨q, y, hy, hyi, hq⟩
                                        · replace hS := hS.front 5 (C := C6) (L' := L55 :: [(b15, rowO [.int .u8 x14.1, .int .i8 x14.2.1, .int .i32 x14.2.2] 32)] :: [(b6, rowO [.slice A5 ((ids al).length) c5] 28)] :: C5 :: [(b8, rowO [.slice A6 ((lf al ((t : Nat) : Int)).length) c6] 28)] :: F) rfl rfl
                                          replace hS := hS.front 5 (C := [(b8, rowO [.slice A6 ((lf al ((t : Nat) : Int)).length) c6] 28)]) (L' := C6 :: L55 :: [(b15, rowO [.int .u8 x14.1, .int .i8 x14.2.1, .int .i32 x14.2.2] 32)] :: [(b6, rowO [.slice A5 ((ids al).length) c5] 28)] :: C5 :: F) rfl rfl
                                          replace hS := hS.front 5 (C := C5) (L' := [(b8, rowO [.slice A6 ((lf al ((t : Nat) : Int)).length) c6] 28)] :: C6 :: L55 :: [(b15, rowO [.int .u8 x14.1, .int .i8 x14.2.1, .int .i32 x14.2.2] 32)] :: [(b6, rowO [.slice A5 ((ids al).length) c5] 28)] :: F) rfl rfl
                                          replace hS := hS.front 5 (C := [(b6, rowO [.slice A5 ((ids al).length) c5] 28)]) (L' := C5 :: [(b8, rowO [.slice A6 ((lf al ((t : Nat) : Int)).length) c6] 28)] :: C6 :: L55 :: [(b15, rowO [.int .u8 x14.1, .int .i8 x14.2.1, .int .i32 x14.2.2] 32)] :: F) rfl rfl
                                          refine st_call hA rfl rfl rfl rfl isfn5 rfl rfl (by decide) (take_no5 hS h5 h6 (by omega) (by omega) x14.2.1 (none_of hno)) ?_
                                          clear hA hS; rintro v w64 a ⟨rfl, hS⟩ hA
                                          refine wpList_nil ?_
                                          replace hA := hA.sel [3, 4, 5, 6, 7, 10, 11, 15, 28, 29, 30] (e' := [(3, .pointer (some ⟨b2, 0, none⟩)), (4, .int .i64 ((t : Nat) : Int)), (5, .pointer (some ⟨b6, 0, none⟩)), (6, .pointer (some ⟨b8, 0, none⟩)), (7, .func (.func 5) #[] #[.pointer (some ⟨b6, 0, none⟩), .pointer (some ⟨b8, 0, none⟩)]), (10, .int .i64 x14.2.1), (11, .int .i64 nn), (15, .nilIface), (28, .slice (some ⟨b12, o13, none⟩) l.length c), (29, .int .i64 ((l.length : Nat) : Int)), (30, .int .i64 ((k : Nat) : Int))]) rfl
                                          refine xt_norm ?_
                                          refine wp_seq ?_
                                          replace hS := hS.front 3 (C := C6) (L' := [(b6, rowO [.slice A5 ((ids al).length) c5] 28)] :: C5 :: [(b8, rowO [.slice A6 ((lf al ((t : Nat) : Int)).length) c6] 28)] :: L55 :: [(b15, rowO [.int .u8 x14.1, .int .i8 x14.2.1, .int .i32 x14.2.2] 32)] :: F) rfl rfl
                                          replace hS := hS.front 2 (C := C5) (L' := C6 :: [(b6, rowO [.slice A5 ((ids al).length) c5] 28)] :: [(b8, rowO [.slice A6 ((lf al ((t : Nat) : Int)).length) c6] 28)] :: L55 :: [(b15, rowO [.int .u8 x14.1, .int .i8 x14.2.1, .int .i32 x14.2.2] 32)] :: F) rfl rfl
                                          refine wp_drawN (fun w' => St w0 w' ([(b6, rowO [.slice A5 ((ids al).length) c5] 28)] :: [(b8, rowO [.slice A6 ((lf al ((t : Nat) : Int)).length) c6] 28)] :: L55 :: [(b15, rowO [.int .u8 x14.1, .int .i8 x14.2.1, .int .i32 x14.2.2] 32)] :: F)) [8, 9] [(0, true), (1, true), (4, true), (5, true)] 2 (.N [] 3 (.L [(6, false), (7, false), (8, false), (9, false)]) 6 (.L [(3, false), (7, false), (8, false), (9, false)])) 6 (.L [(2, false), (3, false), (7, false), (8, false), (9, false)]) mixed (by kernel_rfl) (by rintro c a w ⟨_, _, h, _⟩; cases h) (by rfl) (by kernel_rfl) ?_
                                          replace hS := hS.drew
                                          refine dr_y hA rfl rfl rfl (by decide) (hS.tail 2 rfl) (fun w' hS' => rn_load tbOk hA rfl rfl rfl rfl (cell_row (hS'.heapAt 0 rfl) rfl)) ?_; clear hA; intro a hA
                                          refine dr_run tbOk 1 hA (hS.tail 2 rfl) (e' := (113, .int .i64 x14.2.1) :: _) rfl ?_; clear hA; intro a hA
                                          refine dr_y hA rfl rfl rfl (by decide) (hS.tail 2 rfl) (fun w' hS' => rn_load tbOk hA rfl rfl rfl rfl (cell_row (hS'.heapAt 1 rfl) rfl)) ?_; clear hA; intro a hA
                                          refine dr_run tbOk 1 hA (hS.tail 2 rfl) (e' := (117, .int .i64 nn) :: _) rfl ?_; clear hA; intro a hA
                                          refine dr_fork ?_ ?_
                                          · refine dr_b (o := _) rfl ?_
                                            refine st_buildSlice tbOk hA hS [.int .i64 x14.2.1] rfl rfl rfl rfl rfl (by decide) (by kernel_rfl) rfl rfl (by decide) ?_; clear hA hS; intro b65 w66 a hS hA
                                            refine dr_nil (.inr (hS.tail 3 rfl)) ?_
                                            refine dr_subN ?_
                                            refine dr_fork ?_ ?_
                                            · refine dr_b (o := _) rfl ?_
                                              replace hS := hS.front 1 (C := C5) (L' := [(b65, rowO [.int .i64 x14.2.1] 3)] :: C6 :: [(b6, rowO [.slice A5 ((ids al).length) c5] 28)] :: [(b8, rowO [.slice A6 ((lf al ((t : Nat) : Int)).length) c6] 28)] :: L55 :: [(b15, rowO [.int .u8 x14.1, .int .i8 x14.2.1, .int .i32 x14.2.2] 32)] :: F) rfl rfl
                                              refine st_append tbOk hA (m := (ids al).length) (q := 1) (xs := rows encI (ids al)) (news := rows encI ([x14.2.1] : List Int)) rfl rfl rfl rfl rfl rfl rfl rfl (by decide) h5 hS ((Own.full (T := 3) (size := 1) (g := b65) (m := 1) rfl (by decide)).rd (hS.own_ 1 rfl)) (rows_one encI_ok _) (maxLen_le (by first | omega | (simp; omega))) (by show ((ids al).length + 1) * 8 ≤ 140737488355328; first | omega | (simp; omega)) rfl rfl (by decide) ?_
                                              clear hA hS; intro v67 w68 C69 a hO69 hS hA
                                              replace hO69 := Own.app (l := ids al) (l2 := ([x14.2.1] : List Int)) hO69
                                              obtain ⟨A70, c71, rfl, hmc71, hxc71⟩ := hO69.open'
                                              refine dr_nil (.inr (hS.tail 3 rfl)) ?_
                                              refine dr_subL ?_
                                              refine dr_b (o := _) rfl ?_
                                              refine st_buildSlice tbOk hA hS [.int .i64 nn] rfl rfl rfl rfl rfl (by decide) (by kernel_rfl) rfl rfl (by decide) ?_; clear hA hS; intro b72 w73 a hS hA
                                              refine dr_nil (.inr (hS.tail 4 rfl)) ?_
                                              refine dr_b (o := _) rfl ?_
                                              replace hS := hS.front 3 (C := C6) (L' := [(b72, rowO [.int .i64 nn] 3)] :: C69 :: [(b65, rowO [.int .i64 x14.2.1] 3)] :: [(b6, rowO [.slice A5 ((ids al).length) c5] 28)] :: [(b8, rowO [.slice A6 ((lf al ((t : Nat) : Int)).length) c6] 28)] :: L55 :: [(b15, rowO [.int .u8 x14.1, .int .i8 x14.2.1, .int .i32 x14.2.2] 32)] :: F) rfl rfl
                                              refine st_append tbOk hA (m := (lf al ((t : Nat) : Int)).length) (q := 1) (xs := rows encI (lf al ((t : Nat) : Int))) (news := rows encI ([nn] : List Int)) rfl rfl rfl rfl rfl rfl rfl rfl (by decide) h6 hS ((Own.full (T := 3) (size := 1) (g := b72) (m := 1) rfl (by decide)).rd (hS.own_ 1 rfl)) (rows_one encI_ok _) (maxLen_le (by first | omega | (simp; omega))) (by show ((lf al ((t : Nat) : Int)).length + 1) * 8 ≤ 140737488355328; first | omega | (simp; omega)) rfl rfl (by decide) ?_
                                              clear hA hS; intro v74 w75 C76 a hO76 hS hA
                                              replace hO76 := Own.app (l := lf al ((t : Nat) : Int)) (l2 := ([nn] : List Int)) hO76
                                              obtain ⟨A77, c78, rfl, hmc78, hxc78⟩ := hO76.open'
                                              refine dr_nil (.inr (hS.tail 4 rfl)) ?_
                                              refine dr_b (o := _) rfl ?_
                                              replace hS := hS.front 4 (C := [(b6, rowO [.slice A5 ((ids al).length) c5] 28)]) (L' := C76 :: [(b72, rowO [.int .i64 nn] 3)] :: C69 :: [(b65, rowO [.int .i64 x14.2.1] 3)] :: [(b8, rowO [.slice A6 ((lf al ((t : Nat) : Int)).length) c6] 28)] :: L55 :: [(b15, rowO [.int .u8 x14.1, .int .i8 x14.2.1, .int .i32 x14.2.2] 32)] :: F) rfl rfl
                                              refine st_store tbOk hA hS [.slice A70 (((ids al) ++ ([x14.2.1] : List Int)).length) c71] [.slice A70 (((ids al) ++ ([x14.2.1] : List Int)).length) c71] rfl rfl rfl rfl rfl rfl (by intro u hu; rw [List.mem_singleton.1 hu]; rfl) (Nat.le_of_ble_eq_true rfl) rfl rfl rfl ?_; clear hS; intro w79 hS
                                              refine dr_nil (.inl (by decide)) ?_
                                              refine dr_b (o := _) rfl ?_
                                              replace hS := hS.front 5 (C := [(b8, rowO [.slice A6 ((lf al ((t : Nat) : Int)).length) c6] 28)]) (L' := [(b6, rowO [.slice A70 (((ids al) ++ ([x14.2.1] : List Int)).length) c71] 28)] :: C76 :: [(b72, rowO [.int .i64 nn] 3)] :: C69 :: [(b65, rowO [.int .i64 x14.2.1] 3)] :: L55 :: [(b15, rowO [.int .u8 x14.1, .int .i8 x14.2.1, .int .i32 x14.2.2] 32)] :: F) rfl rfl
                                              refine st_store tbOk hA hS [.slice A77 (((lf al ((t : Nat) : Int)) ++ ([nn] : List Int)).length) c78] [.slice A77 (((lf al ((t : Nat) : Int)) ++ ([nn] : List Int)).length) c78] rfl rfl rfl rfl rfl rfl (by intro u hu; rw [List.mem_singleton.1 hu]; rfl) (Nat.le_of_ble_eq_true rfl) rfl rfl rfl ?_; clear hS; intro w80 hS
                                              refine dr_nil (.inl (by decide)) ?_
                                              refine dr_end ?_
                                              replace hA := hA.sel [3, 4, 5, 6, 7, 15, 28, 29, 30] (e' := [(3, .pointer (some ⟨b2, 0, none⟩)), (4, .int .i64 ((t : Nat) : Int)), (5, .pointer (some ⟨b6, 0, none⟩)), (6, .pointer (some ⟨b8, 0, none⟩)), (7, .func (.func 5) #[] #[.pointer (some ⟨b6, 0, none⟩), .pointer (some ⟨b8, 0, none⟩)]), (15, .nilIface), (28, .slice (some ⟨b12, o13, none⟩) l.length c), (29, .int .i64 ((l.length : Nat) : Int)), (30, .int .i64 ((k : Nat) : Int))]) rfl
                                              refine xt_norm ?_
                                              refine wp_seq ?_
                                              refine wp_region_lit ?_
                                              refine st_run tbOk 2 hA (e' := (121, .bool false) :: (120, .nilIface) :: _) rfl ?_; clear hA; intro a hA
                                              refine wpList_nil ?_
                                              replace hA := hA.sel [3, 4, 5, 6, 7, 28, 29, 30, 121] (e' := [(3, .pointer (some ⟨b2, 0, none⟩)), (4, .int .i64 ((t : Nat) : Int)), (5, .pointer (some ⟨b6, 0, none⟩)), (6, .pointer (some ⟨b8, 0, none⟩)), (7, .func (.func 5) #[] #[.pointer (some ⟨b6, 0, none⟩), .pointer (some ⟨b8, 0, none⟩)]), (28, .slice (some ⟨b12, o13, none⟩) l.length c), (29, .int .i64 ((l.length : Nat) : Int)), (30, .int .i64 ((k : Nat) : Int)), (121, .bool false)]) rfl
                                              refine xt_norm ?_
                                              refine cd_cond_f hA rfl ?_
                                              refine wp_skip ?_
                                              refine xb_norm ?_
                                              refine xb_norm ?_
                                              refine xt_norm ?_
                                              have he : (ids al) ++ ([x14.2.1] : List Int) = ids ((al.filter (fun y => !(wid x14.2.1 y))) ++ [(x14.2.1, ((t : Nat) : Int) + nn)]) := by rw [cut_no hno, ids_app, ids_one]
                                              simp only [he] at hO69 hS hA; clear he
                                              have he : (lf al ((t : Nat) : Int)) ++ ([nn] : List Int) = lf ((al.filter (fun y => !(wid x14.2.1 y))) ++ [(x14.2.1, ((t : Nat) : Int) + nn)]) ((t : Nat) : Int) := by rw [cut_no hno, lf_app, lf_one]
                                              simp only [he] at hO76 hS hA; clear he
                                              replace hS := hS.front 3 (C := [(b72, rowO [.int .i64 nn] 3)]) (L' := [(b8, rowO [.slice A77 ((lf ((al.filter (fun y => !(wid x14.2.1 y))) ++ [(x14.2.1, ((t : Nat) : Int) + nn)]) ((t : Nat) : Int)).length) c78] 28)] :: [(b6, rowO [.slice A70 ((ids ((al.filter (fun y => !(wid x14.2.1 y))) ++ [(x14.2.1, ((t : Nat) : Int) + nn)])).length) c71] 28)] :: C76 :: C69 :: [(b65, rowO [.int .i64 x14.2.1] 3)] :: L55 :: [(b15, rowO [.int .u8 x14.1, .int .i8 x14.2.1, .int .i32 x14.2.2] 32)] :: F) rfl rfl
                                              replace hS := hS.drop1
                                              replace hS := hS.front 4 (C := [(b65, rowO [.int .i64 x14.2.1] 3)]) (L' := [(b8, rowO [.slice A77 ((lf ((al.filter (fun y => !(wid x14.2.1 y))) ++ [(x14.2.1, ((t : Nat) : Int) + nn)]) ((t : Nat) : Int)).length) c78] 28)] :: [(b6, rowO [.slice A70 ((ids ((al.filter (fun y => !(wid x14.2.1 y))) ++ [(x14.2.1, ((t : Nat) : Int) + nn)])).length) c71] 28)] :: C76 :: C69 :: L55 :: [(b15, rowO [.int .u8 x14.1, .int .i8 x14.2.1, .int .i32 x14.2.2] 32)] :: F) rfl rfl
                                              replace hS := hS.drop1
                                              replace hS := hS.front 5 (C := [(b15, rowO [.int .u8 x14.1, .int .i8 x14.2.1, .int .i32 x14.2.2] 32)]) (L' := [(b8, rowO [.slice A77 ((lf ((al.filter (fun y => !(wid x14.2.1 y))) ++ [(x14.2.1, ((t : Nat) : Int) + nn)]) ((t : Nat) : Int)).length) c78] 28)] :: [(b6, rowO [.slice A70 ((ids ((al.filter (fun y => !(wid x14.2.1 y))) ++ [(x14.2.1, ((t : Nat) : Int) + nn)])).length) c71] 28)] :: C76 :: C69 :: L55 :: F) rfl rfl
                                              replace hS := hS.drop1
                                              replace hS := hS.front 2 (C := C76) (L' := [(b8, rowO [.slice A77 ((lf ((al.filter (fun y => !(wid x14.2.1 y))) ++ [(x14.2.1, ((t : Nat) : Int) + nn)]) ((t : Nat) : Int)).length) c78] 28)] :: [(b6, rowO [.slice A70 ((ids ((al.filter (fun y => !(wid x14.2.1 y))) ++ [(x14.2.1, ((t : Nat) : Int) + nn)])).length) c71] 28)] :: C69 :: L55 :: F) rfl rfl
                                              replace hS := hS.front 1 (C := [(b8, rowO [.slice A77 ((lf ((al.filter (fun y => !(wid x14.2.1 y))) ++ [(x14.2.1, ((t : Nat) : Int) + nn)]) ((t : Nat) : Int)).length) c78] 28)]) (L' := C76 :: [(b6, rowO [.slice A70 ((ids ((al.filter (fun y => !(wid x14.2.1 y))) ++ [(x14.2.1, ((t : Nat) : Int) + nn)])).length) c71] 28)] :: C69 :: L55 :: F) rfl rfl
                                              replace hS := hS.front 3 (C := C69) (L' := [(b8, rowO [.slice A77 ((lf ((al.filter (fun y => !(wid x14.2.1 y))) ++ [(x14.2.1, ((t : Nat) : Int) + nn)]) ((t : Nat) : Int)).length) c78] 28)] :: C76 :: [(b6, rowO [.slice A70 ((ids ((al.filter (fun y => !(wid x14.2.1 y))) ++ [(x14.2.1, ((t : Nat) : Int) + nn)])).length) c71] 28)] :: L55 :: F) rfl rfl
                                              replace hS := hS.front 3 (C := [(b6, rowO [.slice A70 ((ids ((al.filter (fun y => !(wid x14.2.1 y))) ++ [(x14.2.1, ((t : Nat) : Int) + nn)])).length) c71] 28)]) (L' := C69 :: [(b8, rowO [.slice A77 ((lf ((al.filter (fun y => !(wid x14.2.1 y))) ++ [(x14.2.1, ((t : Nat) : Int) + nn)]) ((t : Nat) : Int)).length) c78] 28)] :: C76 :: L55 :: F) rfl rfl
                                              replace hS := hS.front 4 (C := L55) (L' := [(b6, rowO [.slice A70 ((ids ((al.filter (fun y => !(wid x14.2.1 y))) ++ [(x14.2.1, ((t : Nat) : Int) + nn)])).length) c71] 28)] :: C69 :: [(b8, rowO [.slice A77 ((lf ((al.filter (fun y => !(wid x14.2.1 y))) ++ [(x14.2.1, ((t : Nat) : Int) + nn)]) ((t : Nat) : Int)).length) c78] 28)] :: C76 :: F) rfl rfl
                                              exact ⟨t, ((al.filter (fun y => !(wid x14.2.1 y))) ++ [(x14.2.1, ((t : Nat) : Int) + nn)]), L55, A70, c71, C69, A77, c78, C76, (hA.sel [3, 4, 5, 6, 7, 28, 29, 30] rfl), hS, by omega, hT2, hM57, hO69, hO76⟩
                                            · refine dr_b (o := _) rfl ?_
                                              refine st_buildSlice tbOk hA hS [.int .i64 nn] rfl rfl rfl rfl rfl (by decide) (by kernel_rfl) rfl rfl (by decide) ?_; clear hA hS; intro b81 w82 a hS hA
                                              refine dr_nil (.inr (hS.tail 4 rfl)) ?_
                                              refine dr_subL ?_
                                              refine dr_b (o := _) rfl ?_
                                              replace hS := hS.front 2 (C := C5) (L' := [(b81, rowO [.int .i64 nn] 3)] :: [(b65, rowO [.int .i64 x14.2.1] 3)] :: C6 :: [(b6, rowO [.slice A5 ((ids al).length) c5] 28)] :: [(b8, rowO [.slice A6 ((lf al ((t : Nat) : Int)).length) c6] 28)] :: L55 :: [(b15, rowO [.int .u8 x14.1, .int .i8 x14.2.1, .int .i32 x14.2.2] 32)] :: F) rfl rfl
                                              refine st_append tbOk hA (m := (ids al).length) (q := 1) (xs := rows encI (ids al)) (news := rows encI ([x14.2.1] : List Int)) rfl rfl rfl rfl rfl rfl rfl rfl (by decide) h5 hS ((Own.full (T := 3) (size := 1) (g := b65) (m := 1) rfl (by decide)).rd (hS.own_ 2 rfl)) (rows_one encI_ok _) (maxLen_le (by first | omega | (simp; omega))) (by show ((ids al).length + 1) * 8 ≤ 140737488355328; first | omega | (simp; omega)) rfl rfl (by decide) ?_
                                              clear hA hS; intro v83 w84 C85 a hO85 hS hA
                                              replace hO85 := Own.app (l := ids al) (l2 := ([x14.2.1] : List Int)) hO85
                                              obtain ⟨A86, c87, rfl, hmc87, hxc87⟩ := hO85.open'
                                              refine dr_nil (.inr (hS.tail 4 rfl)) ?_
                                              refine dr_b (o := _) rfl ?_
                                              replace hS := hS.front 3 (C := C6) (L' := C85 :: [(b81, rowO [.int .i64 nn] 3)] :: [(b65, rowO [.int .i64 x14.2.1] 3)] :: [(b6, rowO [.slice A5 ((ids al).length) c5] 28)] :: [(b8, rowO [.slice A6 ((lf al ((t : Nat) : Int)).length) c6] 28)] :: L55 :: [(b15, rowO [.int .u8 x14.1, .int .i8 x14.2.1, .int .i32 x14.2.2] 32)] :: F) rfl rfl
                                              refine st_append tbOk hA (m := (lf al ((t : Nat) : Int)).length) (q := 1) (xs := rows encI (lf al ((t : Nat) : Int))) (news := rows encI ([nn] : List Int)) rfl rfl rfl rfl rfl rfl rfl rfl (by decide) h6 hS ((Own.full (T := 3) (size := 1) (g := b81) (m := 1) rfl (by decide)).rd (hS.own_ 2 rfl)) (rows_one encI_ok _) (maxLen_le (by first | omega | (simp; omega))) (by show ((lf al ((t : Nat) : Int)).length + 1) * 8 ≤ 140737488355328; first | omega | (simp; omega)) rfl rfl (by decide) ?_
                                              clear hA hS; intro v88 w89 C90 a hO90 hS hA
                                              replace hO90 := Own.app (l := lf al ((t : Nat) : Int)) (l2 := ([nn] : List Int)) hO90
                                              obtain ⟨A91, c92, rfl, hmc92, hxc92⟩ := hO90.open'
                                              refine dr_nil (.inr (hS.tail 4 rfl)) ?_
                                              refine dr_b (o := _) rfl ?_
                                              replace hS := hS.front 4 (C := [(b6, rowO [.slice A5 ((ids al).length) c5] 28)]) (L' := C90 :: C85 :: [(b81, rowO [.int .i64 nn] 3)] :: [(b65, rowO [.int .i64 x14.2.1] 3)] :: [(b8, rowO [.slice A6 ((lf al ((t : Nat) : Int)).length) c6] 28)] :: L55 :: [(b15, rowO [.int .u8 x14.1, .int .i8 x14.2.1, .int .i32 x14.2.2] 32)] :: F) rfl rfl
                                              refine st_store tbOk hA hS [.slice A86 (((ids al) ++ ([x14.2.1] : List Int)).length) c87] [.slice A86 (((ids al) ++ ([x14.2.1] : List Int)).length) c87] rfl rfl rfl rfl rfl rfl (by intro u hu; rw [List.mem_singleton.1 hu]; rfl) (Nat.le_of_ble_eq_true rfl) rfl rfl rfl ?_; clear hS; intro w93 hS
                                              refine dr_nil (.inl (by decide)) ?_
                                              refine dr_b (o := _) rfl ?_
                                              replace hS := hS.front 5 (C := [(b8, rowO [.slice A6 ((lf al ((t : Nat) : Int)).length) c6] 28)]) (L' := [(b6, rowO [.slice A86 (((ids al) ++ ([x14.2.1] : List Int)).length) c87] 28)] :: C90 :: C85 :: [(b81, rowO [.int .i64 nn] 3)] :: [(b65, rowO [.int .i64 x14.2.1] 3)] :: L55 :: [(b15, rowO [.int .u8 x14.1, .int .i8 x14.2.1, .int .i32 x14.2.2] 32)] :: F) rfl rfl
                                              refine st_store tbOk hA hS [.slice A91 (((lf al ((t : Nat) : Int)) ++ ([nn] : List Int)).length) c92] [.slice A91 (((lf al ((t : Nat) : Int)) ++ ([nn] : List Int)).length) c92] rfl rfl rfl rfl rfl rfl (by intro u hu; rw [List.mem_singleton.1 hu]; rfl) (Nat.le_of_ble_eq_true rfl) rfl rfl rfl ?_; clear hS; intro w94 hS
                                              refine dr_nil (.inl (by decide)) ?_
                                              refine dr_end ?_
                                              replace hA := hA.sel [3, 4, 5, 6, 7, 15, 28, 29, 30] (e' := [(3, .pointer (some ⟨b2, 0, none⟩)), (4, .int .i64 ((t : Nat) : Int)), (5, .pointer (some ⟨b6, 0, none⟩)), (6, .pointer (some ⟨b8, 0, none⟩)), (7, .func (.func 5) #[] #[.pointer (some ⟨b6, 0, none⟩), .pointer (some ⟨b8, 0, none⟩)]), (15, .nilIface), (28, .slice (some ⟨b12, o13, none⟩) l.length c), (29, .int .i64 ((l.length : Nat) : Int)), (30, .int .i64 ((k : Nat) : Int))]) rfl
                                              refine xt_norm ?_
                                              refine wp_seq ?_
                                              refine wp_region_lit ?_
                                              refine st_run tbOk 2 hA (e' := (121, .bool false) :: (120, .nilIface) :: _) rfl ?_; clear hA; intro a hA
                                              refine wpList_nil ?_
                                              replace hA := hA.sel [3, 4, 5, 6, 7, 28, 29, 30, 121] (e' := [(3, .pointer (some ⟨b2, 0, none⟩)), (4, .int .i64 ((t : Nat) : Int)), (5, .pointer (some ⟨b6, 0, none⟩)), (6, .pointer (some ⟨b8, 0, none⟩)), (7, .func (.func 5) #[] #[.pointer (some ⟨b6, 0, none⟩), .pointer (some ⟨b8, 0, none⟩)]), (28, .slice (some ⟨b12, o13, none⟩) l.length c), (29, .int .i64 ((l.length : Nat) : Int)), (30, .int .i64 ((k : Nat) : Int)), (121, .bool false)]) rfl
                                              refine xt_norm ?_
                                              refine cd_cond_f hA rfl ?_
                                              refine wp_skip ?_
                                              refine xb_norm ?_
                                              refine xb_norm ?_
                                              refine xt_norm ?_
                                              have he : (ids al) ++ ([x14.2.1] : List Int) = ids ((al.filter (fun y => !(wid x14.2.1 y))) ++ [(x14.2.1, ((t : Nat) : Int) + nn)]) := by rw [cut_no hno, ids_app, ids_one]
                                              simp only [he] at hO85 hS hA; clear he
                                              have he : (lf al ((t : Nat) : Int)) ++ ([nn] : List Int) = lf ((al.filter (fun y => !(wid x14.2.1 y))) ++ [(x14.2.1, ((t : Nat) : Int) + nn)]) ((t : Nat) : Int) := by rw [cut_no hno, lf_app, lf_one]
                                              simp only [he] at hO90 hS hA; clear he
                                              replace hS := hS.front 4 (C := [(b81, rowO [.int .i64 nn] 3)]) (L' := [(b8, rowO [.slice A91 ((lf ((al.filter (fun y => !(wid x14.2.1 y))) ++ [(x14.2.1, ((t : Nat) : Int) + nn)]) ((t : Nat) : Int)).length) c92] 28)] :: [(b6, rowO [.slice A86 ((ids ((al.filter (fun y => !(wid x14.2.1 y))) ++ [(x14.2.1, ((t : Nat) : Int) + nn)])).length) c87] 28)] :: C90 :: C85 :: [(b65, rowO [.int .i64 x14.2.1] 3)] :: L55 :: [(b15, rowO [.int .u8 x14.1, .int .i8 x14.2.1, .int .i32 x14.2.2] 32)] :: F) rfl rfl
                                              replace hS := hS.drop1
                                              replace hS := hS.front 4 (C := [(b65, rowO [.int .i64 x14.2.1] 3)]) (L' := [(b8, rowO [.slice A91 ((lf ((al.filter (fun y => !(wid x14.2.1 y))) ++ [(x14.2.1, ((t : Nat) : Int) + nn)]) ((t : Nat) : Int)).length) c92] 28)] :: [(b6, rowO [.slice A86 ((ids ((al.filter (fun y => !(wid x14.2.1 y))) ++ [(x14.2.1, ((t : Nat) : Int) + nn)])).length) c87] 28)] :: C90 :: C85 :: L55 :: [(b15, rowO [.int .u8 x14.1, .int .i8 x14.2.1, .int .i32 x14.2.2] 32)] :: F) rfl rfl
                                              replace hS := hS.drop1
                                              replace hS := hS.front 5 (C := [(b15, rowO [.int .u8 x14.1, .int .i8 x14.2.1, .int .i32 x14.2.2] 32)]) (L' := [(b8, rowO [.slice A91 ((lf ((al.filter (fun y => !(wid x14.2.1 y))) ++ [(x14.2.1, ((t : Nat) : Int) + nn)]) ((t : Nat) : Int)).length) c92] 28)] :: [(b6, rowO [.slice A86 ((ids ((al.filter (fun y => !(wid x14.2.1 y))) ++ [(x14.2.1, ((t : Nat) : Int) + nn)])).length) c87] 28)] :: C90 :: C85 :: L55 :: F) rfl rfl
                                              replace hS := hS.drop1
                                              replace hS := hS.front 2 (C := C90) (L' := [(b8, rowO [.slice A91 ((lf ((al.filter (fun y => !(wid x14.2.1 y))) ++ [(x14.2.1, ((t : Nat) : Int) + nn)]) ((t : Nat) : Int)).length) c92] 28)] :: [(b6, rowO [.slice A86 ((ids ((al.filter (fun y => !(wid x14.2.1 y))) ++ [(x14.2.1, ((t : Nat) : Int) + nn)])).length) c87] 28)] :: C85 :: L55 :: F) rfl rfl
                                              replace hS := hS.front 1 (C := [(b8, rowO [.slice A91 ((lf ((al.filter (fun y => !(wid x14.2.1 y))) ++ [(x14.2.1, ((t : Nat) : Int) + nn)]) ((t : Nat) : Int)).length) c92] 28)]) (L' := C90 :: [(b6, rowO [.slice A86 ((ids ((al.filter (fun y => !(wid x14.2.1 y))) ++ [(x14.2.1, ((t : Nat) : Int) + nn)])).length) c87] 28)] :: C85 :: L55 :: F) rfl rfl
                                              replace hS := hS.front 3 (C := C85) (L' := [(b8, rowO [.slice A91 ((lf ((al.filter (fun y => !(wid x14.2.1 y))) ++ [(x14.2.1, ((t : Nat) : Int) + nn)]) ((t : Nat) : Int)).length) c92] 28)] :: C90 :: [(b6, rowO [.slice A86 ((ids ((al.filter (fun y => !(wid x14.2.1 y))) ++ [(x14.2.1, ((t : Nat) : Int) + nn)])).length) c87] 28)] :: L55 :: F) rfl rfl
                                              replace hS := hS.front 3 (C := [(b6, rowO [.slice A86 ((ids ((al.filter (fun y => !(wid x14.2.1 y))) ++ [(x14.2.1, ((t : Nat) : Int) + nn)])).length) c87] 28)]) (L' := C85 :: [(b8, rowO [.slice A91 ((lf ((al.filter (fun y => !(wid x14.2.1 y))) ++ [(x14.2.1, ((t : Nat) : Int) + nn)]) ((t : Nat) : Int)).length) c92] 28)] :: C90 :: L55 :: F) rfl rfl
                                              replace hS := hS.front 4 (C := L55) (L' := [(b6, rowO [.slice A86 ((ids ((al.filter (fun y => !(wid x14.2.1 y))) ++ [(x14.2.1, ((t : Nat) : Int) + nn)])).length) c87] 28)] :: C85 :: [(b8, rowO [.slice A91 ((lf ((al.filter (fun y => !(wid x14.2.1 y))) ++ [(x14.2.1, ((t : Nat) : Int) + nn)]) ((t : Nat) : Int)).length) c92] 28)] :: C90 :: F) rfl rfl
                                              exact ⟨t, ((al.filter (fun y => !(wid x14.2.1 y))) ++ [(x14.2.1, ((t : Nat) : Int) + nn)]), L55, A86, c87, C85, A91, c92, C90, (hA.sel [3, 4, 5, 6, 7, 28, 29, 30] rfl), hS, by omega, hT2, hM57, hO85, hO90⟩
                                          · refine dr_b (o := _) rfl ?_
                                            refine st_buildSlice tbOk hA hS [.int .i64 nn] rfl rfl rfl rfl rfl (by decide) (by kernel_rfl) rfl rfl (by decide) ?_; clear hA hS; intro b95 w96 a hS hA
                                            refine dr_nil (.inr (hS.tail 3 rfl)) ?_
                                            refine dr_subL ?_
                                            refine dr_b (o := _) rfl ?_
                                            refine st_buildSlice tbOk hA hS [.int .i64 x14.2.1] rfl rfl rfl rfl rfl (by decide) (by kernel_rfl) rfl rfl (by decide) ?_; clear hA hS; intro b97 w98 a hS hA
                                            refine dr_nil (.inr (hS.tail 4 rfl)) ?_
                                            refine dr_b (o := _) rfl ?_
                                            replace hS := hS.front 2 (C := C5) (L' := [(b97, rowO [.int .i64 x14.2.1] 3)] :: [(b95, rowO [.int .i64 nn] 3)] :: C6 :: [(b6, rowO [.slice A5 ((ids al).length) c5] 28)] :: [(b8, rowO [.slice A6 ((lf al ((t : Nat) : Int)).length) c6] 28)] :: L55 :: [(b15, rowO [.int .u8 x14.1, .int .i8 x14.2.1, .int .i32 x14.2.2] 32)] :: F) rfl rfl
                                            refine st_append tbOk hA (m := (ids al).length) (q := 1) (xs := rows encI (ids al)) (news := rows encI ([x14.2.1] : List Int)) rfl rfl rfl rfl rfl rfl rfl rfl (by decide) h5 hS ((Own.full (T := 3) (size := 1) (g := b97) (m := 1) rfl (by decide)).rd (hS.own_ 1 rfl)) (rows_one encI_ok _) (maxLen_le (by first | omega | (simp; omega))) (by show ((ids al).length + 1) * 8 ≤ 140737488355328; first | omega | (simp; omega)) rfl rfl (by decide) ?_
                                            clear hA hS; intro v99 w100 C101 a hO101 hS hA
                                            replace hO101 := Own.app (l := ids al) (l2 := ([x14.2.1] : List Int)) hO101
                                            obtain ⟨A102, c103, rfl, hmc103, hxc103⟩ := hO101.open'
                                            refine dr_nil (.inr (hS.tail 4 rfl)) ?_
                                            refine dr_b (o := _) rfl ?_
                                            replace hS := hS.front 3 (C := C6) (L' := C101 :: [(b97, rowO [.int .i64 x14.2.1] 3)] :: [(b95, rowO [.int .i64 nn] 3)] :: [(b6, rowO [.slice A5 ((ids al).length) c5] 28)] :: [(b8, rowO [.slice A6 ((lf al ((t : Nat) : Int)).length) c6] 28)] :: L55 :: [(b15, rowO [.int .u8 x14.1, .int .i8 x14.2.1, .int .i32 x14.2.2] 32)] :: F) rfl rfl
                                            refine st_append tbOk hA (m := (lf al ((t : Nat) : Int)).length) (q := 1) (xs := rows encI (lf al ((t : Nat) : Int))) (news := rows encI ([nn] : List Int)) rfl rfl rfl rfl rfl rfl rfl rfl (by decide) h6 hS ((Own.full (T := 3) (size := 1) (g := b95) (m := 1) rfl (by decide)).rd (hS.own_ 3 rfl)) (rows_one encI_ok _) (maxLen_le (by first | omega | (simp; omega))) (by show ((lf al ((t : Nat) : Int)).length + 1) * 8 ≤ 140737488355328; first | omega | (simp; omega)) rfl rfl (by decide) ?_
                                            clear hA hS; intro v104 w105 C106 a hO106 hS hA
                                            replace hO106 := Own.app (l := lf al ((t : Nat) : Int)) (l2 := ([nn] : List Int)) hO106
                                            obtain ⟨A107, c108, rfl, hmc108, hxc108⟩ := hO106.open'
                                            refine dr_nil (.inr (hS.tail 4 rfl)) ?_
                                            refine dr_b (o := _) rfl ?_
                                            replace hS := hS.front 4 (C := [(b6, rowO [.slice A5 ((ids al).length) c5] 28)]) (L' := C106 :: C101 :: [(b97, rowO [.int .i64 x14.2.1] 3)] :: [(b95, rowO [.int .i64 nn] 3)] :: [(b8, rowO [.slice A6 ((lf al ((t : Nat) : Int)).length) c6] 28)] :: L55 :: [(b15, rowO [.int .u8 x14.1, .int .i8 x14.2.1, .int .i32 x14.2.2] 32)] :: F) rfl rfl
                                            refine st_store tbOk hA hS [.slice A102 (((ids al) ++ ([x14.2.1] : List Int)).length) c103] [.slice A102 (((ids al) ++ ([x14.2.1] : List Int)).length) c103] rfl rfl rfl rfl rfl rfl (by intro u hu; rw [List.mem_singleton.1 hu]; rfl) (Nat.le_of_ble_eq_true rfl) rfl rfl rfl ?_; clear hS; intro w109 hS
                                            refine dr_nil (.inl (by decide)) ?_
                                            refine dr_b (o := _) rfl ?_
                                            replace hS := hS.front 5 (C := [(b8, rowO [.slice A6 ((lf al ((t : Nat) : Int)).length) c6] 28)]) (L' := [(b6, rowO [.slice A102 (((ids al) ++ ([x14.2.1] : List Int)).length) c103] 28)] :: C106 :: C101 :: [(b97, rowO [.int .i64 x14.2.1] 3)] :: [(b95, rowO [.int .i64 nn] 3)] :: L55 :: [(b15, rowO [.int .u8 x14.1, .int .i8 x14.2.1, .int .i32 x14.2.2] 32)] :: F) rfl rfl
                                            refine st_store tbOk hA hS [.slice A107 (((lf al ((t : Nat) : Int)) ++ ([nn] : List Int)).length) c108] [.slice A107 (((lf al ((t : Nat) : Int)) ++ ([nn] : List Int)).length) c108] rfl rfl rfl rfl rfl rfl (by intro u hu; rw [List.mem_singleton.1 hu]; rfl) (Nat.le_of_ble_eq_true rfl) rfl rfl rfl ?_; clear hS; intro w110 hS
                                            refine dr_nil (.inl (by decide)) ?_
                                            refine dr_end ?_
                                            replace hA := hA.sel [3, 4, 5, 6, 7, 15, 28, 29, 30] (e' := [(3, .pointer (some ⟨b2, 0, none⟩)), (4, .int .i64 ((t : Nat) : Int)), (5, .pointer (some ⟨b6, 0, none⟩)), (6, .pointer (some ⟨b8, 0, none⟩)), (7, .func (.func 5) #[] #[.pointer (some ⟨b6, 0, none⟩), .pointer (some ⟨b8, 0, none⟩)]), (15, .nilIface), (28, .slice (some ⟨b12, o13, none⟩) l.length c), (29, .int .i64 ((l.length : Nat) : Int)), (30, .int .i64 ((k : Nat) : Int))]) rfl
                                            refine xt_norm ?_
                                            refine wp_seq ?_
                                            refine wp_region_lit ?_
                                            refine st_run tbOk 2 hA (e' := (121, .bool false) :: (120, .nilIface) :: _) rfl ?_; clear hA; intro a hA
                                            refine wpList_nil ?_
                                            replace hA := hA.sel [3, 4, 5, 6, 7, 28, 29, 30, 121] (e' := [(3, .pointer (some ⟨b2, 0, none⟩)), (4, .int .i64 ((t : Nat) : Int)), (5, .pointer (some ⟨b6, 0, none⟩)), (6, .pointer (some ⟨b8, 0, none⟩)), (7, .func (.func 5) #[] #[.pointer (some ⟨b6, 0, none⟩), .pointer (some ⟨b8, 0, none⟩)]), (28, .slice (some ⟨b12, o13, none⟩) l.length c), (29, .int .i64 ((l.length : Nat) : Int)), (30, .int .i64 ((k : Nat) : Int)), (121, .bool false)]) rfl
                                            refine xt_norm ?_
                                            refine cd_cond_f hA rfl ?_
                                            refine wp_skip ?_
                                            refine xb_norm ?_
                                            refine xb_norm ?_
                                            refine xt_norm ?_
                                            have he : (ids al) ++ ([x14.2.1] : List Int) = ids ((al.filter (fun y => !(wid x14.2.1 y))) ++ [(x14.2.1, ((t : Nat) : Int) + nn)]) := by rw [cut_no hno, ids_app, ids_one]
                                            simp only [he] at hO101 hS hA; clear he
                                            have he : (lf al ((t : Nat) : Int)) ++ ([nn] : List Int) = lf ((al.filter (fun y => !(wid x14.2.1 y))) ++ [(x14.2.1, ((t : Nat) : Int) + nn)]) ((t : Nat) : Int) := by rw [cut_no hno, lf_app, lf_one]
                                            simp only [he] at hO106 hS hA; clear he
                                            replace hS := hS.front 4 (C := [(b97, rowO [.int .i64 x14.2.1] 3)]) (L' := [(b8, rowO [.slice A107 ((lf ((al.filter (fun y => !(wid x14.2.1 y))) ++ [(x14.2.1, ((t : Nat) : Int) + nn)]) ((t : Nat) : Int)).length) c108] 28)] :: [(b6, rowO [.slice A102 ((ids ((al.filter (fun y => !(wid x14.2.1 y))) ++ [(x14.2.1, ((t : Nat) : Int) + nn)])).length) c103] 28)] :: C106 :: C101 :: [(b95, rowO [.int .i64 nn] 3)] :: L55 :: [(b15, rowO [.int .u8 x14.1, .int .i8 x14.2.1, .int .i32 x14.2.2] 32)] :: F) rfl rfl
                                            replace hS := hS.drop1
                                            replace hS := hS.front 4 (C := [(b95, rowO [.int .i64 nn] 3)]) (L' := [(b8, rowO [.slice A107 ((lf ((al.filter (fun y => !(wid x14.2.1 y))) ++ [(x14.2.1, ((t : Nat) : Int) + nn)]) ((t : Nat) : Int)).length) c108] 28)] :: [(b6, rowO [.slice A102 ((ids ((al.filter (fun y => !(wid x14.2.1 y))) ++ [(x14.2.1, ((t : Nat) : Int) + nn)])).length) c103] 28)] :: C106 :: C101 :: L55 :: [(b15, rowO [.int .u8 x14.1, .int .i8 x14.2.1, .int .i32 x14.2.2] 32)] :: F) rfl rfl
                                            replace hS := hS.drop1
                                            replace hS := hS.front 5 (C := [(b15, rowO [.int .u8 x14.1, .int .i8 x14.2.1, .int .i32 x14.2.2] 32)]) (L' := [(b8, rowO [.slice A107 ((lf ((al.filter (fun y => !(wid x14.2.1 y))) ++ [(x14.2.1, ((t : Nat) : Int) + nn)]) ((t : Nat) : Int)).length) c108] 28)] :: [(b6, rowO [.slice A102 ((ids ((al.filter (fun y => !(wid x14.2.1 y))) ++ [(x14.2.1, ((t : Nat) : Int) + nn)])).length) c103] 28)] :: C106 :: C101 :: L55 :: F) rfl rfl
                                            replace hS := hS.drop1
                                            replace hS := hS.front 2 (C := C106) (L' := [(b8, rowO [.slice A107 ((lf ((al.filter (fun y => !(wid x14.2.1 y))) ++ [(x14.2.1, ((t : Nat) : Int) + nn)]) ((t : Nat) : Int)).length) c108] 28)] :: [(b6, rowO [.slice A102 ((ids ((al.filter (fun y => !(wid x14.2.1 y))) ++ [(x14.2.1, ((t : Nat) : Int) + nn)])).length) c103] 28)] :: C101 :: L55 :: F) rfl rfl
                                            replace hS := hS.front 1 (C := [(b8, rowO [.slice A107 ((lf ((al.filter (fun y => !(wid x14.2.1 y))) ++ [(x14.2.1, ((t : Nat) : Int) + nn)]) ((t : Nat) : Int)).length) c108] 28)]) (L' := C106 :: [(b6, rowO [.slice A102 ((ids ((al.filter (fun y => !(wid x14.2.1 y))) ++ [(x14.2.1, ((t : Nat) : Int) + nn)])).length) c103] 28)] :: C101 :: L55 :: F) rfl rfl
                                            replace hS := hS.front 3 (C := C101) (L' := [(b8, rowO [.slice A107 ((lf ((al.filter (fun y => !(wid x14.2.1 y))) ++ [(x14.2.1, ((t : Nat) : Int) + nn)]) ((t : Nat) : Int)).length) c108] 28)] :: C106 :: [(b6, rowO [.slice A102 ((ids ((al.filter (fun y => !(wid x14.2.1 y))) ++ [(x14.2.1, ((t : Nat) : Int) + nn)])).length) c103] 28)] :: L55 :: F) rfl rfl
                                            replace hS := hS.front 3 (C := [(b6, rowO [.slice A102 ((ids ((al.filter (fun y => !(wid x14.2.1 y))) ++ [(x14.2.1, ((t : Nat) : Int) + nn)])).length) c103] 28)]) (L' := C101 :: [(b8, rowO [.slice A107 ((lf ((al.filter (fun y => !(wid x14.2.1 y))) ++ [(x14.2.1, ((t : Nat) : Int) + nn)]) ((t : Nat) : Int)).length) c108] 28)] :: C106 :: L55 :: F) rfl rfl
                                            replace hS := hS.front 4 (C := L55) (L' := [(b6, rowO [.slice A102 ((ids ((al.filter (fun y => !(wid x14.2.1 y))) ++ [(x14.2.1, ((t : Nat) : Int) + nn)])).length) c103] 28)] :: C101 :: [(b8, rowO [.slice A107 ((lf ((al.filter (fun y => !(wid x14.2.1 y))) ++ [(x14.2.1, ((t : Nat) : Int) + nn)]) ((t : Nat) : Int)).length) c108] 28)] :: C106 :: F) rfl rfl
                                            exact ⟨t, ((al.filter (fun y => !(wid x14.2.1 y))) ++ [(x14.2.1, ((t : Nat) : Int) + nn)]), L55, A102, c103, C101, A107, c108, C106, (hA.sel [3, 4, 5, 6, 7, 28, 29, 30] rfl), hS, by omega, hT2, hM57, hO101, hO106⟩
                                        · replace hS := hS.front 5 (C := C6) (L' := L55 :: [(b15, rowO [.int .u8 x14.1, .int .i8 x14.2.1, .int .i32 x14.2.2] 32)] :: [(b6, rowO [.slice A5 ((ids al).length) c5] 28)] :: C5 :: [(b8, rowO [.slice A6 ((lf al ((t : Nat) : Int)).length) c6] 28)] :: F) rfl rfl
                                          replace hS := hS.front 5 (C := [(b8, rowO [.slice A6 ((lf al ((t : Nat) : Int)).length) c6] 28)]) (L' := C6 :: L55 :: [(b15, rowO [.int .u8 x14.1, .int .i8 x14.2.1, .int .i32 x14.2.2] 32)] :: [(b6, rowO [.slice A5 ((ids al).length) c5] 28)] :: C5 :: F) rfl rfl
                                          replace hS := hS.front 5 (C := C5) (L' := [(b8, rowO [.slice A6 ((lf al ((t : Nat) : Int)).length) c6] 28)] :: C6 :: L55 :: [(b15, rowO [.int .u8 x14.1, .int .i8 x14.2.1, .int .i32 x14.2.2] 32)] :: [(b6, rowO [.slice A5 ((ids al).length) c5] 28)] :: F) rfl rfl
                                          replace hS := hS.front 5 (C := [(b6, rowO [.slice A5 ((ids al).length) c5] 28)]) (L' := C5 :: [(b8, rowO [.slice A6 ((lf al ((t : Nat) : Int)).length) c6] 28)] :: C6 :: L55 :: [(b15, rowO [.int .u8 x14.1, .int .i8 x14.2.1, .int .i32 x14.2.2] 32)] :: F) rfl rfl
                                          refine st_call hA rfl rfl rfl rfl isfn5 rfl rfl (by decide) (take_yes5 hS h5 h6 (by omega) (by omega) x14.2.1 q (by have h := ids_get hy; rw [hyi] at h; exact h) (by have h := first_of hT.nd hy; rw [hyi] at h; exact h)) ?_
                                          clear hA hS; rintro v w111 a ⟨u112, C113, u114, C115, hOC113, hOC115, rfl, hS⟩ hA
                                          obtain ⟨A116, c117, rfl, hmc117, hxc117⟩ := hOC113.open'
                                          obtain ⟨A118, c119, rfl, hmc119, hxc119⟩ := hOC115.open'
                                          have hlc5 : ((ids al).take q ++ (ids al).drop (q + 1)).length + 1 = al.length := by simp; omega
                                          have hlc6 : ((lf al ((t : Nat) : Int)).take q ++ (lf al ((t : Nat) : Int)).drop (q + 1)).length + 1 = al.length := by simp; omega
                                          refine wpList_nil ?_
                                          replace hA := hA.sel [3, 4, 5, 6, 7, 10, 11, 15, 28, 29, 30] (e' := [(3, .pointer (some ⟨b2, 0, none⟩)), (4, .int .i64 ((t : Nat) : Int)), (5, .pointer (some ⟨b6, 0, none⟩)), (6, .pointer (some ⟨b8, 0, none⟩)), (7, .func (.func 5) #[] #[.pointer (some ⟨b6, 0, none⟩), .pointer (some ⟨b8, 0, none⟩)]), (10, .int .i64 x14.2.1), (11, .int .i64 nn), (15, .nilIface), (28, .slice (some ⟨b12, o13, none⟩) l.length c), (29, .int .i64 ((l.length : Nat) : Int)), (30, .int .i64 ((k : Nat) : Int))]) rfl
                                          refine xt_norm ?_
                                          refine wp_seq ?_
                                          replace hS := hS.front 3 (C := C115) (L' := [(b6, rowO [.slice A116 (((ids al).take q ++ (ids al).drop (q + 1)).length) c117] 28)] :: C113 :: [(b8, rowO [.slice A118 (((lf al ((t : Nat) : Int)).take q ++ (lf al ((t : Nat) : Int)).drop (q + 1)).length) c119] 28)] :: L55 :: [(b15, rowO [.int .u8 x14.1, .int .i8 x14.2.1, .int .i32 x14.2.2] 32)] :: F) rfl rfl
                                          replace hS := hS.front 2 (C := C113) (L' := C115 :: [(b6, rowO [.slice A116 (((ids al).take q ++ (ids al).drop (q + 1)).length) c117] 28)] :: [(b8, rowO [.slice A118 (((lf al ((t : Nat) : Int)).take q ++ (lf al ((t : Nat) : Int)).drop (q + 1)).length) c119] 28)] :: L55 :: [(b15, rowO [.int .u8 x14.1, .int .i8 x14.2.1, .int .i32 x14.2.2] 32)] :: F) rfl rfl
                                          refine wp_drawN (fun w' => St w0 w' ([(b6, rowO [.slice A116 (((ids al).take q ++ (ids al).drop (q + 1)).length) c117] 28)] :: [(b8, rowO [.slice A118 (((lf al ((t : Nat) : Int)).take q ++ (lf al ((t : Nat) : Int)).drop (q + 1)).length) c119] 28)] :: L55 :: [(b15, rowO [.int .u8 x14.1, .int .i8 x14.2.1, .int .i32 x14.2.2] 32)] :: F)) [8, 9] [(0, true), (1, true), (4, true), (5, true)] 2 (.N [] 3 (.L [(6, false), (7, false), (8, false), (9, false)]) 6 (.L [(3, false), (7, false), (8, false), (9, false)])) 6 (.L [(2, false), (3, false), (7, false), (8, false), (9, false)]) mixed (by kernel_rfl) (by rintro c a w ⟨_, _, h, _⟩; cases h) (by rfl) (by kernel_rfl) ?_
                                          replace hS := hS.drew
                                          refine dr_y hA rfl rfl rfl (by decide) (hS.tail 2 rfl) (fun w' hS' => rn_load tbOk hA rfl rfl rfl rfl (cell_row (hS'.heapAt 0 rfl) rfl)) ?_; clear hA; intro a hA
                                          refine dr_run tbOk 1 hA (hS.tail 2 rfl) (e' := (113, .int .i64 x14.2.1) :: _) rfl ?_; clear hA; intro a hA
                                          refine dr_y hA rfl rfl rfl (by decide) (hS.tail 2 rfl) (fun w' hS' => rn_load tbOk hA rfl rfl rfl rfl (cell_row (hS'.heapAt 1 rfl) rfl)) ?_; clear hA; intro a hA
                                          refine dr_run tbOk 1 hA (hS.tail 2 rfl) (e' := (117, .int .i64 nn) :: _) rfl ?_; clear hA; intro a hA
                                          refine dr_fork ?_ ?_
                                          · refine dr_b (o := _) rfl ?_
                                            refine st_buildSlice tbOk hA hS [.int .i64 x14.2.1] rfl rfl rfl rfl rfl (by decide) (by kernel_rfl) rfl rfl (by decide) ?_; clear hA hS; intro b120 w121 a hS hA
                                            refine dr_nil (.inr (hS.tail 3 rfl)) ?_
                                            refine dr_subN ?_
                                            refine dr_fork ?_ ?_
                                            · refine dr_b (o := _) rfl ?_
                                              replace hS := hS.front 1 (C := C113) (L' := [(b120, rowO [.int .i64 x14.2.1] 3)] :: C115 :: [(b6, rowO [.slice A116 (((ids al).take q ++ (ids al).drop (q + 1)).length) c117] 28)] :: [(b8, rowO [.slice A118 (((lf al ((t : Nat) : Int)).take q ++ (lf al ((t : Nat) : Int)).drop (q + 1)).length) c119] 28)] :: L55 :: [(b15, rowO [.int .u8 x14.1, .int .i8 x14.2.1, .int .i32 x14.2.2] 32)] :: F) rfl rfl
                                              refine st_append tbOk hA (m := ((ids al).take q ++ (ids al).drop (q + 1)).length) (q := 1) (xs := rows encI ((ids al).take q ++ (ids al).drop (q + 1))) (news := rows encI ([x14.2.1] : List Int)) rfl rfl rfl rfl rfl rfl rfl rfl (by decide) hOC113 hS ((Own.full (T := 3) (size := 1) (g := b120) (m := 1) rfl (by decide)).rd (hS.own_ 1 rfl)) (rows_one encI_ok _) (maxLen_le (by first | omega | (simp; omega))) (by show (((ids al).take q ++ (ids al).drop (q + 1)).length + 1) * 8 ≤ 140737488355328; first | omega | (simp; omega)) rfl rfl (by decide) ?_
                                              clear hA hS; intro v122 w123 C124 a hO124 hS hA
                                              replace hO124 := Own.app (l := (ids al).take q ++ (ids al).drop (q + 1)) (l2 := ([x14.2.1] : List Int)) hO124
                                              obtain ⟨A125, c126, rfl, hmc126, hxc126⟩ := hO124.open'
                                              refine dr_nil (.inr (hS.tail 3 rfl)) ?_
                                              refine dr_subL ?_
                                              refine dr_b (o := _) rfl ?_
                                              refine st_buildSlice tbOk hA hS [.int .i64 nn] rfl rfl rfl rfl rfl (by decide) (by kernel_rfl) rfl rfl (by decide) ?_; clear hA hS; intro b127 w128 a hS hA
                                              refine dr_nil (.inr (hS.tail 4 rfl)) ?_
                                              refine dr_b (o := _) rfl ?_
                                              replace hS := hS.front 3 (C := C115) (L' := [(b127, rowO [.int .i64 nn] 3)] :: C124 :: [(b120, rowO [.int .i64 x14.2.1] 3)] :: [(b6, rowO [.slice A116 (((ids al).take q ++ (ids al).drop (q + 1)).length) c117] 28)] :: [(b8, rowO [.slice A118 (((lf al ((t : Nat) : Int)).take q ++ (lf al ((t : Nat) : Int)).drop (q + 1)).length) c119] 28)] :: L55 :: [(b15, rowO [.int .u8 x14.1, .int .i8 x14.2.1, .int .i32 x14.2.2] 32)] :: F) rfl rfl
                                              refine st_append tbOk hA (m := ((lf al ((t : Nat) : Int)).take q ++ (lf al ((t : Nat) : Int)).drop (q + 1)).length) (q := 1) (xs := rows encI ((lf al ((t : Nat) : Int)).take q ++ (lf al ((t : Nat) : Int)).drop (q + 1))) (news := rows encI ([nn] : List Int)) rfl rfl rfl rfl rfl rfl rfl rfl (by decide) hOC115 hS ((Own.full (T := 3) (size := 1) (g := b127) (m := 1) rfl (by decide)).rd (hS.own_ 1 rfl)) (rows_one encI_ok _) (maxLen_le (by first | omega | (simp; omega))) (by show (((lf al ((t : Nat) : Int)).take q ++ (lf al ((t : Nat) : Int)).drop (q + 1)).length + 1) * 8 ≤ 140737488355328; first | omega | (simp; omega)) rfl rfl (by decide) ?_
                                              clear hA hS; intro v129 w130 C131 a hO131 hS hA
                                              replace hO131 := Own.app (l := (lf al ((t : Nat) : Int)).take q ++ (lf al ((t : Nat) : Int)).drop (q + 1)) (l2 := ([nn] : List Int)) hO131
                                              obtain ⟨A132, c133, rfl, hmc133, hxc133⟩ := hO131.open'
                                              refine dr_nil (.inr (hS.tail 4 rfl)) ?_
                                              refine dr_b (o := _) rfl ?_
                                              replace hS := hS.front 4 (C := [(b6, rowO [.slice A116 (((ids al).take q ++ (ids al).drop (q + 1)).length) c117] 28)]) (L' := C131 :: [(b127, rowO [.int .i64 nn] 3)] :: C124 :: [(b120, rowO [.int .i64 x14.2.1] 3)] :: [(b8, rowO [.slice A118 (((lf al ((t : Nat) : Int)).take q ++ (lf al ((t : Nat) : Int)).drop (q + 1)).length) c119] 28)] :: L55 :: [(b15, rowO [.int .u8 x14.1, .int .i8 x14.2.1, .int .i32 x14.2.2] 32)] :: F) rfl rfl
                                              refine st_store tbOk hA hS [.slice A125 ((((ids al).take q ++ (ids al).drop (q + 1)) ++ ([x14.2.1] : List Int)).length) c126] [.slice A125 ((((ids al).take q ++ (ids al).drop (q + 1)) ++ ([x14.2.1] : List Int)).length) c126] rfl rfl rfl rfl rfl rfl (by intro u hu; rw [List.mem_singleton.1 hu]; rfl) (Nat.le_of_ble_eq_true rfl) rfl rfl rfl ?_; clear hS; intro w134 hS
                                              refine dr_nil (.inl (by decide)) ?_
                                              refine dr_b (o := _) rfl ?_
                                              replace hS := hS.front 5 (C := [(b8, rowO [.slice A118 (((lf al ((t : Nat) : Int)).take q ++ (lf al ((t : Nat) : Int)).drop (q + 1)).length) c119] 28)]) (L' := [(b6, rowO [.slice A125 ((((ids al).take q ++ (ids al).drop (q + 1)) ++ ([x14.2.1] : List Int)).length) c126] 28)] :: C131 :: [(b127, rowO [.int .i64 nn] 3)] :: C124 :: [(b120, rowO [.int .i64 x14.2.1] 3)] :: L55 :: [(b15, rowO [.int .u8 x14.1, .int .i8 x14.2.1, .int .i32 x14.2.2] 32)] :: F) rfl rfl
                                              refine st_store tbOk hA hS [.slice A132 ((((lf al ((t : Nat) : Int)).take q ++ (lf al ((t : Nat) : Int)).drop (q + 1)) ++ ([nn] : List Int)).length) c133] [.slice A132 ((((lf al ((t : Nat) : Int)).take q ++ (lf al ((t : Nat) : Int)).drop (q + 1)) ++ ([nn] : List Int)).length) c133] rfl rfl rfl rfl rfl rfl (by intro u hu; rw [List.mem_singleton.1 hu]; rfl) (Nat.le_of_ble_eq_true rfl) rfl rfl rfl ?_; clear hS; intro w135 hS
                                              refine dr_nil (.inl (by decide)) ?_
                                              refine dr_end ?_
                                              replace hA := hA.sel [3, 4, 5, 6, 7, 15, 28, 29, 30] (e' := [(3, .pointer (some ⟨b2, 0, none⟩)), (4, .int .i64 ((t : Nat) : Int)), (5, .pointer (some ⟨b6, 0, none⟩)), (6, .pointer (some ⟨b8, 0, none⟩)), (7, .func (.func 5) #[] #[.pointer (some ⟨b6, 0, none⟩), .pointer (some ⟨b8, 0, none⟩)]), (15, .nilIface), (28, .slice (some ⟨b12, o13, none⟩) l.length c), (29, .int .i64 ((l.length : Nat) : Int)), (30, .int .i64 ((k : Nat) : Int))]) rfl
                                              refine xt_norm ?_
                                              refine wp_seq ?_
                                              refine wp_region_lit ?_
                                              refine st_run tbOk 2 hA (e' := (121, .bool false) :: (120, .nilIface) :: _) rfl ?_; clear hA; intro a hA
                                              refine wpList_nil ?_
                                              replace hA := hA.sel [3, 4, 5, 6, 7, 28, 29, 30, 121] (e' := [(3, .pointer (some ⟨b2, 0, none⟩)), (4, .int .i64 ((t : Nat) : Int)), (5, .pointer (some ⟨b6, 0, none⟩)), (6, .pointer (some ⟨b8, 0, none⟩)), (7, .func (.func 5) #[] #[.pointer (some ⟨b6, 0, none⟩), .pointer (some ⟨b8, 0, none⟩)]), (28, .slice (some ⟨b12, o13, none⟩) l.length c), (29, .int .i64 ((l.length : Nat) : Int)), (30, .int .i64 ((k : Nat) : Int)), (121, .bool false)]) rfl
                                              refine xt_norm ?_
                                              refine cd_cond_f hA rfl ?_
                                              refine wp_skip ?_
                                              refine xb_norm ?_
                                              refine xb_norm ?_
                                              refine xt_norm ?_
                                              have he : ((ids al).take q ++ (ids al).drop (q + 1)) ++ ([x14.2.1] : List Int) = ids ((al.filter (fun y => !(wid x14.2.1 y))) ++ [(x14.2.1, ((t : Nat) : Int) + nn)]) := by rw [cut_at hT.nd hy hyi, ids_app, ids_one, ids_cut]
                                              simp only [he] at hO124 hS hA; clear he
                                              have he : ((lf al ((t : Nat) : Int)).take q ++ (lf al ((t : Nat) : Int)).drop (q + 1)) ++ ([nn] : List Int) = lf ((al.filter (fun y => !(wid x14.2.1 y))) ++ [(x14.2.1, ((t : Nat) : Int) + nn)]) ((t : Nat) : Int) := by rw [cut_at hT.nd hy hyi, lf_app, lf_one, lf_cut]
                                              simp only [he] at hO131 hS hA; clear he
                                              replace hS := hS.front 3 (C := [(b127, rowO [.int .i64 nn] 3)]) (L' := [(b8, rowO [.slice A132 ((lf ((al.filter (fun y => !(wid x14.2.1 y))) ++ [(x14.2.1, ((t : Nat) : Int) + nn)]) ((t : Nat) : Int)).length) c133] 28)] :: [(b6, rowO [.slice A125 ((ids ((al.filter (fun y => !(wid x14.2.1 y))) ++ [(x14.2.1, ((t : Nat) : Int) + nn)])).length) c126] 28)] :: C131 :: C124 :: [(b120, rowO [.int .i64 x14.2.1] 3)] :: L55 :: [(b15, rowO [.int .u8 x14.1, .int .i8 x14.2.1, .int .i32 x14.2.2] 32)] :: F) rfl rfl
                                              replace hS := hS.drop1
                                              replace hS := hS.front 4 (C := [(b120, rowO [.int .i64 x14.2.1] 3)]) (L' := [(b8, rowO [.slice A132 ((lf ((al.filter (fun y => !(wid x14.2.1 y))) ++ [(x14.2.1, ((t : Nat) : Int) + nn)]) ((t : Nat) : Int)).length) c133] 28)] :: [(b6, rowO [.slice A125 ((ids ((al.filter (fun y => !(wid x14.2.1 y))) ++ [(x14.2.1, ((t : Nat) : Int) + nn)])).length) c126] 28)] :: C131 :: C124 :: L55 :: [(b15, rowO [.int .u8 x14.1, .int .i8 x14.2.1, .int .i32 x14.2.2] 32)] :: F) rfl rfl
                                              replace hS := hS.drop1
                                              replace hS := hS.front 5 (C := [(b15, rowO [.int .u8 x14.1, .int .i8 x14.2.1, .int .i32 x14.2.2] 32)]) (L' := [(b8, rowO [.slice A132 ((lf ((al.filter (fun y => !(wid x14.2.1 y))) ++ [(x14.2.1, ((t : Nat) : Int) + nn)]) ((t : Nat) : Int)).length) c133] 28)] :: [(b6, rowO [.slice A125 ((ids ((al.filter (fun y => !(wid x14.2.1 y))) ++ [(x14.2.1, ((t : Nat) : Int) + nn)])).length) c126] 28)] :: C131 :: C124 :: L55 :: F) rfl rfl
                                              replace hS := hS.drop1
                                              replace hS := hS.front 2 (C := C131) (L' := [(b8, rowO [.slice A132 ((lf ((al.filter (fun y => !(wid x14.2.1 y))) ++ [(x14.2.1, ((t : Nat) : Int) + nn)]) ((t : Nat) : Int)).length) c133] 28)] :: [(b6, rowO [.slice A125 ((ids ((al.filter (fun y => !(wid x14.2.1 y))) ++ [(x14.2.1, ((t : Nat) : Int) + nn)])).length) c126] 28)] :: C124 :: L55 :: F) rfl rfl
                                              replace hS := hS.front 1 (C := [(b8, rowO [.slice A132 ((lf ((al.filter (fun y => !(wid x14.2.1 y))) ++ [(x14.2.1, ((t : Nat) : Int) + nn)]) ((t : Nat) : Int)).length) c133] 28)]) (L' := C131 :: [(b6, rowO [.slice A125 ((ids ((al.filter (fun y => !(wid x14.2.1 y))) ++ [(x14.2.1, ((t : Nat) : Int) + nn)])).length) c126] 28)] :: C124 :: L55 :: F) rfl rfl
                                              replace hS := hS.front 3 (C := C124) (L' := [(b8, rowO [.slice A132 ((lf ((al.filter (fun y => !(wid x14.2.1 y))) ++ [(x14.2.1, ((t : Nat) : Int) + nn)]) ((t : Nat) : Int)).length) c133] 28)] :: C131 :: [(b6, rowO [.slice A125 ((ids ((al.filter (fun y => !(wid x14.2.1 y))) ++ [(x14.2.1, ((t : Nat) : Int) + nn)])).length) c126] 28)] :: L55 :: F) rfl rfl
                                              replace hS := hS.front 3 (C := [(b6, rowO [.slice A125 ((ids ((al.filter (fun y => !(wid x14.2.1 y))) ++ [(x14.2.1, ((t : Nat) : Int) + nn)])).length) c126] 28)]) (L' := C124 :: [(b8, rowO [.slice A132 ((lf ((al.filter (fun y => !(wid x14.2.1 y))) ++ [(x14.2.1, ((t : Nat) : Int) + nn)]) ((t : Nat) : Int)).length) c133] 28)] :: C131 :: L55 :: F) rfl rfl
                                              replace hS := hS.front 4 (C := L55) (L' := [(b6, rowO [.slice A125 ((ids ((al.filter (fun y => !(wid x14.2.1 y))) ++ [(x14.2.1, ((t : Nat) : Int) + nn)])).length) c126] 28)] :: C124 :: [(b8, rowO [.slice A132 ((lf ((al.filter (fun y => !(wid x14.2.1 y))) ++ [(x14.2.1, ((t : Nat) : Int) + nn)]) ((t : Nat) : Int)).length) c133] 28)] :: C131 :: F) rfl rfl
                                              exact ⟨t, ((al.filter (fun y => !(wid x14.2.1 y))) ++ [(x14.2.1, ((t : Nat) : Int) + nn)]), L55, A125, c126, C124, A132, c133, C131, (hA.sel [3, 4, 5, 6, 7, 28, 29, 30] rfl), hS, by omega, hT2, hM57, hO124, hO131⟩
                                            · refine dr_b (o := _) rfl ?_
                                              refine st_buildSlice tbOk hA hS [.int .i64 nn] rfl rfl rfl rfl rfl (by decide) (by kernel_rfl) rfl rfl (by decide) ?_; clear hA hS; intro b136 w137 a hS hA
                                              refine dr_nil (.inr (hS.tail 4 rfl)) ?_
                                              refine dr_subL ?_
                                              refine dr_b (o := _) rfl ?_
                                              replace hS := hS.front 2 (C := C113) (L' := [(b136, rowO [.int .i64 nn] 3)] :: [(b120, rowO [.int .i64 x14.2.1] 3)] :: C115 :: [(b6, rowO [.slice A116 (((ids al).take q ++ (ids al).drop (q + 1)).length) c117] 28)] :: [(b8, rowO [.slice A118 (((lf al ((t : Nat) : Int)).take q ++ (lf al ((t : Nat) : Int)).drop (q + 1)).length) c119] 28)] :: L55 :: [(b15, rowO [.int .u8 x14.1, .int .i8 x14.2.1, .int .i32 x14.2.2] 32)] :: F) rfl rfl
                                              refine st_append tbOk hA (m := ((ids al).take q ++ (ids al).drop (q + 1)).length) (q := 1) (xs := rows encI ((ids al).take q ++ (ids al).drop (q + 1))) (news := rows encI ([x14.2.1] : List Int)) rfl rfl rfl rfl rfl rfl rfl rfl (by decide) hOC113 hS ((Own.full (T := 3) (size := 1) (g := b120) (m := 1) rfl (by decide)).rd (hS.own_ 2 rfl)) (rows_one encI_ok _) (maxLen_le (by first | omega | (simp; omega))) (by show (((ids al).take q ++ (ids al).drop (q + 1)).length + 1) * 8 ≤ 140737488355328; first | omega | (simp; omega)) rfl rfl (by decide) ?_
                                              clear hA hS; intro v138 w139 C140 a hO140 hS hA
                                              replace hO140 := Own.app (l := (ids al).take q ++ (ids al).drop (q + 1)) (l2 := ([x14.2.1] : List Int)) hO140
                                              obtain ⟨A141, c142, rfl, hmc142, hxc142⟩ := hO140.open'
                                              refine dr_nil (.inr (hS.tail 4 rfl)) ?_
                                              refine dr_b (o := _) rfl ?_
                                              replace hS := hS.front 3 (C := C115) (L' := C140 :: [(b136, rowO [.int .i64 nn] 3)] :: [(b120, rowO [.int .i64 x14.2.1] 3)] :: [(b6, rowO [.slice A116 (((ids al).take q ++ (ids al).drop (q + 1)).length) c117] 28)] :: [(b8, rowO [.slice A118 (((lf al ((t : Nat) : Int)).take q ++ (lf al ((t : Nat) : Int)).drop (q + 1)).length) c119] 28)] :: L55 :: [(b15, rowO [.int .u8 x14.1, .int .i8 x14.2.1, .int .i32 x14.2.2] 32)] :: F) rfl rfl
                                              refine st_append tbOk hA (m := ((lf al ((t : Nat) : Int)).take q ++ (lf al ((t : Nat) : Int)).drop (q + 1)).length) (q := 1) (xs := rows encI ((lf al ((t : Nat) : Int)).take q ++ (lf al ((t : Nat) : Int)).drop (q + 1))) (news := rows encI ([nn] : List Int)) rfl rfl rfl rfl rfl rfl rfl rfl (by decide) hOC115 hS ((Own.full (T := 3) (size := 1) (g := b136) (m := 1) rfl (by decide)).rd (hS.own_ 2 rfl)) (rows_one encI_ok _) (maxLen_le (by first | omega | (simp; omega))) (by show (((lf al ((t : Nat) : Int)).take q ++ (lf al ((t : Nat) : Int)).drop (q + 1)).length + 1) * 8 ≤ 140737488355328; first | omega | (simp; omega)) rfl rfl (by decide) ?_
                                              clear hA hS; intro v143 w144 C145 a hO145 hS hA
                                              replace hO145 := Own.app (l := (lf al ((t : Nat) : Int)).take q ++ (lf al ((t : Nat) : Int)).drop (q + 1)) (l2 := ([nn] : List Int)) hO145
                                              obtain ⟨A146, c147, rfl, hmc147, hxc147⟩ := hO145.open'
                                              refine dr_nil (.inr (hS.tail 4 rfl)) ?_
                                              refine dr_b (o := _) rfl ?_
                                              replace hS := hS.front 4 (C := [(b6, rowO [.slice A116 (((ids al).take q ++ (ids al).drop (q + 1)).length) c117] 28)]) (L' := C145 :: C140 :: [(b136, rowO [.int .i64 nn] 3)] :: [(b120, rowO [.int .i64 x14.2.1] 3)] :: [(b8, rowO [.slice A118 (((lf al ((t : Nat) : Int)).take q ++ (lf al ((t : Nat) : Int)).drop (q + 1)).length) c119] 28)] :: L55 :: [(b15, rowO [.int .u8 x14.1, .int .i8 x14.2.1, .int .i32 x14.2.2] 32)] :: F) rfl rfl
                                              refine st_store tbOk hA hS [.slice A141 ((((ids al).take q ++ (ids al).drop (q + 1)) ++ ([x14.2.1] : List Int)).length) c142] [.slice A141 ((((ids al).take q ++ (ids al).drop (q + 1)) ++ ([x14.2.1] : List Int)).length) c142] rfl rfl rfl rfl rfl rfl (by intro u hu; rw [List.mem_singleton.1 hu]; rfl) (Nat.le_of_ble_eq_true rfl) rfl rfl rfl ?_; clear hS; intro w148 hS
                                              refine dr_nil (.inl (by decide)) ?_
                                              refine dr_b (o := _) rfl ?_
                                              replace hS := hS.front 5 (C := [(b8, rowO [.slice A118 (((lf al ((t : Nat) : Int)).take q ++ (lf al ((t : Nat) : Int)).drop (q + 1)).length) c119] 28)]) (L' := [(b6, rowO [.slice A141 ((((ids al).take q ++ (ids al).drop (q + 1)) ++ ([x14.2.1] : List Int)).length) c142] 28)] :: C145 :: C140 :: [(b136, rowO [.int .i64 nn] 3)] :: [(b120, rowO [.int .i64 x14.2.1] 3)] :: L55 :: [(b15, rowO [.int .u8 x14.1, .int .i8 x14.2.1, .int .i32 x14.2.2] 32)] :: F) rfl rfl
                                              refine st_store tbOk hA hS [.slice A146 ((((lf al ((t : Nat) : Int)).take q ++ (lf al ((t : Nat) : Int)).drop (q + 1)) ++ ([nn] : List Int)).length) c147] [.slice A146 ((((lf al ((t : Nat) : Int)).take q ++ (lf al ((t : Nat) : Int)).drop (q + 1)) ++ ([nn] : List Int)).length) c147] rfl rfl rfl rfl rfl rfl (by intro u hu; rw [List.mem_singleton.1 hu]; rfl) (Nat.le_of_ble_eq_true rfl) rfl rfl rfl ?_; clear hS; intro w149 hS
                                              refine dr_nil (.inl (by decide)) ?_
                                              refine dr_end ?_
                                              replace hA := hA.sel [3, 4, 5, 6, 7, 15, 28, 29, 30] (e' := [(3, .pointer (some ⟨b2, 0, none⟩)), (4, .int .i64 ((t : Nat) : Int)), (5, .pointer (some ⟨b6, 0, none⟩)), (6, .pointer (some ⟨b8, 0, none⟩)), (7, .func (.func 5) #[] #[.pointer (some ⟨b6, 0, none⟩), .pointer (some ⟨b8, 0, none⟩)]), (15, .nilIface), (28, .slice (some ⟨b12, o13, none⟩) l.length c), (29, .int .i64 ((l.length : Nat) : Int)), (30, .int .i64 ((k : Nat) : Int))]) rfl
                                              refine xt_norm ?_
                                              refine wp_seq ?_
                                              refine wp_region_lit ?_
                                              refine st_run tbOk 2 hA (e' := (121, .bool false) :: (120, .nilIface) :: _) rfl ?_; clear hA; intro a hA
                                              refine wpList_nil ?_
                                              replace hA := hA.sel [3, 4, 5, 6, 7, 28, 29, 30, 121] (e' := [(3, .pointer (some ⟨b2, 0, none⟩)), (4, .int .i64 ((t : Nat) : Int)), (5, .pointer (some ⟨b6, 0, none⟩)), (6, .pointer (some ⟨b8, 0, none⟩)), (7, .func (.func 5) #[] #[.pointer (some ⟨b6, 0, none⟩), .pointer (some ⟨b8, 0, none⟩)]), (28, .slice (some ⟨b12, o13, none⟩) l.length c), (29, .int .i64 ((l.length : Nat) : Int)), (30, .int .i64 ((k : Nat) : Int)), (121, .bool false)]) rfl
                                              refine xt_norm ?_
                                              refine cd_cond_f hA rfl ?_
                                              refine wp_skip ?_
                                              refine xb_norm ?_
                                              refine xb_norm ?_
                                              refine xt_norm ?_
                                              have he : ((ids al).take q ++ (ids al).drop (q + 1)) ++ ([x14.2.1] : List Int) = ids ((al.filter (fun y => !(wid x14.2.1 y))) ++ [(x14.2.1, ((t : Nat) : Int) + nn)]) := by rw [cut_at hT.nd hy hyi, ids_app, ids_one, ids_cut]
                                              simp only [he] at hO140 hS hA; clear he
                                              have he : ((lf al ((t : Nat) : Int)).take q ++ (lf al ((t : Nat) : Int)).drop (q + 1)) ++ ([nn] : List Int) = lf ((al.filter (fun y => !(wid x14.2.1 y))) ++ [(x14.2.1, ((t : Nat) : Int) + nn)]) ((t : Nat) : Int) := by rw [cut_at hT.nd hy hyi, lf_app, lf_one, lf_cut]
                                              simp only [he] at hO145 hS hA; clear he
                                              replace hS := hS.front 4 (C := [(b136, rowO [.int .i64 nn] 3)]) (L' := [(b8, rowO [.slice A146 ((lf ((al.filter (fun y => !(wid x14.2.1 y))) ++ [(x14.2.1, ((t : Nat) : Int) + nn)]) ((t : Nat) : Int)).length) c147] 28)] :: [(b6, rowO [.slice A141 ((ids ((al.filter (fun y => !(wid x14.2.1 y))) ++ [(x14.2.1, ((t : Nat) : Int) + nn)])).length) c142] 28)] :: C145 :: C140 :: [(b120, rowO [.int .i64 x14.2.1] 3)] :: L55 :: [(b15, rowO [.int .u8 x14.1, .int .i8 x14.2.1, .int .i32 x14.2.2] 32)] :: F) rfl rfl
                                              replace hS := hS.drop1
                                              replace hS := hS.front 4 (C := [(b120, rowO [.int .i64 x14.2.1] 3)]) (L' := [(b8, rowO [.slice A146 ((lf ((al.filter (fun y => !(wid x14.2.1 y))) ++ [(x14.2.1, ((t : Nat) : Int) + nn)]) ((t : Nat) : Int)).length) c147] 28)] :: [(b6, rowO [.slice A141 ((ids ((al.filter (fun y => !(wid x14.2.1 y))) ++ [(x14.2.1, ((t : Nat) : Int) + nn)])).length) c142] 28)] :: C145 :: C140 :: L55 :: [(b15, rowO [.int .u8 x14.1, .int .i8 x14.2.1, .int .i32 x14.2.2] 32)] :: F) rfl rfl
                                              replace hS := hS.drop1
                                              replace hS := hS.front 5 (C := [(b15, rowO [.int .u8 x14.1, .int .i8 x14.2.1, .int .i32 x14.2.2] 32)]) (L' := [(b8, rowO [.slice A146 ((lf ((al.filter (fun y => !(wid x14.2.1 y))) ++ [(x14.2.1, ((t : Nat) : Int) + nn)]) ((t : Nat) : Int)).length) c147] 28)] :: [(b6, rowO [.slice A141 ((ids ((al.filter (fun y => !(wid x14.2.1 y))) ++ [(x14.2.1, ((t : Nat) : Int) + nn)])).length) c142] 28)] :: C145 :: C140 :: L55 :: F) rfl rfl
                                              replace hS := hS.drop1
                                              replace hS := hS.front 2 (C := C145) (L' := [(b8, rowO [.slice A146 ((lf ((al.filter (fun y => !(wid x14.2.1 y))) ++ [(x14.2.1, ((t : Nat) : Int) + nn)]) ((t : Nat) : Int)).length) c147] 28)] :: [(b6, rowO [.slice A141 ((ids ((al.filter (fun y => !(wid x14.2.1 y))) ++ [(x14.2.1, ((t : Nat) : Int) + nn)])).length) c142] 28)] :: C140 :: L55 :: F) rfl rfl
                                              replace hS := hS.front 1 (C := [(b8, rowO [.slice A146 ((lf ((al.filter (fun y => !(wid x14.2.1 y))) ++ [(x14.2.1, ((t : Nat) : Int) + nn)]) ((t : Nat) : Int)).length) c147] 28)]) (L' := C145 :: [(b6, rowO [.slice A141 ((ids ((al.filter (fun y => !(wid x14.2.1 y))) ++ [(x14.2.1, ((t : Nat) : Int) + nn)])).length) c142] 28)] :: C140 :: L55 :: F) rfl rfl
                                              replace hS := hS.front 3 (C := C140) (L' := [(b8, rowO [.slice A146 ((lf ((al.filter (fun y => !(wid x14.2.1 y))) ++ [(x14.2.1, ((t : Nat) : Int) + nn)]) ((t : Nat) : Int)).length) c147] 28)] :: C145 :: [(b6, rowO [.slice A141 ((ids ((al.filter (fun y => !(wid x14.2.1 y))) ++ [(x14.2.1, ((t : Nat) : Int) + nn)])).length) c142] 28)] :: L55 :: F) rfl rfl
                                              replace hS := hS.front 3 (C := [(b6, rowO [.slice A141 ((ids ((al.filter (fun y => !(wid x14.2.1 y))) ++ [(x14.2.1, ((t : Nat) : Int) + nn)])).length) c142] 28)]) (L' := C140 :: [(b8, rowO [.slice A146 ((lf ((al.filter (fun y => !(wid x14.2.1 y))) ++ [(x14.2.1, ((t : Nat) : Int) + nn)]) ((t : Nat) : Int)).length) c147] 28)] :: C145 :: L55 :: F) rfl rfl
                                              replace hS := hS.front 4 (C := L55) (L' := [(b6, rowO [.slice A141 ((ids ((al.filter (fun y => !(wid x14.2.1 y))) ++ [(x14.2.1, ((t : Nat) : Int) + nn)])).length) c142] 28)] :: C140 :: [(b8, rowO [.slice A146 ((lf ((al.filter (fun y => !(wid x14.2.1 y))) ++ [(x14.2.1, ((t : Nat) : Int) + nn)]) ((t : Nat) : Int)).length) c147] 28)] :: C145 :: F) rfl rfl
                                              exact ⟨t, ((al.filter (fun y => !(wid x14.2.1 y))) ++ [(x14.2.1, ((t : Nat) : Int) + nn)]), L55, A141, c142, C140, A146, c147, C145, (hA.sel [3, 4, 5, 6, 7, 28, 29, 30] rfl), hS, by omega, hT2, hM57, hO140, hO145⟩
                                          · refine dr_b (o := _) rfl ?_
                                            refine st_buildSlice tbOk hA hS [.int .i64 nn] rfl rfl rfl rfl rfl (by decide) (by kernel_rfl) rfl rfl (by decide) ?_; clear hA hS; intro b150 w151 a hS hA
                                            refine dr_nil (.inr (hS.tail 3 rfl)) ?_
                                            refine dr_subL ?_
                                            refine dr_b (o := _) rfl ?_
                                            refine st_buildSlice tbOk hA hS [.int .i64 x14.2.1] rfl rfl rfl rfl rfl (by decide) (by kernel_rfl) rfl rfl (by decide) ?_; clear hA hS; intro b152 w153 a hS hA
                                            refine dr_nil (.inr (hS.tail 4 rfl)) ?_
                                            refine dr_b (o := _) rfl ?_
                                            replace hS := hS.front 2 (C := C113) (L' := [(b152, rowO [.int .i64 x14.2.1] 3)] :: [(b150, rowO [.int .i64 nn] 3)] :: C115 :: [(b6, rowO [.slice A116 (((ids al).take q ++ (ids al).drop (q + 1)).length) c117] 28)] :: [(b8, rowO [.slice A118 (((lf al ((t : Nat) : Int)).take q ++ (lf al ((t : Nat) : Int)).drop (q + 1)).length) c119] 28)] :: L55 :: [(b15, rowO [.int .u8 x14.1, .int .i8 x14.2.1, .int .i32 x14.2.2] 32)] :: F) rfl rfl
                                            refine st_append tbOk hA (m := ((ids al).take q ++ (ids al).drop (q + 1)).length) (q := 1) (xs := rows encI ((ids al).take q ++ (ids al).drop (q + 1))) (news := rows encI ([x14.2.1] : List Int)) rfl rfl rfl rfl rfl rfl rfl rfl (by decide) hOC113 hS ((Own.full (T := 3) (size := 1) (g := b152) (m := 1) rfl (by decide)).rd (hS.own_ 1 rfl)) (rows_one encI_ok _) (maxLen_le (by first | omega | (simp; omega))) (by show (((ids al).take q ++ (ids al).drop (q + 1)).length + 1) * 8 ≤ 140737488355328; first | omega | (simp; omega)) rfl rfl (by decide) ?_
                                            clear hA hS; intro v154 w155 C156 a hO156 hS hA
                                            replace hO156 := Own.app (l := (ids al).take q ++ (ids al).drop (q + 1)) (l2 := ([x14.2.1] : List Int)) hO156
                                            obtain ⟨A157, c158, rfl, hmc158, hxc158⟩ := hO156.open'
                                            refine dr_nil (.inr (hS.tail 4 rfl)) ?_
                                            refine dr_b (o := _) rfl ?_
                                            replace hS := hS.front 3 (C := C115) (L' := C156 :: [(b152, rowO [.int .i64 x14.2.1] 3)] :: [(b150, rowO [.int .i64 nn] 3)] :: [(b6, rowO [.slice A116 (((ids al).take q ++ (ids al).drop (q + 1)).length) c117] 28)] :: [(b8, rowO [.slice A118 (((lf al ((t : Nat) : Int)).take q ++ (lf al ((t : Nat) : Int)).drop (q + 1)).length) c119] 28)] :: L55 :: [(b15, rowO [.int .u8 x14.1, .int .i8 x14.2.1, .int .i32 x14.2.2] 32)] :: F) rfl rfl
                                            refine st_append tbOk hA (m := ((lf al ((t : Nat) : Int)).take q ++ (lf al ((t : Nat) : Int)).drop (q + 1)).length) (q := 1) (xs := rows encI ((lf al ((t : Nat) : Int)).take q ++ (lf al ((t : Nat) : Int)).drop (q + 1))) (news := rows encI ([nn] : List Int)) rfl rfl rfl rfl rfl rfl rfl rfl (by decide) hOC115 hS ((Own.full (T := 3) (size := 1) (g := b150) (m := 1) rfl (by decide)).rd (hS.own_ 3 rfl)) (rows_one encI_ok _) (maxLen_le (by first | omega | (simp; omega))) (by show (((lf al ((t : Nat) : Int)).take q ++ (lf al ((t : Nat) : Int)).drop (q + 1)).length + 1) * 8 ≤ 140737488355328; first | omega | (simp; omega)) rfl rfl (by decide) ?_
                                            clear hA hS; intro v159 w160 C161 a hO161 hS hA
                                            replace hO161 := Own.app (l := (lf al ((t : Nat) : Int)).take q ++ (lf al ((t : Nat) : Int)).drop (q + 1)) (l2 := ([nn] : List Int)) hO161
                                            obtain ⟨A162, c163, rfl, hmc163, hxc163⟩ := hO161.open'
                                            refine dr_nil (.inr (hS.tail 4 rfl)) ?_
                                            refine dr_b (o := _) rfl ?_
                                            replace hS := hS.front 4 (C := [(b6, rowO [.slice A116 (((ids al).take q ++ (ids al).drop (q + 1)).length) c117] 28)]) (L' := C161 :: C156 :: [(b152, rowO [.int .i64 x14.2.1] 3)] :: [(b150, rowO [.int .i64 nn] 3)] :: [(b8, rowO [.slice A118 (((lf al ((t : Nat) : Int)).take q ++ (lf al ((t : Nat) : Int)).drop (q + 1)).length) c119] 28)] :: L55 :: [(b15, rowO [.int .u8 x14.1, .int .i8 x14.2.1, .int .i32 x14.2.2] 32)] :: F) rfl rfl
                                            refine st_store tbOk hA hS [.slice A157 ((((ids al).take q ++ (ids al).drop (q + 1)) ++ ([x14.2.1] : List Int)).length) c158] [.slice A157 ((((ids al).take q ++ (ids al).drop (q + 1)) ++ ([x14.2.1] : List Int)).length) c158] rfl rfl rfl rfl rfl rfl (by intro u hu; rw [List.mem_singleton.1 hu]; rfl) (Nat.le_of_ble_eq_true rfl) rfl rfl rfl ?_; clear hS; intro w164 hS
                                            refine dr_nil (.inl (by decide)) ?_
                                            refine dr_b (o := _) rfl ?_
                                            replace hS := hS.front 5 (C := [(b8, rowO [.slice A118 (((lf al ((t : Nat) : Int)).take q ++ (lf al ((t : Nat) : Int)).drop (q + 1)).length) c119] 28)]) (L' := [(b6, rowO [.slice A157 ((((ids al).take q ++ (ids al).drop (q + 1)) ++ ([x14.2.1] : List Int)).length) c158] 28)] :: C161 :: C156 :: [(b152, rowO [.int .i64 x14.2.1] 3)] :: [(b150, rowO [.int .i64 nn] 3)] :: L55 :: [(b15, rowO [.int .u8 x14.1, .int .i8 x14.2.1, .int .i32 x14.2.2] 32)] :: F) rfl rfl
                                            refine st_store tbOk hA hS [.slice A162 ((((lf al ((t : Nat) : Int)).take q ++ (lf al ((t : Nat) : Int)).drop (q + 1)) ++ ([nn] : List Int)).length) c163] [.slice A162 ((((lf al ((t : Nat) : Int)).take q ++ (lf al ((t : Nat) : Int)).drop (q + 1)) ++ ([nn] : List Int)).length) c163] rfl rfl rfl rfl rfl rfl (by intro u hu; rw [List.mem_singleton.1 hu]; rfl) (Nat.le_of_ble_eq_true rfl) rfl rfl rfl ?_; clear hS; intro w165 hS
                                            refine dr_nil (.inl (by decide)) ?_
                                            refine dr_end ?_
                                            replace hA := hA.sel [3, 4, 5, 6, 7, 15, 28, 29, 30] (e' := [(3, .pointer (some ⟨b2, 0, none⟩)), (4, .int .i64 ((t : Nat) : Int)), (5, .pointer (some ⟨b6, 0, none⟩)), (6, .pointer (some ⟨b8, 0, none⟩)), (7, .func (.func 5) #[] #[.pointer (some ⟨b6, 0, none⟩), .pointer (some ⟨b8, 0, none⟩)]), (15, .nilIface), (28, .slice (some ⟨b12, o13, none⟩) l.length c), (29, .int .i64 ((l.length : Nat) : Int)), (30, .int .i64 ((k : Nat) : Int))]) rfl
                                            refine xt_norm ?_
                                            refine wp_seq ?_
                                            refine wp_region_lit ?_
                                            refine st_run tbOk 2 hA (e' := (121, .bool false) :: (120, .nilIface) :: _) rfl ?_; clear hA; intro a hA
                                            refine wpList_nil ?_
                                            replace hA := hA.sel [3, 4, 5, 6, 7, 28, 29, 30, 121] (e' := [(3, .pointer (some ⟨b2, 0, none⟩)), (4, .int .i64 ((t : Nat) : Int)), (5, .pointer (some ⟨b6, 0, none⟩)), (6, .pointer (some ⟨b8, 0, none⟩)), (7, .func (.func 5) #[] #[.pointer (some ⟨b6, 0, none⟩), .pointer (some ⟨b8, 0, none⟩)]), (28, .slice (some ⟨b12, o13, none⟩) l.length c), (29, .int .i64 ((l.length : Nat) : Int)), (30, .int .i64 ((k : Nat) : Int)), (121, .bool false)]) rfl
                                            refine xt_norm ?_
                                            refine cd_cond_f hA rfl ?_
                                            refine wp_skip ?_
                                            refine xb_norm ?_
                                            refine xb_norm ?_
                                            refine xt_norm ?_
                                            have he : ((ids al).take q ++ (ids al).drop (q + 1)) ++ ([x14.2.1] : List Int) = ids ((al.filter (fun y => !(wid x14.2.1 y))) ++ [(x14.2.1, ((t : Nat) : Int) + nn)]) := by rw [cut_at hT.nd hy hyi, ids_app, ids_one, ids_cut]
                                            simp only [he] at hO156 hS hA; clear he
                                            have he : ((lf al ((t : Nat) : Int)).take q ++ (lf al ((t : Nat) : Int)).drop (q + 1)) ++ ([nn] : List Int) = lf ((al.filter (fun y => !(wid x14.2.1 y))) ++ [(x14.2.1, ((t : Nat) : Int) + nn)]) ((t : Nat) : Int) := by rw [cut_at hT.nd hy hyi, lf_app, lf_one, lf_cut]
                                            simp only [he] at hO161 hS hA; clear he
                                            replace hS := hS.front 4 (C := [(b152, rowO [.int .i64 x14.2.1] 3)]) (L' := [(b8, rowO [.slice A162 ((lf ((al.filter (fun y => !(wid x14.2.1 y))) ++ [(x14.2.1, ((t : Nat) : Int) + nn)]) ((t : Nat) : Int)).length) c163] 28)] :: [(b6, rowO [.slice A157 ((ids ((al.filter (fun y => !(wid x14.2.1 y))) ++ [(x14.2.1, ((t : Nat) : Int) + nn)])).length) c158] 28)] :: C161 :: C156 :: [(b150, rowO [.int .i64 nn] 3)] :: L55 :: [(b15, rowO [.int .u8 x14.1, .int .i8 x14.2.1, .int .i32 x14.2.2] 32)] :: F) rfl rfl
                                            replace hS := hS.drop1
                                            replace hS := hS.front 4 (C := [(b150, rowO [.int .i64 nn] 3)]) (L' := [(b8, rowO [.slice A162 ((lf ((al.filter (fun y => !(wid x14.2.1 y))) ++ [(x14.2.1, ((t : Nat) : Int) + nn)]) ((t : Nat) : Int)).length) c163] 28)] :: [(b6, rowO [.slice A157 ((ids ((al.filter (fun y => !(wid x14.2.1 y))) ++ [(x14.2.1, ((t : Nat) : Int) + nn)])).length) c158] 28)] :: C161 :: C156 :: L55 :: [(b15, rowO [.int .u8 x14.1, .int .i8 x14.2.1, .int .i32 x14.2.2] 32)] :: F) rfl rfl
                                            replace hS := hS.drop1
                                            replace hS := hS.front 5 (C := [(b15, rowO [.int .u8 x14.1, .int .i8 x14.2.1, .int .i32 x14.2.2] 32)]) (L' := [(b8, rowO [.slice A162 ((lf ((al.filter (fun y => !(wid x14.2.1 y))) ++ [(x14.2.1, ((t : Nat) : Int) + nn)]) ((t : Nat) : Int)).length) c163] 28)] :: [(b6, rowO [.slice A157 ((ids ((al.filter (fun y => !(wid x14.2.1 y))) ++ [(x14.2.1, ((t : Nat) : Int) + nn)])).length) c158] 28)] :: C161 :: C156 :: L55 :: F) rfl rfl
                                            replace hS := hS.drop1
                                            replace hS := hS.front 2 (C := C161) (L' := [(b8, rowO [.slice A162 ((lf ((al.filter (fun y => !(wid x14.2.1 y))) ++ [(x14.2.1, ((t : Nat) : Int) + nn)]) ((t : Nat) : Int)).length) c163] 28)] :: [(b6, rowO [.slice A157 ((ids ((al.filter (fun y => !(wid x14.2.1 y))) ++ [(x14.2.1, ((t : Nat) : Int) + nn)])).length) c158] 28)] :: C156 :: L55 :: F) rfl rfl
                                            replace hS := hS.front 1 (C := [(b8, rowO [.slice A162 ((lf ((al.filter (fun y => !(wid x14.2.1 y))) ++ [(x14.2.1, ((t : Nat) : Int) + nn)]) ((t : Nat) : Int)).length) c163] 28)]) (L' := C161 :: [(b6, rowO [.slice A157 ((ids ((al.filter (fun y => !(wid x14.2.1 y))) ++ [(x14.2.1, ((t : Nat) : Int) + nn)])).length) c158] 28)] :: C156 :: L55 :: F) rfl rfl
                                            replace hS := hS.front 3 (C := C156) (L' := [(b8, rowO [.slice A162 ((lf ((al.filter (fun y => !(wid x14.2.1 y))) ++ [(x14.2.1, ((t : Nat) : Int) + nn)]) ((t : Nat) : Int)).length) c163] 28)] :: C161 :: [(b6, rowO [.slice A157 ((ids ((al.filter (fun y => !(wid x14.2.1 y))) ++ [(x14.2.1, ((t : Nat) : Int) + nn)])).length) c158] 28)] :: L55 :: F) rfl rfl
                                            replace hS := hS.front 3 (C := [(b6, rowO [.slice A157 ((ids ((al.filter (fun y => !(wid x14.2.1 y))) ++ [(x14.2.1, ((t : Nat) : Int) + nn)])).length) c158] 28)]) (L' := C156 :: [(b8, rowO [.slice A162 ((lf ((al.filter (fun y => !(wid x14.2.1 y))) ++ [(x14.2.1, ((t : Nat) : Int) + nn)]) ((t : Nat) : Int)).length) c163] 28)] :: C161 :: L55 :: F) rfl rfl
                                            replace hS := hS.front 4 (C := L55) (L' := [(b6, rowO [.slice A157 ((ids ((al.filter (fun y => !(wid x14.2.1 y))) ++ [(x14.2.1, ((t : Nat) : Int) + nn)])).length) c158] 28)] :: C156 :: [(b8, rowO [.slice A162 ((lf ((al.filter (fun y => !(wid x14.2.1 y))) ++ [(x14.2.1, ((t : Nat) : Int) + nn)]) ((t : Nat) : Int)).length) c163] 28)] :: C161 :: F) rfl rfl
                                            exact ⟨t, ((al.filter (fun y => !(wid x14.2.1 y))) ++ [(x14.2.1, ((t : Nat) : Int) + nn)]), L55, A157, c158, C156, A162, c163, C161, (hA.sel [3, 4, 5, 6, 7, 28, 29, 30] rfl), hS, by omega, hT2, hM57, hO156, hO161⟩)))))
           · first
             | (exfalso; omega)
             | (replace hA := hA.rw 85 (v' := .bool false) rfl (vb_f hc20)
                refine cd_cond_f hA rfl ?_
                refine wp_seq ?_
                refine wp_region_lit ?_
                have hbf := hbb.2 (by simpa using (by assumption : ¬ bb = true))
                refine st_run tbOk 2 hA (e' := (141, .bool ((x14.1.tmod 4) == 2)) :: (142, .bool ((x14.1.tmod 4) == 2)) :: _) rfl ?_; clear hA; intro a hA
                refine wpList_nil ?_
                replace hA := hA.sel [3, 4, 5, 6, 7, 10, 28, 29, 30, 141] (e' := [(3, .pointer (some ⟨b2, 0, none⟩)), (4, .int .i64 ((t : Nat) : Int)), (5, .pointer (some ⟨b6, 0, none⟩)), (6, .pointer (some ⟨b8, 0, none⟩)), (7, .func (.func 5) #[] #[.pointer (some ⟨b6, 0, none⟩), .pointer (some ⟨b8, 0, none⟩)]), (10, .int .i64 x14.2.1), (28, .slice (some ⟨b12, o13, none⟩) l.length c), (29, .int .i64 ((l.length : Nat) : Int)), (30, .int .i64 ((k : Nat) : Int)), (141, .bool ((x14.1.tmod 4) == 2))]) rfl
                refine xt_norm ?_
                by_cases hc166 : x14.1.tmod 4 = 2
                · first
                  | (exfalso; omega)
                  | (replace hA := hA.rw 141 (v' := .bool true) rfl (vb_eq_t hc166)
                     refine cd_cond_t hA rfl ?_
                     refine wp_seq ?_
                     refine wp_region_lit ?_
                     refine st_run tbOk 2 hA (e' := (144, .int .i64 x14.2.1) :: (143, .pointer (some ⟨b2, 0, none⟩)) :: _) rfl ?_; clear hA; intro a hA
                     rcases id_cases al x14.2.1 with hno | ⟨q, y, hy, hyi, hq⟩
                     · have hfc : (al.filter (fun y => !(wid x14.2.1 y))).length = al.length := by rw [cut_no hno]
                       replace hS := hS.front 1 (C := L) (L' := [(b15, rowO [.int .u8 x14.1, .int .i8 x14.2.1, .int .i32 x14.2.2] 32)] :: [(b6, rowO [.slice A5 ((ids al).length) c5] 28)] :: C5 :: [(b8, rowO [.slice A6 ((lf al ((t : Nat) : Int)).length) c6] 28)] :: C6 :: F) rfl rfl
                       refine st_call0 hA rfl rfl rfl isfn8 rfl rfl (by decide) (cancel8 hS hM x14.2.1) ?_
                       clear hA hS; rintro v w168 a ⟨L167, hM169, rfl, hS⟩ hA
                       replace hA := hA.rw 145 (v' := .bool false) rfl (congrArg Value.bool (by rw [decide_eq_false]; omega))
                       have hT2 := hT.filt x14.2.1
                       refine st_run tbOk 2 hA (e' := (147, .int .i64 x14.2.1) :: (146, .func (.func 5) #[] #[.pointer (some ⟨b6, 0, none⟩), .pointer (some ⟨b8, 0, none⟩)]) :: _) rfl ?_; clear hA; intro a hA
                       replace hS := hS.front 5 (C := C6) (L' := L167 :: [(b15, rowO [.int .u8 x14.1, .int .i8 x14.2.1, .int .i32 x14.2.2] 32)] :: [(b6, rowO [.slice A5 ((ids al).length) c5] 28)] :: C5 :: [(b8, rowO [.slice A6 ((lf al ((t : Nat) : Int)).length) c6] 28)] :: F) rfl rfl
                       replace hS := hS.front 5 (C := [(b8, rowO [.slice A6 ((lf al ((t : Nat) : Int)).length) c6] 28)]) (L' := C6 :: L167 :: [(b15, rowO [.int .u8 x14.1, .int .i8 x14.2.1, .int .i32 x14.2.2] 32)] :: [(b6, rowO [.slice A5 ((ids al).length) c5] 28)] :: C5 :: F) rfl rfl
                       replace hS := hS.front 5 (C := C5) (L' := [(b8, rowO [.slice A6 ((lf al ((t : Nat) : Int)).length) c6] 28)] :: C6 :: L167 :: [(b15, rowO [.int .u8 x14.1, .int .i8 x14.2.1, .int .i32 x14.2.2] 32)] :: [(b6, rowO [.slice A5 ((ids al).length) c5] 28)] :: F) rfl rfl
                       replace hS := hS.front 5 (C := [(b6, rowO [.slice A5 ((ids al).length) c5] 28)]) (L' := C5 :: [(b8, rowO [.slice A6 ((lf al ((t : Nat) : Int)).length) c6] 28)] :: C6 :: L167 :: [(b15, rowO [.int .u8 x14.1, .int .i8 x14.2.1, .int .i32 x14.2.2] 32)] :: F) rfl rfl
                       refine st_call hA rfl rfl rfl rfl isfn5 rfl rfl (by decide) (take_no5 hS h5 h6 (by omega) (by omega) x14.2.1 (none_of hno)) ?_
                       clear hA hS; rintro v w170 a ⟨rfl, hS⟩ hA
                       refine st_run tbOk 1 hA (e' := (149, .bool false) :: _) rfl ?_; clear hA; intro a hA
                       refine wpList_nil ?_
                       replace hA := hA.sel [3, 4, 5, 6, 7, 28, 29, 30, 149] (e' := [(3, .pointer (some ⟨b2, 0, none⟩)), (4, .int .i64 ((t : Nat) : Int)), (5, .pointer (some ⟨b6, 0, none⟩)), (6, .pointer (some ⟨b8, 0, none⟩)), (7, .func (.func 5) #[] #[.pointer (some ⟨b6, 0, none⟩), .pointer (some ⟨b8, 0, none⟩)]), (28, .slice (some ⟨b12, o13, none⟩) l.length c), (29, .int .i64 ((l.length : Nat) : Int)), (30, .int .i64 ((k : Nat) : Int)), (149, .bool false)]) rfl
                       refine xt_norm ?_
                       refine cd_cond_f hA rfl ?_
                       refine wp_skip ?_
                       refine xb_norm ?_
                       refine xt_norm ?_
                       have he : ids al = ids ((al.filter (fun y => !(wid x14.2.1 y)))) := by rw [cut_no hno]
                       simp only [he] at h5 hS hA; clear he
                       have he : lf al ((t : Nat) : Int) = lf ((al.filter (fun y => !(wid x14.2.1 y)))) ((t : Nat) : Int) := by rw [cut_no hno]
                       simp only [he] at h6 hS hA; clear he
                       replace hS := hS.front 5 (C := [(b15, rowO [.int .u8 x14.1, .int .i8 x14.2.1, .int .i32 x14.2.2] 32)]) (L' := [(b6, rowO [.slice A5 ((ids ((al.filter (fun y => !(wid x14.2.1 y))))).length) c5] 28)] :: C5 :: [(b8, rowO [.slice A6 ((lf ((al.filter (fun y => !(wid x14.2.1 y)))) ((t : Nat) : Int)).length) c6] 28)] :: C6 :: L167 :: F) rfl rfl
                       replace hS := hS.drop1
                       replace hS := hS.front 3 (C := C6) (L' := [(b6, rowO [.slice A5 ((ids ((al.filter (fun y => !(wid x14.2.1 y))))).length) c5] 28)] :: C5 :: [(b8, rowO [.slice A6 ((lf ((al.filter (fun y => !(wid x14.2.1 y)))) ((t : Nat) : Int)).length) c6] 28)] :: L167 :: F) rfl rfl
                       replace hS := hS.front 3 (C := [(b8, rowO [.slice A6 ((lf ((al.filter (fun y => !(wid x14.2.1 y)))) ((t : Nat) : Int)).length) c6] 28)]) (L' := C6 :: [(b6, rowO [.slice A5 ((ids ((al.filter (fun y => !(wid x14.2.1 y))))).length) c5] 28)] :: C5 :: L167 :: F) rfl rfl
                       replace hS := hS.front 3 (C := C5) (L' := [(b8, rowO [.slice A6 ((lf ((al.filter (fun y => !(wid x14.2.1 y)))) ((t : Nat) : Int)).length) c6] 28)] :: C6 :: [(b6, rowO [.slice A5 ((ids ((al.filter (fun y => !(wid x14.2.1 y))))).length) c5] 28)] :: L167 :: F) rfl rfl
                       replace hS := hS.front 3 (C := [(b6, rowO [.slice A5 ((ids ((al.filter (fun y => !(wid x14.2.1 y))))).length) c5] 28)]) (L' := C5 :: [(b8, rowO [.slice A6 ((lf ((al.filter (fun y => !(wid x14.2.1 y)))) ((t : Nat) : Int)).length) c6] 28)] :: C6 :: L167 :: F) rfl rfl
                       replace hS := hS.front 4 (C := L167) (L' := [(b6, rowO [.slice A5 ((ids ((al.filter (fun y => !(wid x14.2.1 y))))).length) c5] 28)] :: C5 :: [(b8, rowO [.slice A6 ((lf ((al.filter (fun y => !(wid x14.2.1 y)))) ((t : Nat) : Int)).length) c6] 28)] :: C6 :: F) rfl rfl
                       exact ⟨t, (al.filter (fun y => !(wid x14.2.1 y))), L167, A5, c5, C5, A6, c6, C6, (hA.sel [3, 4, 5, 6, 7, 28, 29, 30] rfl), hS, by omega, hT2, hM169, h5, h6⟩
                     · have hfc : (al.filter (fun y => !(wid x14.2.1 y))).length + 1 = al.length := by rw [cut_at hT.nd hy hyi]; simp; omega
                       replace hS := hS.front 1 (C := L) (L' := [(b15, rowO [.int .u8 x14.1, .int .i8 x14.2.1, .int .i32 x14.2.2] 32)] :: [(b6, rowO [.slice A5 ((ids al).length) c5] 28)] :: C5 :: [(b8, rowO [.slice A6 ((lf al ((t : Nat) : Int)).length) c6] 28)] :: C6 :: F) rfl rfl
                       refine st_call0 hA rfl rfl rfl isfn8 rfl rfl (by decide) (cancel8 hS hM x14.2.1) ?_
                       clear hA hS; rintro v w172 a ⟨L171, hM173, rfl, hS⟩ hA
                       replace hA := hA.rw 145 (v' := .bool true) rfl (congrArg Value.bool (by rw [decide_eq_true]; omega))
                       have hT2 := hT.filt x14.2.1
                       refine st_run tbOk 2 hA (e' := (147, .int .i64 x14.2.1) :: (146, .func (.func 5) #[] #[.pointer (some ⟨b6, 0, none⟩), .pointer (some ⟨b8, 0, none⟩)]) :: _) rfl ?_; clear hA; intro a hA
                       replace hS := hS.front 5 (C := C6) (L' := L171 :: [(b15, rowO [.int .u8 x14.1, .int .i8 x14.2.1, .int .i32 x14.2.2] 32)] :: [(b6, rowO [.slice A5 ((ids al).length) c5] 28)] :: C5 :: [(b8, rowO [.slice A6 ((lf al ((t : Nat) : Int)).length) c6] 28)] :: F) rfl rfl
                       replace hS := hS.front 5 (C := [(b8, rowO [.slice A6 ((lf al ((t : Nat) : Int)).length) c6] 28)]) (L' := C6 :: L171 :: [(b15, rowO [.int .u8 x14.1, .int .i8 x14.2.1, .int .i32 x14.2.2] 32)] :: [(b6, rowO [.slice A5 ((ids al).length) c5] 28)] :: C5 :: F) rfl rfl
                       replace hS := hS.front 5 (C := C5) (L' := [(b8, rowO [.slice A6 ((lf al ((t : Nat) : Int)).length) c6] 28)] :: C6 :: L171 :: [(b15, rowO [.int .u8 x14.1, .int .i8 x14.2.1, .int .i32 x14.2.2] 32)] :: [(b6, rowO [.slice A5 ((ids al).length) c5] 28)] :: F) rfl rfl
                       replace hS := hS.front 5 (C := [(b6, rowO [.slice A5 ((ids al).length) c5] 28)]) (L' := C5 :: [(b8, rowO [.slice A6 ((lf al ((t : Nat) : Int)).length) c6] 28)] :: C6 :: L171 :: [(b15, rowO [.int .u8 x14.1, .int .i8 x14.2.1, .int .i32 x14.2.2] 32)] :: F) rfl rfl
                       refine st_call hA rfl rfl rfl rfl isfn5 rfl rfl (by decide) (take_yes5 hS h5 h6 (by omega) (by omega) x14.2.1 q (by have h := ids_get hy; rw [hyi] at h; exact h) (by have h := first_of hT.nd hy; rw [hyi] at h; exact h)) ?_
                       clear hA hS; rintro v w174 a ⟨u175, C176, u177, C178, hOC176, hOC178, rfl, hS⟩ hA
                       obtain ⟨A179, c180, rfl, hmc180, hxc180⟩ := hOC176.open'
                       obtain ⟨A181, c182, rfl, hmc182, hxc182⟩ := hOC178.open'
                       have hlc5 : ((ids al).take q ++ (ids al).drop (q + 1)).length + 1 = al.length := by simp; omega
                       have hlc6 : ((lf al ((t : Nat) : Int)).take q ++ (lf al ((t : Nat) : Int)).drop (q + 1)).length + 1 = al.length := by simp; omega
                       refine st_run tbOk 1 hA (e' := (149, .bool false) :: _) rfl ?_; clear hA; intro a hA
                       refine wpList_nil ?_
                       replace hA := hA.sel [3, 4, 5, 6, 7, 28, 29, 30, 149] (e' := [(3, .pointer (some ⟨b2, 0, none⟩)), (4, .int .i64 ((t : Nat) : Int)), (5, .pointer (some ⟨b6, 0, none⟩)), (6, .pointer (some ⟨b8, 0, none⟩)), (7, .func (.func 5) #[] #[.pointer (some ⟨b6, 0, none⟩), .pointer (some ⟨b8, 0, none⟩)]), (28, .slice (some ⟨b12, o13, none⟩) l.length c), (29, .int .i64 ((l.length : Nat) : Int)), (30, .int .i64 ((k : Nat) : Int)), (149, .bool false)]) rfl
                       refine xt_norm ?_
                       refine cd_cond_f hA rfl ?_
                       refine wp_skip ?_
                       refine xb_norm ?_
                       refine xt_norm ?_
                       have he : (ids al).take q ++ (ids al).drop (q + 1) = ids ((al.filter (fun y => !(wid x14.2.1 y)))) := by rw [cut_at hT.nd hy hyi, ids_cut]
                       simp only [he] at hOC176 hS hA; clear he
                       have he : (lf al ((t : Nat) : Int)).take q ++ (lf al ((t : Nat) : Int)).drop (q + 1) = lf ((al.filter (fun y => !(wid x14.2.1 y)))) ((t : Nat) : Int) := by rw [cut_at hT.nd hy hyi, lf_cut]
                       simp only [he] at hOC178 hS hA; clear he
                       replace hS := hS.front 5 (C := [(b15, rowO [.int .u8 x14.1, .int .i8 x14.2.1, .int .i32 x14.2.2] 32)]) (L' := [(b6, rowO [.slice A179 ((ids ((al.filter (fun y => !(wid x14.2.1 y))))).length) c180] 28)] :: C176 :: [(b8, rowO [.slice A181 ((lf ((al.filter (fun y => !(wid x14.2.1 y)))) ((t : Nat) : Int)).length) c182] 28)] :: C178 :: L171 :: F) rfl rfl
                       replace hS := hS.drop1
                       replace hS := hS.front 3 (C := C178) (L' := [(b6, rowO [.slice A179 ((ids ((al.filter (fun y => !(wid x14.2.1 y))))).length) c180] 28)] :: C176 :: [(b8, rowO [.slice A181 ((lf ((al.filter (fun y => !(wid x14.2.1 y)))) ((t : Nat) : Int)).length) c182] 28)] :: L171 :: F) rfl rfl
                       replace hS := hS.front 3 (C := [(b8, rowO [.slice A181 ((lf ((al.filter (fun y => !(wid x14.2.1 y)))) ((t : Nat) : Int)).length) c182] 28)]) (L' := C178 :: [(b6, rowO [.slice A179 ((ids ((al.filter (fun y => !(wid x14.2.1 y))))).length) c180] 28)] :: C176 :: L171 :: F) rfl rfl
                       replace hS := hS.front 3 (C := C176) (L' := [(b8, rowO [.slice A181 ((lf ((al.filter (fun y => !(wid x14.2.1 y)))) ((t : Nat) : Int)).length) c182] 28)] :: C178 :: [(b6, rowO [.slice A179 ((ids ((al.filter (fun y => !(wid x14.2.1 y))))).length) c180] 28)] :: L171 :: F) rfl rfl
                       replace hS := hS.front 3 (C := [(b6, rowO [.slice A179 ((ids ((al.filter (fun y => !(wid x14.2.1 y))))).length) c180] 28)]) (L' := C176 :: [(b8, rowO [.slice A181 ((lf ((al.filter (fun y => !(wid x14.2.1 y)))) ((t : Nat) : Int)).length) c182] 28)] :: C178 :: L171 :: F) rfl rfl
                       replace hS := hS.front 4 (C := L171) (L' := [(b6, rowO [.slice A179 ((ids ((al.filter (fun y => !(wid x14.2.1 y))))).length) c180] 28)] :: C176 :: [(b8, rowO [.slice A181 ((lf ((al.filter (fun y => !(wid x14.2.1 y)))) ((t : Nat) : Int)).length) c182] 28)] :: C178 :: F) rfl rfl
                       exact ⟨t, (al.filter (fun y => !(wid x14.2.1 y))), L171, A179, c180, C176, A181, c182, C178, (hA.sel [3, 4, 5, 6, 7, 28, 29, 30] rfl), hS, by omega, hT2, hM173, hOC176, hOC178⟩)
                · first
                  | (exfalso; omega)
                  | (replace hA := hA.rw 141 (v' := .bool false) rfl (vb_eq_f hc166)
                     refine cd_cond_f hA rfl ?_
                     refine wp_seq ?_
                     refine wp_region_lit ?_
                     refine st_run tbOk 2 hA (e' := (44, .int .i64 (IntKind.i64.wrap (((t : Nat) : Int) + 1))) :: (43, .int .i64 ((t : Nat) : Int)) :: _) rfl ?_; clear hA; intro a hA
                     replace hA := hA.rw 44 (v' := .int .i64 ((t + 1 : Nat) : Int)) rfl (wr64 (by omega) (by omega) (by omega))
                     refine st_run tbOk 1 hA (e' := (4, .int .i64 ((t + 1 : Nat) : Int)) :: _) rfl ?_; clear hA; intro a hA
                     refine wpList_nil ?_
                     replace hA := hA.sel [3, 4, 5, 6, 7, 28, 29, 30] (e' := [(3, .pointer (some ⟨b2, 0, none⟩)), (4, .int .i64 ((t + 1 : Nat) : Int)), (5, .pointer (some ⟨b6, 0, none⟩)), (6, .pointer (some ⟨b8, 0, none⟩)), (7, .func (.func 5) #[] #[.pointer (some ⟨b6, 0, none⟩), .pointer (some ⟨b8, 0, none⟩)]), (28, .slice (some ⟨b12, o13, none⟩) l.length c), (29, .int .i64 ((l.length : Nat) : Int)), (30, .int .i64 ((k : Nat) : Int))]) rfl
                     refine xt_norm ?_
                     refine wp_seq ?_
                     refine wp_region_lit ?_
                     refine st_run tbOk 3 hA (e' := (18, .slice none 0 0) :: (17, .slice none 0 0) :: (16, .slice none 0 0) :: _) rfl ?_; clear hA; intro a hA
                     refine wpList_nil ?_
                     refine xt_norm ?_
                     refine wp_seq ?_
                     refine wp_seq ?_
                     refine wp_region_lit ?_
                     refine st_val hA rfl rfl (by decide) (rn_load tbOk hA rfl rfl rfl rfl (cell_row (hS.heapAt 2 rfl) rfl)) ?_; clear hA; intro a hA
                     refine st_run tbOk 2 hA (e' := (47, .int .i64 0) :: (46, .int .i64 (((ids al).length : Nat) : Int)) :: _) rfl ?_; clear hA; intro a hA
                     refine wpList_nil ?_
                     replace hA := hA.sel [3, 4, 5, 6, 7, 16, 17, 18, 28, 29, 30, 46, 47] (e' := [(3, .pointer (some ⟨b2, 0, none⟩)), (4, .int .i64 ((t + 1 : Nat) : Int)), (5, .pointer (some ⟨b6, 0, none⟩)), (6, .pointer (some ⟨b8, 0, none⟩)), (7, .func (.func 5) #[] #[.pointer (some ⟨b6, 0, none⟩), .pointer (some ⟨b8, 0, none⟩)]), (16, .slice none 0 0), (17, .slice none 0 0), (18, .slice none 0 0), (28, .slice (some ⟨b12, o13, none⟩) l.length c), (29, .int .i64 ((l.length : Nat) : Int)), (30, .int .i64 ((k : Nat) : Int)), (46, .int .i64 (((ids al).length : Nat) : Int)), (47, .int .i64 0)]) rfl
                     refine xt_norm ?_
                     refine wp_block ?_
                     replace hS := hS.nil
                     replace hS := hS.nil
                     replace hS := hS.nil
                     refine wp_loop_ghost (fun m a w => ∃ (j : Nat) (A1 : Option Addr) (c1 : Nat) (C1 : Chunk) (A2 : Option Addr) (c2 : Nat) (C2 : Chunk) (A3 : Option Addr) (c3 : Nat) (C3 : Chunk), m = (ids al).length - j ∧ Has a 180 [(3, .pointer (some ⟨b2, 0, none⟩)), (4, .int .i64 ((t + 1 : Nat) : Int)), (5, .pointer (some ⟨b6, 0, none⟩)), (6, .pointer (some ⟨b8, 0, none⟩)), (7, .func (.func 5) #[] #[.pointer (some ⟨b6, 0, none⟩), .pointer (some ⟨b8, 0, none⟩)]), (16, .slice A1 ((ring al (((t : Nat) : Int) + 1) j).length) c1), (17, .slice A2 ((ids (stay al ((t : Nat) : Int) j)).length) c2), (18, .slice A3 ((lf (stay al ((t : Nat) : Int) j) (((t : Nat) : Int) + 1)).length) c3), (28, .slice (some ⟨b12, o13, none⟩) l.length c), (29, .int .i64 ((l.length : Nat) : Int)), (30, .int .i64 ((k : Nat) : Int)), (46, .int .i64 (((ids al).length : Nat) : Int)), (47, .int .i64 ((j : Nat) : Int))] ∧ St w0 w (C1 :: C2 :: C3 :: [(b15, rowO [.int .u8 x14.1, .int .i8 x14.2.1, .int .i32 x14.2.2] 32)] :: L :: [(b6, rowO [.slice A5 ((ids al).length) c5] 28)] :: C5 :: [(b8, rowO [.slice A6 ((lf al ((t : Nat) : Int)).length) c6] 28)] :: C6 :: F) ∧ (j ≤ (ids al).length) ∧ (Own 3 1 (.slice A1 (ring al (((t : Nat) : Int) + 1) j).length c1) (ring al (((t : Nat) : Int) + 1) j).length (rows encI (ring al (((t : Nat) : Int) + 1) j)) C1) ∧ (Own 3 1 (.slice A2 (ids (stay al ((t : Nat) : Int) j)).length c2) (ids (stay al ((t : Nat) : Int) j)).length (rows encI (ids (stay al ((t : Nat) : Int) j))) C2) ∧ (Own 3 1 (.slice A3 (lf (stay al ((t : Nat) : Int) j) (((t : Nat) : Int) + 1)).length c3) (lf (stay al ((t : Nat) : Int) j) (((t : Nat) : Int) + 1)).length (rows encI (lf (stay al ((t : Nat) : Int) j) (((t : Nat) : Int) + 1))) C3)) ((ids al).length - 0)
                       ⟨0, none, 0, ([]), none, 0, ([]), none, 0, ([]), rfl, (hA.sel [3, 4, 5, 6, 7, 16, 17, 18, 28, 29, 30, 46, 47] rfl), hS, Nat.zero_le _, (Own.nil 3 1), (Own.nil 3 1), (Own.nil 3 1)⟩ ?_
                     clear hA hS; rintro m0 a w183 ⟨j, A1, c1, C1, A2, c2, C2, A3, c3, C3, rfl, hA, hS, hj, hR1, hR2, hR3⟩
                     have hrl := ring_le al (((t : Nat) : Int) + 1) j; have hsl := stay_len al ((t : Nat) : Int) j; have hs5 := ids_len (stay al ((t : Nat) : Int) j); have hs6 := lf_len (stay al ((t : Nat) : Int) j) (((t : Nat) : Int) + 1)
                     refine wp_seq ?_
                     refine wp_region_lit ?_
                     refine st_run tbOk 1 hA (e' := (48, .bool (decide (((j : Nat) : Int) < (((ids al).length : Nat) : Int)))) :: _) rfl ?_; clear hA; intro a hA
                     refine wpList_nil ?_
                     refine xt_norm ?_
                     refine wp_seq ?_
                     by_cases hc184 : ((j : Nat) : Int) < (((ids al).length : Nat) : Int)
                     · first
                       | (exfalso; omega)
                       | (replace hA := hA.rw 48 (v' := .bool true) rfl (vb_true hc184)
                          refine cd_cond_t hA rfl ?_
                          refine wp_skip ?_
                          refine xt_norm ?_
                          refine wp_seq ?_
                          refine wp_block ?_
                          refine wp_seq ?_
                          refine wp_region_lit ?_
                          obtain ⟨y, hy⟩ := get_ex (l := al) (k := j) (by omega)
                          have hyb := hT.bd _ (List.mem_of_getElem? hy)
                          refine st_run tbOk 2 hA (e' := (19, .int .i64 ((j : Nat) : Int)) :: (49, .int .i64 ((j : Nat) : Int)) :: _) rfl ?_; clear hA; intro a hA
                          refine wpList_nil ?_
                          replace hA := hA.sel [3, 4, 5, 6, 7, 16, 17, 18, 19, 28, 29, 30, 46, 47] (e' := [(3, .pointer (some ⟨b2, 0, none⟩)), (4, .int .i64 ((t + 1 : Nat) : Int)), (5, .pointer (some ⟨b6, 0, none⟩)), (6, .pointer (some ⟨b8, 0, none⟩)), (7, .func (.func 5) #[] #[.pointer (some ⟨b6, 0, none⟩), .pointer (some ⟨b8, 0, none⟩)]), (16, .slice A1 ((ring al (((t : Nat) : Int) + 1) j).length) c1), (17, .slice A2 ((ids (stay al ((t : Nat) : Int) j)).length) c2), (18, .slice A3 ((lf (stay al ((t : Nat) : Int) j) (((t : Nat) : Int) + 1)).length) c3), (19, .int .i64 ((j : Nat) : Int)), (28, .slice (some ⟨b12, o13, none⟩) l.length c), (29, .int .i64 ((l.length : Nat) : Int)), (30, .int .i64 ((k : Nat) : Int)), (46, .int .i64 (((ids al).length : Nat) : Int)), (47, .int .i64 ((j : Nat) : Int))]) rfl
                          refine xt_norm ?_
                          refine wp_seq ?_
                          refine wp_region_lit ?_
                          refine st_val hA rfl rfl (by decide) (rn_load tbOk hA rfl rfl rfl rfl (cell_row (hS.heapAt 7 rfl) rfl)) ?_; clear hA; intro a hA
                          refine st_run tbOk 1 hA (e' := (51, .int .i64 ((j : Nat) : Int)) :: _) rfl ?_; clear hA; intro a hA
                          obtain ⟨b185, o186, rfl⟩ := h6.isSome (k := j) (by omega)
                          refine st_val hA rfl rfl (by decide) (rn_indexAddr tbOk hA j (o186 + j) rfl rfl rfl rfl rfl rfl (by rfl) (by omega) (by first | rfl | simp [Nat.mul_one, Nat.zero_add] | omega)) ?_; clear hA; intro a hA
                          refine st_val hA rfl rfl (by decide) (rn_load tbOk hA rfl rfl rfl rfl ((h6.rd (hS.own_ 8 rfl)).elem0 (k := j) encI_ok (lf_get hy) rfl)) ?_; clear hA; intro a hA
                          refine st_run tbOk 1 hA (e' := (54, .bool ((y.2 - ((t : Nat) : Int)) == 1)) :: _) rfl ?_; clear hA; intro a hA
                          refine wpList_nil ?_
                          replace hA := hA.sel [3, 4, 5, 6, 7, 16, 17, 18, 19, 28, 29, 30, 46, 47, 54] (e' := [(3, .pointer (some ⟨b2, 0, none⟩)), (4, .int .i64 ((t + 1 : Nat) : Int)), (5, .pointer (some ⟨b6, 0, none⟩)), (6, .pointer (some ⟨b8, 0, none⟩)), (7, .func (.func 5) #[] #[.pointer (some ⟨b6, 0, none⟩), .pointer (some ⟨b8, 0, none⟩)]), (16, .slice A1 ((ring al (((t : Nat) : Int) + 1) j).length) c1), (17, .slice A2 ((ids (stay al ((t : Nat) : Int) j)).length) c2), (18, .slice A3 ((lf (stay al ((t : Nat) : Int) j) (((t : Nat) : Int) + 1)).length) c3), (19, .int .i64 ((j : Nat) : Int)), (28, .slice (some ⟨b12, o13, none⟩) l.length c), (29, .int .i64 ((l.length : Nat) : Int)), (30, .int .i64 ((k : Nat) : Int)), (46, .int .i64 (((ids al).length : Nat) : Int)), (47, .int .i64 ((j : Nat) : Int)), (54, .bool ((y.2 - ((t : Nat) : Int)) == 1))]) rfl
                          refine xt_norm ?_
                          by_cases hc187 : (y.2 - ((t : Nat) : Int)) = 1
                          · first
                            | (exfalso; omega)
                            | (replace hA := hA.rw 54 (v' := .bool true) rfl (vb_eq_t hc187)
                               refine cd_cond_t hA rfl ?_
                               refine wp_region_lit ?_
                               refine st_run tbOk 1 hA (e' := (55, .slice A1 ((ring al (((t : Nat) : Int) + 1) j).length) c1) :: _) rfl ?_; clear hA; intro a hA
                               refine st_val hA rfl rfl (by decide) (rn_load tbOk hA rfl rfl rfl rfl (cell_row (hS.heapAt 5 rfl) rfl)) ?_; clear hA; intro a hA
                               refine st_run tbOk 1 hA (e' := (57, .int .i64 ((j : Nat) : Int)) :: _) rfl ?_; clear hA; intro a hA
                               obtain ⟨b188, o189, rfl⟩ := h5.isSome (k := j) (by omega)
                               refine st_val hA rfl rfl (by decide) (rn_indexAddr tbOk hA j (o189 + j) rfl rfl rfl rfl rfl rfl (by rfl) (by omega) (by first | rfl | simp [Nat.mul_one, Nat.zero_add] | omega)) ?_; clear hA; intro a hA
                               refine st_val hA rfl rfl (by decide) (rn_load tbOk hA rfl rfl rfl rfl ((h5.rd (hS.own_ 6 rfl)).elem0 (k := j) encI_ok (ids_get hy) rfl)) ?_; clear hA; intro a hA
                               refine st_buildSlice tbOk hA hS [.int .i64 y.1] rfl rfl rfl rfl rfl (by decide) (by kernel_rfl) rfl rfl (by decide) ?_; clear hA hS; intro b190 w191 a hS hA
                               replace hS := hS.front 1 (C := C1) (L' := [(b190, rowO [.int .i64 y.1] 3)] :: C2 :: C3 :: [(b15, rowO [.int .u8 x14.1, .int .i8 x14.2.1, .int .i32 x14.2.2] 32)] :: L :: [(b6, rowO [.slice (some ⟨b188, o189, none⟩) ((ids al).length) c5] 28)] :: C5 :: [(b8, rowO [.slice (some ⟨b185, o186, none⟩) ((lf al ((t : Nat) : Int)).length) c6] 28)] :: C6 :: F) rfl rfl
                               refine st_append tbOk hA (m := (ring al (((t : Nat) : Int) + 1) j).length) (q := 1) (xs := rows encI (ring al (((t : Nat) : Int) + 1) j)) (news := rows encI ([y.1] : List Int)) rfl rfl rfl rfl rfl rfl rfl rfl (by decide) hR1 hS ((Own.full (T := 3) (size := 1) (g := b190) (m := 1) rfl (by decide)).rd (hS.own_ 1 rfl)) (rows_one encI_ok _) (maxLen_le (by first | omega | (simp; omega))) (by show ((ring al (((t : Nat) : Int) + 1) j).length + 1) * 8 ≤ 140737488355328; first | omega | (simp; omega)) rfl rfl (by decide) ?_
                               clear hA hS; intro v192 w193 C194 a hO194 hS hA
                               replace hO194 := Own.app (l := ring al (((t : Nat) : Int) + 1) j) (l2 := ([y.1] : List Int)) hO194
                               obtain ⟨A195, c196, rfl, hmc196, hxc196⟩ := hO194.open'
                               refine st_run tbOk 1 hA (e' := (16, .slice A195 (((ring al (((t : Nat) : Int) + 1) j) ++ ([y.1] : List Int)).length) c196) :: _) rfl ?_; clear hA; intro a hA
                               refine wpList_nil ?_
                               replace hA := hA.sel [3, 4, 5, 6, 7, 16, 17, 18, 28, 29, 30, 46, 47] (e' := [(3, .pointer (some ⟨b2, 0, none⟩)), (4, .int .i64 ((t + 1 : Nat) : Int)), (5, .pointer (some ⟨b6, 0, none⟩)), (6, .pointer (some ⟨b8, 0, none⟩)), (7, .func (.func 5) #[] #[.pointer (some ⟨b6, 0, none⟩), .pointer (some ⟨b8, 0, none⟩)]), (16, .slice A195 (((ring al (((t : Nat) : Int) + 1) j) ++ ([y.1] : List Int)).length) c196), (17, .slice A2 ((ids (stay al ((t : Nat) : Int) j)).length) c2), (18, .slice A3 ((lf (stay al ((t : Nat) : Int) j) (((t : Nat) : Int) + 1)).length) c3), (28, .slice (some ⟨b12, o13, none⟩) l.length c), (29, .int .i64 ((l.length : Nat) : Int)), (30, .int .i64 ((k : Nat) : Int)), (46, .int .i64 (((ids al).length : Nat) : Int)), (47, .int .i64 ((j : Nat) : Int))]) rfl
                               refine xb_norm ?_
                               refine xt_norm ?_
                               refine wp_region_lit ?_
                               refine st_run tbOk 1 hA (e' := (77, .int .i64 (IntKind.i64.wrap (((j : Nat) : Int) + 1))) :: _) rfl ?_; clear hA; intro a hA
                               replace hA := hA.rw 77 (v' := .int .i64 ((j + 1 : Nat) : Int)) rfl (wr64 (by omega) (by omega) (by omega))
                               refine st_run tbOk 1 hA (e' := (47, .int .i64 ((j + 1 : Nat) : Int)) :: _) rfl ?_; clear hA; intro a hA
                               refine wpList_nil ?_
                               replace hA := hA.sel [3, 4, 5, 6, 7, 16, 17, 18, 28, 29, 30, 46, 47] (e' := [(3, .pointer (some ⟨b2, 0, none⟩)), (4, .int .i64 ((t + 1 : Nat) : Int)), (5, .pointer (some ⟨b6, 0, none⟩)), (6, .pointer (some ⟨b8, 0, none⟩)), (7, .func (.func 5) #[] #[.pointer (some ⟨b6, 0, none⟩), .pointer (some ⟨b8, 0, none⟩)]), (16, .slice A195 (((ring al (((t : Nat) : Int) + 1) j) ++ ([y.1] : List Int)).length) c196), (17, .slice A2 ((ids (stay al ((t : Nat) : Int) j)).length) c2), (18, .slice A3 ((lf (stay al ((t : Nat) : Int) j) (((t : Nat) : Int) + 1)).length) c3), (28, .slice (some ⟨b12, o13, none⟩) l.length c), (29, .int .i64 ((l.length : Nat) : Int)), (30, .int .i64 ((k : Nat) : Int)), (46, .int .i64 (((ids al).length : Nat) : Int)), (47, .int .i64 ((j + 1 : Nat) : Int))]) rfl
                               have hsn := stay_no hy (by omega)
                               have hl : (ring al (((t : Nat) : Int) + 1) j) ++ ([y.1] : List Int) = ring al (((t : Nat) : Int) + 1) (j + 1) := ring_yes hy (by omega)
                               rw [hl] at hO194; rw [hl] at hA
                               have hl : ids (stay al ((t : Nat) : Int) j) = ids (stay al ((t : Nat) : Int) (j + 1)) := by rw [hsn]
                               rw [hl] at hR2; rw [hl] at hA
                               have hl : lf (stay al ((t : Nat) : Int) j) (((t : Nat) : Int) + 1) = lf (stay al ((t : Nat) : Int) (j + 1)) (((t : Nat) : Int) + 1) := by rw [hsn]
                               rw [hl] at hR3; rw [hl] at hA
                               replace hS := hS.front 1 (C := [(b190, rowO [.int .i64 y.1] 3)]) (L' := C194 :: C2 :: C3 :: [(b15, rowO [.int .u8 x14.1, .int .i8 x14.2.1, .int .i32 x14.2.2] 32)] :: L :: [(b6, rowO [.slice (some ⟨b188, o189, none⟩) ((ids al).length) c5] 28)] :: C5 :: [(b8, rowO [.slice (some ⟨b185, o186, none⟩) ((lf al ((t : Nat) : Int)).length) c6] 28)] :: C6 :: F) rfl rfl
                               replace hS := hS.drop1
                               replace hS := hS.front 8 (C := C6) (L' := C194 :: C2 :: C3 :: [(b15, rowO [.int .u8 x14.1, .int .i8 x14.2.1, .int .i32 x14.2.2] 32)] :: L :: [(b6, rowO [.slice (some ⟨b188, o189, none⟩) ((ids al).length) c5] 28)] :: C5 :: [(b8, rowO [.slice (some ⟨b185, o186, none⟩) ((lf al ((t : Nat) : Int)).length) c6] 28)] :: F) rfl rfl
                               replace hS := hS.front 8 (C := [(b8, rowO [.slice (some ⟨b185, o186, none⟩) ((lf al ((t : Nat) : Int)).length) c6] 28)]) (L' := C6 :: C194 :: C2 :: C3 :: [(b15, rowO [.int .u8 x14.1, .int .i8 x14.2.1, .int .i32 x14.2.2] 32)] :: L :: [(b6, rowO [.slice (some ⟨b188, o189, none⟩) ((ids al).length) c5] 28)] :: C5 :: F) rfl rfl
                               replace hS := hS.front 8 (C := C5) (L' := [(b8, rowO [.slice (some ⟨b185, o186, none⟩) ((lf al ((t : Nat) : Int)).length) c6] 28)] :: C6 :: C194 :: C2 :: C3 :: [(b15, rowO [.int .u8 x14.1, .int .i8 x14.2.1, .int .i32 x14.2.2] 32)] :: L :: [(b6, rowO [.slice (some ⟨b188, o189, none⟩) ((ids al).length) c5] 28)] :: F) rfl rfl
                               replace hS := hS.front 8 (C := [(b6, rowO [.slice (some ⟨b188, o189, none⟩) ((ids al).length) c5] 28)]) (L' := C5 :: [(b8, rowO [.slice (some ⟨b185, o186, none⟩) ((lf al ((t : Nat) : Int)).length) c6] 28)] :: C6 :: C194 :: C2 :: C3 :: [(b15, rowO [.int .u8 x14.1, .int .i8 x14.2.1, .int .i32 x14.2.2] 32)] :: L :: F) rfl rfl
                               replace hS := hS.front 8 (C := L) (L' := [(b6, rowO [.slice (some ⟨b188, o189, none⟩) ((ids al).length) c5] 28)] :: C5 :: [(b8, rowO [.slice (some ⟨b185, o186, none⟩) ((lf al ((t : Nat) : Int)).length) c6] 28)] :: C6 :: C194 :: C2 :: C3 :: [(b15, rowO [.int .u8 x14.1, .int .i8 x14.2.1, .int .i32 x14.2.2] 32)] :: F) rfl rfl
                               replace hS := hS.front 8 (C := [(b15, rowO [.int .u8 x14.1, .int .i8 x14.2.1, .int .i32 x14.2.2] 32)]) (L' := L :: [(b6, rowO [.slice (some ⟨b188, o189, none⟩) ((ids al).length) c5] 28)] :: C5 :: [(b8, rowO [.slice (some ⟨b185, o186, none⟩) ((lf al ((t : Nat) : Int)).length) c6] 28)] :: C6 :: C194 :: C2 :: C3 :: F) rfl rfl
                               replace hS := hS.front 8 (C := C3) (L' := [(b15, rowO [.int .u8 x14.1, .int .i8 x14.2.1, .int .i32 x14.2.2] 32)] :: L :: [(b6, rowO [.slice (some ⟨b188, o189, none⟩) ((ids al).length) c5] 28)] :: C5 :: [(b8, rowO [.slice (some ⟨b185, o186, none⟩) ((lf al ((t : Nat) : Int)).length) c6] 28)] :: C6 :: C194 :: C2 :: F) rfl rfl
                               replace hS := hS.front 8 (C := C2) (L' := C3 :: [(b15, rowO [.int .u8 x14.1, .int .i8 x14.2.1, .int .i32 x14.2.2] 32)] :: L :: [(b6, rowO [.slice (some ⟨b188, o189, none⟩) ((ids al).length) c5] 28)] :: C5 :: [(b8, rowO [.slice (some ⟨b185, o186, none⟩) ((lf al ((t : Nat) : Int)).length) c6] 28)] :: C6 :: C194 :: F) rfl rfl
                               replace hS := hS.front 8 (C := C194) (L' := C2 :: C3 :: [(b15, rowO [.int .u8 x14.1, .int .i8 x14.2.1, .int .i32 x14.2.2] 32)] :: L :: [(b6, rowO [.slice (some ⟨b188, o189, none⟩) ((ids al).length) c5] 28)] :: C5 :: [(b8, rowO [.slice (some ⟨b185, o186, none⟩) ((lf al ((t : Nat) : Int)).length) c6] 28)] :: C6 :: F) rfl rfl
                               exact lp_next _ (by omega) ⟨(j + 1), A195, c196, C194, A2, c2, C2, A3, c3, C3, rfl, (hA.sel [3, 4, 5, 6, 7, 16, 17, 18, 28, 29, 30, 46, 47] rfl), hS, by omega, hO194, hR2, hR3⟩)
                          · first
                            | (exfalso; omega)
                            | (replace hA := hA.rw 54 (v' := .bool false) rfl (vb_eq_f hc187)
                               refine cd_cond_f hA rfl ?_
                               replace hS := hS.front 2 (C := C3) (L' := C1 :: C2 :: [(b15, rowO [.int .u8 x14.1, .int .i8 x14.2.1, .int .i32 x14.2.2] 32)] :: L :: [(b6, rowO [.slice A5 ((ids al).length) c5] 28)] :: C5 :: [(b8, rowO [.slice (some ⟨b185, o186, none⟩) ((lf al ((t : Nat) : Int)).length) c6] 28)] :: C6 :: F) rfl rfl
                               replace hS := hS.front 2 (C := C2) (L' := C3 :: C1 :: [(b15, rowO [.int .u8 x14.1, .int .i8 x14.2.1, .int .i32 x14.2.2] 32)] :: L :: [(b6, rowO [.slice A5 ((ids al).length) c5] 28)] :: C5 :: [(b8, rowO [.slice (some ⟨b185, o186, none⟩) ((lf al ((t : Nat) : Int)).length) c6] 28)] :: C6 :: F) rfl rfl
                               refine wp_drawN (fun w' => St w0 w' (C1 :: [(b15, rowO [.int .u8 x14.1, .int .i8 x14.2.1, .int .i32 x14.2.2] 32)] :: L :: [(b6, rowO [.slice A5 ((ids al).length) c5] 28)] :: C5 :: [(b8, rowO [.slice (some ⟨b185, o186, none⟩) ((lf al ((t : Nat) : Int)).length) c6] 28)] :: C6 :: F)) [] [(0, true), (1, true), (2, true), (3, true), (4, true), (7, true), (8, true), (9, true), (10, true), (11, true), (12, true)] 5 (.N [] 6 (.L [(13, false), (14, false), (15, true), (16, true)]) 13 (.L [(6, false), (14, false), (15, true), (16, true)])) 13 (.L [(5, false), (6, false), (14, false), (15, true), (16, true)]) mixed (by kernel_rfl) (by rintro c a w ⟨_, _, h, _⟩; cases h) (by rfl) (by kernel_rfl) ?_
                               replace hS := hS.drew
                               refine dr_run tbOk 1 hA (hS.tail 2 rfl) (e' := (62, .slice A2 ((ids (stay al ((t : Nat) : Int) j)).length) c2) :: _) rfl ?_; clear hA; intro a hA
                               refine dr_y hA rfl rfl rfl (by decide) (hS.tail 2 rfl) (fun w' hS' => rn_load tbOk hA rfl rfl rfl rfl (cell_row (hS'.heapAt 3 rfl) rfl)) ?_; clear hA; intro a hA
                               refine dr_run tbOk 1 hA (hS.tail 2 rfl) (e' := (64, .int .i64 ((j : Nat) : Int)) :: _) rfl ?_; clear hA; intro a hA
                               obtain ⟨b197, o198, rfl⟩ := h5.isSome (k := j) (by omega)
                               refine dr_y hA rfl rfl rfl (by decide) (hS.tail 2 rfl) (fun w' hS' => rn_indexAddr tbOk hA j (o198 + j) rfl rfl rfl rfl rfl rfl (by rfl) (by omega) (by first | rfl | simp [Nat.mul_one, Nat.zero_add] | omega)) ?_; clear hA; intro a hA
                               refine dr_y hA rfl rfl rfl (by decide) (hS.tail 2 rfl) (fun w' hS' => rn_load tbOk hA rfl rfl rfl rfl ((h5.rd (hS'.own_ 4 rfl)).elem0 (k := j) encI_ok (ids_get hy) rfl)) ?_; clear hA; intro a hA
                               refine dr_run tbOk 1 hA (hS.tail 2 rfl) (e' := (69, .slice A3 ((lf (stay al ((t : Nat) : Int) j) (((t : Nat) : Int) + 1)).length) c3) :: _) rfl ?_; clear hA; intro a hA
                               refine dr_y hA rfl rfl rfl (by decide) (hS.tail 2 rfl) (fun w' hS' => rn_load tbOk hA rfl rfl rfl rfl (cell_row (hS'.heapAt 5 rfl) rfl)) ?_; clear hA; intro a hA
                               refine dr_run tbOk 1 hA (hS.tail 2 rfl) (e' := (71, .int .i64 ((j : Nat) : Int)) :: _) rfl ?_; clear hA; intro a hA
                               refine dr_y hA rfl rfl rfl (by decide) (hS.tail 2 rfl) (fun w' hS' => rn_indexAddr tbOk hA j (o186 + j) rfl rfl rfl rfl rfl rfl (by rfl) (by omega) (by first | rfl | simp [Nat.mul_one, Nat.zero_add] | omega)) ?_; clear hA; intro a hA
                               refine dr_y hA rfl rfl rfl (by decide) (hS.tail 2 rfl) (fun w' hS' => rn_load tbOk hA rfl rfl rfl rfl ((h6.rd (hS'.own_ 6 rfl)).elem0 (k := j) encI_ok (lf_get hy) rfl)) ?_; clear hA; intro a hA
                               refine dr_run tbOk 1 hA (hS.tail 2 rfl) (e' := (74, .int .i64 (IntKind.i64.wrap ((y.2 - ((t : Nat) : Int)) - 1))) :: _) rfl ?_; clear hA; intro a hA
                               replace hA := hA.rw 74 (v' := .int .i64 ((y.2 - ((t : Nat) : Int)) - 1)) rfl (wr64 (by omega) (by omega) (by omega))
                               refine dr_fork ?_ ?_
                               · refine dr_b (o := _) rfl ?_
                                 refine st_buildSlice tbOk hA hS [.int .i64 y.1] rfl rfl rfl rfl rfl (by decide) (by kernel_rfl) rfl rfl (by decide) ?_; clear hA hS; intro b199 w200 a hS hA
                                 refine dr_nil (.inr (hS.tail 3 rfl)) ?_
                                 refine dr_subN ?_
                                 refine dr_fork ?_ ?_
                                 · refine dr_b (o := _) rfl ?_
                                   replace hS := hS.front 1 (C := C2) (L' := [(b199, rowO [.int .i64 y.1] 3)] :: C3 :: C1 :: [(b15, rowO [.int .u8 x14.1, .int .i8 x14.2.1, .int .i32 x14.2.2] 32)] :: L :: [(b6, rowO [.slice (some ⟨b197, o198, none⟩) ((ids al).length) c5] 28)] :: C5 :: [(b8, rowO [.slice (some ⟨b185, o186, none⟩) ((lf al ((t : Nat) : Int)).length) c6] 28)] :: C6 :: F) rfl rfl
                                   refine st_append tbOk hA (m := (ids (stay al ((t : Nat) : Int) j)).length) (q := 1) (xs := rows encI (ids (stay al ((t : Nat) : Int) j))) (news := rows encI ([y.1] : List Int)) rfl rfl rfl rfl rfl rfl rfl rfl (by decide) hR2 hS ((Own.full (T := 3) (size := 1) (g := b199) (m := 1) rfl (by decide)).rd (hS.own_ 1 rfl)) (rows_one encI_ok _) (maxLen_le (by first | omega | (simp; omega))) (by show ((ids (stay al ((t : Nat) : Int) j)).length + 1) * 8 ≤ 140737488355328; first | omega | (simp; omega)) rfl rfl (by decide) ?_
                                   clear hA hS; intro v201 w202 C203 a hO203 hS hA
                                   replace hO203 := Own.app (l := ids (stay al ((t : Nat) : Int) j)) (l2 := ([y.1] : List Int)) hO203
                                   obtain ⟨A204, c205, rfl, hmc205, hxc205⟩ := hO203.open'
                                   refine dr_nil (.inr (hS.tail 3 rfl)) ?_
                                   refine dr_subL ?_
                                   refine dr_b (o := _) rfl ?_
                                   refine st_buildSlice tbOk hA hS [.int .i64 ((y.2 - ((t : Nat) : Int)) - 1)] rfl rfl rfl rfl rfl (by decide) (by kernel_rfl) rfl rfl (by decide) ?_; clear hA hS; intro b206 w207 a hS hA
                                   refine dr_nil (.inr (hS.tail 4 rfl)) ?_
                                   refine dr_b (o := _) rfl ?_
                                   replace hS := hS.front 3 (C := C3) (L' := [(b206, rowO [.int .i64 ((y.2 - ((t : Nat) : Int)) - 1)] 3)] :: C203 :: [(b199, rowO [.int .i64 y.1] 3)] :: C1 :: [(b15, rowO [.int .u8 x14.1, .int .i8 x14.2.1, .int .i32 x14.2.2] 32)] :: L :: [(b6, rowO [.slice (some ⟨b197, o198, none⟩) ((ids al).length) c5] 28)] :: C5 :: [(b8, rowO [.slice (some ⟨b185, o186, none⟩) ((lf al ((t : Nat) : Int)).length) c6] 28)] :: C6 :: F) rfl rfl
                                   refine st_append tbOk hA (m := (lf (stay al ((t : Nat) : Int) j) (((t : Nat) : Int) + 1)).length) (q := 1) (xs := rows encI (lf (stay al ((t : Nat) : Int) j) (((t : Nat) : Int) + 1))) (news := rows encI ([(y.2 - ((t : Nat) : Int)) - 1] : List Int)) rfl rfl rfl rfl rfl rfl rfl rfl (by decide) hR3 hS ((Own.full (T := 3) (size := 1) (g := b206) (m := 1) rfl (by decide)).rd (hS.own_ 1 rfl)) (rows_one encI_ok _) (maxLen_le (by first | omega | (simp; omega))) (by show ((lf (stay al ((t : Nat) : Int) j) (((t : Nat) : Int) + 1)).length + 1) * 8 ≤ 140737488355328; first | omega | (simp; omega)) rfl rfl (by decide) ?_
                                   clear hA hS; intro v208 w209 C210 a hO210 hS hA
                                   replace hO210 := Own.app (l := lf (stay al ((t : Nat) : Int) j) (((t : Nat) : Int) + 1)) (l2 := ([(y.2 - ((t : Nat) : Int)) - 1] : List Int)) hO210
                                   obtain ⟨A211, c212, rfl, hmc212, hxc212⟩ := hO210.open'
                                   refine dr_nil (.inr (hS.tail 4 rfl)) ?_
                                   refine dr_run tbOk 2 hA (hS.tail 4 rfl) (e' := (18, .slice A211 (((lf (stay al ((t : Nat) : Int) j) (((t : Nat) : Int) + 1)) ++ ([(y.2 - ((t : Nat) : Int)) - 1] : List Int)).length) c212) :: (17, .slice A204 (((ids (stay al ((t : Nat) : Int) j)) ++ ([y.1] : List Int)).length) c205) :: _) rfl ?_; clear hA; intro a hA
                                   refine dr_end ?_
                                   replace hA := hA.sel [3, 4, 5, 6, 7, 16, 17, 18, 28, 29, 30, 46, 47] (e' := [(3, .pointer (some ⟨b2, 0, none⟩)), (4, .int .i64 ((t + 1 : Nat) : Int)), (5, .pointer (some ⟨b6, 0, none⟩)), (6, .pointer (some ⟨b8, 0, none⟩)), (7, .func (.func 5) #[] #[.pointer (some ⟨b6, 0, none⟩), .pointer (some ⟨b8, 0, none⟩)]), (16, .slice A1 ((ring al (((t : Nat) : Int) + 1) j).length) c1), (17, .slice A204 (((ids (stay al ((t : Nat) : Int) j)) ++ ([y.1] : List Int)).length) c205), (18, .slice A211 (((lf (stay al ((t : Nat) : Int) j) (((t : Nat) : Int) + 1)) ++ ([(y.2 - ((t : Nat) : Int)) - 1] : List Int)).length) c212), (28, .slice (some ⟨b12, o13, none⟩) l.length c), (29, .int .i64 ((l.length : Nat) : Int)), (30, .int .i64 ((k : Nat) : Int)), (46, .int .i64 (((ids al).length : Nat) : Int)), (47, .int .i64 ((j : Nat) : Int))]) rfl
                                   refine xb_norm ?_
                                   refine xt_norm ?_
                                   refine wp_region_lit ?_
                                   refine st_run tbOk 1 hA (e' := (77, .int .i64 (IntKind.i64.wrap (((j : Nat) : Int) + 1))) :: _) rfl ?_; clear hA; intro a hA
                                   replace hA := hA.rw 77 (v' := .int .i64 ((j + 1 : Nat) : Int)) rfl (wr64 (by omega) (by omega) (by omega))
                                   refine st_run tbOk 1 hA (e' := (47, .int .i64 ((j + 1 : Nat) : Int)) :: _) rfl ?_; clear hA; intro a hA
                                   refine wpList_nil ?_
                                   replace hA := hA.sel [3, 4, 5, 6, 7, 16, 17, 18, 28, 29, 30, 46, 47] (e' := [(3, .pointer (some ⟨b2, 0, none⟩)), (4, .int .i64 ((t + 1 : Nat) : Int)), (5, .pointer (some ⟨b6, 0, none⟩)), (6, .pointer (some ⟨b8, 0, none⟩)), (7, .func (.func 5) #[] #[.pointer (some ⟨b6, 0, none⟩), .pointer (some ⟨b8, 0, none⟩)]), (16, .slice A1 ((ring al (((t : Nat) : Int) + 1) j).length) c1), (17, .slice A204 (((ids (stay al ((t : Nat) : Int) j)) ++ ([y.1] : List Int)).length) c205), (18, .slice A211 (((lf (stay al ((t : Nat) : Int) j) (((t : Nat) : Int) + 1)) ++ ([(y.2 - ((t : Nat) : Int)) - 1] : List Int)).length) c212), (28, .slice (some ⟨b12, o13, none⟩) l.length c), (29, .int .i64 ((l.length : Nat) : Int)), (30, .int .i64 ((k : Nat) : Int)), (46, .int .i64 (((ids al).length : Nat) : Int)), (47, .int .i64 ((j + 1 : Nat) : Int))]) rfl
                                   have hsn := stay_yes hy (by omega)
                                   have hl : ring al (((t : Nat) : Int) + 1) j = ring al (((t : Nat) : Int) + 1) (j + 1) := ring_no hy (by omega)
                                   rw [hl] at hR1; rw [hl] at hA
                                   have hl : (ids (stay al ((t : Nat) : Int) j)) ++ ([y.1] : List Int) = ids (stay al ((t : Nat) : Int) (j + 1)) := by rw [hsn, ids_app]; rfl
                                   rw [hl] at hO203; rw [hl] at hA
                                   have hl : (lf (stay al ((t : Nat) : Int) j) (((t : Nat) : Int) + 1)) ++ ([(y.2 - ((t : Nat) : Int)) - 1] : List Int) = lf (stay al ((t : Nat) : Int) (j + 1)) (((t : Nat) : Int) + 1) := by rw [hsn, lf_app]; congr 1; simp [lf]; omega
                                   rw [hl] at hO210; rw [hl] at hA
                                   replace hS := hS.front 1 (C := [(b206, rowO [.int .i64 ((y.2 - ((t : Nat) : Int)) - 1)] 3)]) (L' := C210 :: C203 :: [(b199, rowO [.int .i64 y.1] 3)] :: C1 :: [(b15, rowO [.int .u8 x14.1, .int .i8 x14.2.1, .int .i32 x14.2.2] 32)] :: L :: [(b6, rowO [.slice (some ⟨b197, o198, none⟩) ((ids al).length) c5] 28)] :: C5 :: [(b8, rowO [.slice (some ⟨b185, o186, none⟩) ((lf al ((t : Nat) : Int)).length) c6] 28)] :: C6 :: F) rfl rfl
                                   replace hS := hS.drop1
                                   replace hS := hS.front 2 (C := [(b199, rowO [.int .i64 y.1] 3)]) (L' := C210 :: C203 :: C1 :: [(b15, rowO [.int .u8 x14.1, .int .i8 x14.2.1, .int .i32 x14.2.2] 32)] :: L :: [(b6, rowO [.slice (some ⟨b197, o198, none⟩) ((ids al).length) c5] 28)] :: C5 :: [(b8, rowO [.slice (some ⟨b185, o186, none⟩) ((lf al ((t : Nat) : Int)).length) c6] 28)] :: C6 :: F) rfl rfl
                                   replace hS := hS.drop1
                                   replace hS := hS.front 8 (C := C6) (L' := C210 :: C203 :: C1 :: [(b15, rowO [.int .u8 x14.1, .int .i8 x14.2.1, .int .i32 x14.2.2] 32)] :: L :: [(b6, rowO [.slice (some ⟨b197, o198, none⟩) ((ids al).length) c5] 28)] :: C5 :: [(b8, rowO [.slice (some ⟨b185, o186, none⟩) ((lf al ((t : Nat) : Int)).length) c6] 28)] :: F) rfl rfl
                                   replace hS := hS.front 8 (C := [(b8, rowO [.slice (some ⟨b185, o186, none⟩) ((lf al ((t : Nat) : Int)).length) c6] 28)]) (L' := C6 :: C210 :: C203 :: C1 :: [(b15, rowO [.int .u8 x14.1, .int .i8 x14.2.1, .int .i32 x14.2.2] 32)] :: L :: [(b6, rowO [.slice (some ⟨b197, o198, none⟩) ((ids al).length) c5] 28)] :: C5 :: F) rfl rfl
                                   replace hS := hS.front 8 (C := C5) (L' := [(b8, rowO [.slice (some ⟨b185, o186, none⟩) ((lf al ((t : Nat) : Int)).length) c6] 28)] :: C6 :: C210 :: C203 :: C1 :: [(b15, rowO [.int .u8 x14.1, .int .i8 x14.2.1, .int .i32 x14.2.2] 32)] :: L :: [(b6, rowO [.slice (some ⟨b197, o198, none⟩) ((ids al).length) c5] 28)] :: F) rfl rfl
                                   replace hS := hS.front 8 (C := [(b6, rowO [.slice (some ⟨b197, o198, none⟩) ((ids al).length) c5] 28)]) (L' := C5 :: [(b8, rowO [.slice (some ⟨b185, o186, none⟩) ((lf al ((t : Nat) : Int)).length) c6] 28)] :: C6 :: C210 :: C203 :: C1 :: [(b15, rowO [.int .u8 x14.1, .int .i8 x14.2.1, .int .i32 x14.2.2] 32)] :: L :: F) rfl rfl
                                   replace hS := hS.front 8 (C := L) (L' := [(b6, rowO [.slice (some ⟨b197, o198, none⟩) ((ids al).length) c5] 28)] :: C5 :: [(b8, rowO [.slice (some ⟨b185, o186, none⟩) ((lf al ((t : Nat) : Int)).length) c6] 28)] :: C6 :: C210 :: C203 :: C1 :: [(b15, rowO [.int .u8 x14.1, .int .i8 x14.2.1, .int .i32 x14.2.2] 32)] :: F) rfl rfl
                                   replace hS := hS.front 8 (C := [(b15, rowO [.int .u8 x14.1, .int .i8 x14.2.1, .int .i32 x14.2.2] 32)]) (L' := L :: [(b6, rowO [.slice (some ⟨b197, o198, none⟩) ((ids al).length) c5] 28)] :: C5 :: [(b8, rowO [.slice (some ⟨b185, o186, none⟩) ((lf al ((t : Nat) : Int)).length) c6] 28)] :: C6 :: C210 :: C203 :: C1 :: F) rfl rfl
                                   replace hS := hS.front 6 (C := C210) (L' := [(b15, rowO [.int .u8 x14.1, .int .i8 x14.2.1, .int .i32 x14.2.2] 32)] :: L :: [(b6, rowO [.slice (some ⟨b197, o198, none⟩) ((ids al).length) c5] 28)] :: C5 :: [(b8, rowO [.slice (some ⟨b185, o186, none⟩) ((lf al ((t : Nat) : Int)).length) c6] 28)] :: C6 :: C203 :: C1 :: F) rfl rfl
                                   replace hS := hS.front 7 (C := C203) (L' := C210 :: [(b15, rowO [.int .u8 x14.1, .int .i8 x14.2.1, .int .i32 x14.2.2] 32)] :: L :: [(b6, rowO [.slice (some ⟨b197, o198, none⟩) ((ids al).length) c5] 28)] :: C5 :: [(b8, rowO [.slice (some ⟨b185, o186, none⟩) ((lf al ((t : Nat) : Int)).length) c6] 28)] :: C6 :: C1 :: F) rfl rfl
                                   replace hS := hS.front 8 (C := C1) (L' := C203 :: C210 :: [(b15, rowO [.int .u8 x14.1, .int .i8 x14.2.1, .int .i32 x14.2.2] 32)] :: L :: [(b6, rowO [.slice (some ⟨b197, o198, none⟩) ((ids al).length) c5] 28)] :: C5 :: [(b8, rowO [.slice (some ⟨b185, o186, none⟩) ((lf al ((t : Nat) : Int)).length) c6] 28)] :: C6 :: F) rfl rfl
                                   exact lp_next _ (by omega) ⟨(j + 1), A1, c1, C1, A204, c205, C203, A211, c212, C210, rfl, (hA.sel [3, 4, 5, 6, 7, 16, 17, 18, 28, 29, 30, 46, 47] rfl), hS, by omega, hR1, hO203, hO210⟩
                                 · refine dr_b (o := _) rfl ?_
                                   refine st_buildSlice tbOk hA hS [.int .i64 ((y.2 - ((t : Nat) : Int)) - 1)] rfl rfl rfl rfl rfl (by decide) (by kernel_rfl) rfl rfl (by decide) ?_; clear hA hS; intro b213 w214 a hS hA
                                   refine dr_nil (.inr (hS.tail 4 rfl)) ?_
                                   refine dr_subL ?_
                                   refine dr_b (o := _) rfl ?_
                                   replace hS := hS.front 2 (C := C2) (L' := [(b213, rowO [.int .i64 ((y.2 - ((t : Nat) : Int)) - 1)] 3)] :: [(b199, rowO [.int .i64 y.1] 3)] :: C3 :: C1 :: [(b15, rowO [.int .u8 x14.1, .int .i8 x14.2.1, .int .i32 x14.2.2] 32)] :: L :: [(b6, rowO [.slice (some ⟨b197, o198, none⟩) ((ids al).length) c5] 28)] :: C5 :: [(b8, rowO [.slice (some ⟨b185, o186, none⟩) ((lf al ((t : Nat) : Int)).length) c6] 28)] :: C6 :: F) rfl rfl
                                   refine st_append tbOk hA (m := (ids (stay al ((t : Nat) : Int) j)).length) (q := 1) (xs := rows encI (ids (stay al ((t : Nat) : Int) j))) (news := rows encI ([y.1] : List Int)) rfl rfl rfl rfl rfl rfl rfl rfl (by decide) hR2 hS ((Own.full (T := 3) (size := 1) (g := b199) (m := 1) rfl (by decide)).rd (hS.own_ 2 rfl)) (rows_one encI_ok _) (maxLen_le (by first | omega | (simp; omega))) (by show ((ids (stay al ((t : Nat) : Int) j)).length + 1) * 8 ≤ 140737488355328; first | omega | (simp; omega)) rfl rfl (by decide) ?_
                                   clear hA hS; intro v215 w216 C217 a hO217 hS hA
                                   replace hO217 := Own.app (l := ids (stay al ((t : Nat) : Int) j)) (l2 := ([y.1] : List Int)) hO217
                                   obtain ⟨A218, c219, rfl, hmc219, hxc219⟩ := hO217.open'
                                   refine dr_nil (.inr (hS.tail 4 rfl)) ?_
                                   refine dr_b (o := _) rfl ?_
                                   replace hS := hS.front 3 (C := C3) (L' := C217 :: [(b213, rowO [.int .i64 ((y.2 - ((t : Nat) : Int)) - 1)] 3)] :: [(b199, rowO [.int .i64 y.1] 3)] :: C1 :: [(b15, rowO [.int .u8 x14.1, .int .i8 x14.2.1, .int .i32 x14.2.2] 32)] :: L :: [(b6, rowO [.slice (some ⟨b197, o198, none⟩) ((ids al).length) c5] 28)] :: C5 :: [(b8, rowO [.slice (some ⟨b185, o186, none⟩) ((lf al ((t : Nat) : Int)).length) c6] 28)] :: C6 :: F) rfl rfl
                                   refine st_append tbOk hA (m := (lf (stay al ((t : Nat) : Int) j) (((t : Nat) : Int) + 1)).length) (q := 1) (xs := rows encI (lf (stay al ((t : Nat) : Int) j) (((t : Nat) : Int) + 1))) (news := rows encI ([(y.2 - ((t : Nat) : Int)) - 1] : List Int)) rfl rfl rfl rfl rfl rfl rfl rfl (by decide) hR3 hS ((Own.full (T := 3) (size := 1) (g := b213) (m := 1) rfl (by decide)).rd (hS.own_ 2 rfl)) (rows_one encI_ok _) (maxLen_le (by first | omega | (simp; omega))) (by show ((lf (stay al ((t : Nat) : Int) j) (((t : Nat) : Int) + 1)).length + 1) * 8 ≤ 140737488355328; first | omega | (simp; omega)) rfl rfl (by decide) ?_
                                   clear hA hS; intro v220 w221 C222 a hO222 hS hA
                                   replace hO222 := Own.app (l := lf (stay al ((t : Nat) : Int) j) (((t : Nat) : Int) + 1)) (l2 := ([(y.2 - ((t : Nat) : Int)) - 1] : List Int)) hO222
                                   obtain ⟨A223, c224, rfl, hmc224, hxc224⟩ := hO222.open'
                                   refine dr_nil (.inr (hS.tail 4 rfl)) ?_
                                   refine dr_run tbOk 2 hA (hS.tail 4 rfl) (e' := (18, .slice A223 (((lf (stay al ((t : Nat) : Int) j) (((t : Nat) : Int) + 1)) ++ ([(y.2 - ((t : Nat) : Int)) - 1] : List Int)).length) c224) :: (17, .slice A218 (((ids (stay al ((t : Nat) : Int) j)) ++ ([y.1] : List Int)).length) c219) :: _) rfl ?_; clear hA; intro a hA
                                   refine dr_end ?_
                                   replace hA := hA.sel [3, 4, 5, 6, 7, 16, 17, 18, 28, 29, 30, 46, 47] (e' := [(3, .pointer (some ⟨b2, 0, none⟩)), (4, .int .i64 ((t + 1 : Nat) : Int)), (5, .pointer (some ⟨b6, 0, none⟩)), (6, .pointer (some ⟨b8, 0, none⟩)), (7, .func (.func 5) #[] #[.pointer (some ⟨b6, 0, none⟩), .pointer (some ⟨b8, 0, none⟩)]), (16, .slice A1 ((ring al (((t : Nat) : Int) + 1) j).length) c1), (17, .slice A218 (((ids (stay al ((t : Nat) : Int) j)) ++ ([y.1] : List Int)).length) c219), (18, .slice A223 (((lf (stay al ((t : Nat) : Int) j) (((t : Nat) : Int) + 1)) ++ ([(y.2 - ((t : Nat) : Int)) - 1] : List Int)).length) c224), (28, .slice (some ⟨b12, o13, none⟩) l.length c), (29, .int .i64 ((l.length : Nat) : Int)), (30, .int .i64 ((k : Nat) : Int)), (46, .int .i64 (((ids al).length : Nat) : Int)), (47, .int .i64 ((j : Nat) : Int))]) rfl
                                   refine xb_norm ?_
                                   refine xt_norm ?_
                                   refine wp_region_lit ?_
                                   refine st_run tbOk 1 hA (e' := (77, .int .i64 (IntKind.i64.wrap (((j : Nat) : Int) + 1))) :: _) rfl ?_; clear hA; intro a hA
                                   replace hA := hA.rw 77 (v' := .int .i64 ((j + 1 : Nat) : Int)) rfl (wr64 (by omega) (by omega) (by omega))
                                   refine st_run tbOk 1 hA (e' := (47, .int .i64 ((j + 1 : Nat) : Int)) :: _) rfl ?_; clear hA; intro a hA
                                   refine wpList_nil ?_
                                   replace hA := hA.sel [3, 4, 5, 6, 7, 16, 17, 18, 28, 29, 30, 46, 47] (e' := [(3, .pointer (some ⟨b2, 0, none⟩)), (4, .int .i64 ((t + 1 : Nat) : Int)), (5, .pointer (some ⟨b6, 0, none⟩)), (6, .pointer (some ⟨b8, 0, none⟩)), (7, .func (.func 5) #[] #[.pointer (some ⟨b6, 0, none⟩), .pointer (some ⟨b8, 0, none⟩)]), (16, .slice A1 ((ring al (((t : Nat) : Int) + 1) j).length) c1), (17, .slice A218 (((ids (stay al ((t : Nat) : Int) j)) ++ ([y.1] : List Int)).length) c219), (18, .slice A223 (((lf (stay al ((t : Nat) : Int) j) (((t : Nat) : Int) + 1)) ++ ([(y.2 - ((t : Nat) : Int)) - 1] : List Int)).length) c224), (28, .slice (some ⟨b12, o13, none⟩) l.length c), (29, .int .i64 ((l.length : Nat) : Int)), (30, .int .i64 ((k : Nat) : Int)), (46, .int .i64 (((ids al).length : Nat) : Int)), (47, .int .i64 ((j + 1 : Nat) : Int))]) rfl
                                   have hsn := stay_yes hy (by omega)
                                   have hl : ring al (((t : Nat) : Int) + 1) j = ring al (((t : Nat) : Int) + 1) (j + 1) := ring_no hy (by omega)
                                   rw [hl] at hR1; rw [hl] at hA
                                   have hl : (ids (stay al ((t : Nat) : Int) j)) ++ ([y.1] : List Int) = ids (stay al ((t : Nat) : Int) (j + 1)) := by rw [hsn, ids_app]; rfl
                                   rw [hl] at hO217; rw [hl] at hA
                                   have hl : (lf (stay al ((t : Nat) : Int) j) (((t : Nat) : Int) + 1)) ++ ([(y.2 - ((t : Nat) : Int)) - 1] : List Int) = lf (stay al ((t : Nat) : Int) (j + 1)) (((t : Nat) : Int) + 1) := by rw [hsn, lf_app]; congr 1; simp [lf]; omega
                                   rw [hl] at hO222; rw [hl] at hA
                                   replace hS := hS.front 2 (C := [(b213, rowO [.int .i64 ((y.2 - ((t : Nat) : Int)) - 1)] 3)]) (L' := C222 :: C217 :: [(b199, rowO [.int .i64 y.1] 3)] :: C1 :: [(b15, rowO [.int .u8 x14.1, .int .i8 x14.2.1, .int .i32 x14.2.2] 32)] :: L :: [(b6, rowO [.slice (some ⟨b197, o198, none⟩) ((ids al).length) c5] 28)] :: C5 :: [(b8, rowO [.slice (some ⟨b185, o186, none⟩) ((lf al ((t : Nat) : Int)).length) c6] 28)] :: C6 :: F) rfl rfl
                                   replace hS := hS.drop1
                                   replace hS := hS.front 2 (C := [(b199, rowO [.int .i64 y.1] 3)]) (L' := C222 :: C217 :: C1 :: [(b15, rowO [.int .u8 x14.1, .int .i8 x14.2.1, .int .i32 x14.2.2] 32)] :: L :: [(b6, rowO [.slice (some ⟨b197, o198, none⟩) ((ids al).length) c5] 28)] :: C5 :: [(b8, rowO [.slice (some ⟨b185, o186, none⟩) ((lf al ((t : Nat) : Int)).length) c6] 28)] :: C6 :: F) rfl rfl
                                   replace hS := hS.drop1
                                   replace hS := hS.front 8 (C := C6) (L' := C222 :: C217 :: C1 :: [(b15, rowO [.int .u8 x14.1, .int .i8 x14.2.1, .int .i32 x14.2.2] 32)] :: L :: [(b6, rowO [.slice (some ⟨b197, o198, none⟩) ((ids al).length) c5] 28)] :: C5 :: [(b8, rowO [.slice (some ⟨b185, o186, none⟩) ((lf al ((t : Nat) : Int)).length) c6] 28)] :: F) rfl rfl
                                   replace hS := hS.front 8 (C := [(b8, rowO [.slice (some ⟨b185, o186, none⟩) ((lf al ((t : Nat) : Int)).length) c6] 28)]) (L' := C6 :: C222 :: C217 :: C1 :: [(b15, rowO [.int .u8 x14.1, .int .i8 x14.2.1, .int .i32 x14.2.2] 32)] :: L :: [(b6, rowO [.slice (some ⟨b197, o198, none⟩) ((ids al).length) c5] 28)] :: C5 :: F) rfl rfl
                                   replace hS := hS.front 8 (C := C5) (L' := [(b8, rowO [.slice (some ⟨b185, o186, none⟩) ((lf al ((t : Nat) : Int)).length) c6] 28)] :: C6 :: C222 :: C217 :: C1 :: [(b15, rowO [.int .u8 x14.1, .int .i8 x14.2.1, .int .i32 x14.2.2] 32)] :: L :: [(b6, rowO [.slice (some ⟨b197, o198, none⟩) ((ids al).length) c5] 28)] :: F) rfl rfl
                                   replace hS := hS.front 8 (C := [(b6, rowO [.slice (some ⟨b197, o198, none⟩) ((ids al).length) c5] 28)]) (L' := C5 :: [(b8, rowO [.slice (some ⟨b185, o186, none⟩) ((lf al ((t : Nat) : Int)).length) c6] 28)] :: C6 :: C222 :: C217 :: C1 :: [(b15, rowO [.int .u8 x14.1, .int .i8 x14.2.1, .int .i32 x14.2.2] 32)] :: L :: F) rfl rfl
                                   replace hS := hS.front 8 (C := L) (L' := [(b6, rowO [.slice (some ⟨b197, o198, none⟩) ((ids al).length) c5] 28)] :: C5 :: [(b8, rowO [.slice (some ⟨b185, o186, none⟩) ((lf al ((t : Nat) : Int)).length) c6] 28)] :: C6 :: C222 :: C217 :: C1 :: [(b15, rowO [.int .u8 x14.1, .int .i8 x14.2.1, .int .i32 x14.2.2] 32)] :: F) rfl rfl
                                   replace hS := hS.front 8 (C := [(b15, rowO [.int .u8 x14.1, .int .i8 x14.2.1, .int .i32 x14.2.2] 32)]) (L' := L :: [(b6, rowO [.slice (some ⟨b197, o198, none⟩) ((ids al).length) c5] 28)] :: C5 :: [(b8, rowO [.slice (some ⟨b185, o186, none⟩) ((lf al ((t : Nat) : Int)).length) c6] 28)] :: C6 :: C222 :: C217 :: C1 :: F) rfl rfl
                                   replace hS := hS.front 6 (C := C222) (L' := [(b15, rowO [.int .u8 x14.1, .int .i8 x14.2.1, .int .i32 x14.2.2] 32)] :: L :: [(b6, rowO [.slice (some ⟨b197, o198, none⟩) ((ids al).length) c5] 28)] :: C5 :: [(b8, rowO [.slice (some ⟨b185, o186, none⟩) ((lf al ((t : Nat) : Int)).length) c6] 28)] :: C6 :: C217 :: C1 :: F) rfl rfl
                                   replace hS := hS.front 7 (C := C217) (L' := C222 :: [(b15, rowO [.int .u8 x14.1, .int .i8 x14.2.1, .int .i32 x14.2.2] 32)] :: L :: [(b6, rowO [.slice (some ⟨b197, o198, none⟩) ((ids al).length) c5] 28)] :: C5 :: [(b8, rowO [.slice (some ⟨b185, o186, none⟩) ((lf al ((t : Nat) : Int)).length) c6] 28)] :: C6 :: C1 :: F) rfl rfl
                                   replace hS := hS.front 8 (C := C1) (L' := C217 :: C222 :: [(b15, rowO [.int .u8 x14.1, .int .i8 x14.2.1, .int .i32 x14.2.2] 32)] :: L :: [(b6, rowO [.slice (some ⟨b197, o198, none⟩) ((ids al).length) c5] 28)] :: C5 :: [(b8, rowO [.slice (some ⟨b185, o186, none⟩) ((lf al ((t : Nat) : Int)).length) c6] 28)] :: C6 :: F) rfl rfl
                                   exact lp_next _ (by omega) ⟨(j + 1), A1, c1, C1, A218, c219, C217, A223, c224, C222, rfl, (hA.sel [3, 4, 5, 6, 7, 16, 17, 18, 28, 29, 30, 46, 47] rfl), hS, by omega, hR1, hO217, hO222⟩
                               · refine dr_b (o := _) rfl ?_
                                 refine st_buildSlice tbOk hA hS [.int .i64 ((y.2 - ((t : Nat) : Int)) - 1)] rfl rfl rfl rfl rfl (by decide) (by kernel_rfl) rfl rfl (by decide) ?_; clear hA hS; intro b225 w226 a hS hA
                                 refine dr_nil (.inr (hS.tail 3 rfl)) ?_
                                 refine dr_subL ?_
                                 refine dr_b (o := _) rfl ?_
                                 refine st_buildSlice tbOk hA hS [.int .i64 y.1] rfl rfl rfl rfl rfl (by decide) (by kernel_rfl) rfl rfl (by decide) ?_; clear hA hS; intro b227 w228 a hS hA
                                 refine dr_nil (.inr (hS.tail 4 rfl)) ?_
                                 refine dr_b (o := _) rfl ?_
                                 replace hS := hS.front 2 (C := C2) (L' := [(b227, rowO [.int .i64 y.1] 3)] :: [(b225, rowO [.int .i64 ((y.2 - ((t : Nat) : Int)) - 1)] 3)] :: C3 :: C1 :: [(b15, rowO [.int .u8 x14.1, .int .i8 x14.2.1, .int .i32 x14.2.2] 32)] :: L :: [(b6, rowO [.slice (some ⟨b197, o198, none⟩) ((ids al).length) c5] 28)] :: C5 :: [(b8, rowO [.slice (some ⟨b185, o186, none⟩) ((lf al ((t : Nat) : Int)).length) c6] 28)] :: C6 :: F) rfl rfl
                                 refine st_append tbOk hA (m := (ids (stay al ((t : Nat) : Int) j)).length) (q := 1) (xs := rows encI (ids (stay al ((t : Nat) : Int) j))) (news := rows encI ([y.1] : List Int)) rfl rfl rfl rfl rfl rfl rfl rfl (by decide) hR2 hS ((Own.full (T := 3) (size := 1) (g := b227) (m := 1) rfl (by decide)).rd (hS.own_ 1 rfl)) (rows_one encI_ok _) (maxLen_le (by first | omega | (simp; omega))) (by show ((ids (stay al ((t : Nat) : Int) j)).length + 1) * 8 ≤ 140737488355328; first | omega | (simp; omega)) rfl rfl (by decide) ?_
                                 clear hA hS; intro v229 w230 C231 a hO231 hS hA
                                 replace hO231 := Own.app (l := ids (stay al ((t : Nat) : Int) j)) (l2 := ([y.1] : List Int)) hO231
                                 obtain ⟨A232, c233, rfl, hmc233, hxc233⟩ := hO231.open'
                                 refine dr_nil (.inr (hS.tail 4 rfl)) ?_
                                 refine dr_b (o := _) rfl ?_
                                 replace hS := hS.front 3 (C := C3) (L' := C231 :: [(b227, rowO [.int .i64 y.1] 3)] :: [(b225, rowO [.int .i64 ((y.2 - ((t : Nat) : Int)) - 1)] 3)] :: C1 :: [(b15, rowO [.int .u8 x14.1, .int .i8 x14.2.1, .int .i32 x14.2.2] 32)] :: L :: [(b6, rowO [.slice (some ⟨b197, o198, none⟩) ((ids al).length) c5] 28)] :: C5 :: [(b8, rowO [.slice (some ⟨b185, o186, none⟩) ((lf al ((t : Nat) : Int)).length) c6] 28)] :: C6 :: F) rfl rfl
                                 refine st_append tbOk hA (m := (lf (stay al ((t : Nat) : Int) j) (((t : Nat) : Int) + 1)).length) (q := 1) (xs := rows encI (lf (stay al ((t : Nat) : Int) j) (((t : Nat) : Int) + 1))) (news := rows encI ([(y.2 - ((t : Nat) : Int)) - 1] : List Int)) rfl rfl rfl rfl rfl rfl rfl rfl (by decide) hR3 hS ((Own.full (T := 3) (size := 1) (g := b225) (m := 1) rfl (by decide)).rd (hS.own_ 3 rfl)) (rows_one encI_ok _) (maxLen_le (by first | omega | (simp; omega))) (by show ((lf (stay al ((t : Nat) : Int) j) (((t : Nat) : Int) + 1)).length + 1) * 8 ≤ 140737488355328; first | omega | (simp; omega)) rfl rfl (by decide) ?_
                                 clear hA hS; intro v234 w235 C236 a hO236 hS hA
                                 replace hO236 := Own.app (l := lf (stay al ((t : Nat) : Int) j) (((t : Nat) : Int) + 1)) (l2 := ([(y.2 - ((t : Nat) : Int)) - 1] : List Int)) hO236
                                 obtain ⟨A237, c238, rfl, hmc238, hxc238⟩ := hO236.open'
                                 refine dr_nil (.inr (hS.tail 4 rfl)) ?_
                                 refine dr_run tbOk 2 hA (hS.tail 4 rfl) (e' := (18, .slice A237 (((lf (stay al ((t : Nat) : Int) j) (((t : Nat) : Int) + 1)) ++ ([(y.2 - ((t : Nat) : Int)) - 1] : List Int)).length) c238) :: (17, .slice A232 (((ids (stay al ((t : Nat) : Int) j)) ++ ([y.1] : List Int)).length) c233) :: _) rfl ?_; clear hA; intro a hA
                                 refine dr_end ?_
                                 replace hA := hA.sel [3, 4, 5, 6, 7, 16, 17, 18, 28, 29, 30, 46, 47] (e' := [(3, .pointer (some ⟨b2, 0, none⟩)), (4, .int .i64 ((t + 1 : Nat) : Int)), (5, .pointer (some ⟨b6, 0, none⟩)), (6, .pointer (some ⟨b8, 0, none⟩)), (7, .func (.func 5) #[] #[.pointer (some ⟨b6, 0, none⟩), .pointer (some ⟨b8, 0, none⟩)]), (16, .slice A1 ((ring al (((t : Nat) : Int) + 1) j).length) c1), (17, .slice A232 (((ids (stay al ((t : Nat) : Int) j)) ++ ([y.1] : List Int)).length) c233), (18, .slice A237 (((lf (stay al ((t : Nat) : Int) j) (((t : Nat) : Int) + 1)) ++ ([(y.2 - ((t : Nat) : Int)) - 1] : List Int)).length) c238), (28, .slice (some ⟨b12, o13, none⟩) l.length c), (29, .int .i64 ((l.length : Nat) : Int)), (30, .int .i64 ((k : Nat) : Int)), (46, .int .i64 (((ids al).length : Nat) : Int)), (47, .int .i64 ((j : Nat) : Int))]) rfl
                                 refine xb_norm ?_
                                 refine xt_norm ?_
                                 refine wp_region_lit ?_
                                 refine st_run tbOk 1 hA (e' := (77, .int .i64 (IntKind.i64.wrap (((j : Nat) : Int) + 1))) :: _) rfl ?_; clear hA; intro a hA
                                 replace hA := hA.rw 77 (v' := .int .i64 ((j + 1 : Nat) : Int)) rfl (wr64 (by omega) (by omega) (by omega))
                                 refine st_run tbOk 1 hA (e' := (47, .int .i64 ((j + 1 : Nat) : Int)) :: _) rfl ?_; clear hA; intro a hA
                                 refine wpList_nil ?_
                                 replace hA := hA.sel [3, 4, 5, 6, 7, 16, 17, 18, 28, 29, 30, 46, 47] (e' := [(3, .pointer (some ⟨b2, 0, none⟩)), (4, .int .i64 ((t + 1 : Nat) : Int)), (5, .pointer (some ⟨b6, 0, none⟩)), (6, .pointer (some ⟨b8, 0, none⟩)), (7, .func (.func 5) #[] #[.pointer (some ⟨b6, 0, none⟩), .pointer (some ⟨b8, 0, none⟩)]), (16, .slice A1 ((ring al (((t : Nat) : Int) + 1) j).length) c1), (17, .slice A232 (((ids (stay al ((t : Nat) : Int) j)) ++ ([y.1] : List Int)).length) c233), (18, .slice A237 (((lf (stay al ((t : Nat) : Int) j) (((t : Nat) : Int) + 1)) ++ ([(y.2 - ((t : Nat) : Int)) - 1] : List Int)).length) c238), (28, .slice (some ⟨b12, o13, none⟩) l.length c), (29, .int .i64 ((l.length : Nat) : Int)), (30, .int .i64 ((k : Nat) : Int)), (46, .int .i64 (((ids al).length : Nat) : Int)), (47, .int .i64 ((j + 1 : Nat) : Int))]) rfl
                                 have hsn := stay_yes hy (by omega)
                                 have hl : ring al (((t : Nat) : Int) + 1) j = ring al (((t : Nat) : Int) + 1) (j + 1) := ring_no hy (by omega)
                                 rw [hl] at hR1; rw [hl] at hA
                                 have hl : (ids (stay al ((t : Nat) : Int) j)) ++ ([y.1] : List Int) = ids (stay al ((t : Nat) : Int) (j + 1)) := by rw [hsn, ids_app]; rfl
                                 rw [hl] at hO231; rw [hl] at hA
                                 have hl : (lf (stay al ((t : Nat) : Int) j) (((t : Nat) : Int) + 1)) ++ ([(y.2 - ((t : Nat) : Int)) - 1] : List Int) = lf (stay al ((t : Nat) : Int) (j + 1)) (((t : Nat) : Int) + 1) := by rw [hsn, lf_app]; congr 1; simp [lf]; omega
                                 rw [hl] at hO236; rw [hl] at hA
                                 replace hS := hS.front 2 (C := [(b227, rowO [.int .i64 y.1] 3)]) (L' := C236 :: C231 :: [(b225, rowO [.int .i64 ((y.2 - ((t : Nat) : Int)) - 1)] 3)] :: C1 :: [(b15, rowO [.int .u8 x14.1, .int .i8 x14.2.1, .int .i32 x14.2.2] 32)] :: L :: [(b6, rowO [.slice (some ⟨b197, o198, none⟩) ((ids al).length) c5] 28)] :: C5 :: [(b8, rowO [.slice (some ⟨b185, o186, none⟩) ((lf al ((t : Nat) : Int)).length) c6] 28)] :: C6 :: F) rfl rfl
                                 replace hS := hS.drop1
                                 replace hS := hS.front 2 (C := [(b225, rowO [.int .i64 ((y.2 - ((t : Nat) : Int)) - 1)] 3)]) (L' := C236 :: C231 :: C1 :: [(b15, rowO [.int .u8 x14.1, .int .i8 x14.2.1, .int .i32 x14.2.2] 32)] :: L :: [(b6, rowO [.slice (some ⟨b197, o198, none⟩) ((ids al).length) c5] 28)] :: C5 :: [(b8, rowO [.slice (some ⟨b185, o186, none⟩) ((lf al ((t : Nat) : Int)).length) c6] 28)] :: C6 :: F) rfl rfl
                                 replace hS := hS.drop1
                                 replace hS := hS.front 8 (C := C6) (L' := C236 :: C231 :: C1 :: [(b15, rowO [.int .u8 x14.1, .int .i8 x14.2.1, .int .i32 x14.2.2] 32)] :: L :: [(b6, rowO [.slice (some ⟨b197, o198, none⟩) ((ids al).length) c5] 28)] :: C5 :: [(b8, rowO [.slice (some ⟨b185, o186, none⟩) ((lf al ((t : Nat) : Int)).length) c6] 28)] :: F) rfl rfl
                                 replace hS := hS.front 8 (C := [(b8, rowO [.slice (some ⟨b185, o186, none⟩) ((lf al ((t : Nat) : Int)).length) c6] 28)]) (L' := C6 :: C236 :: C231 :: C1 :: [(b15, rowO [.int .u8 x14.1, .int .i8 x14.2.1, .int .i32 x14.2.2] 32)] :: L :: [(b6, rowO [.slice (some ⟨b197, o198, none⟩) ((ids al).length) c5] 28)] :: C5 :: F) rfl rfl
                                 replace hS := hS.front 8 (C := C5) (L' := [(b8, rowO [.slice (some ⟨b185, o186, none⟩) ((lf al ((t : Nat) : Int)).length) c6] 28)] :: C6 :: C236 :: C231 :: C1 :: [(b15, rowO [.int .u8 x14.1, .int .i8 x14.2.1, .int .i32 x14.2.2] 32)] :: L :: [(b6, rowO [.slice (some ⟨b197, o198, none⟩) ((ids al).length) c5] 28)] :: F) rfl rfl
                                 replace hS := hS.front 8 (C := [(b6, rowO [.slice (some ⟨b197, o198, none⟩) ((ids al).length) c5] 28)]) (L' := C5 :: [(b8, rowO [.slice (some ⟨b185, o186, none⟩) ((lf al ((t : Nat) : Int)).length) c6] 28)] :: C6 :: C236 :: C231 :: C1 :: [(b15, rowO [.int .u8 x14.1, .int .i8 x14.2.1, .int .i32 x14.2.2] 32)] :: L :: F) rfl rfl
                                 replace hS := hS.front 8 (C := L) (L' := [(b6, rowO [.slice (some ⟨b197, o198, none⟩) ((ids al).length) c5] 28)] :: C5 :: [(b8, rowO [.slice (some ⟨b185, o186, none⟩) ((lf al ((t : Nat) : Int)).length) c6] 28)] :: C6 :: C236 :: C231 :: C1 :: [(b15, rowO [.int .u8 x14.1, .int .i8 x14.2.1, .int .i32 x14.2.2] 32)] :: F) rfl rfl
                                 replace hS := hS.front 8 (C := [(b15, rowO [.int .u8 x14.1, .int .i8 x14.2.1, .int .i32 x14.2.2] 32)]) (L' := L :: [(b6, rowO [.slice (some ⟨b197, o198, none⟩) ((ids al).length) c5] 28)] :: C5 :: [(b8, rowO [.slice (some ⟨b185, o186, none⟩) ((lf al ((t : Nat) : Int)).length) c6] 28)] :: C6 :: C236 :: C231 :: C1 :: F) rfl rfl
                                 replace hS := hS.front 6 (C := C236) (L' := [(b15, rowO [.int .u8 x14.1, .int .i8 x14.2.1, .int .i32 x14.2.2] 32)] :: L :: [(b6, rowO [.slice (some ⟨b197, o198, none⟩) ((ids al).length) c5] 28)] :: C5 :: [(b8, rowO [.slice (some ⟨b185, o186, none⟩) ((lf al ((t : Nat) : Int)).length) c6] 28)] :: C6 :: C231 :: C1 :: F) rfl rfl
                                 replace hS := hS.front 7 (C := C231) (L' := C236 :: [(b15, rowO [.int .u8 x14.1, .int .i8 x14.2.1, .int .i32 x14.2.2] 32)] :: L :: [(b6, rowO [.slice (some ⟨b197, o198, none⟩) ((ids al).length) c5] 28)] :: C5 :: [(b8, rowO [.slice (some ⟨b185, o186, none⟩) ((lf al ((t : Nat) : Int)).length) c6] 28)] :: C6 :: C1 :: F) rfl rfl
                                 replace hS := hS.front 8 (C := C1) (L' := C231 :: C236 :: [(b15, rowO [.int .u8 x14.1, .int .i8 x14.2.1, .int .i32 x14.2.2] 32)] :: L :: [(b6, rowO [.slice (some ⟨b197, o198, none⟩) ((ids al).length) c5] 28)] :: C5 :: [(b8, rowO [.slice (some ⟨b185, o186, none⟩) ((lf al ((t : Nat) : Int)).length) c6] 28)] :: C6 :: F) rfl rfl
                                 exact lp_next _ (by omega) ⟨(j + 1), A1, c1, C1, A232, c233, C231, A237, c238, C236, rfl, (hA.sel [3, 4, 5, 6, 7, 16, 17, 18, 28, 29, 30, 46, 47] rfl), hS, by omega, hR1, hO231, hO236⟩))
                     · first
                       | (exfalso; omega)
                       | (replace hA := hA.rw 48 (v' := .bool false) rfl (vb_false hc184)
                          refine cd_cond_f hA rfl ?_
                          refine wp_exit ?_
                          refine xt_exit ?_
                          refine xt_exit ?_
                          refine cd_exit_eq ?_
                          refine xt_norm ?_
                          refine wp_seq ?_
                          refine wp_region_lit ?_
                          refine st_run tbOk 2 hA (e' := (79, .slice A3 ((lf (stay al ((t : Nat) : Int) j) (((t : Nat) : Int) + 1)).length) c3) :: (78, .slice A2 ((ids (stay al ((t : Nat) : Int) j)).length) c2) :: _) rfl ?_; clear hA; intro a hA
                          replace hS := hS.front 5 (C := [(b6, rowO [.slice A5 ((ids al).length) c5] 28)]) (L' := C1 :: C2 :: C3 :: [(b15, rowO [.int .u8 x14.1, .int .i8 x14.2.1, .int .i32 x14.2.2] 32)] :: L :: C5 :: [(b8, rowO [.slice A6 ((lf al ((t : Nat) : Int)).length) c6] 28)] :: C6 :: F) rfl rfl
                          refine st_store tbOk hA hS [.slice A2 ((ids (stay al ((t : Nat) : Int) j)).length) c2] [.slice A2 ((ids (stay al ((t : Nat) : Int) j)).length) c2] rfl rfl rfl rfl rfl rfl (by intro u hu; rw [List.mem_singleton.1 hu]; rfl) (Nat.le_of_ble_eq_true rfl) rfl rfl rfl ?_; clear hS; intro w239 hS
                          replace hS := hS.front 7 (C := [(b8, rowO [.slice A6 ((lf al ((t : Nat) : Int)).length) c6] 28)]) (L' := [(b6, rowO [.slice A2 ((ids (stay al ((t : Nat) : Int) j)).length) c2] 28)] :: C1 :: C2 :: C3 :: [(b15, rowO [.int .u8 x14.1, .int .i8 x14.2.1, .int .i32 x14.2.2] 32)] :: L :: C5 :: C6 :: F) rfl rfl
                          refine st_store tbOk hA hS [.slice A3 ((lf (stay al ((t : Nat) : Int) j) (((t : Nat) : Int) + 1)).length) c3] [.slice A3 ((lf (stay al ((t : Nat) : Int) j) (((t : Nat) : Int) + 1)).length) c3] rfl rfl rfl rfl rfl rfl (by intro u hu; rw [List.mem_singleton.1 hu]; rfl) (Nat.le_of_ble_eq_true rfl) rfl rfl rfl ?_; clear hS; intro w240 hS
                          refine wpList_nil ?_
                          replace hA := hA.sel [3, 4, 5, 6, 7, 16, 28, 29, 30] (e' := [(3, .pointer (some ⟨b2, 0, none⟩)), (4, .int .i64 ((t + 1 : Nat) : Int)), (5, .pointer (some ⟨b6, 0, none⟩)), (6, .pointer (some ⟨b8, 0, none⟩)), (7, .func (.func 5) #[] #[.pointer (some ⟨b6, 0, none⟩), .pointer (some ⟨b8, 0, none⟩)]), (16, .slice A1 ((ring al (((t : Nat) : Int) + 1) j).length) c1), (28, .slice (some ⟨b12, o13, none⟩) l.length c), (29, .int .i64 ((l.length : Nat) : Int)), (30, .int .i64 ((k : Nat) : Int))]) rfl
                          refine xt_norm ?_
                          refine wp_seq ?_
                          refine wp_region_lit ?_
                          refine st_run tbOk 1 hA (e' := (80, .pointer (some ⟨b2, 0, none⟩)) :: _) rfl ?_; clear hA; intro a hA
                          replace hS := hS.front 6 (C := L) (L' := [(b8, rowO [.slice A3 ((lf (stay al ((t : Nat) : Int) j) (((t : Nat) : Int) + 1)).length) c3] 28)] :: [(b6, rowO [.slice A2 ((ids (stay al ((t : Nat) : Int) j)).length) c2] 28)] :: C1 :: C2 :: C3 :: [(b15, rowO [.int .u8 x14.1, .int .i8 x14.2.1, .int .i32 x14.2.2] 32)] :: C5 :: C6 :: F) rfl rfl
                          refine st_call0 hA rfl rfl rfl isfn10 rfl rfl (by decide) (tick10 hS hM hal (by omega) (by omega)) ?_
                          clear hA hS; rintro v244 w242 a ⟨L241, C245, hO245, hM243, hS⟩ hA
                          obtain ⟨A246, c247, rfl, hmc247, hxc247⟩ := hO245.open'
                          have hT2 := hT.tick
                          have hjl : j = al.length := by omega
                          refine st_run tbOk 1 hA (e' := (82, .slice A1 ((ring al (((t : Nat) : Int) + 1) j).length) c1) :: _) rfl ?_; clear hA; intro a hA
                          refine st_call0 hA rfl rfl rfl isfn9 rfl rfl (by decide) (same9 hS (xs := ring al (((t : Nat) : Int) + 1) al.length) (ys := ring al (((t : Nat) : Int) + 1) j) (RdS.own hO245 0 rfl) (RdS.own hR1 4 rfl)) ?_
                          clear hA hS; rintro v w248 a ⟨rfl, hS⟩ hA
                          replace hA := hA.rw 83 (v' := .bool true) rfl (by simp [hjl])
                          refine st_run tbOk 1 hA (e' := (84, .bool false) :: _) rfl ?_; clear hA; intro a hA
                          refine wpList_nil ?_
                          replace hA := hA.sel [3, 4, 5, 6, 7, 28, 29, 30, 84] (e' := [(3, .pointer (some ⟨b2, 0, none⟩)), (4, .int .i64 ((t + 1 : Nat) : Int)), (5, .pointer (some ⟨b6, 0, none⟩)), (6, .pointer (some ⟨b8, 0, none⟩)), (7, .func (.func 5) #[] #[.pointer (some ⟨b6, 0, none⟩), .pointer (some ⟨b8, 0, none⟩)]), (28, .slice (some ⟨b12, o13, none⟩) l.length c), (29, .int .i64 ((l.length : Nat) : Int)), (30, .int .i64 ((k : Nat) : Int)), (84, .bool false)]) rfl
                          refine xt_norm ?_
                          refine cd_cond_f hA rfl ?_
                          refine wp_skip ?_
                          refine xb_norm ?_
                          refine xt_norm ?_
                          have he : ids (stay al ((t : Nat) : Int) j) = ids (al.filter (fun y => !(wat (((t : Nat) : Int) + 1) y))) := by rw [hjl, stay_all]
                          simp only [he] at hR2 hS hA; clear he
                          have he : lf (stay al ((t : Nat) : Int) j) (((t : Nat) : Int) + 1) = lf (al.filter (fun y => !(wat (((t : Nat) : Int) + 1) y))) (((t : Nat) : Int) + 1) := by rw [hjl, stay_all]
                          simp only [he] at hR3 hS hA; clear he
                          replace hS := hS.drop1
                          replace hS := hS.front 3 (C := C1) (L' := L241 :: [(b8, rowO [.slice A3 ((lf (al.filter (fun y => !(wat (((t : Nat) : Int) + 1) y))) (((t : Nat) : Int) + 1)).length) c3] 28)] :: [(b6, rowO [.slice A2 ((ids (al.filter (fun y => !(wat (((t : Nat) : Int) + 1) y)))).length) c2] 28)] :: C2 :: C3 :: [(b15, rowO [.int .u8 x14.1, .int .i8 x14.2.1, .int .i32 x14.2.2] 32)] :: C5 :: C6 :: F) rfl rfl
                          replace hS := hS.drop1
                          replace hS := hS.front 5 (C := [(b15, rowO [.int .u8 x14.1, .int .i8 x14.2.1, .int .i32 x14.2.2] 32)]) (L' := L241 :: [(b8, rowO [.slice A3 ((lf (al.filter (fun y => !(wat (((t : Nat) : Int) + 1) y))) (((t : Nat) : Int) + 1)).length) c3] 28)] :: [(b6, rowO [.slice A2 ((ids (al.filter (fun y => !(wat (((t : Nat) : Int) + 1) y)))).length) c2] 28)] :: C2 :: C3 :: C5 :: C6 :: F) rfl rfl
                          replace hS := hS.drop1
                          replace hS := hS.front 5 (C := C5) (L' := L241 :: [(b8, rowO [.slice A3 ((lf (al.filter (fun y => !(wat (((t : Nat) : Int) + 1) y))) (((t : Nat) : Int) + 1)).length) c3] 28)] :: [(b6, rowO [.slice A2 ((ids (al.filter (fun y => !(wat (((t : Nat) : Int) + 1) y)))).length) c2] 28)] :: C2 :: C3 :: C6 :: F) rfl rfl
                          replace hS := hS.drop1
                          replace hS := hS.front 5 (C := C6) (L' := L241 :: [(b8, rowO [.slice A3 ((lf (al.filter (fun y => !(wat (((t : Nat) : Int) + 1) y))) (((t : Nat) : Int) + 1)).length) c3] 28)] :: [(b6, rowO [.slice A2 ((ids (al.filter (fun y => !(wat (((t : Nat) : Int) + 1) y)))).length) c2] 28)] :: C2 :: C3 :: F) rfl rfl
                          replace hS := hS.drop1
                          replace hS := hS.front 4 (C := C3) (L' := L241 :: [(b8, rowO [.slice A3 ((lf (al.filter (fun y => !(wat (((t : Nat) : Int) + 1) y))) (((t : Nat) : Int) + 1)).length) c3] 28)] :: [(b6, rowO [.slice A2 ((ids (al.filter (fun y => !(wat (((t : Nat) : Int) + 1) y)))).length) c2] 28)] :: C2 :: F) rfl rfl
                          replace hS := hS.front 2 (C := [(b8, rowO [.slice A3 ((lf (al.filter (fun y => !(wat (((t : Nat) : Int) + 1) y))) (((t : Nat) : Int) + 1)).length) c3] 28)]) (L' := C3 :: L241 :: [(b6, rowO [.slice A2 ((ids (al.filter (fun y => !(wat (((t : Nat) : Int) + 1) y)))).length) c2] 28)] :: C2 :: F) rfl rfl
                          replace hS := hS.front 4 (C := C2) (L' := [(b8, rowO [.slice A3 ((lf (al.filter (fun y => !(wat (((t : Nat) : Int) + 1) y))) (((t : Nat) : Int) + 1)).length) c3] 28)] :: C3 :: L241 :: [(b6, rowO [.slice A2 ((ids (al.filter (fun y => !(wat (((t : Nat) : Int) + 1) y)))).length) c2] 28)] :: F) rfl rfl
                          replace hS := hS.front 4 (C := [(b6, rowO [.slice A2 ((ids (al.filter (fun y => !(wat (((t : Nat) : Int) + 1) y)))).length) c2] 28)]) (L' := C2 :: [(b8, rowO [.slice A3 ((lf (al.filter (fun y => !(wat (((t : Nat) : Int) + 1) y))) (((t : Nat) : Int) + 1)).length) c3] 28)] :: C3 :: L241 :: F) rfl rfl
                          replace hS := hS.front 4 (C := L241) (L' := [(b6, rowO [.slice A2 ((ids (al.filter (fun y => !(wat (((t : Nat) : Int) + 1) y)))).length) c2] 28)] :: C2 :: [(b8, rowO [.slice A3 ((lf (al.filter (fun y => !(wat (((t : Nat) : Int) + 1) y))) (((t : Nat) : Int) + 1)).length) c3] 28)] :: C3 :: F) rfl rfl
                          exact ⟨(t + 1), (al.filter (fun y => !(wat (((t : Nat) : Int) + 1) y))), L241, A2, c2, C2, A3, c3, C3, (hA.sel [3, 4, 5, 6, 7, 28, 29, 30] rfl), hS, by omega, hT2, hM243, hR2, hR3⟩)))
       · clear hA hS; rintro a w249 ⟨t2, al2, L2, A5', c5', C5', A6', c6', C6', hA, hS, ht2, hT2, hM2, h5', h6'⟩
         have hl5 := ids_len al2; have hl6 := lf_len al2 ((t2 : Nat) : Int); have hal2 := hT2.len
         refine wp_seq ?_
         refine wp_seq ?_
         refine wp_region_lit ?_
         refine st_val hA rfl rfl (by decide) (rn_load tbOk hA rfl rfl rfl rfl (cell_row (hS.heapAt 1 rfl) rfl)) ?_; clear hA; intro a hA
         refine st_run tbOk 2 hA (e' := (152, .int .i64 0) :: (151, .int .i64 (((ids al2).length : Nat) : Int)) :: _) rfl ?_; clear hA; intro a hA
         refine wpList_nil ?_
         replace hA := hA.sel [3, 4, 5, 6, 7, 28, 29, 30, 151, 152] (e' := [(3, .pointer (some ⟨b2, 0, none⟩)), (4, .int .i64 ((t2 : Nat) : Int)), (5, .pointer (some ⟨b6, 0, none⟩)), (6, .pointer (some ⟨b8, 0, none⟩)), (7, .func (.func 5) #[] #[.pointer (some ⟨b6, 0, none⟩), .pointer (some ⟨b8, 0, none⟩)]), (28, .slice (some ⟨b12, o13, none⟩) l.length c), (29, .int .i64 ((l.length : Nat) : Int)), (30, .int .i64 ((k : Nat) : Int)), (151, .int .i64 (((ids al2).length : Nat) : Int)), (152, .int .i64 0)]) rfl
         refine xt_norm ?_
         refine wp_block ?_
         refine wp_loop_ghost (fun m a w => ∃ (j : Nat) (L3 : Chunk), m = (ids al2).length - j ∧ Has a 180 [(3, .pointer (some ⟨b2, 0, none⟩)), (4, .int .i64 ((t2 : Nat) : Int)), (5, .pointer (some ⟨b6, 0, none⟩)), (6, .pointer (some ⟨b8, 0, none⟩)), (7, .func (.func 5) #[] #[.pointer (some ⟨b6, 0, none⟩), .pointer (some ⟨b8, 0, none⟩)]), (28, .slice (some ⟨b12, o13, none⟩) l.length c), (29, .int .i64 ((l.length : Nat) : Int)), (30, .int .i64 ((k : Nat) : Int)), (151, .int .i64 (((ids al2).length : Nat) : Int)), (152, .int .i64 ((j : Nat) : Int))] ∧ St w0 w (L3 :: [(b6, rowO [.slice A5' ((ids al2).length) c5'] 28)] :: C5' :: [(b8, rowO [.slice A6' ((lf al2 ((t2 : Nat) : Int)).length) c6'] 28)] :: C6' :: F) ∧ (j ≤ (ids al2).length) ∧ (XR b2 ((t2 : Nat) : Int) al2 L3)) ((ids al2).length - 0)
           ⟨0, L2, rfl, (hA.sel [3, 4, 5, 6, 7, 28, 29, 30, 151, 152] rfl), hS, Nat.zero_le _, hM2⟩ ?_
         clear hA hS; rintro m0 a w250 ⟨j, L3, rfl, hA, hS, hj, hM3⟩
         refine wp_seq ?_
         refine wp_region_lit ?_
         refine st_run tbOk 1 hA (e' := (153, .bool (decide (((j : Nat) : Int) < (((ids al2).length : Nat) : Int)))) :: _) rfl ?_; clear hA; intro a hA
         refine wpList_nil ?_
         refine xt_norm ?_
         refine wp_seq ?_
         by_cases hc251 : ((j : Nat) : Int) < (((ids al2).length : Nat) : Int)
         · first
           | (exfalso; omega)
           | (replace hA := hA.rw 153 (v' := .bool true) rfl (vb_true hc251)
              refine cd_cond_t hA rfl ?_
              refine wp_skip ?_
              refine xt_norm ?_
              refine wp_seq ?_
              refine wp_block ?_
              refine wp_seq ?_
              refine wp_region_lit ?_
              obtain ⟨y, hy⟩ := get_ex (l := al2) (k := j) (by omega)
              have hyb := hT2.bd _ (List.mem_of_getElem? hy)
              refine st_run tbOk 2 hA (e' := (20, .int .i64 ((j : Nat) : Int)) :: (154, .int .i64 ((j : Nat) : Int)) :: _) rfl ?_; clear hA; intro a hA
              refine wpList_nil ?_
              replace hA := hA.sel [3, 4, 5, 6, 7, 20, 28, 29, 30, 151, 152] (e' := [(3, .pointer (some ⟨b2, 0, none⟩)), (4, .int .i64 ((t2 : Nat) : Int)), (5, .pointer (some ⟨b6, 0, none⟩)), (6, .pointer (some ⟨b8, 0, none⟩)), (7, .func (.func 5) #[] #[.pointer (some ⟨b6, 0, none⟩), .pointer (some ⟨b8, 0, none⟩)]), (20, .int .i64 ((j : Nat) : Int)), (28, .slice (some ⟨b12, o13, none⟩) l.length c), (29, .int .i64 ((l.length : Nat) : Int)), (30, .int .i64 ((k : Nat) : Int)), (151, .int .i64 (((ids al2).length : Nat) : Int)), (152, .int .i64 ((j : Nat) : Int))]) rfl
              refine xt_norm ?_
              refine wp_seq ?_
              refine wp_region_lit ?_
              refine st_run tbOk 1 hA (e' := (156, .pointer (some ⟨b2, 0, none⟩)) :: _) rfl ?_; clear hA; intro a hA
              refine st_val hA rfl rfl (by decide) (rn_load tbOk hA rfl rfl rfl rfl (cell_row (hS.heapAt 1 rfl) rfl)) ?_; clear hA; intro a hA
              refine st_run tbOk 1 hA (e' := (158, .int .i64 ((j : Nat) : Int)) :: _) rfl ?_; clear hA; intro a hA
              obtain ⟨b252, o253, rfl⟩ := h5'.isSome (k := j) (by omega)
              refine st_val hA rfl rfl (by decide) (rn_indexAddr tbOk hA j (o253 + j) rfl rfl rfl rfl rfl rfl (by rfl) (by omega) (by first | rfl | simp [Nat.mul_one, Nat.zero_add] | omega)) ?_; clear hA; intro a hA
              refine st_val hA rfl rfl (by decide) (rn_load tbOk hA rfl rfl rfl rfl ((h5'.rd (hS.own_ 2 rfl)).elem0 (k := j) encI_ok (ids_get hy) rfl)) ?_; clear hA; intro a hA
              have hla := left_at hT2.nd hy
              refine st_call0 hA rfl rfl rfl isfn11 rfl rfl (by decide) (leftT11 hS hM3 y.1 (fun x hx => by have := hT2.bd x hx; omega)) ?_
              rw [hla]; clear hA hS; rintro v w255 a ⟨L254, hM256, rfl, hS⟩ hA
              refine st_run tbOk 5 hA (e' := (22, .bool true) :: (21, .int .i64 (y.2 - ((t2 : Nat) : Int))) :: (163, .bool true) :: (162, .int .i64 (y.2 - ((t2 : Nat) : Int))) :: (155, .tuple #[.int .i64 (y.2 - ((t2 : Nat) : Int)), .bool true]) :: _) rfl ?_; clear hA; intro a hA
              refine wpList_nil ?_
              replace hA := hA.sel [3, 4, 5, 6, 7, 20, 21, 22, 28, 29, 30, 151, 152] (e' := [(3, .pointer (some ⟨b2, 0, none⟩)), (4, .int .i64 ((t2 : Nat) : Int)), (5, .pointer (some ⟨b6, 0, none⟩)), (6, .pointer (some ⟨b8, 0, none⟩)), (7, .func (.func 5) #[] #[.pointer (some ⟨b6, 0, none⟩), .pointer (some ⟨b8, 0, none⟩)]), (20, .int .i64 ((j : Nat) : Int)), (21, .int .i64 (y.2 - ((t2 : Nat) : Int))), (22, .bool true), (28, .slice (some ⟨b12, o13, none⟩) l.length c), (29, .int .i64 ((l.length : Nat) : Int)), (30, .int .i64 ((k : Nat) : Int)), (151, .int .i64 (((ids al2).length : Nat) : Int)), (152, .int .i64 ((j : Nat) : Int))]) rfl
              refine xt_norm ?_
              refine wp_seq ?_
              refine wp_region_lit ?_
              refine st_run tbOk 4 hA (e' := (167, .int .i64 (y.2 - ((t2 : Nat) : Int))) :: (166, .bool false) :: (165, .bool false) :: (164, .bool true) :: _) rfl ?_; clear hA; intro a hA
              refine st_val hA rfl rfl (by decide) (rn_load tbOk hA rfl rfl rfl rfl (cell_row (hS.heapAt 3 rfl) rfl)) ?_; clear hA; intro a hA
              refine st_run tbOk 1 hA (e' := (169, .int .i64 ((j : Nat) : Int)) :: _) rfl ?_; clear hA; intro a hA
              obtain ⟨b257, o258, rfl⟩ := h6'.isSome (k := j) (by omega)
              refine st_val hA rfl rfl (by decide) (rn_indexAddr tbOk hA j (o258 + j) rfl rfl rfl rfl rfl rfl (by rfl) (by omega) (by first | rfl | simp [Nat.mul_one, Nat.zero_add] | omega)) ?_; clear hA; intro a hA
              refine st_val hA rfl rfl (by decide) (rn_load tbOk hA rfl rfl rfl rfl ((h6'.rd (hS.own_ 4 rfl)).elem0 (k := j) encI_ok (lf_get hy) rfl)) ?_; clear hA; intro a hA
              refine st_run tbOk 2 hA (e' := (173, .bool ((y.2 - ((t2 : Nat) : Int)) != (y.2 - ((t2 : Nat) : Int)))) :: (172, .bool ((y.2 - ((t2 : Nat) : Int)) != (y.2 - ((t2 : Nat) : Int)))) :: _) rfl ?_; clear hA; intro a hA
              refine wpList_nil ?_
              replace hA := hA.sel [3, 4, 5, 6, 7, 28, 29, 30, 151, 152, 173] (e' := [(3, .pointer (some ⟨b2, 0, none⟩)), (4, .int .i64 ((t2 : Nat) : Int)), (5, .pointer (some ⟨b6, 0, none⟩)), (6, .pointer (some ⟨b8, 0, none⟩)), (7, .func (.func 5) #[] #[.pointer (some ⟨b6, 0, none⟩), .pointer (some ⟨b8, 0, none⟩)]), (28, .slice (some ⟨b12, o13, none⟩) l.length c), (29, .int .i64 ((l.length : Nat) : Int)), (30, .int .i64 ((k : Nat) : Int)), (151, .int .i64 (((ids al2).length : Nat) : Int)), (152, .int .i64 ((j : Nat) : Int)), (173, .bool ((y.2 - ((t2 : Nat) : Int)) != (y.2 - ((t2 : Nat) : Int))))]) rfl
              refine xt_norm ?_
              by_cases hc259 : y.2 - ((t2 : Nat) : Int) = (y.2 - ((t2 : Nat) : Int))
              · first
                | (exfalso; omega)
                | (replace hA := hA.rw 173 (v' := .bool false) rfl (vb_ne_f hc259)
                   refine cd_cond_f hA rfl ?_
                   refine wp_skip ?_
                   refine xb_norm ?_
                   refine xt_norm ?_
                   refine wp_region_lit ?_
                   refine st_run tbOk 1 hA (e' := (174, .int .i64 (IntKind.i64.wrap (((j : Nat) : Int) + 1))) :: _) rfl ?_; clear hA; intro a hA
                   replace hA := hA.rw 174 (v' := .int .i64 ((j + 1 : Nat) : Int)) rfl (wr64 (by omega) (by omega) (by omega))
                   refine st_run tbOk 1 hA (e' := (152, .int .i64 ((j + 1 : Nat) : Int)) :: _) rfl ?_; clear hA; intro a hA
                   refine wpList_nil ?_
                   replace hA := hA.sel [3, 4, 5, 6, 7, 28, 29, 30, 151, 152] (e' := [(3, .pointer (some ⟨b2, 0, none⟩)), (4, .int .i64 ((t2 : Nat) : Int)), (5, .pointer (some ⟨b6, 0, none⟩)), (6, .pointer (some ⟨b8, 0, none⟩)), (7, .func (.func 5) #[] #[.pointer (some ⟨b6, 0, none⟩), .pointer (some ⟨b8, 0, none⟩)]), (28, .slice (some ⟨b12, o13, none⟩) l.length c), (29, .int .i64 ((l.length : Nat) : Int)), (30, .int .i64 ((k : Nat) : Int)), (151, .int .i64 (((ids al2).length : Nat) : Int)), (152, .int .i64 ((j + 1 : Nat) : Int))]) rfl
                   replace hS := hS.front 4 (C := C6') (L' := L254 :: [(b6, rowO [.slice (some ⟨b252, o253, none⟩) ((ids al2).length) c5'] 28)] :: C5' :: [(b8, rowO [.slice (some ⟨b257, o258, none⟩) ((lf al2 ((t2 : Nat) : Int)).length) c6'] 28)] :: F) rfl rfl
                   replace hS := hS.front 4 (C := [(b8, rowO [.slice (some ⟨b257, o258, none⟩) ((lf al2 ((t2 : Nat) : Int)).length) c6'] 28)]) (L' := C6' :: L254 :: [(b6, rowO [.slice (some ⟨b252, o253, none⟩) ((ids al2).length) c5'] 28)] :: C5' :: F) rfl rfl
                   replace hS := hS.front 4 (C := C5') (L' := [(b8, rowO [.slice (some ⟨b257, o258, none⟩) ((lf al2 ((t2 : Nat) : Int)).length) c6'] 28)] :: C6' :: L254 :: [(b6, rowO [.slice (some ⟨b252, o253, none⟩) ((ids al2).length) c5'] 28)] :: F) rfl rfl
                   replace hS := hS.front 4 (C := [(b6, rowO [.slice (some ⟨b252, o253, none⟩) ((ids al2).length) c5'] 28)]) (L' := C5' :: [(b8, rowO [.slice (some ⟨b257, o258, none⟩) ((lf al2 ((t2 : Nat) : Int)).length) c6'] 28)] :: C6' :: L254 :: F) rfl rfl
                   replace hS := hS.front 4 (C := L254) (L' := [(b6, rowO [.slice (some ⟨b252, o253, none⟩) ((ids al2).length) c5'] 28)] :: C5' :: [(b8, rowO [.slice (some ⟨b257, o258, none⟩) ((lf al2 ((t2 : Nat) : Int)).length) c6'] 28)] :: C6' :: F) rfl rfl
                   exact lp_next _ (by omega) ⟨(j + 1), L254, rfl, (hA.sel [3, 4, 5, 6, 7, 28, 29, 30, 151, 152] rfl), hS, by omega, hM256⟩)
              · first
                | (exfalso; omega)
                | (replace hA := hA.rw 173 (v' := .bool true) rfl (vb_ne_t hc259)
                   refine cd_cond_t hA rfl ?_
                   refine wp_seq ?_
                   refine wp_region_lit ?_
                   refine st_run tbOk 1 hA (e' := (2, .bool false) :: _) rfl ?_; clear hA; intro a hA
                   refine wpList_nil ?_
                   replace hA := hA.sel [2] (e' := [(2, .bool false)]) rfl
                   refine xt_norm ?_
                   refine wp_ret (xb_ret (xt_ret (xt_ret (xb_ret (xt_ret (xb_ret (xt_ret (xt_ret (xb_ret (xt_ret ?_))))))))))
                   refine ret1 (fn := Tryd.f3) hA rfl rfl ?_
                   exfalso; omega))
         · first
           | (exfalso; omega)
           | (replace hA := hA.rw 153 (v' := .bool false) rfl (vb_false hc251)
              refine cd_cond_f hA rfl ?_
              refine wp_exit ?_
              refine xt_exit ?_
              refine xt_exit ?_
              refine cd_exit_eq ?_
              refine xt_norm ?_
              refine wp_seq ?_
              refine wp_region_lit ?_
              refine st_run tbOk 1 hA (e' := (175, .pointer (some ⟨b2, 0, none⟩)) :: _) rfl ?_; clear hA; intro a hA
              refine st_call0 hA rfl rfl rfl isfn12 rfl rfl (by decide) (now12 hS hM3) ?_
              clear hA hS; rintro v w261 a ⟨L260, hM262, rfl, hS⟩ hA
              refine st_run tbOk 2 hA (e' := (178, .bool (((t2 : Nat) : Int) != ((t2 : Nat) : Int))) :: (177, .int .i64 ((t2 : Nat) : Int)) :: _) rfl ?_; clear hA; intro a hA
              refine wpList_nil ?_
              replace hA := hA.sel [3, 4, 5, 6, 7, 28, 29, 30, 178] (e' := [(3, .pointer (some ⟨b2, 0, none⟩)), (4, .int .i64 ((t2 : Nat) : Int)), (5, .pointer (some ⟨b6, 0, none⟩)), (6, .pointer (some ⟨b8, 0, none⟩)), (7, .func (.func 5) #[] #[.pointer (some ⟨b6, 0, none⟩), .pointer (some ⟨b8, 0, none⟩)]), (28, .slice (some ⟨b12, o13, none⟩) l.length c), (29, .int .i64 ((l.length : Nat) : Int)), (30, .int .i64 ((k : Nat) : Int)), (178, .bool (((t2 : Nat) : Int) != ((t2 : Nat) : Int)))]) rfl
              refine xt_norm ?_
              by_cases hc263 : ((t2 : Nat) : Int) = ((t2 : Nat) : Int)
              · first
                | (exfalso; omega)
                | (replace hA := hA.rw 178 (v' := .bool false) rfl (vb_ne_f hc263)
                   refine cd_cond_f hA rfl ?_
                   refine wp_skip ?_
                   refine xb_norm ?_
                   refine xt_norm ?_
                   refine wp_region_lit ?_
                   refine st_run tbOk 1 hA (e' := (179, .int .i64 (IntKind.i64.wrap (((k : Nat) : Int) + 1))) :: _) rfl ?_; clear hA; intro a hA
                   replace hA := hA.rw 179 (v' := .int .i64 ((k + 1 : Nat) : Int)) rfl (wr64 (by omega) (by omega) (by omega))
                   refine st_run tbOk 1 hA (e' := (30, .int .i64 ((k + 1 : Nat) : Int)) :: _) rfl ?_; clear hA; intro a hA
                   refine wpList_nil ?_
                   replace hA := hA.sel [3, 4, 5, 6, 7, 28, 29, 30] (e' := [(3, .pointer (some ⟨b2, 0, none⟩)), (4, .int .i64 ((t2 : Nat) : Int)), (5, .pointer (some ⟨b6, 0, none⟩)), (6, .pointer (some ⟨b8, 0, none⟩)), (7, .func (.func 5) #[] #[.pointer (some ⟨b6, 0, none⟩), .pointer (some ⟨b8, 0, none⟩)]), (28, .slice (some ⟨b12, o13, none⟩) l.length c), (29, .int .i64 ((l.length : Nat) : Int)), (30, .int .i64 ((k + 1 : Nat) : Int))]) rfl
                   replace hS := hS.front 4 (C := C6') (L' := L260 :: [(b6, rowO [.slice A5' ((ids al2).length) c5'] 28)] :: C5' :: [(b8, rowO [.slice A6' ((lf al2 ((t2 : Nat) : Int)).length) c6'] 28)] :: F) rfl rfl
                   replace hS := hS.front 4 (C := [(b8, rowO [.slice A6' ((lf al2 ((t2 : Nat) : Int)).length) c6'] 28)]) (L' := C6' :: L260 :: [(b6, rowO [.slice A5' ((ids al2).length) c5'] 28)] :: C5' :: F) rfl rfl
                   replace hS := hS.front 4 (C := C5') (L' := [(b8, rowO [.slice A6' ((lf al2 ((t2 : Nat) : Int)).length) c6'] 28)] :: C6' :: L260 :: [(b6, rowO [.slice A5' ((ids al2).length) c5'] 28)] :: F) rfl rfl
                   replace hS := hS.front 4 (C := [(b6, rowO [.slice A5' ((ids al2).length) c5'] 28)]) (L' := C5' :: [(b8, rowO [.slice A6' ((lf al2 ((t2 : Nat) : Int)).length) c6'] 28)] :: C6' :: L260 :: F) rfl rfl
                   replace hS := hS.front 4 (C := L260) (L' := [(b6, rowO [.slice A5' ((ids al2).length) c5'] 28)] :: C5' :: [(b8, rowO [.slice A6' ((lf al2 ((t2 : Nat) : Int)).length) c6'] 28)] :: C6' :: F) rfl rfl
                   exact lp_next _ (by omega) ⟨(k + 1), t2, al2, L260, A5', c5', C5', A6', c6', C6', rfl, (hA.sel [3, 4, 5, 6, 7, 28, 29, 30] rfl), hS, by omega, by omega, hT2, hM262, h5', h6'⟩)
              · first
                | (exfalso; omega)
                | (replace hA := hA.rw 178 (v' := .bool true) rfl (vb_ne_t hc263)
                   refine cd_cond_t hA rfl ?_
                   refine wp_seq ?_
                   refine wp_region_lit ?_
                   refine st_run tbOk 1 hA (e' := (2, .bool false) :: _) rfl ?_; clear hA; intro a hA
                   refine wpList_nil ?_
                   replace hA := hA.sel [2] (e' := [(2, .bool false)]) rfl
                   refine xt_norm ?_
                   refine wp_ret (xb_ret (xt_ret (xt_ret (xb_ret (xt_ret ?_)))))
                   refine ret1 (fn := Tryd.f3) hA rfl rfl ?_
                   exfalso; omega)))
  · first
    | (exfalso; omega)
    | (replace hA := hA.rw 31 (v' := .bool false) rfl (vb_false hc11)
       refine cd_cond_f hA rfl ?_
       refine wp_exit ?_
       refine xt_exit ?_
       refine xt_exit ?_
       refine cd_exit_eq ?_
       refine xt_norm ?_
       refine wp_seq ?_
       refine wp_region_lit ?_
       refine st_run tbOk 1 hA (e' := (2, .bool true) :: _) rfl ?_; clear hA; intro a hA
       refine wpList_nil ?_
       replace hA := hA.sel [2] (e' := [(2, .bool true)]) rfl
       refine xt_norm ?_
       refine wp_ret ?_
       refine ret1 (fn := Tryd.f3) hA rfl rfl ?_
       replace hS := hS.drop1
       replace hS := hS.drop1
       replace hS := hS.drop1
       replace hS := hS.drop1
       replace hS := hS.drop1
       exact ⟨rfl, hS⟩)

end Go.Proofs.YtlodnipimofpeaaDoor
