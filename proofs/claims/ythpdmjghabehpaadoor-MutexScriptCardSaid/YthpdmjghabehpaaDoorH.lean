import Derived.Test.YthpdmjghabehpaaDoorG
set_option linter.unusedVariables false
set_option linter.unusedSimpArgs false
set_option maxRecDepth 4000
namespace Go.Proofs.YthpdmjghabehpaaDoor
open Go Go.SK
theorem scriptLaw3 {w0 w : World} {F : List Chunk} (hS : St w0 w F) (hg : HG w0) {v : Value} {l : List (Int × Int)} (hr : RdS w0 F 2 v l.length (rows encAct l)) (hw : ∀ x ∈ l, encAct_good x) :
    Ret Tryd.prog 3 #[v] w (fun v w' => v = .bool true ∧ St w0 w' F) := by
  obtain ⟨A, c, rfl, hmc, hcx⟩ := (hr w hS).open'
  refine enter (vs := [.slice A l.length c]) 168 Tryd.func3 rfl rfl (by simp) ?_; intro a hA
  refine wp_seq ?_
  refine wp_region_lit ?_
  refine st_run tbOk 1 hA (e' := (2, .bool false) :: _) rfl ?_; clear hA; intro a hA
  refine wpList_nil ?_
  replace hA := hA.sel [0] (e' := [(0, .slice A l.length c)]) rfl
  refine xt_norm ?_
  refine wp_seq ?_
  refine wp_seq ?_
  refine wp_region_lit ?_
  refine st_call0 hA rfl rfl rfl isfn5 rfl rfl (by decide) (awake5 hS) ?_
  clear hA hS; rintro v w1 a ⟨rfl, hS⟩ hA
  refine st_run tbOk 1 hA (e' := (16, .bool false) :: _) rfl ?_; clear hA; intro a hA
  refine wpList_nil ?_
  replace hA := hA.sel [0, 16] (e' := [(0, .slice A l.length c), (16, .bool false)]) rfl
  refine xt_norm ?_
  refine cd_cond_f hA rfl ?_
  refine wp_skip ?_
  refine xt_norm ?_
  refine wp_seq ?_
  refine wp_region_lit ?_
  refine st_run tbOk 1 hA (e' := (17, .agg #[.int .i64 0, .bool false, .slice none 0 0]) :: _) rfl ?_; clear hA; intro a hA
  refine st_box hA hS [.int .i64 0, .bool false, .slice none 0 0] rfl rfl rfl rfl rfl (by decide) ?_; clear hA hS; intro b2 w3 a hS hA
  obtain ⟨L4, hM, hS⟩ : ∃ L, MR b2 [] L ∧ St w0 w3 (L :: F) := ⟨_, MF.new _ _, hS⟩
  refine st_run tbOk 1 hA (e' := (3, .pointer (some ⟨b2, 0, none⟩)) :: _) rfl ?_; clear hA; intro a hA
  refine wpList_nil ?_
  replace hA := hA.sel [0, 3] (e' := [(0, .slice A l.length c), (3, .pointer (some ⟨b2, 0, none⟩))]) rfl
  refine xt_norm ?_
  refine wp_seq ?_
  refine wp_region_lit ?_
  refine st_run tbOk 1 hA (e' := (4, .slice none 0 0) :: _) rfl ?_; clear hA; intro a hA
  refine wpList_nil ?_
  refine xt_norm ?_
  refine wp_seq ?_
  refine wp_seq ?_
  refine wp_region_lit ?_
  refine st_run tbOk 3 hA (e' := (21, .int .i64 0) :: (20, .int .i64 ((l.length : Nat) : Int)) :: (19, .slice A l.length c) :: _) rfl ?_; clear hA; intro a hA
  refine wpList_nil ?_
  replace hA := hA.sel [3, 4, 19, 20, 21] (e' := [(3, .pointer (some ⟨b2, 0, none⟩)), (4, .slice none 0 0), (19, .slice A l.length c), (20, .int .i64 ((l.length : Nat) : Int)), (21, .int .i64 0)]) rfl
  refine xt_norm ?_
  refine wp_block ?_
  replace hS := hS.nil
  replace hS := hS.front 1 (C := L4) (L' := [] :: F) rfl rfl
  refine wp_loop_ghost (fun m a w => ∃ (j : Nat) (row : List Int) (A1 : Option Addr) (c1 : Nat) (R : Chunk) (L : Chunk), m = l.length - j ∧ Has a 168 [(3, .pointer (some ⟨b2, 0, none⟩)), (4, .slice A1 row.length c1), (19, .slice A l.length c), (20, .int .i64 ((l.length : Nat) : Int)), (21, .int .i64 ((j : Nat) : Int))] ∧ St w0 w (L :: R :: F) ∧ (MR b2 (row) L) ∧ (j ≤ l.length) ∧ (Own 3 1 (.slice A1 row.length c1) row.length (rows encI row) R) ∧ (∀ x ∈ row, 0 ≤ x) ∧ (row.length ≤ 65)) (l.length - 0)
    ⟨0, ([]), none, 0, ([]), L4, rfl, (hA.sel [3, 4, 19, 20, 21] rfl), hS, hM, Nat.zero_le _, (Own.nil 3 1), by simp, by simp⟩ ?_
  clear hA hS; rintro m0 a w5 ⟨j, row, A1, c1, R, L, rfl, hA, hS, hM, hj, hO, hnn, hlen⟩
  have hcap := hO.rcap
  refine wp_seq ?_
  refine wp_region_lit ?_
  refine st_run tbOk 1 hA (e' := (22, .bool (decide (((j : Nat) : Int) < ((l.length : Nat) : Int)))) :: _) rfl ?_; clear hA; intro a hA
  refine wpList_nil ?_
  refine xt_norm ?_
  refine wp_seq ?_
  by_cases hc6 : ((j : Nat) : Int) < ((l.length : Nat) : Int)
  · first
    | (exfalso; omega)
    | (replace hA := hA.rw 22 (v' := .bool true) rfl (vb_true hc6)
       refine cd_cond_t hA rfl ?_
       refine wp_skip ?_
       refine xt_norm ?_
       refine wp_seq ?_
       refine wp_block ?_
       refine wp_seq ?_
       refine wp_region_lit ?_
       obtain ⟨b7, o8, rfl⟩ := (hr _ (hS.tail 2 rfl)).isSome (k := j) (by omega)
       refine st_val hA rfl rfl (by decide) (rn_indexAddr tbOk hA j (o8 + (j * 2)) rfl rfl rfl rfl rfl rfl (by rfl) (by omega) (by first | rfl | simp [Nat.mul_one, Nat.zero_add] | omega)) ?_; clear hA; intro a hA
       obtain ⟨x9, hx9⟩ := get_ex (l := l) (k := j) (by omega)
       obtain ⟨⟨hgx9_0, hkx9_0⟩, ⟨hgx9_1, hkx9_1⟩⟩ := hw x9 (List.mem_of_getElem? hx9)
       refine st_val hA rfl rfl (by decide) (rn_loadA tbOk hA ([.int .u8 x9.1, .int .i8 x9.2]) rfl rfl rfl rfl (by rfl) ((hr _ (hS.tail 2 rfl)).elem (k := j) encAct_ok hx9)) ?_; clear hA; intro a hA
       refine st_alloc tbOk hA hS [.int .u8 0, .int .i8 0] rfl rfl rfl rfl rfl (by decide) ?_; clear hA hS; intro b10 w11 a hS hA
       refine st_store tbOk hA hS [.int .u8 x9.1, .int .i8 x9.2] [.int .u8 x9.1, .int .i8 x9.2] rfl rfl rfl rfl rfl rfl (by simp [Value.oneCell']) (Nat.le_of_ble_eq_true rfl) rfl rfl rfl ?_; clear hS; intro w12 hS
       refine wpList_nil ?_
       replace hA := hA.sel [3, 4, 6, 19, 20, 21] (e' := [(3, .pointer (some ⟨b2, 0, none⟩)), (4, .slice A1 row.length c1), (6, .pointer (some ⟨b10, 0, none⟩)), (19, .slice (some ⟨b7, o8, none⟩) l.length c), (20, .int .i64 ((l.length : Nat) : Int)), (21, .int .i64 ((j : Nat) : Int))]) rfl
       refine xt_norm ?_
       refine wp_seq ?_
       refine wp_region_lit ?_
       refine st_run tbOk 1 hA (e' := (25, .pointer (some ⟨b10, 1, none⟩)) :: _) rfl ?_; clear hA; intro a hA
       refine st_val hA rfl rfl (by decide) (rn_load tbOk hA rfl rfl rfl rfl (cell_row (hS.heapAt 0 rfl) rfl)) ?_; clear hA; intro a hA
       refine st_run tbOk 1 hA (e' := (27, .int .i64 (IntKind.i64.wrap x9.2)) :: _) rfl ?_; clear hA; intro a hA
       replace hA := hA.rw 27 (v' := .int .i64 x9.2) rfl (wr64 (by rfl) (by omega) (by omega))
       refine st_run tbOk 1 hA (e' := (7, .int .i64 x9.2) :: _) rfl ?_; clear hA; intro a hA
       refine wpList_nil ?_
       replace hA := hA.sel [3, 4, 6, 7, 19, 20, 21] (e' := [(3, .pointer (some ⟨b2, 0, none⟩)), (4, .slice A1 row.length c1), (6, .pointer (some ⟨b10, 0, none⟩)), (7, .int .i64 x9.2), (19, .slice (some ⟨b7, o8, none⟩) l.length c), (20, .int .i64 ((l.length : Nat) : Int)), (21, .int .i64 ((j : Nat) : Int))]) rfl
       refine xt_norm ?_
       refine wp_seq ?_
       refine wp_region_lit ?_
       refine st_run tbOk 2 hA (e' := (29, .int .i64 x9.2) :: (28, .slice A1 row.length c1) :: _) rfl ?_; clear hA; intro a hA
       refine st_call0 hA rfl rfl rfl isfn6 rfl rfl (by decide) (without6 hS (l := row) (RdS.own hO 2 rfl) x9.2 (by omega)) ?_
       clear hA hS; rintro v13 w14 a ⟨C15, hO15, hS⟩ hA
       obtain ⟨A16, c17, rfl, hmc17, hxc17⟩ := hO15.open'
       refine st_run tbOk 5 hA (e' := (8, .bool (decide ((((row.filter (fun x => !(x == x9.2))).length : Nat) : Int) < ((row.length : Nat) : Int)))) :: (34, .bool (decide ((((row.filter (fun x => !(x == x9.2))).length : Nat) : Int) < ((row.length : Nat) : Int)))) :: (33, .int .i64 ((row.length : Nat) : Int)) :: (32, .slice A1 row.length c1) :: (31, .int .i64 (((row.filter (fun x => !(x == x9.2))).length : Nat) : Int)) :: _) rfl ?_; clear hA; intro a hA
       refine wpList_nil ?_
       replace hA := hA.sel [3, 4, 6, 7, 8, 19, 20, 21] (e' := [(3, .pointer (some ⟨b2, 0, none⟩)), (4, .slice A1 row.length c1), (6, .pointer (some ⟨b10, 0, none⟩)), (7, .int .i64 x9.2), (8, .bool (decide ((((row.filter (fun x => !(x == x9.2))).length : Nat) : Int) < ((row.length : Nat) : Int)))), (19, .slice (some ⟨b7, o8, none⟩) l.length c), (20, .int .i64 ((l.length : Nat) : Int)), (21, .int .i64 ((j : Nat) : Int))]) rfl
       refine xt_norm ?_
       refine wp_seq_join (fun a w => ∃ (row2 : List Int) (A2 : Option Addr) (c2 : Nat) (R2 : Chunk) (L2 : Chunk), Has a 168 [(3, .pointer (some ⟨b2, 0, none⟩)), (4, .slice A2 row2.length c2), (19, .slice (some ⟨b7, o8, none⟩) l.length c), (20, .int .i64 ((l.length : Nat) : Int)), (21, .int .i64 ((j : Nat) : Int))] ∧ St w0 w (L2 :: R2 :: F) ∧ (MR b2 row2 L2) ∧ (Own 3 1 (.slice A2 row2.length c2) row2.length (rows encI row2) R2) ∧ (∀ x ∈ row2, 0 ≤ x) ∧ (row2.length ≤ 65)) ?_ ?_
       · refine wp_seq ?_
         refine wp_region_lit ?_
         refine st_run tbOk 1 hA (e' := (35, .pointer (some ⟨b10, 0, none⟩)) :: _) rfl ?_; clear hA; intro a hA
         refine st_val hA rfl rfl (by decide) (rn_load tbOk hA rfl rfl rfl rfl (cell_row (hS.heapAt 1 rfl) rfl)) ?_; clear hA; intro a hA
         refine st_run tbOk 1 hA (e' := (37, .int .u8 (x9.1.tmod 3)) :: _) rfl ?_; clear hA; intro a hA
         refine wpList_nil ?_
         replace hA := hA.sel [3, 4, 7, 8, 19, 20, 21, 37] (e' := [(3, .pointer (some ⟨b2, 0, none⟩)), (4, .slice A1 row.length c1), (7, .int .i64 x9.2), (8, .bool (decide ((((row.filter (fun x => !(x == x9.2))).length : Nat) : Int) < ((row.length : Nat) : Int)))), (19, .slice (some ⟨b7, o8, none⟩) l.length c), (20, .int .i64 ((l.length : Nat) : Int)), (21, .int .i64 ((j : Nat) : Int)), (37, .int .u8 (x9.1.tmod 3))]) rfl
         refine xt_norm ?_
         refine wp_block ?_
         refine wp_seq ?_
         refine wp_region_lit ?_
         refine st_run tbOk 2 hA (e' := (57, .bool ((x9.1.tmod 3) == 0)) :: (58, .bool ((x9.1.tmod 3) == 0)) :: _) rfl ?_; clear hA; intro a hA
         refine wpList_nil ?_
         replace hA := hA.sel [3, 4, 7, 8, 19, 20, 21, 37, 57] (e' := [(3, .pointer (some ⟨b2, 0, none⟩)), (4, .slice A1 row.length c1), (7, .int .i64 x9.2), (8, .bool (decide ((((row.filter (fun x => !(x == x9.2))).length : Nat) : Int) < ((row.length : Nat) : Int)))), (19, .slice (some ⟨b7, o8, none⟩) l.length c), (20, .int .i64 ((l.length : Nat) : Int)), (21, .int .i64 ((j : Nat) : Int)), (37, .int .u8 (x9.1.tmod 3)), (57, .bool ((x9.1.tmod 3) == 0))]) rfl
         refine xt_norm ?_
         by_cases hc18 : x9.1.tmod 3 = 0
         · first
           | (exfalso; omega)
           | (replace hA := hA.rw 57 (v' := .bool true) rfl (vb_eq_t hc18)
              refine cd_cond_t hA rfl ?_
              refine wp_seq ?_
              refine wp_region_lit ?_
              refine st_run tbOk 2 hA (e' := (61, .int .i64 x9.2) :: (60, .pointer (some ⟨b2, 0, none⟩)) :: _) rfl ?_; clear hA; intro a hA
              rcases lockcases row x9.2 hlen with h1 | ⟨h1, h2⟩ | ⟨h1, h2, h3⟩ | ⟨h1, h2, h3⟩
              · replace hS := hS.front 2 (C := L) (L' := C15 :: [(b10, rowO [.int .u8 x9.1, .int .i8 x9.2] 30)] :: R :: F) rfl rfl
                refine st_call0 hA rfl rfl rfl isfn7 rfl rfl (by decide) (lockR_arg hS hM x9.2 h1) ?_
                clear hA hS hM; rintro v w20 a ⟨L19, hM, rfl, hS⟩ hA
                refine st_run tbOk 5 hA (e' := (10, .iface 36 (.int .i64 4)) :: (9, .bool false) :: (64, .iface 36 (.int .i64 4)) :: (63, .bool false) :: (59, .tuple #[.bool false, .iface 36 (.int .i64 4)]) :: _) rfl ?_; clear hA; intro a hA
                refine wpList_nil ?_
                replace hA := hA.sel [3, 4, 7, 8, 9, 10, 19, 20, 21] (e' := [(3, .pointer (some ⟨b2, 0, none⟩)), (4, .slice A1 row.length c1), (7, .int .i64 x9.2), (8, .bool (decide ((((row.filter (fun x => !(x == x9.2))).length : Nat) : Int) < ((row.length : Nat) : Int)))), (9, .bool false), (10, .iface 36 (.int .i64 4)), (19, .slice (some ⟨b7, o8, none⟩) l.length c), (20, .int .i64 ((l.length : Nat) : Int)), (21, .int .i64 ((j : Nat) : Int))]) rfl
                refine xt_norm ?_
                refine wp_block ?_
                refine wp_seq ?_
                refine wp_region_lit ?_
                refine st_run tbOk 3 hA (e' := (78, .bool (decide (x9.2 < 0))) :: (80, .bool (decide (x9.2 < 0))) :: (79, .int .i64 x9.2) :: _) rfl ?_; clear hA; intro a hA
                refine wpList_nil ?_
                replace hA := hA.sel [3, 4, 7, 8, 9, 10, 19, 20, 21, 78] (e' := [(3, .pointer (some ⟨b2, 0, none⟩)), (4, .slice A1 row.length c1), (7, .int .i64 x9.2), (8, .bool (decide ((((row.filter (fun x => !(x == x9.2))).length : Nat) : Int) < ((row.length : Nat) : Int)))), (9, .bool false), (10, .iface 36 (.int .i64 4)), (19, .slice (some ⟨b7, o8, none⟩) l.length c), (20, .int .i64 ((l.length : Nat) : Int)), (21, .int .i64 ((j : Nat) : Int)), (78, .bool (decide (x9.2 < 0)))]) rfl
                refine xt_norm ?_
                by_cases hc21 : x9.2 < 0
                · first
                  | (exfalso; omega)
                  | (replace hA := hA.rw 78 (v' := .bool true) rfl (vb_true hc21)
                     refine cd_cond_t hA rfl ?_
                     refine wp_seq ?_
                     refine wp_region_lit ?_
                     refine st_run tbOk 3 hA (e' := (83, .iface 36 (.int .i64 4)) :: (82, .bool false) :: (81, .bool false) :: _) rfl ?_; clear hA; intro a hA
                     refine st_call0 hA rfl rfl rfl isfn8 rfl rfl (by decide) (number_hit8 hS hg 4) ?_
                     clear hA hS; rintro v w22 a ⟨rfl, hS⟩ hA
                     refine st_run tbOk 2 hA (e' := (86, .bool false) :: (85, .bool false) :: _) rfl ?_; clear hA; intro a hA
                     refine wpList_nil ?_
                     replace hA := hA.sel [3, 4, 19, 20, 21, 86] (e' := [(3, .pointer (some ⟨b2, 0, none⟩)), (4, .slice A1 row.length c1), (19, .slice (some ⟨b7, o8, none⟩) l.length c), (20, .int .i64 ((l.length : Nat) : Int)), (21, .int .i64 ((j : Nat) : Int)), (86, .bool false)]) rfl
                     refine xt_norm ?_
                     refine cd_cond_f hA rfl ?_
                     refine wp_skip ?_
                     refine xb_norm ?_
                     refine xb_norm ?_
                     refine xt_norm ?_
                     replace hS := hS.front 1 (C := C15) (L' := L19 :: [(b10, rowO [.int .u8 x9.1, .int .i8 x9.2] 30)] :: R :: F) rfl rfl
                     replace hS := hS.drop1
                     replace hS := hS.front 1 (C := [(b10, rowO [.int .u8 x9.1, .int .i8 x9.2] 30)]) (L' := L19 :: R :: F) rfl rfl
                     replace hS := hS.drop1
                     exact ⟨row, A1, c1, R, L19, (hA.sel [3, 4, 19, 20, 21] rfl), hS, hM, hO, hnn, hlen⟩)
                · first
                  | (exfalso; omega)
                  | (replace hA := hA.rw 78 (v' := .bool false) rfl (vb_false hc21)
                     refine cd_cond_f hA rfl ?_
                     refine wp_seq ?_
                     refine wp_region_lit ?_
                     refine st_run tbOk 2 hA (e' := (87, .bool (decide ((((row.filter (fun x => !(x == x9.2))).length : Nat) : Int) < ((row.length : Nat) : Int)))) :: (88, .bool (decide ((((row.filter (fun x => !(x == x9.2))).length : Nat) : Int) < ((row.length : Nat) : Int)))) :: _) rfl ?_; clear hA; intro a hA
                     refine wpList_nil ?_
                     replace hA := hA.sel [3, 4, 7, 9, 10, 19, 20, 21, 87] (e' := [(3, .pointer (some ⟨b2, 0, none⟩)), (4, .slice A1 row.length c1), (7, .int .i64 x9.2), (9, .bool false), (10, .iface 36 (.int .i64 4)), (19, .slice (some ⟨b7, o8, none⟩) l.length c), (20, .int .i64 ((l.length : Nat) : Int)), (21, .int .i64 ((j : Nat) : Int)), (87, .bool (decide ((((row.filter (fun x => !(x == x9.2))).length : Nat) : Int) < ((row.length : Nat) : Int))))]) rfl
                     refine xt_norm ?_
                     by_cases hc23 : (((row.filter (fun x => !(x == x9.2))).length : Nat) : Int) < ((row.length : Nat) : Int)
                     · first
                       | (exfalso; omega)
                       | (replace hA := hA.rw 87 (v' := .bool true) rfl (vb_true hc23)
                          refine cd_cond_t hA rfl ?_
                          refine wp_seq ?_
                          refine wp_region_lit ?_
                          refine st_run tbOk 3 hA (e' := (91, .iface 36 (.int .i64 4)) :: (90, .bool false) :: (89, .bool false) :: _) rfl ?_; clear hA; intro a hA
                          refine st_call0 hA rfl rfl rfl isfn8 rfl rfl (by decide) (number_hit8 hS hg 4) ?_
                          clear hA hS; rintro v w24 a ⟨rfl, hS⟩ hA
                          refine st_run tbOk 2 hA (e' := (94, .bool true) :: (93, .bool true) :: _) rfl ?_; clear hA; intro a hA
                          refine wpList_nil ?_
                          replace hA := hA.sel [3, 4, 19, 20, 21, 94] (e' := [(3, .pointer (some ⟨b2, 0, none⟩)), (4, .slice A1 row.length c1), (19, .slice (some ⟨b7, o8, none⟩) l.length c), (20, .int .i64 ((l.length : Nat) : Int)), (21, .int .i64 ((j : Nat) : Int)), (94, .bool true)]) rfl
                          refine xt_norm ?_
                          refine cd_cond_t hA rfl ?_
                          refine wp_seq ?_
                          refine wp_region_lit ?_
                          refine st_run tbOk 1 hA (e' := (2, .bool false) :: _) rfl ?_; clear hA; intro a hA
                          refine wpList_nil ?_
                          replace hA := hA.sel [2] (e' := [(2, .bool false)]) rfl
                          refine xt_norm ?_
                          refine wp_ret (xb_ret (xb_ret (xt_ret (xb_ret (xt_ret (xt_ret (xb_ret (xt_ret ?_))))))))
                          refine ret1 (fn := Tryd.f3) hA rfl rfl ?_
                          exfalso; omega)
                     · first
                       | (exfalso; omega)
                       | (replace hA := hA.rw 87 (v' := .bool false) rfl (vb_false hc23)
                          refine cd_cond_f hA rfl ?_
                          refine wp_seq ?_
                          refine wp_region_lit ?_
                          refine st_run tbOk 4 hA (e' := (95, .bool (((row.length : Nat) : Int) == 65)) :: (98, .bool (((row.length : Nat) : Int) == 65)) :: (97, .int .i64 ((row.length : Nat) : Int)) :: (96, .slice A1 row.length c1) :: _) rfl ?_; clear hA; intro a hA
                          refine wpList_nil ?_
                          replace hA := hA.sel [3, 4, 7, 9, 10, 19, 20, 21, 95] (e' := [(3, .pointer (some ⟨b2, 0, none⟩)), (4, .slice A1 row.length c1), (7, .int .i64 x9.2), (9, .bool false), (10, .iface 36 (.int .i64 4)), (19, .slice (some ⟨b7, o8, none⟩) l.length c), (20, .int .i64 ((l.length : Nat) : Int)), (21, .int .i64 ((j : Nat) : Int)), (95, .bool (((row.length : Nat) : Int) == 65))]) rfl
                          refine xt_norm ?_
                          by_cases hc25 : ((row.length : Nat) : Int) = 65
                          · first
                            | (exfalso; omega)
                            | (replace hA := hA.rw 95 (v' := .bool true) rfl (vb_eq_t hc25)
                               refine cd_cond_t hA rfl ?_
                               refine wp_seq ?_
                               refine wp_region_lit ?_
                               refine st_run tbOk 3 hA (e' := (101, .iface 36 (.int .i64 4)) :: (100, .bool false) :: (99, .bool false) :: _) rfl ?_; clear hA; intro a hA
                               refine st_call0 hA rfl rfl rfl isfn8 rfl rfl (by decide) (number_hit8 hS hg 4) ?_
                               clear hA hS; rintro v w26 a ⟨rfl, hS⟩ hA
                               refine st_run tbOk 2 hA (e' := (104, .bool true) :: (103, .bool true) :: _) rfl ?_; clear hA; intro a hA
                               refine wpList_nil ?_
                               replace hA := hA.sel [3, 4, 19, 20, 21, 104] (e' := [(3, .pointer (some ⟨b2, 0, none⟩)), (4, .slice A1 row.length c1), (19, .slice (some ⟨b7, o8, none⟩) l.length c), (20, .int .i64 ((l.length : Nat) : Int)), (21, .int .i64 ((j : Nat) : Int)), (104, .bool true)]) rfl
                               refine xt_norm ?_
                               refine cd_cond_t hA rfl ?_
                               refine wp_seq ?_
                               refine wp_region_lit ?_
                               refine st_run tbOk 1 hA (e' := (2, .bool false) :: _) rfl ?_; clear hA; intro a hA
                               refine wpList_nil ?_
                               replace hA := hA.sel [2] (e' := [(2, .bool false)]) rfl
                               refine xt_norm ?_
                               refine wp_ret (xb_ret (xb_ret (xt_ret (xb_ret (xt_ret (xt_ret (xb_ret (xt_ret ?_))))))))
                               refine ret1 (fn := Tryd.f3) hA rfl rfl ?_
                               exfalso; omega)
                          · first
                            | (exfalso; omega)
                            | (replace hA := hA.rw 95 (v' := .bool false) rfl (vb_eq_f hc25)
                               refine cd_cond_f hA rfl ?_
                               refine wp_seq ?_
                               refine wp_seq ?_
                               refine wp_region_lit ?_
                               replace hA := hA.rw 9 (v' := .bool (((row.length : Nat) : Int) == 0)) rfl (by rw [isEmpty_len])
                               refine st_run tbOk 4 hA (e' := (68, .bool (((row.length : Nat) : Int) == 0)) :: (67, .int .i64 ((row.length : Nat) : Int)) :: (66, .slice A1 row.length c1) :: (65, .bool (((row.length : Nat) : Int) == 0)) :: _) rfl ?_; clear hA; intro a hA
                               by_cases hc27 : ((row.length : Nat) : Int) = 0
                               · first
                                 | (exfalso; omega)
                                 | (replace hA := hA.rw 9 (v' := .bool true) rfl (vb_eq_t hc27)
                                    replace hA := hA.rw 65 (v' := .bool true) rfl (vb_eq_t hc27)
                                    replace hA := hA.rw 68 (v' := .bool true) rfl (vb_eq_t hc27)
                                    refine st_run tbOk 5 hA (e' := (73, .bool true) :: (72, .bool true) :: (71, .iface 36 (.int .i64 4)) :: (70, .bool false) :: (69, .bool false) :: _) rfl ?_; clear hA; intro a hA
                                    refine wpList_nil ?_
                                    replace hA := hA.sel [3, 4, 7, 19, 20, 21, 73] (e' := [(3, .pointer (some ⟨b2, 0, none⟩)), (4, .slice A1 row.length c1), (7, .int .i64 x9.2), (19, .slice (some ⟨b7, o8, none⟩) l.length c), (20, .int .i64 ((l.length : Nat) : Int)), (21, .int .i64 ((j : Nat) : Int)), (73, .bool true)]) rfl
                                    refine xt_norm ?_
                                    refine cd_cond_t hA rfl ?_
                                    refine wp_seq ?_
                                    refine wp_region_lit ?_
                                    refine st_run tbOk 1 hA (e' := (2, .bool false) :: _) rfl ?_; clear hA; intro a hA
                                    refine wpList_nil ?_
                                    replace hA := hA.sel [2] (e' := [(2, .bool false)]) rfl
                                    refine xt_norm ?_
                                    refine wp_ret (xt_ret (xb_ret (xb_ret (xt_ret (xb_ret (xt_ret (xt_ret (xb_ret (xt_ret ?_)))))))))
                                    refine ret1 (fn := Tryd.f3) hA rfl rfl ?_
                                    exfalso; omega)
                               · first
                                 | (exfalso; omega)
                                 | (replace hA := hA.rw 9 (v' := .bool false) rfl (vb_eq_f hc27)
                                    replace hA := hA.rw 65 (v' := .bool false) rfl (vb_eq_f hc27)
                                    replace hA := hA.rw 68 (v' := .bool false) rfl (vb_eq_f hc27)
                                    refine st_run tbOk 5 hA (e' := (73, .bool true) :: (72, .bool true) :: (71, .iface 36 (.int .i64 4)) :: (70, .bool false) :: (69, .bool false) :: _) rfl ?_; clear hA; intro a hA
                                    refine wpList_nil ?_
                                    replace hA := hA.sel [3, 4, 7, 19, 20, 21, 73] (e' := [(3, .pointer (some ⟨b2, 0, none⟩)), (4, .slice A1 row.length c1), (7, .int .i64 x9.2), (19, .slice (some ⟨b7, o8, none⟩) l.length c), (20, .int .i64 ((l.length : Nat) : Int)), (21, .int .i64 ((j : Nat) : Int)), (73, .bool true)]) rfl
                                    refine xt_norm ?_
                                    refine cd_cond_t hA rfl ?_
                                    refine wp_seq ?_
                                    refine wp_region_lit ?_
                                    refine st_run tbOk 1 hA (e' := (2, .bool false) :: _) rfl ?_; clear hA; intro a hA
                                    refine wpList_nil ?_
                                    replace hA := hA.sel [2] (e' := [(2, .bool false)]) rfl
                                    refine xt_norm ?_
                                    refine wp_ret (xt_ret (xb_ret (xb_ret (xt_ret (xb_ret (xt_ret (xt_ret (xb_ret (xt_ret ?_)))))))))
                                    refine ret1 (fn := Tryd.f3) hA rfl rfl ?_
                                    exfalso; omega))))
              · have hh := has_yes h2
                replace hS := hS.front 2 (C := L) (L' := C15 :: [(b10, rowO [.int .u8 x9.1, .int .i8 x9.2] 30)] :: R :: F) rfl rfl
                refine st_call0 hA rfl rfl rfl isfn7 rfl rfl (by decide) (lockR_in hS hM x9.2 h1 h2) ?_
                clear hA hS hM; rintro v w29 a ⟨L28, hM, rfl, hS⟩ hA
                refine st_run tbOk 5 hA (e' := (10, .iface 36 (.int .i64 15)) :: (9, .bool false) :: (64, .iface 36 (.int .i64 15)) :: (63, .bool false) :: (59, .tuple #[.bool false, .iface 36 (.int .i64 15)]) :: _) rfl ?_; clear hA; intro a hA
                refine wpList_nil ?_
                replace hA := hA.sel [3, 4, 7, 8, 9, 10, 19, 20, 21] (e' := [(3, .pointer (some ⟨b2, 0, none⟩)), (4, .slice A1 row.length c1), (7, .int .i64 x9.2), (8, .bool (decide ((((row.filter (fun x => !(x == x9.2))).length : Nat) : Int) < ((row.length : Nat) : Int)))), (9, .bool false), (10, .iface 36 (.int .i64 15)), (19, .slice (some ⟨b7, o8, none⟩) l.length c), (20, .int .i64 ((l.length : Nat) : Int)), (21, .int .i64 ((j : Nat) : Int))]) rfl
                refine xt_norm ?_
                refine wp_block ?_
                refine wp_seq ?_
                refine wp_region_lit ?_
                refine st_run tbOk 3 hA (e' := (78, .bool (decide (x9.2 < 0))) :: (80, .bool (decide (x9.2 < 0))) :: (79, .int .i64 x9.2) :: _) rfl ?_; clear hA; intro a hA
                refine wpList_nil ?_
                replace hA := hA.sel [3, 4, 7, 8, 9, 10, 19, 20, 21, 78] (e' := [(3, .pointer (some ⟨b2, 0, none⟩)), (4, .slice A1 row.length c1), (7, .int .i64 x9.2), (8, .bool (decide ((((row.filter (fun x => !(x == x9.2))).length : Nat) : Int) < ((row.length : Nat) : Int)))), (9, .bool false), (10, .iface 36 (.int .i64 15)), (19, .slice (some ⟨b7, o8, none⟩) l.length c), (20, .int .i64 ((l.length : Nat) : Int)), (21, .int .i64 ((j : Nat) : Int)), (78, .bool (decide (x9.2 < 0)))]) rfl
                refine xt_norm ?_
                by_cases hc30 : x9.2 < 0
                · first
                  | (exfalso; omega)
                  | (replace hA := hA.rw 78 (v' := .bool true) rfl (vb_true hc30)
                     refine cd_cond_t hA rfl ?_
                     refine wp_seq ?_
                     refine wp_region_lit ?_
                     refine st_run tbOk 3 hA (e' := (83, .iface 36 (.int .i64 15)) :: (82, .bool false) :: (81, .bool false) :: _) rfl ?_; clear hA; intro a hA
                     refine st_call0 hA rfl rfl rfl isfn8 rfl rfl (by decide) (number_hit8 hS hg 15) ?_
                     clear hA hS; rintro v w31 a ⟨rfl, hS⟩ hA
                     refine st_run tbOk 2 hA (e' := (86, .bool true) :: (85, .bool true) :: _) rfl ?_; clear hA; intro a hA
                     refine wpList_nil ?_
                     replace hA := hA.sel [3, 4, 19, 20, 21, 86] (e' := [(3, .pointer (some ⟨b2, 0, none⟩)), (4, .slice A1 row.length c1), (19, .slice (some ⟨b7, o8, none⟩) l.length c), (20, .int .i64 ((l.length : Nat) : Int)), (21, .int .i64 ((j : Nat) : Int)), (86, .bool true)]) rfl
                     refine xt_norm ?_
                     refine cd_cond_t hA rfl ?_
                     refine wp_seq ?_
                     refine wp_region_lit ?_
                     refine st_run tbOk 1 hA (e' := (2, .bool false) :: _) rfl ?_; clear hA; intro a hA
                     refine wpList_nil ?_
                     replace hA := hA.sel [2] (e' := [(2, .bool false)]) rfl
                     refine xt_norm ?_
                     refine wp_ret (xb_ret (xb_ret (xt_ret (xb_ret (xt_ret (xt_ret (xb_ret (xt_ret ?_))))))))
                     refine ret1 (fn := Tryd.f3) hA rfl rfl ?_
                     exfalso; omega)
                · first
                  | (exfalso; omega)
                  | (replace hA := hA.rw 78 (v' := .bool false) rfl (vb_false hc30)
                     refine cd_cond_f hA rfl ?_
                     refine wp_seq ?_
                     refine wp_region_lit ?_
                     refine st_run tbOk 2 hA (e' := (87, .bool (decide ((((row.filter (fun x => !(x == x9.2))).length : Nat) : Int) < ((row.length : Nat) : Int)))) :: (88, .bool (decide ((((row.filter (fun x => !(x == x9.2))).length : Nat) : Int) < ((row.length : Nat) : Int)))) :: _) rfl ?_; clear hA; intro a hA
                     refine wpList_nil ?_
                     replace hA := hA.sel [3, 4, 7, 9, 10, 19, 20, 21, 87] (e' := [(3, .pointer (some ⟨b2, 0, none⟩)), (4, .slice A1 row.length c1), (7, .int .i64 x9.2), (9, .bool false), (10, .iface 36 (.int .i64 15)), (19, .slice (some ⟨b7, o8, none⟩) l.length c), (20, .int .i64 ((l.length : Nat) : Int)), (21, .int .i64 ((j : Nat) : Int)), (87, .bool (decide ((((row.filter (fun x => !(x == x9.2))).length : Nat) : Int) < ((row.length : Nat) : Int))))]) rfl
                     refine xt_norm ?_
                     by_cases hc32 : (((row.filter (fun x => !(x == x9.2))).length : Nat) : Int) < ((row.length : Nat) : Int)
                     · first
                       | (exfalso; omega)
                       | (replace hA := hA.rw 87 (v' := .bool true) rfl (vb_true hc32)
                          refine cd_cond_t hA rfl ?_
                          refine wp_seq ?_
                          refine wp_region_lit ?_
                          refine st_run tbOk 3 hA (e' := (91, .iface 36 (.int .i64 15)) :: (90, .bool false) :: (89, .bool false) :: _) rfl ?_; clear hA; intro a hA
                          refine st_call0 hA rfl rfl rfl isfn8 rfl rfl (by decide) (number_hit8 hS hg 15) ?_
                          clear hA hS; rintro v w33 a ⟨rfl, hS⟩ hA
                          refine st_run tbOk 2 hA (e' := (94, .bool false) :: (93, .bool false) :: _) rfl ?_; clear hA; intro a hA
                          refine wpList_nil ?_
                          replace hA := hA.sel [3, 4, 19, 20, 21, 94] (e' := [(3, .pointer (some ⟨b2, 0, none⟩)), (4, .slice A1 row.length c1), (19, .slice (some ⟨b7, o8, none⟩) l.length c), (20, .int .i64 ((l.length : Nat) : Int)), (21, .int .i64 ((j : Nat) : Int)), (94, .bool false)]) rfl
                          refine xt_norm ?_
                          refine cd_cond_f hA rfl ?_
                          refine wp_skip ?_
                          refine xb_norm ?_
                          refine xb_norm ?_
                          refine xt_norm ?_
                          replace hS := hS.front 1 (C := C15) (L' := L28 :: [(b10, rowO [.int .u8 x9.1, .int .i8 x9.2] 30)] :: R :: F) rfl rfl
                          replace hS := hS.drop1
                          replace hS := hS.front 1 (C := [(b10, rowO [.int .u8 x9.1, .int .i8 x9.2] 30)]) (L' := L28 :: R :: F) rfl rfl
                          replace hS := hS.drop1
                          exact ⟨row, A1, c1, R, L28, (hA.sel [3, 4, 19, 20, 21] rfl), hS, hM, hO, hnn, hlen⟩)
                     · first
                       | (exfalso; omega)
                       | (replace hA := hA.rw 87 (v' := .bool false) rfl (vb_false hc32)
                          refine cd_cond_f hA rfl ?_
                          refine wp_seq ?_
                          refine wp_region_lit ?_
                          refine st_run tbOk 4 hA (e' := (95, .bool (((row.length : Nat) : Int) == 65)) :: (98, .bool (((row.length : Nat) : Int) == 65)) :: (97, .int .i64 ((row.length : Nat) : Int)) :: (96, .slice A1 row.length c1) :: _) rfl ?_; clear hA; intro a hA
                          refine wpList_nil ?_
                          replace hA := hA.sel [3, 4, 7, 9, 10, 19, 20, 21, 95] (e' := [(3, .pointer (some ⟨b2, 0, none⟩)), (4, .slice A1 row.length c1), (7, .int .i64 x9.2), (9, .bool false), (10, .iface 36 (.int .i64 15)), (19, .slice (some ⟨b7, o8, none⟩) l.length c), (20, .int .i64 ((l.length : Nat) : Int)), (21, .int .i64 ((j : Nat) : Int)), (95, .bool (((row.length : Nat) : Int) == 65))]) rfl
                          refine xt_norm ?_
                          by_cases hc34 : ((row.length : Nat) : Int) = 65
                          · first
                            | (exfalso; omega)
                            | (replace hA := hA.rw 95 (v' := .bool true) rfl (vb_eq_t hc34)
                               refine cd_cond_t hA rfl ?_
                               refine wp_seq ?_
                               refine wp_region_lit ?_
                               refine st_run tbOk 3 hA (e' := (101, .iface 36 (.int .i64 15)) :: (100, .bool false) :: (99, .bool false) :: _) rfl ?_; clear hA; intro a hA
                               refine st_call0 hA rfl rfl rfl isfn8 rfl rfl (by decide) (number_hit8 hS hg 15) ?_
                               clear hA hS; rintro v w35 a ⟨rfl, hS⟩ hA
                               refine st_run tbOk 2 hA (e' := (104, .bool true) :: (103, .bool true) :: _) rfl ?_; clear hA; intro a hA
                               refine wpList_nil ?_
                               replace hA := hA.sel [3, 4, 19, 20, 21, 104] (e' := [(3, .pointer (some ⟨b2, 0, none⟩)), (4, .slice A1 row.length c1), (19, .slice (some ⟨b7, o8, none⟩) l.length c), (20, .int .i64 ((l.length : Nat) : Int)), (21, .int .i64 ((j : Nat) : Int)), (104, .bool true)]) rfl
                               refine xt_norm ?_
                               refine cd_cond_t hA rfl ?_
                               refine wp_seq ?_
                               refine wp_region_lit ?_
                               refine st_run tbOk 1 hA (e' := (2, .bool false) :: _) rfl ?_; clear hA; intro a hA
                               refine wpList_nil ?_
                               replace hA := hA.sel [2] (e' := [(2, .bool false)]) rfl
                               refine xt_norm ?_
                               refine wp_ret (xb_ret (xb_ret (xt_ret (xb_ret (xt_ret (xt_ret (xb_ret (xt_ret ?_))))))))
                               refine ret1 (fn := Tryd.f3) hA rfl rfl ?_
                               exfalso; omega)
                          · first
                            | (exfalso; omega)
                            | (replace hA := hA.rw 95 (v' := .bool false) rfl (vb_eq_f hc34)
                               refine cd_cond_f hA rfl ?_
                               refine wp_seq ?_
                               refine wp_seq ?_
                               refine wp_region_lit ?_
                               replace hA := hA.rw 9 (v' := .bool (((row.length : Nat) : Int) == 0)) rfl (by rw [isEmpty_len])
                               refine st_run tbOk 4 hA (e' := (68, .bool (((row.length : Nat) : Int) == 0)) :: (67, .int .i64 ((row.length : Nat) : Int)) :: (66, .slice A1 row.length c1) :: (65, .bool (((row.length : Nat) : Int) == 0)) :: _) rfl ?_; clear hA; intro a hA
                               by_cases hc36 : ((row.length : Nat) : Int) = 0
                               · first
                                 | (exfalso; omega)
                                 | (replace hA := hA.rw 9 (v' := .bool true) rfl (vb_eq_t hc36)
                                    replace hA := hA.rw 65 (v' := .bool true) rfl (vb_eq_t hc36)
                                    replace hA := hA.rw 68 (v' := .bool true) rfl (vb_eq_t hc36)
                                    refine st_run tbOk 5 hA (e' := (73, .bool true) :: (72, .bool true) :: (71, .iface 36 (.int .i64 15)) :: (70, .bool false) :: (69, .bool false) :: _) rfl ?_; clear hA; intro a hA
                                    refine wpList_nil ?_
                                    replace hA := hA.sel [3, 4, 7, 19, 20, 21, 73] (e' := [(3, .pointer (some ⟨b2, 0, none⟩)), (4, .slice A1 row.length c1), (7, .int .i64 x9.2), (19, .slice (some ⟨b7, o8, none⟩) l.length c), (20, .int .i64 ((l.length : Nat) : Int)), (21, .int .i64 ((j : Nat) : Int)), (73, .bool true)]) rfl
                                    refine xt_norm ?_
                                    refine cd_cond_t hA rfl ?_
                                    refine wp_seq ?_
                                    refine wp_region_lit ?_
                                    refine st_run tbOk 1 hA (e' := (2, .bool false) :: _) rfl ?_; clear hA; intro a hA
                                    refine wpList_nil ?_
                                    replace hA := hA.sel [2] (e' := [(2, .bool false)]) rfl
                                    refine xt_norm ?_
                                    refine wp_ret (xt_ret (xb_ret (xb_ret (xt_ret (xb_ret (xt_ret (xt_ret (xb_ret (xt_ret ?_)))))))))
                                    refine ret1 (fn := Tryd.f3) hA rfl rfl ?_
                                    exfalso; omega)
                               · first
                                 | (exfalso; omega)
                                 | (replace hA := hA.rw 9 (v' := .bool false) rfl (vb_eq_f hc36)
                                    replace hA := hA.rw 65 (v' := .bool false) rfl (vb_eq_f hc36)
                                    replace hA := hA.rw 68 (v' := .bool false) rfl (vb_eq_f hc36)
                                    refine st_run tbOk 5 hA (e' := (73, .bool true) :: (72, .bool true) :: (71, .iface 36 (.int .i64 15)) :: (70, .bool false) :: (69, .bool false) :: _) rfl ?_; clear hA; intro a hA
                                    refine wpList_nil ?_
                                    replace hA := hA.sel [3, 4, 7, 19, 20, 21, 73] (e' := [(3, .pointer (some ⟨b2, 0, none⟩)), (4, .slice A1 row.length c1), (7, .int .i64 x9.2), (19, .slice (some ⟨b7, o8, none⟩) l.length c), (20, .int .i64 ((l.length : Nat) : Int)), (21, .int .i64 ((j : Nat) : Int)), (73, .bool true)]) rfl
                                    refine xt_norm ?_
                                    refine cd_cond_t hA rfl ?_
                                    refine wp_seq ?_
                                    refine wp_region_lit ?_
                                    refine st_run tbOk 1 hA (e' := (2, .bool false) :: _) rfl ?_; clear hA; intro a hA
                                    refine wpList_nil ?_
                                    replace hA := hA.sel [2] (e' := [(2, .bool false)]) rfl
                                    refine xt_norm ?_
                                    refine wp_ret (xt_ret (xb_ret (xb_ret (xt_ret (xb_ret (xt_ret (xt_ret (xb_ret (xt_ret ?_)))))))))
                                    refine ret1 (fn := Tryd.f3) hA rfl rfl ?_
                                    exfalso; omega))))
              · have hh := has_no h2
                replace hS := hS.front 2 (C := L) (L' := C15 :: [(b10, rowO [.int .u8 x9.1, .int .i8 x9.2] 30)] :: R :: F) rfl rfl
                refine st_call0 hA rfl rfl rfl isfn7 rfl rfl (by decide) (lockR_full hS hM x9.2 h1 h2 (by omega)) ?_
                clear hA hS hM; rintro v w38 a ⟨L37, hM, rfl, hS⟩ hA
                refine st_run tbOk 5 hA (e' := (10, .iface 36 (.int .i64 5)) :: (9, .bool false) :: (64, .iface 36 (.int .i64 5)) :: (63, .bool false) :: (59, .tuple #[.bool false, .iface 36 (.int .i64 5)]) :: _) rfl ?_; clear hA; intro a hA
                refine wpList_nil ?_
                replace hA := hA.sel [3, 4, 7, 8, 9, 10, 19, 20, 21] (e' := [(3, .pointer (some ⟨b2, 0, none⟩)), (4, .slice A1 row.length c1), (7, .int .i64 x9.2), (8, .bool (decide ((((row.filter (fun x => !(x == x9.2))).length : Nat) : Int) < ((row.length : Nat) : Int)))), (9, .bool false), (10, .iface 36 (.int .i64 5)), (19, .slice (some ⟨b7, o8, none⟩) l.length c), (20, .int .i64 ((l.length : Nat) : Int)), (21, .int .i64 ((j : Nat) : Int))]) rfl
                refine xt_norm ?_
                refine wp_block ?_
                refine wp_seq ?_
                refine wp_region_lit ?_
                refine st_run tbOk 3 hA (e' := (78, .bool (decide (x9.2 < 0))) :: (80, .bool (decide (x9.2 < 0))) :: (79, .int .i64 x9.2) :: _) rfl ?_; clear hA; intro a hA
                refine wpList_nil ?_
                replace hA := hA.sel [3, 4, 7, 8, 9, 10, 19, 20, 21, 78] (e' := [(3, .pointer (some ⟨b2, 0, none⟩)), (4, .slice A1 row.length c1), (7, .int .i64 x9.2), (8, .bool (decide ((((row.filter (fun x => !(x == x9.2))).length : Nat) : Int) < ((row.length : Nat) : Int)))), (9, .bool false), (10, .iface 36 (.int .i64 5)), (19, .slice (some ⟨b7, o8, none⟩) l.length c), (20, .int .i64 ((l.length : Nat) : Int)), (21, .int .i64 ((j : Nat) : Int)), (78, .bool (decide (x9.2 < 0)))]) rfl
                refine xt_norm ?_
                by_cases hc39 : x9.2 < 0
                · first
                  | (exfalso; omega)
                  | (replace hA := hA.rw 78 (v' := .bool true) rfl (vb_true hc39)
                     refine cd_cond_t hA rfl ?_
                     refine wp_seq ?_
                     refine wp_region_lit ?_
                     refine st_run tbOk 3 hA (e' := (83, .iface 36 (.int .i64 5)) :: (82, .bool false) :: (81, .bool false) :: _) rfl ?_; clear hA; intro a hA
                     refine st_call0 hA rfl rfl rfl isfn8 rfl rfl (by decide) (number_hit8 hS hg 5) ?_
                     clear hA hS; rintro v w40 a ⟨rfl, hS⟩ hA
                     refine st_run tbOk 2 hA (e' := (86, .bool true) :: (85, .bool true) :: _) rfl ?_; clear hA; intro a hA
                     refine wpList_nil ?_
                     replace hA := hA.sel [3, 4, 19, 20, 21, 86] (e' := [(3, .pointer (some ⟨b2, 0, none⟩)), (4, .slice A1 row.length c1), (19, .slice (some ⟨b7, o8, none⟩) l.length c), (20, .int .i64 ((l.length : Nat) : Int)), (21, .int .i64 ((j : Nat) : Int)), (86, .bool true)]) rfl
                     refine xt_norm ?_
                     refine cd_cond_t hA rfl ?_
                     refine wp_seq ?_
                     refine wp_region_lit ?_
                     refine st_run tbOk 1 hA (e' := (2, .bool false) :: _) rfl ?_; clear hA; intro a hA
                     refine wpList_nil ?_
                     replace hA := hA.sel [2] (e' := [(2, .bool false)]) rfl
                     refine xt_norm ?_
                     refine wp_ret (xb_ret (xb_ret (xt_ret (xb_ret (xt_ret (xt_ret (xb_ret (xt_ret ?_))))))))
                     refine ret1 (fn := Tryd.f3) hA rfl rfl ?_
                     exfalso; omega)
                · first
                  | (exfalso; omega)
                  | (replace hA := hA.rw 78 (v' := .bool false) rfl (vb_false hc39)
                     refine cd_cond_f hA rfl ?_
                     refine wp_seq ?_
                     refine wp_region_lit ?_
                     refine st_run tbOk 2 hA (e' := (87, .bool (decide ((((row.filter (fun x => !(x == x9.2))).length : Nat) : Int) < ((row.length : Nat) : Int)))) :: (88, .bool (decide ((((row.filter (fun x => !(x == x9.2))).length : Nat) : Int) < ((row.length : Nat) : Int)))) :: _) rfl ?_; clear hA; intro a hA
                     refine wpList_nil ?_
                     replace hA := hA.sel [3, 4, 7, 9, 10, 19, 20, 21, 87] (e' := [(3, .pointer (some ⟨b2, 0, none⟩)), (4, .slice A1 row.length c1), (7, .int .i64 x9.2), (9, .bool false), (10, .iface 36 (.int .i64 5)), (19, .slice (some ⟨b7, o8, none⟩) l.length c), (20, .int .i64 ((l.length : Nat) : Int)), (21, .int .i64 ((j : Nat) : Int)), (87, .bool (decide ((((row.filter (fun x => !(x == x9.2))).length : Nat) : Int) < ((row.length : Nat) : Int))))]) rfl
                     refine xt_norm ?_
                     by_cases hc41 : (((row.filter (fun x => !(x == x9.2))).length : Nat) : Int) < ((row.length : Nat) : Int)
                     · first
                       | (exfalso; omega)
                       | (replace hA := hA.rw 87 (v' := .bool true) rfl (vb_true hc41)
                          refine cd_cond_t hA rfl ?_
                          refine wp_seq ?_
                          refine wp_region_lit ?_
                          refine st_run tbOk 3 hA (e' := (91, .iface 36 (.int .i64 5)) :: (90, .bool false) :: (89, .bool false) :: _) rfl ?_; clear hA; intro a hA
                          refine st_call0 hA rfl rfl rfl isfn8 rfl rfl (by decide) (number_hit8 hS hg 5) ?_
                          clear hA hS; rintro v w42 a ⟨rfl, hS⟩ hA
                          refine st_run tbOk 2 hA (e' := (94, .bool true) :: (93, .bool true) :: _) rfl ?_; clear hA; intro a hA
                          refine wpList_nil ?_
                          replace hA := hA.sel [3, 4, 19, 20, 21, 94] (e' := [(3, .pointer (some ⟨b2, 0, none⟩)), (4, .slice A1 row.length c1), (19, .slice (some ⟨b7, o8, none⟩) l.length c), (20, .int .i64 ((l.length : Nat) : Int)), (21, .int .i64 ((j : Nat) : Int)), (94, .bool true)]) rfl
                          refine xt_norm ?_
                          refine cd_cond_t hA rfl ?_
                          refine wp_seq ?_
                          refine wp_region_lit ?_
                          refine st_run tbOk 1 hA (e' := (2, .bool false) :: _) rfl ?_; clear hA; intro a hA
                          refine wpList_nil ?_
                          replace hA := hA.sel [2] (e' := [(2, .bool false)]) rfl
                          refine xt_norm ?_
                          refine wp_ret (xb_ret (xb_ret (xt_ret (xb_ret (xt_ret (xt_ret (xb_ret (xt_ret ?_))))))))
                          refine ret1 (fn := Tryd.f3) hA rfl rfl ?_
                          exfalso; omega)
                     · first
                       | (exfalso; omega)
                       | (replace hA := hA.rw 87 (v' := .bool false) rfl (vb_false hc41)
                          refine cd_cond_f hA rfl ?_
                          refine wp_seq ?_
                          refine wp_region_lit ?_
                          refine st_run tbOk 4 hA (e' := (95, .bool (((row.length : Nat) : Int) == 65)) :: (98, .bool (((row.length : Nat) : Int) == 65)) :: (97, .int .i64 ((row.length : Nat) : Int)) :: (96, .slice A1 row.length c1) :: _) rfl ?_; clear hA; intro a hA
                          refine wpList_nil ?_
                          replace hA := hA.sel [3, 4, 7, 9, 10, 19, 20, 21, 95] (e' := [(3, .pointer (some ⟨b2, 0, none⟩)), (4, .slice A1 row.length c1), (7, .int .i64 x9.2), (9, .bool false), (10, .iface 36 (.int .i64 5)), (19, .slice (some ⟨b7, o8, none⟩) l.length c), (20, .int .i64 ((l.length : Nat) : Int)), (21, .int .i64 ((j : Nat) : Int)), (95, .bool (((row.length : Nat) : Int) == 65))]) rfl
                          refine xt_norm ?_
                          by_cases hc43 : ((row.length : Nat) : Int) = 65
                          · first
                            | (exfalso; omega)
                            | (replace hA := hA.rw 95 (v' := .bool true) rfl (vb_eq_t hc43)
                               refine cd_cond_t hA rfl ?_
                               refine wp_seq ?_
                               refine wp_region_lit ?_
                               refine st_run tbOk 3 hA (e' := (101, .iface 36 (.int .i64 5)) :: (100, .bool false) :: (99, .bool false) :: _) rfl ?_; clear hA; intro a hA
                               refine st_call0 hA rfl rfl rfl isfn8 rfl rfl (by decide) (number_hit8 hS hg 5) ?_
                               clear hA hS; rintro v w44 a ⟨rfl, hS⟩ hA
                               refine st_run tbOk 2 hA (e' := (104, .bool false) :: (103, .bool false) :: _) rfl ?_; clear hA; intro a hA
                               refine wpList_nil ?_
                               replace hA := hA.sel [3, 4, 19, 20, 21, 104] (e' := [(3, .pointer (some ⟨b2, 0, none⟩)), (4, .slice A1 row.length c1), (19, .slice (some ⟨b7, o8, none⟩) l.length c), (20, .int .i64 ((l.length : Nat) : Int)), (21, .int .i64 ((j : Nat) : Int)), (104, .bool false)]) rfl
                               refine xt_norm ?_
                               refine cd_cond_f hA rfl ?_
                               refine wp_skip ?_
                               refine xb_norm ?_
                               refine xb_norm ?_
                               refine xt_norm ?_
                               replace hS := hS.front 1 (C := C15) (L' := L37 :: [(b10, rowO [.int .u8 x9.1, .int .i8 x9.2] 30)] :: R :: F) rfl rfl
                               replace hS := hS.drop1
                               replace hS := hS.front 1 (C := [(b10, rowO [.int .u8 x9.1, .int .i8 x9.2] 30)]) (L' := L37 :: R :: F) rfl rfl
                               replace hS := hS.drop1
                               exact ⟨row, A1, c1, R, L37, (hA.sel [3, 4, 19, 20, 21] rfl), hS, hM, hO, hnn, hlen⟩)
                          · first
                            | (exfalso; omega)
                            | (replace hA := hA.rw 95 (v' := .bool false) rfl (vb_eq_f hc43)
                               refine cd_cond_f hA rfl ?_
                               refine wp_seq ?_
                               refine wp_seq ?_
                               refine wp_region_lit ?_
                               replace hA := hA.rw 9 (v' := .bool (((row.length : Nat) : Int) == 0)) rfl (by rw [isEmpty_len])
                               refine st_run tbOk 4 hA (e' := (68, .bool (((row.length : Nat) : Int) == 0)) :: (67, .int .i64 ((row.length : Nat) : Int)) :: (66, .slice A1 row.length c1) :: (65, .bool (((row.length : Nat) : Int) == 0)) :: _) rfl ?_; clear hA; intro a hA
                               by_cases hc45 : ((row.length : Nat) : Int) = 0
                               · first
                                 | (exfalso; omega)
                                 | (replace hA := hA.rw 9 (v' := .bool true) rfl (vb_eq_t hc45)
                                    replace hA := hA.rw 65 (v' := .bool true) rfl (vb_eq_t hc45)
                                    replace hA := hA.rw 68 (v' := .bool true) rfl (vb_eq_t hc45)
                                    refine st_run tbOk 5 hA (e' := (73, .bool true) :: (72, .bool true) :: (71, .iface 36 (.int .i64 5)) :: (70, .bool false) :: (69, .bool false) :: _) rfl ?_; clear hA; intro a hA
                                    refine wpList_nil ?_
                                    replace hA := hA.sel [3, 4, 7, 19, 20, 21, 73] (e' := [(3, .pointer (some ⟨b2, 0, none⟩)), (4, .slice A1 row.length c1), (7, .int .i64 x9.2), (19, .slice (some ⟨b7, o8, none⟩) l.length c), (20, .int .i64 ((l.length : Nat) : Int)), (21, .int .i64 ((j : Nat) : Int)), (73, .bool true)]) rfl
                                    refine xt_norm ?_
                                    refine cd_cond_t hA rfl ?_
                                    refine wp_seq ?_
                                    refine wp_region_lit ?_
                                    refine st_run tbOk 1 hA (e' := (2, .bool false) :: _) rfl ?_; clear hA; intro a hA
                                    refine wpList_nil ?_
                                    replace hA := hA.sel [2] (e' := [(2, .bool false)]) rfl
                                    refine xt_norm ?_
                                    refine wp_ret (xt_ret (xb_ret (xb_ret (xt_ret (xb_ret (xt_ret (xt_ret (xb_ret (xt_ret ?_)))))))))
                                    refine ret1 (fn := Tryd.f3) hA rfl rfl ?_
                                    exfalso; omega)
                               · first
                                 | (exfalso; omega)
                                 | (replace hA := hA.rw 9 (v' := .bool false) rfl (vb_eq_f hc45)
                                    replace hA := hA.rw 65 (v' := .bool false) rfl (vb_eq_f hc45)
                                    replace hA := hA.rw 68 (v' := .bool false) rfl (vb_eq_f hc45)
                                    refine st_run tbOk 5 hA (e' := (73, .bool true) :: (72, .bool true) :: (71, .iface 36 (.int .i64 5)) :: (70, .bool false) :: (69, .bool false) :: _) rfl ?_; clear hA; intro a hA
                                    refine wpList_nil ?_
                                    replace hA := hA.sel [3, 4, 7, 19, 20, 21, 73] (e' := [(3, .pointer (some ⟨b2, 0, none⟩)), (4, .slice A1 row.length c1), (7, .int .i64 x9.2), (19, .slice (some ⟨b7, o8, none⟩) l.length c), (20, .int .i64 ((l.length : Nat) : Int)), (21, .int .i64 ((j : Nat) : Int)), (73, .bool true)]) rfl
                                    refine xt_norm ?_
                                    refine cd_cond_t hA rfl ?_
                                    refine wp_seq ?_
                                    refine wp_region_lit ?_
                                    refine st_run tbOk 1 hA (e' := (2, .bool false) :: _) rfl ?_; clear hA; intro a hA
                                    refine wpList_nil ?_
                                    replace hA := hA.sel [2] (e' := [(2, .bool false)]) rfl
                                    refine xt_norm ?_
                                    refine wp_ret (xt_ret (xb_ret (xb_ret (xt_ret (xb_ret (xt_ret (xt_ret (xb_ret (xt_ret ?_)))))))))
                                    refine ret1 (fn := Tryd.f3) hA rfl rfl ?_
                                    exfalso; omega))))
              · have hh := has_no h2
                replace hS := hS.front 2 (C := L) (L' := C15 :: [(b10, rowO [.int .u8 x9.1, .int .i8 x9.2] 30)] :: R :: F) rfl rfl
                refine st_call0 hA rfl rfl rfl isfn7 rfl rfl (by decide) (lockR_ok hS hM x9.2 h1 h2 h3) ?_
                clear hA hS hM; rintro v w47 a ⟨L46, hM, rfl, hS⟩ hA
                refine st_run tbOk 5 hA (e' := (10, .nilIface) :: (9, .bool row.isEmpty) :: (64, .nilIface) :: (63, .bool row.isEmpty) :: (59, .tuple #[.bool row.isEmpty, .nilIface]) :: _) rfl ?_; clear hA; intro a hA
                refine wpList_nil ?_
                replace hA := hA.sel [3, 4, 7, 8, 9, 10, 19, 20, 21] (e' := [(3, .pointer (some ⟨b2, 0, none⟩)), (4, .slice A1 row.length c1), (7, .int .i64 x9.2), (8, .bool (decide ((((row.filter (fun x => !(x == x9.2))).length : Nat) : Int) < ((row.length : Nat) : Int)))), (9, .bool row.isEmpty), (10, .nilIface), (19, .slice (some ⟨b7, o8, none⟩) l.length c), (20, .int .i64 ((l.length : Nat) : Int)), (21, .int .i64 ((j : Nat) : Int))]) rfl
                refine xt_norm ?_
                refine wp_block ?_
                refine wp_seq ?_
                refine wp_region_lit ?_
                refine st_run tbOk 3 hA (e' := (78, .bool (decide (x9.2 < 0))) :: (80, .bool (decide (x9.2 < 0))) :: (79, .int .i64 x9.2) :: _) rfl ?_; clear hA; intro a hA
                refine wpList_nil ?_
                replace hA := hA.sel [3, 4, 7, 8, 9, 10, 19, 20, 21, 78] (e' := [(3, .pointer (some ⟨b2, 0, none⟩)), (4, .slice A1 row.length c1), (7, .int .i64 x9.2), (8, .bool (decide ((((row.filter (fun x => !(x == x9.2))).length : Nat) : Int) < ((row.length : Nat) : Int)))), (9, .bool row.isEmpty), (10, .nilIface), (19, .slice (some ⟨b7, o8, none⟩) l.length c), (20, .int .i64 ((l.length : Nat) : Int)), (21, .int .i64 ((j : Nat) : Int)), (78, .bool (decide (x9.2 < 0)))]) rfl
                refine xt_norm ?_
                by_cases hc48 : x9.2 < 0
                · first
                  | (exfalso; omega)
                  | (replace hA := hA.rw 78 (v' := .bool true) rfl (vb_true hc48)
                     refine cd_cond_t hA rfl ?_
                     refine wp_seq ?_
                     refine wp_region_lit ?_
                     refine st_run tbOk 2 hA (e' := (82, .bool row.isEmpty) :: (81, .bool row.isEmpty) :: _) rfl ?_; clear hA; intro a hA
                     by_cases hc49 : row.isEmpty = true
                     · first
                       | (exfalso; omega)
                       | (replace hA := hA.rw 9 (v' := .bool true) rfl (vb_t hc49)
                          replace hA := hA.rw 81 (v' := .bool true) rfl (vb_t hc49)
                          replace hA := hA.rw 82 (v' := .bool true) rfl (vb_t hc49)
                          refine st_run tbOk 4 hA (e' := (86, .bool true) :: (85, undef) :: (84, undef) :: (83, undef) :: _) rfl ?_; clear hA; intro a hA
                          refine wpList_nil ?_
                          replace hA := hA.sel [3, 4, 19, 20, 21, 86] (e' := [(3, .pointer (some ⟨b2, 0, none⟩)), (4, .slice A1 row.length c1), (19, .slice (some ⟨b7, o8, none⟩) l.length c), (20, .int .i64 ((l.length : Nat) : Int)), (21, .int .i64 ((j : Nat) : Int)), (86, .bool true)]) rfl
                          refine xt_norm ?_
                          refine cd_cond_t hA rfl ?_
                          refine wp_seq ?_
                          refine wp_region_lit ?_
                          refine st_run tbOk 1 hA (e' := (2, .bool false) :: _) rfl ?_; clear hA; intro a hA
                          refine wpList_nil ?_
                          replace hA := hA.sel [2] (e' := [(2, .bool false)]) rfl
                          refine xt_norm ?_
                          refine wp_ret (xb_ret (xb_ret (xt_ret (xb_ret (xt_ret (xt_ret (xb_ret (xt_ret ?_))))))))
                          refine ret1 (fn := Tryd.f3) hA rfl rfl ?_
                          exfalso; omega)
                     · first
                       | (exfalso; omega)
                       | (replace hA := hA.rw 9 (v' := .bool false) rfl (vb_f hc49)
                          replace hA := hA.rw 81 (v' := .bool false) rfl (vb_f hc49)
                          replace hA := hA.rw 82 (v' := .bool false) rfl (vb_f hc49)
                          refine st_run tbOk 1 hA (e' := (83, .nilIface) :: _) rfl ?_; clear hA; intro a hA
                          refine st_call0 hA rfl rfl rfl isfn8 rfl rfl (by decide) (number_nil8 hS hg) ?_
                          clear hA hS; rintro v w50 a ⟨rfl, hS⟩ hA
                          refine st_run tbOk 2 hA (e' := (86, .bool true) :: (85, .bool true) :: _) rfl ?_; clear hA; intro a hA
                          refine wpList_nil ?_
                          replace hA := hA.sel [3, 4, 19, 20, 21, 86] (e' := [(3, .pointer (some ⟨b2, 0, none⟩)), (4, .slice A1 row.length c1), (19, .slice (some ⟨b7, o8, none⟩) l.length c), (20, .int .i64 ((l.length : Nat) : Int)), (21, .int .i64 ((j : Nat) : Int)), (86, .bool true)]) rfl
                          refine xt_norm ?_
                          refine cd_cond_t hA rfl ?_
                          refine wp_seq ?_
                          refine wp_region_lit ?_
                          refine st_run tbOk 1 hA (e' := (2, .bool false) :: _) rfl ?_; clear hA; intro a hA
                          refine wpList_nil ?_
                          replace hA := hA.sel [2] (e' := [(2, .bool false)]) rfl
                          refine xt_norm ?_
                          refine wp_ret (xb_ret (xb_ret (xt_ret (xb_ret (xt_ret (xt_ret (xb_ret (xt_ret ?_))))))))
                          refine ret1 (fn := Tryd.f3) hA rfl rfl ?_
                          exfalso; omega))
                · first
                  | (exfalso; omega)
                  | (replace hA := hA.rw 78 (v' := .bool false) rfl (vb_false hc48)
                     refine cd_cond_f hA rfl ?_
                     refine wp_seq ?_
                     refine wp_region_lit ?_
                     refine st_run tbOk 2 hA (e' := (87, .bool (decide ((((row.filter (fun x => !(x == x9.2))).length : Nat) : Int) < ((row.length : Nat) : Int)))) :: (88, .bool (decide ((((row.filter (fun x => !(x == x9.2))).length : Nat) : Int) < ((row.length : Nat) : Int)))) :: _) rfl ?_; clear hA; intro a hA
                     refine wpList_nil ?_
                     replace hA := hA.sel [3, 4, 7, 9, 10, 19, 20, 21, 87] (e' := [(3, .pointer (some ⟨b2, 0, none⟩)), (4, .slice A1 row.length c1), (7, .int .i64 x9.2), (9, .bool row.isEmpty), (10, .nilIface), (19, .slice (some ⟨b7, o8, none⟩) l.length c), (20, .int .i64 ((l.length : Nat) : Int)), (21, .int .i64 ((j : Nat) : Int)), (87, .bool (decide ((((row.filter (fun x => !(x == x9.2))).length : Nat) : Int) < ((row.length : Nat) : Int))))]) rfl
                     refine xt_norm ?_
                     by_cases hc51 : (((row.filter (fun x => !(x == x9.2))).length : Nat) : Int) < ((row.length : Nat) : Int)
                     · first
                       | (exfalso; omega)
                       | (replace hA := hA.rw 87 (v' := .bool true) rfl (vb_true hc51)
                          refine cd_cond_t hA rfl ?_
                          refine wp_seq ?_
                          refine wp_region_lit ?_
                          refine st_run tbOk 2 hA (e' := (90, .bool row.isEmpty) :: (89, .bool row.isEmpty) :: _) rfl ?_; clear hA; intro a hA
                          by_cases hc52 : row.isEmpty = true
                          · first
                            | (exfalso; omega)
                            | (replace hA := hA.rw 9 (v' := .bool true) rfl (vb_t hc52)
                               replace hA := hA.rw 89 (v' := .bool true) rfl (vb_t hc52)
                               replace hA := hA.rw 90 (v' := .bool true) rfl (vb_t hc52)
                               refine st_run tbOk 4 hA (e' := (94, .bool true) :: (93, undef) :: (92, undef) :: (91, undef) :: _) rfl ?_; clear hA; intro a hA
                               refine wpList_nil ?_
                               replace hA := hA.sel [3, 4, 19, 20, 21, 94] (e' := [(3, .pointer (some ⟨b2, 0, none⟩)), (4, .slice A1 row.length c1), (19, .slice (some ⟨b7, o8, none⟩) l.length c), (20, .int .i64 ((l.length : Nat) : Int)), (21, .int .i64 ((j : Nat) : Int)), (94, .bool true)]) rfl
                               refine xt_norm ?_
                               refine cd_cond_t hA rfl ?_
                               refine wp_seq ?_
                               refine wp_region_lit ?_
                               refine st_run tbOk 1 hA (e' := (2, .bool false) :: _) rfl ?_; clear hA; intro a hA
                               refine wpList_nil ?_
                               replace hA := hA.sel [2] (e' := [(2, .bool false)]) rfl
                               refine xt_norm ?_
                               refine wp_ret (xb_ret (xb_ret (xt_ret (xb_ret (xt_ret (xt_ret (xb_ret (xt_ret ?_))))))))
                               refine ret1 (fn := Tryd.f3) hA rfl rfl ?_
                               exfalso; omega)
                          · first
                            | (exfalso; omega)
                            | (replace hA := hA.rw 9 (v' := .bool false) rfl (vb_f hc52)
                               replace hA := hA.rw 89 (v' := .bool false) rfl (vb_f hc52)
                               replace hA := hA.rw 90 (v' := .bool false) rfl (vb_f hc52)
                               refine st_run tbOk 1 hA (e' := (91, .nilIface) :: _) rfl ?_; clear hA; intro a hA
                               refine st_call0 hA rfl rfl rfl isfn8 rfl rfl (by decide) (number_nil8 hS hg) ?_
                               clear hA hS; rintro v w53 a ⟨rfl, hS⟩ hA
                               refine st_run tbOk 2 hA (e' := (94, .bool true) :: (93, .bool true) :: _) rfl ?_; clear hA; intro a hA
                               refine wpList_nil ?_
                               replace hA := hA.sel [3, 4, 19, 20, 21, 94] (e' := [(3, .pointer (some ⟨b2, 0, none⟩)), (4, .slice A1 row.length c1), (19, .slice (some ⟨b7, o8, none⟩) l.length c), (20, .int .i64 ((l.length : Nat) : Int)), (21, .int .i64 ((j : Nat) : Int)), (94, .bool true)]) rfl
                               refine xt_norm ?_
                               refine cd_cond_t hA rfl ?_
                               refine wp_seq ?_
                               refine wp_region_lit ?_
                               refine st_run tbOk 1 hA (e' := (2, .bool false) :: _) rfl ?_; clear hA; intro a hA
                               refine wpList_nil ?_
                               replace hA := hA.sel [2] (e' := [(2, .bool false)]) rfl
                               refine xt_norm ?_
                               refine wp_ret (xb_ret (xb_ret (xt_ret (xb_ret (xt_ret (xt_ret (xb_ret (xt_ret ?_))))))))
                               refine ret1 (fn := Tryd.f3) hA rfl rfl ?_
                               exfalso; omega))
                     · first
                       | (exfalso; omega)
                       | (replace hA := hA.rw 87 (v' := .bool false) rfl (vb_false hc51)
                          refine cd_cond_f hA rfl ?_
                          refine wp_seq ?_
                          refine wp_region_lit ?_
                          refine st_run tbOk 4 hA (e' := (95, .bool (((row.length : Nat) : Int) == 65)) :: (98, .bool (((row.length : Nat) : Int) == 65)) :: (97, .int .i64 ((row.length : Nat) : Int)) :: (96, .slice A1 row.length c1) :: _) rfl ?_; clear hA; intro a hA
                          refine wpList_nil ?_
                          replace hA := hA.sel [3, 4, 7, 9, 10, 19, 20, 21, 95] (e' := [(3, .pointer (some ⟨b2, 0, none⟩)), (4, .slice A1 row.length c1), (7, .int .i64 x9.2), (9, .bool row.isEmpty), (10, .nilIface), (19, .slice (some ⟨b7, o8, none⟩) l.length c), (20, .int .i64 ((l.length : Nat) : Int)), (21, .int .i64 ((j : Nat) : Int)), (95, .bool (((row.length : Nat) : Int) == 65))]) rfl
                          refine xt_norm ?_
                          by_cases hc54 : ((row.length : Nat) : Int) = 65
                          · first
                            | (exfalso; omega)
                            | (replace hA := hA.rw 95 (v' := .bool true) rfl (vb_eq_t hc54)
                               refine cd_cond_t hA rfl ?_
                               refine wp_seq ?_
                               refine wp_region_lit ?_
                               refine st_run tbOk 2 hA (e' := (100, .bool row.isEmpty) :: (99, .bool row.isEmpty) :: _) rfl ?_; clear hA; intro a hA
                               by_cases hc55 : row.isEmpty = true
                               · first
                                 | (exfalso; omega)
                                 | (replace hA := hA.rw 9 (v' := .bool true) rfl (vb_t hc55)
                                    replace hA := hA.rw 99 (v' := .bool true) rfl (vb_t hc55)
                                    replace hA := hA.rw 100 (v' := .bool true) rfl (vb_t hc55)
                                    refine st_run tbOk 4 hA (e' := (104, .bool true) :: (103, undef) :: (102, undef) :: (101, undef) :: _) rfl ?_; clear hA; intro a hA
                                    refine wpList_nil ?_
                                    replace hA := hA.sel [3, 4, 19, 20, 21, 104] (e' := [(3, .pointer (some ⟨b2, 0, none⟩)), (4, .slice A1 row.length c1), (19, .slice (some ⟨b7, o8, none⟩) l.length c), (20, .int .i64 ((l.length : Nat) : Int)), (21, .int .i64 ((j : Nat) : Int)), (104, .bool true)]) rfl
                                    refine xt_norm ?_
                                    refine cd_cond_t hA rfl ?_
                                    refine wp_seq ?_
                                    refine wp_region_lit ?_
                                    refine st_run tbOk 1 hA (e' := (2, .bool false) :: _) rfl ?_; clear hA; intro a hA
                                    refine wpList_nil ?_
                                    replace hA := hA.sel [2] (e' := [(2, .bool false)]) rfl
                                    refine xt_norm ?_
                                    refine wp_ret (xb_ret (xb_ret (xt_ret (xb_ret (xt_ret (xt_ret (xb_ret (xt_ret ?_))))))))
                                    refine ret1 (fn := Tryd.f3) hA rfl rfl ?_
                                    exfalso; omega)
                               · first
                                 | (exfalso; omega)
                                 | (replace hA := hA.rw 9 (v' := .bool false) rfl (vb_f hc55)
                                    replace hA := hA.rw 99 (v' := .bool false) rfl (vb_f hc55)
                                    replace hA := hA.rw 100 (v' := .bool false) rfl (vb_f hc55)
                                    refine st_run tbOk 1 hA (e' := (101, .nilIface) :: _) rfl ?_; clear hA; intro a hA
                                    refine st_call0 hA rfl rfl rfl isfn8 rfl rfl (by decide) (number_nil8 hS hg) ?_
                                    clear hA hS; rintro v w56 a ⟨rfl, hS⟩ hA
                                    refine st_run tbOk 2 hA (e' := (104, .bool true) :: (103, .bool true) :: _) rfl ?_; clear hA; intro a hA
                                    refine wpList_nil ?_
                                    replace hA := hA.sel [3, 4, 19, 20, 21, 104] (e' := [(3, .pointer (some ⟨b2, 0, none⟩)), (4, .slice A1 row.length c1), (19, .slice (some ⟨b7, o8, none⟩) l.length c), (20, .int .i64 ((l.length : Nat) : Int)), (21, .int .i64 ((j : Nat) : Int)), (104, .bool true)]) rfl
                                    refine xt_norm ?_
                                    refine cd_cond_t hA rfl ?_
                                    refine wp_seq ?_
                                    refine wp_region_lit ?_
                                    refine st_run tbOk 1 hA (e' := (2, .bool false) :: _) rfl ?_; clear hA; intro a hA
                                    refine wpList_nil ?_
                                    replace hA := hA.sel [2] (e' := [(2, .bool false)]) rfl
                                    refine xt_norm ?_
                                    refine wp_ret (xb_ret (xb_ret (xt_ret (xb_ret (xt_ret (xt_ret (xb_ret (xt_ret ?_))))))))
                                    refine ret1 (fn := Tryd.f3) hA rfl rfl ?_
                                    exfalso; omega))
                          · first
                            | (exfalso; omega)
                            | (replace hA := hA.rw 95 (v' := .bool false) rfl (vb_eq_f hc54)
                               refine cd_cond_f hA rfl ?_
                               refine wp_seq ?_
                               refine wp_seq ?_
                               refine wp_region_lit ?_
                               replace hA := hA.rw 9 (v' := .bool (((row.length : Nat) : Int) == 0)) rfl (by rw [isEmpty_len])
                               refine st_run tbOk 4 hA (e' := (68, .bool (((row.length : Nat) : Int) == 0)) :: (67, .int .i64 ((row.length : Nat) : Int)) :: (66, .slice A1 row.length c1) :: (65, .bool (((row.length : Nat) : Int) == 0)) :: _) rfl ?_; clear hA; intro a hA
                               by_cases hc57 : ((row.length : Nat) : Int) = 0
                               · first
                                 | (exfalso; omega)
                                 | (replace hA := hA.rw 9 (v' := .bool true) rfl (vb_eq_t hc57)
                                    replace hA := hA.rw 65 (v' := .bool true) rfl (vb_eq_t hc57)
                                    replace hA := hA.rw 68 (v' := .bool true) rfl (vb_eq_t hc57)
                                    refine st_run tbOk 5 hA (e' := (73, .bool false) :: (72, .bool false) :: (71, .nilIface) :: (70, .bool false) :: (69, .bool false) :: _) rfl ?_; clear hA; intro a hA
                                    refine wpList_nil ?_
                                    replace hA := hA.sel [3, 4, 7, 19, 20, 21, 73] (e' := [(3, .pointer (some ⟨b2, 0, none⟩)), (4, .slice A1 row.length c1), (7, .int .i64 x9.2), (19, .slice (some ⟨b7, o8, none⟩) l.length c), (20, .int .i64 ((l.length : Nat) : Int)), (21, .int .i64 ((j : Nat) : Int)), (73, .bool false)]) rfl
                                    refine xt_norm ?_
                                    refine cd_cond_f hA rfl ?_
                                    refine wp_skip ?_
                                    refine xt_norm ?_
                                    refine wp_region_lit ?_
                                    refine st_run tbOk 2 hA (e' := (75, .int .i64 x9.2) :: (74, .slice A1 row.length c1) :: _) rfl ?_; clear hA; intro a hA
                                    refine st_buildSlice tbOk hA hS [.int .i64 x9.2] rfl rfl rfl rfl rfl (by decide) (by kernel_rfl) rfl rfl (by decide) ?_; clear hA hS; intro b58 w59 a hS hA
                                    replace hS := hS.front 4 (C := R) (L' := [(b58, rowO [.int .i64 x9.2] 3)] :: L46 :: C15 :: [(b10, rowO [.int .u8 x9.1, .int .i8 x9.2] 30)] :: F) rfl rfl
                                    refine st_append tbOk hA (m := row.length) (q := 1) (xs := rows encI row) (news := rows encI ([x9.2] : List Int)) rfl rfl rfl rfl rfl rfl rfl rfl (by decide) hO hS ((Own.full (T := 3) (size := 1) (g := b58) (m := 1) rfl (by decide)).rd (hS.own_ 1 rfl)) (rows_one encI_ok _) (maxLen_le (by omega)) (by show (row.length + 1) * 8 ≤ 140737488355328; omega) rfl rfl (by decide) ?_
                                    clear hA hS; intro v60 w61 C62 a hO62 hS hA
                                    replace hO62 := Own.app (l := row) (l2 := ([x9.2] : List Int)) hO62
                                    obtain ⟨A63, c64, rfl, hmc64, hxc64⟩ := hO62.open'
                                    refine st_run tbOk 1 hA (e' := (4, .slice A63 ((row ++ ([x9.2] : List Int)).length) c64) :: _) rfl ?_; clear hA; intro a hA
                                    refine wpList_nil ?_
                                    replace hA := hA.sel [3, 4, 19, 20, 21] (e' := [(3, .pointer (some ⟨b2, 0, none⟩)), (4, .slice A63 ((row ++ ([x9.2] : List Int)).length) c64), (19, .slice (some ⟨b7, o8, none⟩) l.length c), (20, .int .i64 ((l.length : Nat) : Int)), (21, .int .i64 ((j : Nat) : Int))]) rfl
                                    refine xb_norm ?_
                                    refine xb_norm ?_
                                    refine xt_norm ?_
                                    replace hS := hS.front 1 (C := [(b58, rowO [.int .i64 x9.2] 3)]) (L' := C62 :: L46 :: C15 :: [(b10, rowO [.int .u8 x9.1, .int .i8 x9.2] 30)] :: F) rfl rfl
                                    replace hS := hS.drop1
                                    replace hS := hS.front 2 (C := C15) (L' := C62 :: L46 :: [(b10, rowO [.int .u8 x9.1, .int .i8 x9.2] 30)] :: F) rfl rfl
                                    replace hS := hS.drop1
                                    replace hS := hS.front 2 (C := [(b10, rowO [.int .u8 x9.1, .int .i8 x9.2] 30)]) (L' := C62 :: L46 :: F) rfl rfl
                                    replace hS := hS.drop1
                                    replace hS := hS.front 1 (C := L46) (L' := C62 :: F) rfl rfl
                                    exact ⟨(row ++ [x9.2]), A63, c64, C62, L46, (hA.sel [3, 4, 19, 20, 21] rfl), hS, hM, hO62, (nn_app hnn h1), (by simp; omega)⟩)
                               · first
                                 | (exfalso; omega)
                                 | (replace hA := hA.rw 9 (v' := .bool false) rfl (vb_eq_f hc57)
                                    replace hA := hA.rw 65 (v' := .bool false) rfl (vb_eq_f hc57)
                                    replace hA := hA.rw 68 (v' := .bool false) rfl (vb_eq_f hc57)
                                    refine st_run tbOk 5 hA (e' := (73, .bool false) :: (72, .bool false) :: (71, .nilIface) :: (70, .bool false) :: (69, .bool false) :: _) rfl ?_; clear hA; intro a hA
                                    refine wpList_nil ?_
                                    replace hA := hA.sel [3, 4, 7, 19, 20, 21, 73] (e' := [(3, .pointer (some ⟨b2, 0, none⟩)), (4, .slice A1 row.length c1), (7, .int .i64 x9.2), (19, .slice (some ⟨b7, o8, none⟩) l.length c), (20, .int .i64 ((l.length : Nat) : Int)), (21, .int .i64 ((j : Nat) : Int)), (73, .bool false)]) rfl
                                    refine xt_norm ?_
                                    refine cd_cond_f hA rfl ?_
                                    refine wp_skip ?_
                                    refine xt_norm ?_
                                    refine wp_region_lit ?_
                                    refine st_run tbOk 2 hA (e' := (75, .int .i64 x9.2) :: (74, .slice A1 row.length c1) :: _) rfl ?_; clear hA; intro a hA
                                    refine st_buildSlice tbOk hA hS [.int .i64 x9.2] rfl rfl rfl rfl rfl (by decide) (by kernel_rfl) rfl rfl (by decide) ?_; clear hA hS; intro b65 w66 a hS hA
                                    replace hS := hS.front 4 (C := R) (L' := [(b65, rowO [.int .i64 x9.2] 3)] :: L46 :: C15 :: [(b10, rowO [.int .u8 x9.1, .int .i8 x9.2] 30)] :: F) rfl rfl
                                    refine st_append tbOk hA (m := row.length) (q := 1) (xs := rows encI row) (news := rows encI ([x9.2] : List Int)) rfl rfl rfl rfl rfl rfl rfl rfl (by decide) hO hS ((Own.full (T := 3) (size := 1) (g := b65) (m := 1) rfl (by decide)).rd (hS.own_ 1 rfl)) (rows_one encI_ok _) (maxLen_le (by omega)) (by show (row.length + 1) * 8 ≤ 140737488355328; omega) rfl rfl (by decide) ?_
                                    clear hA hS; intro v67 w68 C69 a hO69 hS hA
                                    replace hO69 := Own.app (l := row) (l2 := ([x9.2] : List Int)) hO69
                                    obtain ⟨A70, c71, rfl, hmc71, hxc71⟩ := hO69.open'
                                    refine st_run tbOk 1 hA (e' := (4, .slice A70 ((row ++ ([x9.2] : List Int)).length) c71) :: _) rfl ?_; clear hA; intro a hA
                                    refine wpList_nil ?_
                                    replace hA := hA.sel [3, 4, 19, 20, 21] (e' := [(3, .pointer (some ⟨b2, 0, none⟩)), (4, .slice A70 ((row ++ ([x9.2] : List Int)).length) c71), (19, .slice (some ⟨b7, o8, none⟩) l.length c), (20, .int .i64 ((l.length : Nat) : Int)), (21, .int .i64 ((j : Nat) : Int))]) rfl
                                    refine xb_norm ?_
                                    refine xb_norm ?_
                                    refine xt_norm ?_
                                    replace hS := hS.front 1 (C := [(b65, rowO [.int .i64 x9.2] 3)]) (L' := C69 :: L46 :: C15 :: [(b10, rowO [.int .u8 x9.1, .int .i8 x9.2] 30)] :: F) rfl rfl
                                    replace hS := hS.drop1
                                    replace hS := hS.front 2 (C := C15) (L' := C69 :: L46 :: [(b10, rowO [.int .u8 x9.1, .int .i8 x9.2] 30)] :: F) rfl rfl
                                    replace hS := hS.drop1
                                    replace hS := hS.front 2 (C := [(b10, rowO [.int .u8 x9.1, .int .i8 x9.2] 30)]) (L' := C69 :: L46 :: F) rfl rfl
                                    replace hS := hS.drop1
                                    replace hS := hS.front 1 (C := L46) (L' := C69 :: F) rfl rfl
                                    exact ⟨(row ++ [x9.2]), A70, c71, C69, L46, (hA.sel [3, 4, 19, 20, 21] rfl), hS, hM, hO69, (nn_app hnn h1), (by simp; omega)⟩)))))
         · first
           | (exfalso; omega)
           | (replace hA := hA.rw 57 (v' := .bool false) rfl (vb_eq_f hc18)
              refine cd_cond_f hA rfl ?_
              refine wp_seq ?_
              refine wp_region_lit ?_
              refine st_run tbOk 2 hA (e' := (105, .bool ((x9.1.tmod 3) == 1)) :: (106, .bool ((x9.1.tmod 3) == 1)) :: _) rfl ?_; clear hA; intro a hA
              refine wpList_nil ?_
              replace hA := hA.sel [3, 4, 7, 19, 20, 21, 105] (e' := [(3, .pointer (some ⟨b2, 0, none⟩)), (4, .slice A1 row.length c1), (7, .int .i64 x9.2), (19, .slice (some ⟨b7, o8, none⟩) l.length c), (20, .int .i64 ((l.length : Nat) : Int)), (21, .int .i64 ((j : Nat) : Int)), (105, .bool ((x9.1.tmod 3) == 1))]) rfl
              refine xt_norm ?_
              by_cases hc72 : x9.1.tmod 3 = 1
              · first
                | (exfalso; omega)
                | (replace hA := hA.rw 105 (v' := .bool true) rfl (vb_eq_t hc72)
                   refine cd_cond_t hA rfl ?_
                   refine wp_seq ?_
                   refine wp_region_lit ?_
                   refine st_run tbOk 2 hA (e' := (109, .int .i64 x9.2) :: (108, .pointer (some ⟨b2, 0, none⟩)) :: _) rfl ?_; clear hA; intro a hA
                   rcases unlockcases row x9.2 hnn with ⟨h1, h2⟩ | ⟨h1, r, hr0⟩
                   · replace hS := hS.front 2 (C := L) (L' := C15 :: [(b10, rowO [.int .u8 x9.1, .int .i8 x9.2] 30)] :: R :: F) rfl rfl
                     refine st_call0 hA rfl rfl rfl isfn9 rfl rfl (by decide) (unlockR_not hS hM x9.2 h1) ?_
                     clear hA hS hM; rintro v w74 a ⟨L73, hM, rfl, hS⟩ hA
                     refine st_run tbOk 5 hA (e' := (12, .iface 36 (.int .i64 15)) :: (11, .int .i64 (-1)) :: (112, .iface 36 (.int .i64 15)) :: (111, .int .i64 (-1)) :: (107, .tuple #[.int .i64 (-1), .iface 36 (.int .i64 15)]) :: _) rfl ?_; clear hA; intro a hA
                     refine wpList_nil ?_
                     replace hA := hA.sel [3, 4, 7, 11, 12, 19, 20, 21] (e' := [(3, .pointer (some ⟨b2, 0, none⟩)), (4, .slice A1 row.length c1), (7, .int .i64 x9.2), (11, .int .i64 (-1)), (12, .iface 36 (.int .i64 15)), (19, .slice (some ⟨b7, o8, none⟩) l.length c), (20, .int .i64 ((l.length : Nat) : Int)), (21, .int .i64 ((j : Nat) : Int))]) rfl
                     refine xt_norm ?_
                     refine wp_seq ?_
                     refine wp_seq ?_
                     refine wp_region_lit ?_
                     refine st_run tbOk 3 hA (e' := (115, .bool (decide (x9.2 < 0))) :: (114, .bool (decide (x9.2 < 0))) :: (113, .int .i64 x9.2) :: _) rfl ?_; clear hA; intro a hA
                     by_cases hc75 : x9.2 < 0
                     · first
                       | (exfalso; omega)
                       | (replace hA := hA.rw 114 (v' := .bool true) rfl (vb_true hc75)
                          replace hA := hA.rw 115 (v' := .bool true) rfl (vb_true hc75)
                          refine st_run tbOk 5 hA (e' := (120, .bool true) :: (119, undef) :: (118, undef) :: (117, undef) :: (116, undef) :: _) rfl ?_; clear hA; intro a hA
                          refine wpList_nil ?_
                          replace hA := hA.sel [3, 4, 11, 12, 19, 20, 21, 120] (e' := [(3, .pointer (some ⟨b2, 0, none⟩)), (4, .slice A1 row.length c1), (11, .int .i64 (-1)), (12, .iface 36 (.int .i64 15)), (19, .slice (some ⟨b7, o8, none⟩) l.length c), (20, .int .i64 ((l.length : Nat) : Int)), (21, .int .i64 ((j : Nat) : Int)), (120, .bool true)]) rfl
                          refine xt_norm ?_
                          refine cd_cond_t hA rfl ?_
                          refine wp_seq ?_
                          refine wp_seq ?_
                          refine wp_region_lit ?_
                          refine st_run tbOk 4 hA (e' := (124, .iface 36 (.int .i64 15)) :: (123, .bool false) :: (122, .bool false) :: (121, .int .i64 (-1)) :: _) rfl ?_; clear hA; intro a hA
                          refine st_call0 hA rfl rfl rfl isfn8 rfl rfl (by decide) (number_hit8 hS hg 15) ?_
                          clear hA hS; rintro v w76 a ⟨rfl, hS⟩ hA
                          refine st_run tbOk 2 hA (e' := (127, .bool false) :: (126, .bool false) :: _) rfl ?_; clear hA; intro a hA
                          refine wpList_nil ?_
                          replace hA := hA.sel [3, 4, 19, 20, 21, 127] (e' := [(3, .pointer (some ⟨b2, 0, none⟩)), (4, .slice A1 row.length c1), (19, .slice (some ⟨b7, o8, none⟩) l.length c), (20, .int .i64 ((l.length : Nat) : Int)), (21, .int .i64 ((j : Nat) : Int)), (127, .bool false)]) rfl
                          refine xt_norm ?_
                          refine cd_cond_f hA rfl ?_
                          refine wp_skip ?_
                          refine xt_norm ?_
                          refine wp_exit ?_
                          refine xt_exit ?_
                          refine cd_exit_ne (by decide) ?_
                          refine xt_exit ?_
                          refine cd_exit_eq ?_
                          refine xt_norm ?_
                          refine wp_region_lit ?_
                          refine st_run tbOk 1 hA (e' := (167, .int .i64 (IntKind.i64.wrap (((j : Nat) : Int) + 1))) :: _) rfl ?_; clear hA; intro a hA
                          replace hA := hA.rw 167 (v' := .int .i64 ((j + 1 : Nat) : Int)) rfl (wr64 (by omega) (by omega) (by omega))
                          refine st_run tbOk 1 hA (e' := (21, .int .i64 ((j + 1 : Nat) : Int)) :: _) rfl ?_; clear hA; intro a hA
                          refine wpList_nil ?_
                          replace hA := hA.sel [3, 4, 19, 20, 21] (e' := [(3, .pointer (some ⟨b2, 0, none⟩)), (4, .slice A1 row.length c1), (19, .slice (some ⟨b7, o8, none⟩) l.length c), (20, .int .i64 ((l.length : Nat) : Int)), (21, .int .i64 ((j + 1 : Nat) : Int))]) rfl
                          replace hS := hS.front 1 (C := C15) (L' := L73 :: [(b10, rowO [.int .u8 x9.1, .int .i8 x9.2] 30)] :: R :: F) rfl rfl
                          replace hS := hS.drop1
                          replace hS := hS.front 1 (C := [(b10, rowO [.int .u8 x9.1, .int .i8 x9.2] 30)]) (L' := L73 :: R :: F) rfl rfl
                          replace hS := hS.drop1
                          exact lp_next _ (by omega) ⟨(j + 1), row, A1, c1, R, L73, rfl, (hA.sel [3, 4, 19, 20, 21] rfl), hS, hM, by omega, hO, hnn, hlen⟩)
                     · first
                       | (exfalso; omega)
                       | (replace hA := hA.rw 114 (v' := .bool false) rfl (vb_false hc75)
                          replace hA := hA.rw 115 (v' := .bool false) rfl (vb_false hc75)
                          refine st_run tbOk 1 hA (e' := (116, .slice A1 row.length c1) :: _) rfl ?_; clear hA; intro a hA
                          refine st_call0 hA rfl rfl rfl isfn10 rfl rfl (by decide) (first10 hS (l := row) (RdS.own hO 3 rfl)) ?_
                          clear hA hS; rintro v w77 a ⟨rfl, hS⟩ hA
                          refine st_run tbOk 3 hA (e' := (120, .bool ((first row) != x9.2)) :: (119, .bool ((first row) != x9.2)) :: (118, .int .i64 x9.2) :: _) rfl ?_; clear hA; intro a hA
                          refine wpList_nil ?_
                          replace hA := hA.sel [3, 4, 11, 12, 19, 20, 21, 120] (e' := [(3, .pointer (some ⟨b2, 0, none⟩)), (4, .slice A1 row.length c1), (11, .int .i64 (-1)), (12, .iface 36 (.int .i64 15)), (19, .slice (some ⟨b7, o8, none⟩) l.length c), (20, .int .i64 ((l.length : Nat) : Int)), (21, .int .i64 ((j : Nat) : Int)), (120, .bool ((first row) != x9.2))]) rfl
                          refine xt_norm ?_
                          by_cases hc78 : first row = x9.2
                          · first
                            | (exfalso; omega)
                            | (replace hA := hA.rw 120 (v' := .bool false) rfl (vb_ne_f hc78)
                               refine cd_cond_f hA rfl ?_
                               refine wp_skip ?_
                               refine xt_norm ?_
                               refine wp_seq ?_
                               refine wp_region_lit ?_
                               refine st_run tbOk 1 hA (e' := (128, .slice A1 row.length c1) :: _) rfl ?_; clear hA; intro a hA
                               refine st_val hA rfl rfl (by decide) (rn_slice_l tbOk hA 1 rfl rfl rfl rfl rfl rfl (by rfl) (by omega)) ?_; clear hA; intro a hA
                               generalize hsv : slv A1 1 row.length c1 1 = v79 at hA
                               have hOs80 := hO.rslv encI_ok 1 row.length c1 (by omega) (by omega) (by omega) (by omega)
                               rw [hsv] at hOs80; clear hsv
                               have hsl : (row.take row.length).drop 1 = r := by rw [List.take_length, hr0]; rfl
                               rw [hsl] at hOs80; clear hsl
                               obtain ⟨A81, c82, rfl, hmc82, hxc82⟩ := hOs80.open'
                               refine st_run tbOk 1 hA (e' := (4, .slice A81 r.length c82) :: _) rfl ?_; clear hA; intro a hA
                               refine wpList_nil ?_
                               replace hA := hA.sel [3, 4, 11, 12, 19, 20, 21] (e' := [(3, .pointer (some ⟨b2, 0, none⟩)), (4, .slice A81 r.length c82), (11, .int .i64 (-1)), (12, .iface 36 (.int .i64 15)), (19, .slice (some ⟨b7, o8, none⟩) l.length c), (20, .int .i64 ((l.length : Nat) : Int)), (21, .int .i64 ((j : Nat) : Int))]) rfl
                               refine xt_norm ?_
                               refine wp_seq ?_
                               refine wp_region_lit ?_
                               refine st_run tbOk 2 hA (e' := (131, .slice A81 r.length c82) :: (130, .int .i64 (-1)) :: _) rfl ?_; clear hA; intro a hA
                               refine st_call0 hA rfl rfl rfl isfn10 rfl rfl (by decide) (first10 hS (l := r) (RdS.own hOs80 3 rfl)) ?_
                               clear hA hS; rintro v w83 a ⟨rfl, hS⟩ hA
                               refine st_run tbOk 2 hA (e' := (134, .bool ((-1) != (first r))) :: (133, .bool ((-1) != (first r))) :: _) rfl ?_; clear hA; intro a hA
                               by_cases hc84 : (-1) = first r
                               · first
                                 | (exfalso; omega)
                                 | (replace hA := hA.rw 133 (v' := .bool false) rfl (vb_ne_f hc84)
                                    replace hA := hA.rw 134 (v' := .bool false) rfl (vb_ne_f hc84)
                                    refine st_run tbOk 3 hA (e' := (137, .bool true) :: (136, .bool true) :: (135, .iface 36 (.int .i64 15)) :: _) rfl ?_; clear hA; intro a hA
                                    refine wpList_nil ?_
                                    replace hA := hA.sel [3, 4, 19, 20, 21, 137] (e' := [(3, .pointer (some ⟨b2, 0, none⟩)), (4, .slice A81 r.length c82), (19, .slice (some ⟨b7, o8, none⟩) l.length c), (20, .int .i64 ((l.length : Nat) : Int)), (21, .int .i64 ((j : Nat) : Int)), (137, .bool true)]) rfl
                                    refine xt_norm ?_
                                    refine cd_cond_t hA rfl ?_
                                    refine wp_seq ?_
                                    refine wp_region_lit ?_
                                    refine st_run tbOk 1 hA (e' := (2, .bool false) :: _) rfl ?_; clear hA; intro a hA
                                    refine wpList_nil ?_
                                    replace hA := hA.sel [2] (e' := [(2, .bool false)]) rfl
                                    refine xt_norm ?_
                                    refine wp_ret (xb_ret (xt_ret (xb_ret (xt_ret (xt_ret (xb_ret (xt_ret ?_)))))))
                                    refine ret1 (fn := Tryd.f3) hA rfl rfl ?_
                                    exfalso; omega)
                               · first
                                 | (exfalso; omega)
                                 | (replace hA := hA.rw 133 (v' := .bool true) rfl (vb_ne_t hc84)
                                    replace hA := hA.rw 134 (v' := .bool true) rfl (vb_ne_t hc84)
                                    refine st_run tbOk 3 hA (e' := (137, .bool true) :: (136, undef) :: (135, undef) :: _) rfl ?_; clear hA; intro a hA
                                    refine wpList_nil ?_
                                    replace hA := hA.sel [3, 4, 19, 20, 21, 137] (e' := [(3, .pointer (some ⟨b2, 0, none⟩)), (4, .slice A81 r.length c82), (19, .slice (some ⟨b7, o8, none⟩) l.length c), (20, .int .i64 ((l.length : Nat) : Int)), (21, .int .i64 ((j : Nat) : Int)), (137, .bool true)]) rfl
                                    refine xt_norm ?_
                                    refine cd_cond_t hA rfl ?_
                                    refine wp_seq ?_
                                    refine wp_region_lit ?_
                                    refine st_run tbOk 1 hA (e' := (2, .bool false) :: _) rfl ?_; clear hA; intro a hA
                                    refine wpList_nil ?_
                                    replace hA := hA.sel [2] (e' := [(2, .bool false)]) rfl
                                    refine xt_norm ?_
                                    refine wp_ret (xb_ret (xt_ret (xb_ret (xt_ret (xt_ret (xb_ret (xt_ret ?_)))))))
                                    refine ret1 (fn := Tryd.f3) hA rfl rfl ?_
                                    exfalso; omega))
                          · first
                            | (exfalso; omega)
                            | (replace hA := hA.rw 120 (v' := .bool true) rfl (vb_ne_t hc78)
                               refine cd_cond_t hA rfl ?_
                               refine wp_seq ?_
                               refine wp_seq ?_
                               refine wp_region_lit ?_
                               refine st_run tbOk 4 hA (e' := (124, .iface 36 (.int .i64 15)) :: (123, .bool false) :: (122, .bool false) :: (121, .int .i64 (-1)) :: _) rfl ?_; clear hA; intro a hA
                               refine st_call0 hA rfl rfl rfl isfn8 rfl rfl (by decide) (number_hit8 hS hg 15) ?_
                               clear hA hS; rintro v w85 a ⟨rfl, hS⟩ hA
                               refine st_run tbOk 2 hA (e' := (127, .bool false) :: (126, .bool false) :: _) rfl ?_; clear hA; intro a hA
                               refine wpList_nil ?_
                               replace hA := hA.sel [3, 4, 19, 20, 21, 127] (e' := [(3, .pointer (some ⟨b2, 0, none⟩)), (4, .slice A1 row.length c1), (19, .slice (some ⟨b7, o8, none⟩) l.length c), (20, .int .i64 ((l.length : Nat) : Int)), (21, .int .i64 ((j : Nat) : Int)), (127, .bool false)]) rfl
                               refine xt_norm ?_
                               refine cd_cond_f hA rfl ?_
                               refine wp_skip ?_
                               refine xt_norm ?_
                               refine wp_exit ?_
                               refine xt_exit ?_
                               refine cd_exit_ne (by decide) ?_
                               refine xt_exit ?_
                               refine cd_exit_eq ?_
                               refine xt_norm ?_
                               refine wp_region_lit ?_
                               refine st_run tbOk 1 hA (e' := (167, .int .i64 (IntKind.i64.wrap (((j : Nat) : Int) + 1))) :: _) rfl ?_; clear hA; intro a hA
                               replace hA := hA.rw 167 (v' := .int .i64 ((j + 1 : Nat) : Int)) rfl (wr64 (by omega) (by omega) (by omega))
                               refine st_run tbOk 1 hA (e' := (21, .int .i64 ((j + 1 : Nat) : Int)) :: _) rfl ?_; clear hA; intro a hA
                               refine wpList_nil ?_
                               replace hA := hA.sel [3, 4, 19, 20, 21] (e' := [(3, .pointer (some ⟨b2, 0, none⟩)), (4, .slice A1 row.length c1), (19, .slice (some ⟨b7, o8, none⟩) l.length c), (20, .int .i64 ((l.length : Nat) : Int)), (21, .int .i64 ((j + 1 : Nat) : Int))]) rfl
                               replace hS := hS.front 1 (C := C15) (L' := L73 :: [(b10, rowO [.int .u8 x9.1, .int .i8 x9.2] 30)] :: R :: F) rfl rfl
                               replace hS := hS.drop1
                               replace hS := hS.front 1 (C := [(b10, rowO [.int .u8 x9.1, .int .i8 x9.2] 30)]) (L' := L73 :: R :: F) rfl rfl
                               replace hS := hS.drop1
                               exact lp_next _ (by omega) ⟨(j + 1), row, A1, c1, R, L73, rfl, (hA.sel [3, 4, 19, 20, 21] rfl), hS, hM, by omega, hO, hnn, hlen⟩))
                   · have hf1 : first row = x9.2 := by rw [hr0]; rfl
                     have hl1 : row.length = r.length + 1 := by rw [hr0]; rfl
                     have hrw : row = x9.2 :: r := hr0
                     rw [hrw] at hM
                     clear hrw
                     replace hS := hS.front 2 (C := L) (L' := C15 :: [(b10, rowO [.int .u8 x9.1, .int .i8 x9.2] 30)] :: R :: F) rfl rfl
                     refine st_call0 hA rfl rfl rfl isfn9 rfl rfl (by decide) (unlockR_ok hS hM h1) ?_
                     clear hA hS hM; rintro v w87 a ⟨L86, hM, rfl, hS⟩ hA
                     refine st_run tbOk 5 hA (e' := (12, .nilIface) :: (11, .int .i64 (first r)) :: (112, .nilIface) :: (111, .int .i64 (first r)) :: (107, .tuple #[.int .i64 (first r), .nilIface]) :: _) rfl ?_; clear hA; intro a hA
                     refine wpList_nil ?_
                     replace hA := hA.sel [3, 4, 7, 11, 12, 19, 20, 21] (e' := [(3, .pointer (some ⟨b2, 0, none⟩)), (4, .slice A1 row.length c1), (7, .int .i64 x9.2), (11, .int .i64 (first r)), (12, .nilIface), (19, .slice (some ⟨b7, o8, none⟩) l.length c), (20, .int .i64 ((l.length : Nat) : Int)), (21, .int .i64 ((j : Nat) : Int))]) rfl
                     refine xt_norm ?_
                     refine wp_seq ?_
                     refine wp_seq ?_
                     refine wp_region_lit ?_
                     refine st_run tbOk 3 hA (e' := (115, .bool (decide (x9.2 < 0))) :: (114, .bool (decide (x9.2 < 0))) :: (113, .int .i64 x9.2) :: _) rfl ?_; clear hA; intro a hA
                     by_cases hc88 : x9.2 < 0
                     · first
                       | (exfalso; omega)
                       | (replace hA := hA.rw 114 (v' := .bool true) rfl (vb_true hc88)
                          replace hA := hA.rw 115 (v' := .bool true) rfl (vb_true hc88)
                          refine st_run tbOk 5 hA (e' := (120, .bool true) :: (119, undef) :: (118, undef) :: (117, undef) :: (116, undef) :: _) rfl ?_; clear hA; intro a hA
                          refine wpList_nil ?_
                          replace hA := hA.sel [3, 4, 11, 12, 19, 20, 21, 120] (e' := [(3, .pointer (some ⟨b2, 0, none⟩)), (4, .slice A1 row.length c1), (11, .int .i64 (first r)), (12, .nilIface), (19, .slice (some ⟨b7, o8, none⟩) l.length c), (20, .int .i64 ((l.length : Nat) : Int)), (21, .int .i64 ((j : Nat) : Int)), (120, .bool true)]) rfl
                          refine xt_norm ?_
                          refine cd_cond_t hA rfl ?_
                          refine wp_seq ?_
                          refine wp_seq ?_
                          refine wp_region_lit ?_
                          refine st_run tbOk 3 hA (e' := (123, .bool ((first r) != (-1))) :: (122, .bool ((first r) != (-1))) :: (121, .int .i64 (first r)) :: _) rfl ?_; clear hA; intro a hA
                          by_cases hc89 : first r = (-1)
                          · first
                            | (exfalso; omega)
                            | (replace hA := hA.rw 122 (v' := .bool false) rfl (vb_ne_f hc89)
                               replace hA := hA.rw 123 (v' := .bool false) rfl (vb_ne_f hc89)
                               refine st_run tbOk 1 hA (e' := (124, .nilIface) :: _) rfl ?_; clear hA; intro a hA
                               refine st_call0 hA rfl rfl rfl isfn8 rfl rfl (by decide) (number_nil8 hS hg) ?_
                               clear hA hS; rintro v w90 a ⟨rfl, hS⟩ hA
                               refine st_run tbOk 2 hA (e' := (127, .bool true) :: (126, .bool true) :: _) rfl ?_; clear hA; intro a hA
                               refine wpList_nil ?_
                               replace hA := hA.sel [3, 4, 19, 20, 21, 127] (e' := [(3, .pointer (some ⟨b2, 0, none⟩)), (4, .slice A1 row.length c1), (19, .slice (some ⟨b7, o8, none⟩) l.length c), (20, .int .i64 ((l.length : Nat) : Int)), (21, .int .i64 ((j : Nat) : Int)), (127, .bool true)]) rfl
                               refine xt_norm ?_
                               refine cd_cond_t hA rfl ?_
                               refine wp_seq ?_
                               refine wp_region_lit ?_
                               refine st_run tbOk 1 hA (e' := (2, .bool false) :: _) rfl ?_; clear hA; intro a hA
                               refine wpList_nil ?_
                               replace hA := hA.sel [2] (e' := [(2, .bool false)]) rfl
                               refine xt_norm ?_
                               refine wp_ret (xt_ret (xt_ret (xb_ret (xt_ret (xb_ret (xt_ret (xt_ret (xb_ret (xt_ret ?_)))))))))
                               refine ret1 (fn := Tryd.f3) hA rfl rfl ?_
                               exfalso; omega)
                          · first
                            | (exfalso; omega)
                            | (replace hA := hA.rw 122 (v' := .bool true) rfl (vb_ne_t hc89)
                               replace hA := hA.rw 123 (v' := .bool true) rfl (vb_ne_t hc89)
                               refine st_run tbOk 4 hA (e' := (127, .bool true) :: (126, undef) :: (125, undef) :: (124, undef) :: _) rfl ?_; clear hA; intro a hA
                               refine wpList_nil ?_
                               replace hA := hA.sel [3, 4, 19, 20, 21, 127] (e' := [(3, .pointer (some ⟨b2, 0, none⟩)), (4, .slice A1 row.length c1), (19, .slice (some ⟨b7, o8, none⟩) l.length c), (20, .int .i64 ((l.length : Nat) : Int)), (21, .int .i64 ((j : Nat) : Int)), (127, .bool true)]) rfl
                               refine xt_norm ?_
                               refine cd_cond_t hA rfl ?_
                               refine wp_seq ?_
                               refine wp_region_lit ?_
                               refine st_run tbOk 1 hA (e' := (2, .bool false) :: _) rfl ?_; clear hA; intro a hA
                               refine wpList_nil ?_
                               replace hA := hA.sel [2] (e' := [(2, .bool false)]) rfl
                               refine xt_norm ?_
                               refine wp_ret (xt_ret (xt_ret (xb_ret (xt_ret (xb_ret (xt_ret (xt_ret (xb_ret (xt_ret ?_)))))))))
                               refine ret1 (fn := Tryd.f3) hA rfl rfl ?_
                               exfalso; omega))
                     · first
                       | (exfalso; omega)
                       | (replace hA := hA.rw 114 (v' := .bool false) rfl (vb_false hc88)
                          replace hA := hA.rw 115 (v' := .bool false) rfl (vb_false hc88)
                          refine st_run tbOk 1 hA (e' := (116, .slice A1 row.length c1) :: _) rfl ?_; clear hA; intro a hA
                          refine st_call0 hA rfl rfl rfl isfn10 rfl rfl (by decide) (first10 hS (l := row) (RdS.own hO 3 rfl)) ?_
                          clear hA hS; rintro v w91 a ⟨rfl, hS⟩ hA
                          refine st_run tbOk 3 hA (e' := (120, .bool ((first row) != x9.2)) :: (119, .bool ((first row) != x9.2)) :: (118, .int .i64 x9.2) :: _) rfl ?_; clear hA; intro a hA
                          refine wpList_nil ?_
                          replace hA := hA.sel [3, 4, 11, 12, 19, 20, 21, 120] (e' := [(3, .pointer (some ⟨b2, 0, none⟩)), (4, .slice A1 row.length c1), (11, .int .i64 (first r)), (12, .nilIface), (19, .slice (some ⟨b7, o8, none⟩) l.length c), (20, .int .i64 ((l.length : Nat) : Int)), (21, .int .i64 ((j : Nat) : Int)), (120, .bool ((first row) != x9.2))]) rfl
                          refine xt_norm ?_
                          by_cases hc92 : first row = x9.2
                          · first
                            | (exfalso; omega)
                            | (replace hA := hA.rw 120 (v' := .bool false) rfl (vb_ne_f hc92)
                               refine cd_cond_f hA rfl ?_
                               refine wp_skip ?_
                               refine xt_norm ?_
                               refine wp_seq ?_
                               refine wp_region_lit ?_
                               refine st_run tbOk 1 hA (e' := (128, .slice A1 row.length c1) :: _) rfl ?_; clear hA; intro a hA
                               refine st_val hA rfl rfl (by decide) (rn_slice_l tbOk hA 1 rfl rfl rfl rfl rfl rfl (by rfl) (by omega)) ?_; clear hA; intro a hA
                               generalize hsv : slv A1 1 row.length c1 1 = v93 at hA
                               have hOs94 := hO.rslv encI_ok 1 row.length c1 (by omega) (by omega) (by omega) (by omega)
                               rw [hsv] at hOs94; clear hsv
                               have hsl : (row.take row.length).drop 1 = r := by rw [List.take_length, hr0]; rfl
                               rw [hsl] at hOs94; clear hsl
                               obtain ⟨A95, c96, rfl, hmc96, hxc96⟩ := hOs94.open'
                               refine st_run tbOk 1 hA (e' := (4, .slice A95 r.length c96) :: _) rfl ?_; clear hA; intro a hA
                               refine wpList_nil ?_
                               replace hA := hA.sel [3, 4, 11, 12, 19, 20, 21] (e' := [(3, .pointer (some ⟨b2, 0, none⟩)), (4, .slice A95 r.length c96), (11, .int .i64 (first r)), (12, .nilIface), (19, .slice (some ⟨b7, o8, none⟩) l.length c), (20, .int .i64 ((l.length : Nat) : Int)), (21, .int .i64 ((j : Nat) : Int))]) rfl
                               refine xt_norm ?_
                               refine wp_seq ?_
                               refine wp_region_lit ?_
                               refine st_run tbOk 2 hA (e' := (131, .slice A95 r.length c96) :: (130, .int .i64 (first r)) :: _) rfl ?_; clear hA; intro a hA
                               refine st_call0 hA rfl rfl rfl isfn10 rfl rfl (by decide) (first10 hS (l := r) (RdS.own hOs94 3 rfl)) ?_
                               clear hA hS; rintro v w97 a ⟨rfl, hS⟩ hA
                               refine st_run tbOk 2 hA (e' := (134, .bool ((first r) != (first r))) :: (133, .bool ((first r) != (first r))) :: _) rfl ?_; clear hA; intro a hA
                               by_cases hc98 : first r = first r
                               · first
                                 | (exfalso; omega)
                                 | (replace hA := hA.rw 133 (v' := .bool false) rfl (vb_ne_f hc98)
                                    replace hA := hA.rw 134 (v' := .bool false) rfl (vb_ne_f hc98)
                                    refine st_run tbOk 3 hA (e' := (137, .bool false) :: (136, .bool false) :: (135, .nilIface) :: _) rfl ?_; clear hA; intro a hA
                                    refine wpList_nil ?_
                                    replace hA := hA.sel [3, 4, 19, 20, 21, 137] (e' := [(3, .pointer (some ⟨b2, 0, none⟩)), (4, .slice A95 r.length c96), (19, .slice (some ⟨b7, o8, none⟩) l.length c), (20, .int .i64 ((l.length : Nat) : Int)), (21, .int .i64 ((j : Nat) : Int)), (137, .bool false)]) rfl
                                    refine xt_norm ?_
                                    refine cd_cond_f hA rfl ?_
                                    refine wp_skip ?_
                                    refine xb_norm ?_
                                    refine xt_norm ?_
                                    replace hS := hS.front 1 (C := C15) (L' := L86 :: [(b10, rowO [.int .u8 x9.1, .int .i8 x9.2] 30)] :: R :: F) rfl rfl
                                    replace hS := hS.drop1
                                    replace hS := hS.front 1 (C := [(b10, rowO [.int .u8 x9.1, .int .i8 x9.2] 30)]) (L' := L86 :: R :: F) rfl rfl
                                    replace hS := hS.drop1
                                    exact ⟨r, A95, c96, R, L86, (hA.sel [3, 4, 19, 20, 21] rfl), hS, hM, hOs94, (nn_tail hnn hr0), (by omega)⟩)
                               · first
                                 | (exfalso; omega)
                                 | (replace hA := hA.rw 133 (v' := .bool true) rfl (vb_ne_t hc98)
                                    replace hA := hA.rw 134 (v' := .bool true) rfl (vb_ne_t hc98)
                                    refine st_run tbOk 3 hA (e' := (137, .bool true) :: (136, undef) :: (135, undef) :: _) rfl ?_; clear hA; intro a hA
                                    refine wpList_nil ?_
                                    replace hA := hA.sel [3, 4, 19, 20, 21, 137] (e' := [(3, .pointer (some ⟨b2, 0, none⟩)), (4, .slice A95 r.length c96), (19, .slice (some ⟨b7, o8, none⟩) l.length c), (20, .int .i64 ((l.length : Nat) : Int)), (21, .int .i64 ((j : Nat) : Int)), (137, .bool true)]) rfl
                                    refine xt_norm ?_
                                    refine cd_cond_t hA rfl ?_
                                    refine wp_seq ?_
                                    refine wp_region_lit ?_
                                    refine st_run tbOk 1 hA (e' := (2, .bool false) :: _) rfl ?_; clear hA; intro a hA
                                    refine wpList_nil ?_
                                    replace hA := hA.sel [2] (e' := [(2, .bool false)]) rfl
                                    refine xt_norm ?_
                                    refine wp_ret (xb_ret (xt_ret (xb_ret (xt_ret (xt_ret (xb_ret (xt_ret ?_)))))))
                                    refine ret1 (fn := Tryd.f3) hA rfl rfl ?_
                                    exfalso; omega))
                          · first
                            | (exfalso; omega)
                            | (replace hA := hA.rw 120 (v' := .bool true) rfl (vb_ne_t hc92)
                               refine cd_cond_t hA rfl ?_
                               refine wp_seq ?_
                               refine wp_seq ?_
                               refine wp_region_lit ?_
                               refine st_run tbOk 3 hA (e' := (123, .bool ((first r) != (-1))) :: (122, .bool ((first r) != (-1))) :: (121, .int .i64 (first r)) :: _) rfl ?_; clear hA; intro a hA
                               by_cases hc99 : first r = (-1)
                               · first
                                 | (exfalso; omega)
                                 | (replace hA := hA.rw 122 (v' := .bool false) rfl (vb_ne_f hc99)
                                    replace hA := hA.rw 123 (v' := .bool false) rfl (vb_ne_f hc99)
                                    refine st_run tbOk 1 hA (e' := (124, .nilIface) :: _) rfl ?_; clear hA; intro a hA
                                    refine st_call0 hA rfl rfl rfl isfn8 rfl rfl (by decide) (number_nil8 hS hg) ?_
                                    clear hA hS; rintro v w100 a ⟨rfl, hS⟩ hA
                                    refine st_run tbOk 2 hA (e' := (127, .bool true) :: (126, .bool true) :: _) rfl ?_; clear hA; intro a hA
                                    refine wpList_nil ?_
                                    replace hA := hA.sel [3, 4, 19, 20, 21, 127] (e' := [(3, .pointer (some ⟨b2, 0, none⟩)), (4, .slice A1 row.length c1), (19, .slice (some ⟨b7, o8, none⟩) l.length c), (20, .int .i64 ((l.length : Nat) : Int)), (21, .int .i64 ((j : Nat) : Int)), (127, .bool true)]) rfl
                                    refine xt_norm ?_
                                    refine cd_cond_t hA rfl ?_
                                    refine wp_seq ?_
                                    refine wp_region_lit ?_
                                    refine st_run tbOk 1 hA (e' := (2, .bool false) :: _) rfl ?_; clear hA; intro a hA
                                    refine wpList_nil ?_
                                    replace hA := hA.sel [2] (e' := [(2, .bool false)]) rfl
                                    refine xt_norm ?_
                                    refine wp_ret (xt_ret (xt_ret (xb_ret (xt_ret (xb_ret (xt_ret (xt_ret (xb_ret (xt_ret ?_)))))))))
                                    refine ret1 (fn := Tryd.f3) hA rfl rfl ?_
                                    exfalso; omega)
                               · first
                                 | (exfalso; omega)
                                 | (replace hA := hA.rw 122 (v' := .bool true) rfl (vb_ne_t hc99)
                                    replace hA := hA.rw 123 (v' := .bool true) rfl (vb_ne_t hc99)
                                    refine st_run tbOk 4 hA (e' := (127, .bool true) :: (126, undef) :: (125, undef) :: (124, undef) :: _) rfl ?_; clear hA; intro a hA
                                    refine wpList_nil ?_
                                    replace hA := hA.sel [3, 4, 19, 20, 21, 127] (e' := [(3, .pointer (some ⟨b2, 0, none⟩)), (4, .slice A1 row.length c1), (19, .slice (some ⟨b7, o8, none⟩) l.length c), (20, .int .i64 ((l.length : Nat) : Int)), (21, .int .i64 ((j : Nat) : Int)), (127, .bool true)]) rfl
                                    refine xt_norm ?_
                                    refine cd_cond_t hA rfl ?_
                                    refine wp_seq ?_
                                    refine wp_region_lit ?_
                                    refine st_run tbOk 1 hA (e' := (2, .bool false) :: _) rfl ?_; clear hA; intro a hA
                                    refine wpList_nil ?_
                                    replace hA := hA.sel [2] (e' := [(2, .bool false)]) rfl
                                    refine xt_norm ?_
                                    refine wp_ret (xt_ret (xt_ret (xb_ret (xt_ret (xb_ret (xt_ret (xt_ret (xb_ret (xt_ret ?_)))))))))
                                    refine ret1 (fn := Tryd.f3) hA rfl rfl ?_
                                    exfalso; omega))))
              · first
                | (exfalso; omega)
                | (replace hA := hA.rw 105 (v' := .bool false) rfl (vb_eq_f hc72)
                   refine cd_cond_f hA rfl ?_
                   refine wp_seq ?_
                   refine wp_region_lit ?_
                   refine st_run tbOk 3 hA (e' := (40, .bool (decide (x9.2 ≥ 0))) :: (39, .bool (decide (x9.2 ≥ 0))) :: (38, .int .i64 x9.2) :: _) rfl ?_; clear hA; intro a hA
                   by_cases hc101 : x9.2 ≥ 0
                   · first
                     | (exfalso; omega)
                     | (replace hA := hA.rw 39 (v' := .bool true) rfl (vb_true hc101)
                        replace hA := hA.rw 40 (v' := .bool true) rfl (vb_true hc101)
                        refine st_run tbOk 1 hA (e' := (41, .slice A1 row.length c1) :: _) rfl ?_; clear hA; intro a hA
                        refine st_call0 hA rfl rfl rfl isfn10 rfl rfl (by decide) (first10 hS (l := row) (RdS.own hO 3 rfl)) ?_
                        clear hA hS; rintro v w102 a ⟨rfl, hS⟩ hA
                        refine st_run tbOk 4 hA (e' := (13, .bool ((first row) == x9.2)) :: (45, .bool ((first row) == x9.2)) :: (44, .bool ((first row) == x9.2)) :: (43, .int .i64 x9.2) :: _) rfl ?_; clear hA; intro a hA
                        refine wpList_nil ?_
                        replace hA := hA.sel [3, 4, 7, 13, 19, 20, 21] (e' := [(3, .pointer (some ⟨b2, 0, none⟩)), (4, .slice A1 row.length c1), (7, .int .i64 x9.2), (13, .bool ((first row) == x9.2)), (19, .slice (some ⟨b7, o8, none⟩) l.length c), (20, .int .i64 ((l.length : Nat) : Int)), (21, .int .i64 ((j : Nat) : Int))]) rfl
                        refine xt_norm ?_
                        refine wp_seq ?_
                        refine wp_region_lit ?_
                        refine st_run tbOk 2 hA (e' := (47, .int .i64 x9.2) :: (46, .slice A1 row.length c1) :: _) rfl ?_; clear hA; intro a hA
                        refine st_call0 hA rfl rfl rfl isfn6 rfl rfl (by decide) (without6 hS (l := row) (RdS.own hO 3 rfl) x9.2 (by omega)) ?_
                        clear hA hS; rintro v103 w104 a ⟨C105, hO105, hS⟩ hA
                        obtain ⟨A106, c107, rfl, hmc107, hxc107⟩ := hO105.open'
                        refine st_run tbOk 1 hA (e' := (4, .slice A106 ((row.filter (fun x => !(x == x9.2))).length) c107) :: _) rfl ?_; clear hA; intro a hA
                        refine wpList_nil ?_
                        replace hA := hA.sel [3, 4, 7, 13, 19, 20, 21] (e' := [(3, .pointer (some ⟨b2, 0, none⟩)), (4, .slice A106 ((row.filter (fun x => !(x == x9.2))).length) c107), (7, .int .i64 x9.2), (13, .bool ((first row) == x9.2)), (19, .slice (some ⟨b7, o8, none⟩) l.length c), (20, .int .i64 ((l.length : Nat) : Int)), (21, .int .i64 ((j : Nat) : Int))]) rfl
                        refine xt_norm ?_
                        refine wp_seq ?_
                        refine wp_region_lit ?_
                        refine st_run tbOk 1 hA (e' := (14, .int .i64 (-1)) :: _) rfl ?_; clear hA; intro a hA
                        refine wpList_nil ?_
                        refine xt_norm ?_
                        refine wp_seq ?_
                        refine wp_seq ?_
                        refine wp_region_lit ?_
                        refine st_run tbOk 1 hA (e' := (49, .bool ((first row) == x9.2)) :: _) rfl ?_; clear hA; intro a hA
                        refine wpList_nil ?_
                        replace hA := hA.sel [3, 4, 7, 14, 19, 20, 21, 49] (e' := [(3, .pointer (some ⟨b2, 0, none⟩)), (4, .slice A106 ((row.filter (fun x => !(x == x9.2))).length) c107), (7, .int .i64 x9.2), (14, .int .i64 (-1)), (19, .slice (some ⟨b7, o8, none⟩) l.length c), (20, .int .i64 ((l.length : Nat) : Int)), (21, .int .i64 ((j : Nat) : Int)), (49, .bool ((first row) == x9.2))]) rfl
                        refine xt_norm ?_
                        by_cases hc108 : first row = x9.2
                        · first
                          | (exfalso; omega)
                          | (replace hA := hA.rw 49 (v' := .bool true) rfl (vb_eq_t hc108)
                             refine cd_cond_t hA rfl ?_
                             refine wp_region_lit ?_
                             refine st_run tbOk 1 hA (e' := (50, .slice A106 ((row.filter (fun x => !(x == x9.2))).length) c107) :: _) rfl ?_; clear hA; intro a hA
                             refine st_call0 hA rfl rfl rfl isfn10 rfl rfl (by decide) (first10 hS (l := row.filter (fun x => !(x == x9.2))) (RdS.own hO105 0 rfl)) ?_
                             clear hA hS; rintro v w109 a ⟨rfl, hS⟩ hA
                             refine st_run tbOk 1 hA (e' := (14, .int .i64 (first (row.filter (fun x => !(x == x9.2))))) :: _) rfl ?_; clear hA; intro a hA
                             refine wpList_nil ?_
                             replace hA := hA.sel [3, 4, 7, 14, 19, 20, 21] (e' := [(3, .pointer (some ⟨b2, 0, none⟩)), (4, .slice A106 ((row.filter (fun x => !(x == x9.2))).length) c107), (7, .int .i64 x9.2), (14, .int .i64 (first (row.filter (fun x => !(x == x9.2))))), (19, .slice (some ⟨b7, o8, none⟩) l.length c), (20, .int .i64 ((l.length : Nat) : Int)), (21, .int .i64 ((j : Nat) : Int))]) rfl
                             refine xt_norm ?_
                             refine wp_seq ?_
                             refine wp_region_lit ?_
                             refine st_run tbOk 2 hA (e' := (53, .int .i64 x9.2) :: (52, .pointer (some ⟨b2, 0, none⟩)) :: _) rfl ?_; clear hA; intro a hA
                             replace hS := hS.front 3 (C := L) (L' := C105 :: C15 :: [(b10, rowO [.int .u8 x9.1, .int .i8 x9.2] 30)] :: R :: F) rfl rfl
                             refine st_call0 hA rfl rfl rfl isfn11 rfl rfl (by decide) (leaveR hS hM x9.2 hnn) ?_
                             clear hA hS hM; rintro v w111 a ⟨L110, hM, rfl, hS⟩ hA
                             replace hA := hA.rw 54 (v' := .int .i64 (first (row.filter (fun x => !(x == x9.2))))) rfl (by rw [leave_val hnn, if_pos (by omega)])
                             refine st_run tbOk 2 hA (e' := (56, .bool ((first (row.filter (fun x => !(x == x9.2)))) != (first (row.filter (fun x => !(x == x9.2)))))) :: (55, .int .i64 (first (row.filter (fun x => !(x == x9.2))))) :: _) rfl ?_; clear hA; intro a hA
                             refine wpList_nil ?_
                             replace hA := hA.sel [3, 4, 19, 20, 21, 56] (e' := [(3, .pointer (some ⟨b2, 0, none⟩)), (4, .slice A106 ((row.filter (fun x => !(x == x9.2))).length) c107), (19, .slice (some ⟨b7, o8, none⟩) l.length c), (20, .int .i64 ((l.length : Nat) : Int)), (21, .int .i64 ((j : Nat) : Int)), (56, .bool ((first (row.filter (fun x => !(x == x9.2)))) != (first (row.filter (fun x => !(x == x9.2))))))]) rfl
                             refine xt_norm ?_
                             by_cases hc112 : first (row.filter (fun x => !(x == x9.2))) = first (row.filter (fun x => !(x == x9.2)))
                             · first
                               | (exfalso; omega)
                               | (replace hA := hA.rw 56 (v' := .bool false) rfl (vb_ne_f hc112)
                                  refine cd_cond_f hA rfl ?_
                                  refine wp_skip ?_
                                  refine xb_norm ?_
                                  refine xt_norm ?_
                                  replace hS := hS.front 2 (C := C15) (L' := L110 :: C105 :: [(b10, rowO [.int .u8 x9.1, .int .i8 x9.2] 30)] :: R :: F) rfl rfl
                                  replace hS := hS.drop1
                                  replace hS := hS.front 2 (C := [(b10, rowO [.int .u8 x9.1, .int .i8 x9.2] 30)]) (L' := L110 :: C105 :: R :: F) rfl rfl
                                  replace hS := hS.drop1
                                  replace hS := hS.front 2 (C := R) (L' := L110 :: C105 :: F) rfl rfl
                                  replace hS := hS.drop1
                                  exact ⟨(row.filter (fun x => !(x == x9.2))), A106, c107, C105, L110, (hA.sel [3, 4, 19, 20, 21] rfl), hS, hM, hO105, (nn_filt hnn), Nat.le_trans (List.length_filter_le _ _) hlen⟩)
                             · first
                               | (exfalso; omega)
                               | (replace hA := hA.rw 56 (v' := .bool true) rfl (vb_ne_t hc112)
                                  refine cd_cond_t hA rfl ?_
                                  refine wp_seq ?_
                                  refine wp_region_lit ?_
                                  refine st_run tbOk 1 hA (e' := (2, .bool false) :: _) rfl ?_; clear hA; intro a hA
                                  refine wpList_nil ?_
                                  replace hA := hA.sel [2] (e' := [(2, .bool false)]) rfl
                                  refine xt_norm ?_
                                  refine wp_ret (xb_ret (xt_ret (xb_ret (xt_ret (xt_ret (xb_ret (xt_ret ?_)))))))
                                  refine ret1 (fn := Tryd.f3) hA rfl rfl ?_
                                  exfalso; omega))
                        · first
                          | (exfalso; omega)
                          | (replace hA := hA.rw 49 (v' := .bool false) rfl (vb_eq_f hc108)
                             refine cd_cond_f hA rfl ?_
                             refine wp_skip ?_
                             refine xt_norm ?_
                             refine wp_seq ?_
                             refine wp_region_lit ?_
                             refine st_run tbOk 2 hA (e' := (53, .int .i64 x9.2) :: (52, .pointer (some ⟨b2, 0, none⟩)) :: _) rfl ?_; clear hA; intro a hA
                             replace hS := hS.front 3 (C := L) (L' := C105 :: C15 :: [(b10, rowO [.int .u8 x9.1, .int .i8 x9.2] 30)] :: R :: F) rfl rfl
                             refine st_call0 hA rfl rfl rfl isfn11 rfl rfl (by decide) (leaveR hS hM x9.2 hnn) ?_
                             clear hA hS hM; rintro v w114 a ⟨L113, hM, rfl, hS⟩ hA
                             replace hA := hA.rw 54 (v' := .int .i64 (-1)) rfl (by rw [leave_val hnn, if_neg (by omega)])
                             refine st_run tbOk 2 hA (e' := (56, .bool false) :: (55, .int .i64 (-1)) :: _) rfl ?_; clear hA; intro a hA
                             refine wpList_nil ?_
                             replace hA := hA.sel [3, 4, 19, 20, 21, 56] (e' := [(3, .pointer (some ⟨b2, 0, none⟩)), (4, .slice A106 ((row.filter (fun x => !(x == x9.2))).length) c107), (19, .slice (some ⟨b7, o8, none⟩) l.length c), (20, .int .i64 ((l.length : Nat) : Int)), (21, .int .i64 ((j : Nat) : Int)), (56, .bool false)]) rfl
                             refine xt_norm ?_
                             refine cd_cond_f hA rfl ?_
                             refine wp_skip ?_
                             refine xb_norm ?_
                             refine xt_norm ?_
                             replace hS := hS.front 2 (C := C15) (L' := L113 :: C105 :: [(b10, rowO [.int .u8 x9.1, .int .i8 x9.2] 30)] :: R :: F) rfl rfl
                             replace hS := hS.drop1
                             replace hS := hS.front 2 (C := [(b10, rowO [.int .u8 x9.1, .int .i8 x9.2] 30)]) (L' := L113 :: C105 :: R :: F) rfl rfl
                             replace hS := hS.drop1
                             replace hS := hS.front 2 (C := R) (L' := L113 :: C105 :: F) rfl rfl
                             replace hS := hS.drop1
                             exact ⟨(row.filter (fun x => !(x == x9.2))), A106, c107, C105, L113, (hA.sel [3, 4, 19, 20, 21] rfl), hS, hM, hO105, (nn_filt hnn), Nat.le_trans (List.length_filter_le _ _) hlen⟩))
                   · first
                     | (exfalso; omega)
                     | (replace hA := hA.rw 39 (v' := .bool false) rfl (vb_false hc101)
                        replace hA := hA.rw 40 (v' := .bool false) rfl (vb_false hc101)
                        refine st_run tbOk 6 hA (e' := (13, .bool false) :: (45, .bool false) :: (44, undef) :: (43, undef) :: (42, undef) :: (41, undef) :: _) rfl ?_; clear hA; intro a hA
                        refine wpList_nil ?_
                        replace hA := hA.sel [3, 4, 7, 13, 19, 20, 21] (e' := [(3, .pointer (some ⟨b2, 0, none⟩)), (4, .slice A1 row.length c1), (7, .int .i64 x9.2), (13, .bool false), (19, .slice (some ⟨b7, o8, none⟩) l.length c), (20, .int .i64 ((l.length : Nat) : Int)), (21, .int .i64 ((j : Nat) : Int))]) rfl
                        refine xt_norm ?_
                        refine wp_seq ?_
                        refine wp_region_lit ?_
                        refine st_run tbOk 2 hA (e' := (47, .int .i64 x9.2) :: (46, .slice A1 row.length c1) :: _) rfl ?_; clear hA; intro a hA
                        refine st_call0 hA rfl rfl rfl isfn6 rfl rfl (by decide) (without6 hS (l := row) (RdS.own hO 3 rfl) x9.2 (by omega)) ?_
                        clear hA hS; rintro v115 w116 a ⟨C117, hO117, hS⟩ hA
                        obtain ⟨A118, c119, rfl, hmc119, hxc119⟩ := hO117.open'
                        refine st_run tbOk 1 hA (e' := (4, .slice A118 ((row.filter (fun x => !(x == x9.2))).length) c119) :: _) rfl ?_; clear hA; intro a hA
                        refine wpList_nil ?_
                        replace hA := hA.sel [3, 4, 7, 13, 19, 20, 21] (e' := [(3, .pointer (some ⟨b2, 0, none⟩)), (4, .slice A118 ((row.filter (fun x => !(x == x9.2))).length) c119), (7, .int .i64 x9.2), (13, .bool false), (19, .slice (some ⟨b7, o8, none⟩) l.length c), (20, .int .i64 ((l.length : Nat) : Int)), (21, .int .i64 ((j : Nat) : Int))]) rfl
                        refine xt_norm ?_
                        refine wp_seq ?_
                        refine wp_region_lit ?_
                        refine st_run tbOk 1 hA (e' := (14, .int .i64 (-1)) :: _) rfl ?_; clear hA; intro a hA
                        refine wpList_nil ?_
                        refine xt_norm ?_
                        refine wp_seq ?_
                        refine wp_seq ?_
                        refine wp_region_lit ?_
                        refine st_run tbOk 1 hA (e' := (49, .bool false) :: _) rfl ?_; clear hA; intro a hA
                        refine wpList_nil ?_
                        replace hA := hA.sel [3, 4, 7, 14, 19, 20, 21, 49] (e' := [(3, .pointer (some ⟨b2, 0, none⟩)), (4, .slice A118 ((row.filter (fun x => !(x == x9.2))).length) c119), (7, .int .i64 x9.2), (14, .int .i64 (-1)), (19, .slice (some ⟨b7, o8, none⟩) l.length c), (20, .int .i64 ((l.length : Nat) : Int)), (21, .int .i64 ((j : Nat) : Int)), (49, .bool false)]) rfl
                        refine xt_norm ?_
                        refine cd_cond_f hA rfl ?_
                        refine wp_skip ?_
                        refine xt_norm ?_
                        refine wp_seq ?_
                        refine wp_region_lit ?_
                        refine st_run tbOk 2 hA (e' := (53, .int .i64 x9.2) :: (52, .pointer (some ⟨b2, 0, none⟩)) :: _) rfl ?_; clear hA; intro a hA
                        replace hS := hS.front 3 (C := L) (L' := C117 :: C15 :: [(b10, rowO [.int .u8 x9.1, .int .i8 x9.2] 30)] :: R :: F) rfl rfl
                        refine st_call0 hA rfl rfl rfl isfn11 rfl rfl (by decide) (leaveR hS hM x9.2 hnn) ?_
                        clear hA hS hM; rintro v w121 a ⟨L120, hM, rfl, hS⟩ hA
                        replace hA := hA.rw 54 (v' := .int .i64 (-1)) rfl (by rw [leave_val hnn, if_neg (by omega)])
                        refine st_run tbOk 2 hA (e' := (56, .bool false) :: (55, .int .i64 (-1)) :: _) rfl ?_; clear hA; intro a hA
                        refine wpList_nil ?_
                        replace hA := hA.sel [3, 4, 19, 20, 21, 56] (e' := [(3, .pointer (some ⟨b2, 0, none⟩)), (4, .slice A118 ((row.filter (fun x => !(x == x9.2))).length) c119), (19, .slice (some ⟨b7, o8, none⟩) l.length c), (20, .int .i64 ((l.length : Nat) : Int)), (21, .int .i64 ((j : Nat) : Int)), (56, .bool false)]) rfl
                        refine xt_norm ?_
                        refine cd_cond_f hA rfl ?_
                        refine wp_skip ?_
                        refine xb_norm ?_
                        refine xt_norm ?_
                        replace hS := hS.front 2 (C := C15) (L' := L120 :: C117 :: [(b10, rowO [.int .u8 x9.1, .int .i8 x9.2] 30)] :: R :: F) rfl rfl
                        replace hS := hS.drop1
                        replace hS := hS.front 2 (C := [(b10, rowO [.int .u8 x9.1, .int .i8 x9.2] 30)]) (L' := L120 :: C117 :: R :: F) rfl rfl
                        replace hS := hS.drop1
                        replace hS := hS.front 2 (C := R) (L' := L120 :: C117 :: F) rfl rfl
                        replace hS := hS.drop1
                        exact ⟨(row.filter (fun x => !(x == x9.2))), A118, c119, C117, L120, (hA.sel [3, 4, 19, 20, 21] rfl), hS, hM, hO117, (nn_filt hnn), Nat.le_trans (List.length_filter_le _ _) hlen⟩)))
       · clear hA hS; rintro a w122 ⟨row2, A2, c2, R2, L2, hA, hS, hM, hO2, hnn2, hlen2⟩
         have hcap2 := hO2.rcap
         refine wp_seq ?_
         have hrl : (row2).length ≤ 65 := hlen2
         have htl : (row2).tail.length = (row2).length - 1 := List.length_tail
         refine wp_draw (fun w' => St w0 w' (R2 :: F)) [] [(0, true), (2, true), (1, false), (3, false), (4, true), (5, true), (6, true), (7, true), (8, true), (9, true), (10, true), (12, true), (13, true), (11, false), (14, false), (15, true), (16, true), (17, true), (18, true), (19, true), (20, true), (21, true), (22, true), (23, true), (24, false), (25, true), (26, true), (27, true), (28, true)] mixed (by kernel_rfl) (by rintro c a w ⟨_, _, h, _⟩; cases h) (by rfl) (by kernel_rfl) ?_
         replace hS := hS.drew
         refine dr_run tbOk 2 hA (hS.tail 1 rfl) (e' := (140, .slice A2 row2.length c2) :: (138, .pointer (some ⟨b2, 0, none⟩)) :: _) rfl ?_; clear hA; intro a hA
         refine dr_b (o := _) rfl ?_
         refine st_call0 hA rfl rfl rfl isfn12 rfl rfl (by decide) (holderR hS hM) ?_
         clear hA hS hM; rintro v w124 a ⟨L123, hM, rfl, hS⟩ hA
         refine dr_nil (.inr (hS.tail 1 rfl)) ?_
         refine dr_b (o := _) rfl ?_
         refine st_call0 hA rfl rfl rfl isfn10 rfl rfl (by decide) (first10 hS (l := row2) (RdS.own hO2 1 rfl)) ?_
         clear hA hS; rintro v w125 a ⟨rfl, hS⟩ hA
         refine dr_nil (.inr (hS.tail 1 rfl)) ?_
         refine dr_run tbOk 2 hA (hS.tail 1 rfl) (e' := (143, .bool ((first row2) != (first row2))) :: (142, .bool ((first row2) != (first row2))) :: _) rfl ?_; clear hA; intro a hA
         by_cases hc126 : first row2 = first row2
         · first
           | (exfalso; omega)
           | (replace hA := hA.rw 142 (v' := .bool false) rfl (vb_ne_f hc126)
              replace hA := hA.rw 143 (v' := .bool false) rfl (vb_ne_f hc126)
              refine dr_run tbOk 4 hA (hS.tail 1 rfl) (e' := (147, .bool (decide (((row2.length : Nat) : Int) > 0))) :: (146, .bool (decide (((row2.length : Nat) : Int) > 0))) :: (145, .int .i64 ((row2.length : Nat) : Int)) :: (144, .slice A2 row2.length c2) :: _) rfl ?_; clear hA; intro a hA
              by_cases hc127 : ((row2.length : Nat) : Int) > 0
              · first
                | (exfalso; omega)
                | (replace hA := hA.rw 146 (v' := .bool true) rfl (vb_true hc127)
                   replace hA := hA.rw 147 (v' := .bool true) rfl (vb_true hc127)
                   refine dr_run tbOk 2 hA (hS.tail 1 rfl) (e' := (150, .slice A2 row2.length c2) :: (148, .pointer (some ⟨b2, 0, none⟩)) :: _) rfl ?_; clear hA; intro a hA
                   refine dr_y hA rfl rfl rfl (by decide) (hS.tail 1 rfl) (fun w' hS' => rn_slice_l tbOk hA 1 rfl rfl rfl rfl rfl rfl (by rfl) (by omega)) ?_; clear hA; intro a hA
                   refine dr_b (o := _) rfl ?_
                   refine st_call0 hA rfl rfl rfl isfn14 rfl rfl (by decide) (waitingR hS hM (by first | omega | simp)) ?_
                   clear hA hS hM; rintro v130 w129 a ⟨L128, C131, hO131, hM, hS⟩ hA
                   obtain ⟨A132, c133, rfl, hmc133, hxc133⟩ := hO131.open'
                   refine dr_nil (.inr (hS.tail 2 rfl)) ?_
                   refine dr_b (o := _) rfl ?_
                   refine st_call0 hA rfl rfl rfl isfn13 rfl rfl (by decide) (same13 hS (xs := row2.tail) (ys := (row2.take row2.length).drop 1) (RdS.own hO131 0 rfl) (fun w' h => ((hO2.rd (h.own_ 2 rfl)).rslv encI_ok 1 row2.length c2 (by omega) (by omega) (by omega) (by omega)))) ?_
                   clear hA hS; rintro v w134 a ⟨rfl, hS⟩ hA
                   replace hA := hA.rw 152 (v' := .bool true) rfl (by rw [List.take_length]; simp)
                   refine dr_nil (.inr (hS.tail 2 rfl)) ?_
                   refine dr_run tbOk 8 hA (hS.tail 2 rfl) (e' := (160, .bool (((row2.length : Nat) : Int) == 0)) :: (159, .bool (((row2.length : Nat) : Int) == 0)) :: (158, .int .i64 ((row2.length : Nat) : Int)) :: (157, .slice A2 row2.length c2) :: (156, .bool false) :: (155, .bool false) :: (154, .bool false) :: (153, .bool false) :: _) rfl ?_; clear hA; intro a hA
                   by_cases hc135 : ((row2.length : Nat) : Int) = 0
                   · first
                     | (exfalso; omega)
                     | (replace hA := hA.rw 159 (v' := .bool true) rfl (vb_eq_t hc135)
                        replace hA := hA.rw 160 (v' := .bool true) rfl (vb_eq_t hc135)
                        refine dr_run tbOk 1 hA (hS.tail 2 rfl) (e' := (161, .pointer (some ⟨b2, 0, none⟩)) :: _) rfl ?_; clear hA; intro a hA
                        refine dr_b (o := _) rfl ?_
                        replace hS := hS.front 1 (C := L128) (L' := C131 :: R2 :: F) rfl rfl
                        refine st_call0 hA rfl rfl rfl isfn14 rfl rfl (by decide) (waitingR hS hM (by first | omega | simp)) ?_
                        clear hA hS hM; rintro v138 w137 a ⟨L136, C139, hO139, hM, hS⟩ hA
                        obtain ⟨A140, c141, rfl, hmc141, hxc141⟩ := hO139.open'
                        refine dr_nil (.inr (hS.tail 3 rfl)) ?_
                        refine dr_run tbOk 4 hA (hS.tail 3 rfl) (e' := (166, .bool (((row2.tail.length : Nat) : Int) != 0)) :: (165, .bool (((row2.tail.length : Nat) : Int) != 0)) :: (164, .bool (((row2.tail.length : Nat) : Int) != 0)) :: (163, .int .i64 ((row2.tail.length : Nat) : Int)) :: _) rfl ?_; clear hA; intro a hA
                        refine dr_end ?_
                        replace hA := hA.sel [3, 4, 19, 20, 21, 166] (e' := [(3, .pointer (some ⟨b2, 0, none⟩)), (4, .slice A2 row2.length c2), (19, .slice (some ⟨b7, o8, none⟩) l.length c), (20, .int .i64 ((l.length : Nat) : Int)), (21, .int .i64 ((j : Nat) : Int)), (166, .bool (((row2.tail.length : Nat) : Int) != 0))]) rfl
                        refine xt_norm ?_
                        by_cases hc142 : ((row2.tail.length : Nat) : Int) = 0
                        · first
                          | (exfalso; omega)
                          | (replace hA := hA.rw 166 (v' := .bool false) rfl (vb_ne_f hc142)
                             refine cd_cond_f hA rfl ?_
                             refine wp_skip ?_
                             refine xb_norm ?_
                             refine xt_norm ?_
                             refine wp_region_lit ?_
                             refine st_run tbOk 1 hA (e' := (167, .int .i64 (IntKind.i64.wrap (((j : Nat) : Int) + 1))) :: _) rfl ?_; clear hA; intro a hA
                             replace hA := hA.rw 167 (v' := .int .i64 ((j + 1 : Nat) : Int)) rfl (wr64 (by omega) (by omega) (by omega))
                             refine st_run tbOk 1 hA (e' := (21, .int .i64 ((j + 1 : Nat) : Int)) :: _) rfl ?_; clear hA; intro a hA
                             refine wpList_nil ?_
                             replace hA := hA.sel [3, 4, 19, 20, 21] (e' := [(3, .pointer (some ⟨b2, 0, none⟩)), (4, .slice A2 row2.length c2), (19, .slice (some ⟨b7, o8, none⟩) l.length c), (20, .int .i64 ((l.length : Nat) : Int)), (21, .int .i64 ((j + 1 : Nat) : Int))]) rfl
                             replace hS := hS.drop1
                             replace hS := hS.front 1 (C := C131) (L' := L136 :: R2 :: F) rfl rfl
                             replace hS := hS.drop1
                             exact lp_next _ (by omega) ⟨(j + 1), row2, A2, c2, R2, L136, rfl, (hA.sel [3, 4, 19, 20, 21] rfl), hS, hM, by omega, hO2, hnn2, hlen2⟩)
                        · first
                          | (exfalso; omega)
                          | (replace hA := hA.rw 166 (v' := .bool true) rfl (vb_ne_t hc142)
                             refine cd_cond_t hA rfl ?_
                             refine wp_seq ?_
                             refine wp_region_lit ?_
                             refine st_run tbOk 1 hA (e' := (2, .bool false) :: _) rfl ?_; clear hA; intro a hA
                             refine wpList_nil ?_
                             replace hA := hA.sel [2] (e' := [(2, .bool false)]) rfl
                             refine xt_norm ?_
                             refine wp_ret (xb_ret (xt_ret (xt_ret (xb_ret (xt_ret ?_)))))
                             refine ret1 (fn := Tryd.f3) hA rfl rfl ?_
                             exfalso; omega))
                   · first
                     | (exfalso; omega)
                     | (replace hA := hA.rw 159 (v' := .bool false) rfl (vb_eq_f hc135)
                        replace hA := hA.rw 160 (v' := .bool false) rfl (vb_eq_f hc135)
                        refine dr_run tbOk 1 hA (hS.tail 2 rfl) (e' := (161, undef) :: _) rfl ?_; clear hA; intro a hA
                        refine dr_b (o := _) rfl ?_
                        refine st_no hA rfl rfl (by decide) ?_; clear hA; intro a hA
                        refine dr_nil (.inr (hS.tail 2 rfl)) ?_
                        refine dr_run tbOk 4 hA (hS.tail 2 rfl) (e' := (166, .bool false) :: (165, .bool false) :: (164, undef) :: (163, undef) :: _) rfl ?_; clear hA; intro a hA
                        refine dr_end ?_
                        replace hA := hA.sel [3, 4, 19, 20, 21, 166] (e' := [(3, .pointer (some ⟨b2, 0, none⟩)), (4, .slice A2 row2.length c2), (19, .slice (some ⟨b7, o8, none⟩) l.length c), (20, .int .i64 ((l.length : Nat) : Int)), (21, .int .i64 ((j : Nat) : Int)), (166, .bool false)]) rfl
                        refine xt_norm ?_
                        refine cd_cond_f hA rfl ?_
                        refine wp_skip ?_
                        refine xb_norm ?_
                        refine xt_norm ?_
                        refine wp_region_lit ?_
                        refine st_run tbOk 1 hA (e' := (167, .int .i64 (IntKind.i64.wrap (((j : Nat) : Int) + 1))) :: _) rfl ?_; clear hA; intro a hA
                        replace hA := hA.rw 167 (v' := .int .i64 ((j + 1 : Nat) : Int)) rfl (wr64 (by omega) (by omega) (by omega))
                        refine st_run tbOk 1 hA (e' := (21, .int .i64 ((j + 1 : Nat) : Int)) :: _) rfl ?_; clear hA; intro a hA
                        refine wpList_nil ?_
                        replace hA := hA.sel [3, 4, 19, 20, 21] (e' := [(3, .pointer (some ⟨b2, 0, none⟩)), (4, .slice A2 row2.length c2), (19, .slice (some ⟨b7, o8, none⟩) l.length c), (20, .int .i64 ((l.length : Nat) : Int)), (21, .int .i64 ((j + 1 : Nat) : Int))]) rfl
                        replace hS := hS.drop1
                        exact lp_next _ (by omega) ⟨(j + 1), row2, A2, c2, R2, L128, rfl, (hA.sel [3, 4, 19, 20, 21] rfl), hS, hM, by omega, hO2, hnn2, hlen2⟩))
              · first
                | (exfalso; omega)
                | (replace hA := hA.rw 146 (v' := .bool false) rfl (vb_false hc127)
                   replace hA := hA.rw 147 (v' := .bool false) rfl (vb_false hc127)
                   refine dr_run tbOk 3 hA (hS.tail 1 rfl) (e' := (151, undef) :: (150, undef) :: (148, undef) :: _) rfl ?_; clear hA; intro a hA
                   refine dr_b (o := _) rfl ?_
                   refine st_no hA rfl rfl (by decide) ?_; clear hA; intro a hA
                   refine dr_nil (.inr (hS.tail 1 rfl)) ?_
                   refine dr_b (o := _) rfl ?_
                   refine st_no hA rfl rfl (by decide) ?_; clear hA; intro a hA
                   refine dr_nil (.inr (hS.tail 1 rfl)) ?_
                   refine dr_run tbOk 8 hA (hS.tail 1 rfl) (e' := (160, .bool (((row2.length : Nat) : Int) == 0)) :: (159, .bool (((row2.length : Nat) : Int) == 0)) :: (158, .int .i64 ((row2.length : Nat) : Int)) :: (157, .slice A2 row2.length c2) :: (156, .bool false) :: (155, .bool false) :: (154, .bool false) :: (153, undef) :: _) rfl ?_; clear hA; intro a hA
                   by_cases hc143 : ((row2.length : Nat) : Int) = 0
                   · first
                     | (exfalso; omega)
                     | (replace hA := hA.rw 159 (v' := .bool true) rfl (vb_eq_t hc143)
                        replace hA := hA.rw 160 (v' := .bool true) rfl (vb_eq_t hc143)
                        refine dr_run tbOk 1 hA (hS.tail 1 rfl) (e' := (161, .pointer (some ⟨b2, 0, none⟩)) :: _) rfl ?_; clear hA; intro a hA
                        refine dr_b (o := _) rfl ?_
                        refine st_call0 hA rfl rfl rfl isfn14 rfl rfl (by decide) (waitingR hS hM (by first | omega | simp)) ?_
                        clear hA hS hM; rintro v146 w145 a ⟨L144, C147, hO147, hM, hS⟩ hA
                        obtain ⟨A148, c149, rfl, hmc149, hxc149⟩ := hO147.open'
                        refine dr_nil (.inr (hS.tail 2 rfl)) ?_
                        refine dr_run tbOk 4 hA (hS.tail 2 rfl) (e' := (166, .bool (((row2.tail.length : Nat) : Int) != 0)) :: (165, .bool (((row2.tail.length : Nat) : Int) != 0)) :: (164, .bool (((row2.tail.length : Nat) : Int) != 0)) :: (163, .int .i64 ((row2.tail.length : Nat) : Int)) :: _) rfl ?_; clear hA; intro a hA
                        refine dr_end ?_
                        replace hA := hA.sel [3, 4, 19, 20, 21, 166] (e' := [(3, .pointer (some ⟨b2, 0, none⟩)), (4, .slice A2 row2.length c2), (19, .slice (some ⟨b7, o8, none⟩) l.length c), (20, .int .i64 ((l.length : Nat) : Int)), (21, .int .i64 ((j : Nat) : Int)), (166, .bool (((row2.tail.length : Nat) : Int) != 0))]) rfl
                        refine xt_norm ?_
                        by_cases hc150 : ((row2.tail.length : Nat) : Int) = 0
                        · first
                          | (exfalso; omega)
                          | (replace hA := hA.rw 166 (v' := .bool false) rfl (vb_ne_f hc150)
                             refine cd_cond_f hA rfl ?_
                             refine wp_skip ?_
                             refine xb_norm ?_
                             refine xt_norm ?_
                             refine wp_region_lit ?_
                             refine st_run tbOk 1 hA (e' := (167, .int .i64 (IntKind.i64.wrap (((j : Nat) : Int) + 1))) :: _) rfl ?_; clear hA; intro a hA
                             replace hA := hA.rw 167 (v' := .int .i64 ((j + 1 : Nat) : Int)) rfl (wr64 (by omega) (by omega) (by omega))
                             refine st_run tbOk 1 hA (e' := (21, .int .i64 ((j + 1 : Nat) : Int)) :: _) rfl ?_; clear hA; intro a hA
                             refine wpList_nil ?_
                             replace hA := hA.sel [3, 4, 19, 20, 21] (e' := [(3, .pointer (some ⟨b2, 0, none⟩)), (4, .slice A2 row2.length c2), (19, .slice (some ⟨b7, o8, none⟩) l.length c), (20, .int .i64 ((l.length : Nat) : Int)), (21, .int .i64 ((j + 1 : Nat) : Int))]) rfl
                             replace hS := hS.drop1
                             exact lp_next _ (by omega) ⟨(j + 1), row2, A2, c2, R2, L144, rfl, (hA.sel [3, 4, 19, 20, 21] rfl), hS, hM, by omega, hO2, hnn2, hlen2⟩)
                        · first
                          | (exfalso; omega)
                          | (replace hA := hA.rw 166 (v' := .bool true) rfl (vb_ne_t hc150)
                             refine cd_cond_t hA rfl ?_
                             refine wp_seq ?_
                             refine wp_region_lit ?_
                             refine st_run tbOk 1 hA (e' := (2, .bool false) :: _) rfl ?_; clear hA; intro a hA
                             refine wpList_nil ?_
                             replace hA := hA.sel [2] (e' := [(2, .bool false)]) rfl
                             refine xt_norm ?_
                             refine wp_ret (xb_ret (xt_ret (xt_ret (xb_ret (xt_ret ?_)))))
                             refine ret1 (fn := Tryd.f3) hA rfl rfl ?_
                             exfalso; omega))
                   · first
                     | (exfalso; omega)
                     | (replace hA := hA.rw 159 (v' := .bool false) rfl (vb_eq_f hc143)
                        replace hA := hA.rw 160 (v' := .bool false) rfl (vb_eq_f hc143)
                        refine dr_run tbOk 1 hA (hS.tail 1 rfl) (e' := (161, undef) :: _) rfl ?_; clear hA; intro a hA
                        refine dr_b (o := _) rfl ?_
                        refine st_no hA rfl rfl (by decide) ?_; clear hA; intro a hA
                        refine dr_nil (.inr (hS.tail 1 rfl)) ?_
                        refine dr_run tbOk 4 hA (hS.tail 1 rfl) (e' := (166, .bool false) :: (165, .bool false) :: (164, undef) :: (163, undef) :: _) rfl ?_; clear hA; intro a hA
                        refine dr_end ?_
                        replace hA := hA.sel [3, 4, 19, 20, 21, 166] (e' := [(3, .pointer (some ⟨b2, 0, none⟩)), (4, .slice A2 row2.length c2), (19, .slice (some ⟨b7, o8, none⟩) l.length c), (20, .int .i64 ((l.length : Nat) : Int)), (21, .int .i64 ((j : Nat) : Int)), (166, .bool false)]) rfl
                        refine xt_norm ?_
                        refine cd_cond_f hA rfl ?_
                        refine wp_skip ?_
                        refine xb_norm ?_
                        refine xt_norm ?_
                        refine wp_region_lit ?_
                        refine st_run tbOk 1 hA (e' := (167, .int .i64 (IntKind.i64.wrap (((j : Nat) : Int) + 1))) :: _) rfl ?_; clear hA; intro a hA
                        replace hA := hA.rw 167 (v' := .int .i64 ((j + 1 : Nat) : Int)) rfl (wr64 (by omega) (by omega) (by omega))
                        refine st_run tbOk 1 hA (e' := (21, .int .i64 ((j + 1 : Nat) : Int)) :: _) rfl ?_; clear hA; intro a hA
                        refine wpList_nil ?_
                        replace hA := hA.sel [3, 4, 19, 20, 21] (e' := [(3, .pointer (some ⟨b2, 0, none⟩)), (4, .slice A2 row2.length c2), (19, .slice (some ⟨b7, o8, none⟩) l.length c), (20, .int .i64 ((l.length : Nat) : Int)), (21, .int .i64 ((j + 1 : Nat) : Int))]) rfl
                        exact lp_next _ (by omega) ⟨(j + 1), row2, A2, c2, R2, L123, rfl, (hA.sel [3, 4, 19, 20, 21] rfl), hS, hM, by omega, hO2, hnn2, hlen2⟩)))
         · first
           | (exfalso; omega)
           | (replace hA := hA.rw 142 (v' := .bool true) rfl (vb_ne_t hc126)
              replace hA := hA.rw 143 (v' := .bool true) rfl (vb_ne_t hc126)
              refine dr_run tbOk 7 hA (hS.tail 1 rfl) (e' := (151, undef) :: (150, undef) :: (148, undef) :: (147, undef) :: (146, undef) :: (145, undef) :: (144, undef) :: _) rfl ?_; clear hA; intro a hA
              refine dr_b (o := _) rfl ?_
              refine st_no hA rfl rfl (by decide) ?_; clear hA; intro a hA
              refine dr_nil (.inr (hS.tail 1 rfl)) ?_
              refine dr_b (o := _) rfl ?_
              refine st_no hA rfl rfl (by decide) ?_; clear hA; intro a hA
              refine dr_nil (.inr (hS.tail 1 rfl)) ?_
              refine dr_run tbOk 9 hA (hS.tail 1 rfl) (e' := (161, undef) :: (160, undef) :: (159, undef) :: (158, undef) :: (157, undef) :: (156, .bool true) :: (155, .bool true) :: (154, undef) :: (153, undef) :: _) rfl ?_; clear hA; intro a hA
              refine dr_b (o := _) rfl ?_
              refine st_no hA rfl rfl (by decide) ?_; clear hA; intro a hA
              refine dr_nil (.inr (hS.tail 1 rfl)) ?_
              refine dr_run tbOk 4 hA (hS.tail 1 rfl) (e' := (166, .bool true) :: (165, undef) :: (164, undef) :: (163, undef) :: _) rfl ?_; clear hA; intro a hA
              refine dr_end ?_
              replace hA := hA.sel [3, 4, 19, 20, 21, 166] (e' := [(3, .pointer (some ⟨b2, 0, none⟩)), (4, .slice A2 row2.length c2), (19, .slice (some ⟨b7, o8, none⟩) l.length c), (20, .int .i64 ((l.length : Nat) : Int)), (21, .int .i64 ((j : Nat) : Int)), (166, .bool true)]) rfl
              refine xt_norm ?_
              refine cd_cond_t hA rfl ?_
              refine wp_seq ?_
              refine wp_region_lit ?_
              refine st_run tbOk 1 hA (e' := (2, .bool false) :: _) rfl ?_; clear hA; intro a hA
              refine wpList_nil ?_
              replace hA := hA.sel [2] (e' := [(2, .bool false)]) rfl
              refine xt_norm ?_
              refine wp_ret (xb_ret (xt_ret (xt_ret (xb_ret (xt_ret ?_)))))
              refine ret1 (fn := Tryd.f3) hA rfl rfl ?_
              exfalso; omega))
  · first
    | (exfalso; omega)
    | (replace hA := hA.rw 22 (v' := .bool false) rfl (vb_false hc6)
       refine cd_cond_f hA rfl ?_
       refine wp_exit ?_
       refine xt_exit ?_
       refine xt_exit ?_
       refine cd_exit_eq ?_
       refine xt_norm ?_
       refine wp_seq ?_
       refine wp_region_lit ?_
       refine st_run tbOk 1 hA (e' := (2, .bool true) :: _) rfl ?_; clear hA; intro a hA
       refine wpList_nil ?_
       replace hA := hA.sel [2] (e' := [(2, .bool true)]) rfl
       refine xt_norm ?_
       refine wp_ret ?_
       refine ret1 (fn := Tryd.f3) hA rfl rfl ?_
       replace hS := hS.drop1
       replace hS := hS.drop1
       exact ⟨rfl, hS⟩)

end Go.Proofs.YthpdmjghabehpaaDoor
