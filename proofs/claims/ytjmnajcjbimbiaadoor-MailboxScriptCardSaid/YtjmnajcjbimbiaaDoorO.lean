import Derived.Test.YtjmnajcjbimbiaaDoorN
set_option linter.unusedVariables false
set_option linter.unusedSimpArgs false
set_option maxRecDepth 4000
namespace Go.Proofs.YtjmnajcjbimbiaaDoor
open Go Go.SK
set_option maxHeartbeats 100000000 in
theorem script6 {w0 w : World} {F : List Chunk} (hS : St w0 w F) (hg : HG w0) (p : Int) (h1 : -128 ≤ p ∧ p < 128) {v : Value} {l : List (Int × Int × Int × Int × Int × Int × Int × Int × Int × Int × Int × Option Addr × Nat × List UInt8)} (hr : RdS w0 F 12 v l.length (rows encAct l)) (hw : ∀ x ∈ l, encAct_good w0 x) (hb : l.length * 88 ≤ 140737488351232) :
    Ret Tryd.prog 6 #[.int .i8 p, v] w (fun v w' => v = .bool true ∧ St w0 w' F) := by
  obtain ⟨A, c, rfl, hmc, hcx⟩ := (hr w hS).open'
  obtain ⟨n, hn⟩ : ∃ n : Nat, (p ≤ 0 ∧ n = 0) ∨ (0 ≤ p ∧ p ≤ 64 ∧ ((n : Nat) : Int) = p) ∨ (64 ≤ p ∧ n = 64) := ⟨(max 0 (min p 64)).toNat, by omega⟩
  have hn64 : n ≤ 64 := by omega
  refine enter (vs := [.int .i8 p, .slice A l.length c]) 199 Tryd.func6 rfl rfl (by simp) ?_; intro a hA
  refine wp_seq ?_
  refine wp_region_lit ?_
  refine st_run tbOk 1 hA (e' := (4, .bool false) :: _) rfl ?_; clear hA; intro a hA
  refine wpList_nil ?_
  replace hA := hA.sel [0, 1] (e' := [(0, .int .i8 p), (1, .slice A l.length c)]) rfl
  refine xt_norm ?_
  refine wp_seq ?_
  refine wp_seq ?_
  refine wp_region_lit ?_
  refine st_call0 hA rfl rfl rfl isfn7 rfl rfl (by decide) (awake7 hS hg) ?_
  clear hA hS; rintro v w1 a ⟨rfl, hS⟩ hA
  refine st_run tbOk 1 hA (e' := (25, .bool false) :: _) rfl ?_; clear hA; intro a hA
  refine wpList_nil ?_
  replace hA := hA.sel [0, 1, 25] (e' := [(0, .int .i8 p), (1, .slice A l.length c), (25, .bool false)]) rfl
  refine xt_norm ?_
  refine cd_cond_f hA rfl ?_
  refine wp_skip ?_
  refine xt_norm ?_
  refine wp_seq ?_
  refine wp_region_lit ?_
  refine st_run tbOk 2 hA (e' := (27, .int .i64 (IntKind.i64.wrap p)) :: (26, .int .i8 p) :: _) rfl ?_; clear hA; intro a hA
  replace hA := hA.rw 27 (v' := .int .i64 p) rfl (wr64 (by rfl) (by omega) (by omega))
  refine st_call0 hA rfl rfl rfl isfn8 rfl rfl (by decide) (of8 hS p n hn) ?_
  clear hA hS; rintro _ w2 a ⟨bb3, L4, hM5, rfl, hS⟩ hA
  replace hS := hS.nil
  refine st_run tbOk 1 hA (e' := (5, .pointer (some ⟨bb3, 0, none⟩)) :: _) rfl ?_; clear hA; intro a hA
  refine wpList_nil ?_
  replace hA := hA.sel [0, 1, 5] (e' := [(0, .int .i8 p), (1, .slice A l.length c), (5, .pointer (some ⟨bb3, 0, none⟩))]) rfl
  refine xt_norm ?_
  refine wp_seq ?_
  refine wp_region_lit ?_
  refine st_run tbOk 2 hA (e' := (30, .int .i64 (IntKind.i64.wrap p)) :: (29, .int .i8 p) :: _) rfl ?_; clear hA; intro a hA
  replace hA := hA.rw 30 (v' := .int .i64 p) rfl (wr64 (by rfl) (by omega) (by omega))
  refine st_run tbOk 2 hA (e' := (32, .int .i64 (if (if 64 < p then 64 else p) > 0 then (if 64 < p then 64 else p) else 0)) :: (31, .int .i64 (if 64 < p then 64 else p)) :: _) rfl ?_; clear hA; intro a hA
  replace hA := hA.rw 32 (v' := .int .i64 ((n : Nat) : Int)) rfl (vint (by first | omega | (split <;> omega) | (split <;> split <;> omega)))
  refine st_run tbOk 1 hA (e' := (6, .int .i64 ((n : Nat) : Int)) :: _) rfl ?_; clear hA; intro a hA
  refine wpList_nil ?_
  replace hA := hA.sel [1, 5, 6] (e' := [(1, .slice A l.length c), (5, .pointer (some ⟨bb3, 0, none⟩)), (6, .int .i64 ((n : Nat) : Int))]) rfl
  refine xt_norm ?_
  refine wp_seq ?_
  refine wp_region_lit ?_
  refine st_makeSlice tbOk hA hS 2 encSl_ok (by decide) () rfl rfl rfl rfl rfl rfl rfl rfl (by show 24 * 2 ≤ 281474976710656; decide) (by decide) rfl rfl (by decide) ?_; clear hA hS; intro b6 w7 a hS hA
  replace hS : St w0 w7 ([(b6, rowO [.slice none 0 0, .slice none 0 0] 44)] :: [] :: L4 :: F) := hS
  refine st_run tbOk 1 hA (e' := (7, .slice (some ⟨b6, 0, none⟩) 2 2) :: _) rfl ?_; clear hA; intro a hA
  refine wpList_nil ?_
  replace hA := hA.sel [1, 5, 6, 7] (e' := [(1, .slice A l.length c), (5, .pointer (some ⟨bb3, 0, none⟩)), (6, .int .i64 ((n : Nat) : Int)), (7, .slice (some ⟨b6, 0, none⟩) 2 2)]) rfl
  refine xt_norm ?_
  refine wp_seq ?_
  refine wp_seq ?_
  refine wp_region_lit ?_
  refine st_run tbOk 3 hA (e' := (36, .int .i64 0) :: (35, .int .i64 ((l.length : Nat) : Int)) :: (34, .slice A l.length c) :: _) rfl ?_; clear hA; intro a hA
  refine wpList_nil ?_
  replace hA := hA.sel [5, 6, 7, 34, 35, 36] (e' := [(5, .pointer (some ⟨bb3, 0, none⟩)), (6, .int .i64 ((n : Nat) : Int)), (7, .slice (some ⟨b6, 0, none⟩) 2 2), (34, .slice A l.length c), (35, .int .i64 ((l.length : Nat) : Int)), (36, .int .i64 0)]) rfl
  refine xt_norm ?_
  refine wp_block ?_
  replace hS := hS.nil
  replace hS := hS.nil
  replace hS := hS.front 2 (C := [(b6, rowO [.slice none 0 0, .slice none 0 0] 44)]) (L' := [] :: [] :: [] :: L4 :: F) rfl rfl
  replace hS := hS.front 3 (C := []) (L' := [(b6, rowO [.slice none 0 0, .slice none 0 0] 44)] :: [] :: [] :: L4 :: F) rfl rfl
  replace hS := hS.front 3 (C := []) (L' := [] :: [(b6, rowO [.slice none 0 0, .slice none 0 0] 44)] :: [] :: L4 :: F) rfl rfl
  replace hS := hS.front 3 (C := []) (L' := [] :: [] :: [(b6, rowO [.slice none 0 0, .slice none 0 0] 44)] :: L4 :: F) rfl rfl
  replace hS := hS.front 4 (C := L4) (L' := [] :: [] :: [] :: [(b6, rowO [.slice none 0 0, .slice none 0 0] 44)] :: F) rfl rfl
  refine wp_loop_ghost (fun m a w => ∃ (k : Nat) (us : List Msg) (ps : List Msg) (l0 : List Msg) (l1 : List Msg) (L : Chunk) (D : Chunk) (A0 : Option Addr) (c0 : Nat) (C0 : Chunk) (A1 : Option Addr) (c1 : Nat) (C1 : Chunk), m = l.length - k ∧ Has a 199 [(5, .pointer (some ⟨bb3, 0, none⟩)), (6, .int .i64 ((n : Nat) : Int)), (7, .slice (some ⟨b6, 0, none⟩) 2 2), (34, .slice A l.length c), (35, .int .i64 ((l.length : Nat) : Int)), (36, .int .i64 ((k : Nat) : Int))] ∧ St w0 w (L :: D :: C0 :: C1 :: [(b6, rowO [.slice A0 l0.length c0, .slice A1 l1.length c1] 44)] :: F) ∧ (k ≤ l.length) ∧ (BX bb3 n us ps L) ∧ (Own 37 11 (.slice A0 l0.length c0) l0.length (rows encMessage l0) C0) ∧ (Own 37 11 (.slice A1 l1.length c1) l1.length (rows encMessage l1) C1) ∧ (∀ x ∈ us, encMessage_dd w0 D x) ∧ (∀ x ∈ ps, encMessage_dd w0 D x) ∧ (∀ x ∈ l0, ∀ D, encMessage_dd w0 D x) ∧ (∀ x ∈ l1, ∀ D, encMessage_dd w0 D x) ∧ (us.map mst = l0.map mst) ∧ (ps.map mst = l1.map mst) ∧ (l0.length ≤ n) ∧ (l1.length ≤ n)) (l.length - 0)
    ⟨0, ([]), ([]), ([]), ([]), L4, ([]), none, 0, ([]), none, 0, ([]), rfl, (hA.sel [5, 6, 7, 34, 35, 36] rfl), hS, Nat.zero_le _, hM5, (Own.nil 37 11), (Own.nil 37 11), (fun x hx => by simp at hx), (fun x hx => by simp at hx), (fun x hx => by simp at hx), (fun x hx => by simp at hx), rfl, rfl, (Nat.zero_le _), (Nat.zero_le _)⟩ ?_
  clear hA hS; rintro m0 a w8 ⟨k, us, ps, l0, l1, L, D, A0, c0, C0, A1, c1, C1, rfl, hA, hS, hk, hM, hR0, hR1, hdu, hdp, hl0, hl1, he0, he1, hn0, hn1⟩
  have hz0 := len_of he0; have hz1 := len_of he1
  have hcr0 := hR0.rcap; have hcr1 := hR1.rcap
  refine wp_seq ?_
  refine wp_region_lit ?_
  refine st_run tbOk 1 hA (e' := (37, .bool (decide (((k : Nat) : Int) < ((l.length : Nat) : Int)))) :: _) rfl ?_; clear hA; intro a hA
  refine wpList_nil ?_
  refine xt_norm ?_
  refine wp_seq ?_
  by_cases hc9 : ((k : Nat) : Int) < ((l.length : Nat) : Int)
  · first
    | (exfalso; omega)
    | (replace hA := hA.rw 37 (v' := .bool true) rfl (vb_true hc9)
       refine cd_cond_t hA rfl ?_
       refine wp_skip ?_
       refine xt_norm ?_
       refine wp_seq ?_
       refine wp_block ?_
       refine wp_seq ?_
       refine wp_region_lit ?_
       obtain ⟨b10, o11, rfl⟩ := (hr _ (hS.tail 5 rfl)).isSome (k := k) (by omega)
       refine st_val hA rfl rfl (by decide) (rn_indexAddr tbOk hA k (o11 + (k * 12)) rfl rfl rfl rfl rfl rfl (by rfl) (by omega) (by first | rfl | simp [Nat.mul_one, Nat.zero_add] | omega)) ?_; clear hA; intro a hA
       obtain ⟨x12, hx12⟩ := get_ex (l := l) (k := k) (by omega)
       obtain ⟨x12f0, x12f1, x12f2, x12f3, x12f4, x12f5, x12f6, x12f7, x12f8, x12f9, x12f10, x12A11, x12c11, x12b11⟩ := x12
       have hd13 := (fun x hx => encAct_gdd (D := D) (hw x hx)) _ (List.mem_of_getElem? hx12)
       have hgo := hw _ (List.mem_of_getElem? hx12)
       obtain ⟨ho1, ho2⟩ := hgo.1; dsimp only at ho1 ho2
       have hbl := hgo.2.2.2.2.2.2.2.2.2.2.2.2; dsimp only at hbl
       have hdl := hgo.2.2.2.2.2.2.2.2.2.2.2.1
       obtain ⟨hid1, hid2⟩ := hgo.2.2.2.1; dsimp only at hid1 hid2
       have hop1 : x12f0.tmod 4 = x12f0 % 4 := Int.tmod_eq_emod_of_nonneg (by omega)
       have hkd0 : x12f0.tdiv 4 = x12f0 / 4 := Int.tdiv_eq_ediv_of_nonneg (by omega)
       have hkd1 : (x12f0.tdiv 4).tmod 2 = (x12f0.tdiv 4) % 2 := Int.tmod_eq_emod_of_nonneg (by omega)
       obtain ⟨op, hop⟩ : ∃ z, z = x12f0.tmod 4 := ⟨_, rfl⟩
       obtain ⟨kd, hkd⟩ : ∃ z : Nat, ((z : Nat) : Int) = (x12f0.tdiv 4).tmod 2 := ⟨((x12f0.tdiv 4).tmod 2).toNat, by omega⟩
       have hkd2 : kd = 0 ∨ kd = 1 := by omega
       refine st_val hA rfl rfl (by decide) (rn_loadA tbOk hA ([.int .u8 x12f0, .int .u64 x12f1, .int .u64 x12f2, .int .u32 x12f3, .int .u16 x12f4, .int .u16 x12f5, .int .u64 x12f6, .int .u32 x12f7, .int .u8 x12f8, .int .u64 x12f9, .int .u64 x12f10, .slice x12A11 x12b11.length x12c11]) rfl rfl rfl rfl (by rfl) ((hr _ (hS.tail 5 rfl)).elem (k := k) encAct_ok hx12)) ?_; clear hA; intro a hA
       refine st_alloc tbOk hA hS [.int .u8 0, .int .u64 0, .int .u64 0, .int .u32 0, .int .u16 0, .int .u16 0, .int .u64 0, .int .u32 0, .int .u8 0, .int .u64 0, .int .u64 0, .slice none 0 0] rfl rfl rfl rfl rfl (by decide) ?_; clear hA hS; intro b14 w15 a hS hA
       refine st_store tbOk hA hS [.int .u8 x12f0, .int .u64 x12f1, .int .u64 x12f2, .int .u32 x12f3, .int .u16 x12f4, .int .u16 x12f5, .int .u64 x12f6, .int .u32 x12f7, .int .u8 x12f8, .int .u64 x12f9, .int .u64 x12f10, .slice x12A11 x12b11.length x12c11] [.int .u8 x12f0, .int .u64 x12f1, .int .u64 x12f2, .int .u32 x12f3, .int .u16 x12f4, .int .u16 x12f5, .int .u64 x12f6, .int .u32 x12f7, .int .u8 x12f8, .int .u64 x12f9, .int .u64 x12f10, .slice x12A11 x12b11.length x12c11] rfl rfl rfl rfl rfl rfl (by simp [Value.oneCell']) (Nat.le_of_ble_eq_true rfl) rfl rfl rfl ?_; clear hS; intro w16 hS
       refine wpList_nil ?_
       replace hA := hA.sel [5, 6, 7, 9, 34, 35, 36] (e' := [(5, .pointer (some ⟨bb3, 0, none⟩)), (6, .int .i64 ((n : Nat) : Int)), (7, .slice (some ⟨b6, 0, none⟩) 2 2), (9, .pointer (some ⟨b14, 0, none⟩)), (34, .slice (some ⟨b10, o11, none⟩) l.length c), (35, .int .i64 ((l.length : Nat) : Int)), (36, .int .i64 ((k : Nat) : Int))]) rfl
       refine xt_norm ?_
       refine wp_seq ?_
       refine wp_region_lit ?_
       refine st_run tbOk 1 hA (e' := (40, .pointer (some ⟨b14, 0, none⟩)) :: _) rfl ?_; clear hA; intro a hA
       refine st_val hA rfl rfl (by decide) (rn_load tbOk hA rfl rfl rfl rfl (cell_row (hS.heapAt 0 rfl) rfl)) ?_; clear hA; intro a hA
       refine st_run tbOk 1 hA (e' := (42, .int .u8 (IntKind.u8.wrap (x12f0.tdiv 4))) :: _) rfl ?_; clear hA; intro a hA
       refine st_run tbOk 1 hA (e' := (43, .int .u8 ((IntKind.u8.wrap (x12f0.tdiv 4)).tmod 2)) :: _) rfl ?_; clear hA; intro a hA
       replace hA := hA.rw 43 (v' := .int .u8 ((kd : Nat) : Int)) rfl (by rw [hkd, wrap_u8_id (by omega) (by omega)])
       refine st_run tbOk 1 hA (e' := (44, .int .i64 (IntKind.i64.wrap ((kd : Nat) : Int))) :: _) rfl ?_; clear hA; intro a hA
       replace hA := hA.rw 44 (v' := .int .i64 ((kd : Nat) : Int)) rfl (wr64 (by rfl) (by omega) (by omega))
       refine st_run tbOk 1 hA (e' := (10, .int .i64 ((kd : Nat) : Int)) :: _) rfl ?_; clear hA; intro a hA
       refine wpList_nil ?_
       replace hA := hA.sel [5, 6, 7, 9, 10, 34, 35, 36] (e' := [(5, .pointer (some ⟨bb3, 0, none⟩)), (6, .int .i64 ((n : Nat) : Int)), (7, .slice (some ⟨b6, 0, none⟩) 2 2), (9, .pointer (some ⟨b14, 0, none⟩)), (10, .int .i64 ((kd : Nat) : Int)), (34, .slice (some ⟨b10, o11, none⟩) l.length c), (35, .int .i64 ((l.length : Nat) : Int)), (36, .int .i64 ((k : Nat) : Int))]) rfl
       refine xt_norm ?_
       refine wp_seq ?_
       refine wp_seq ?_
       refine wp_region_lit ?_
       refine st_run tbOk 1 hA (e' := (45, .pointer (some ⟨b14, 0, none⟩)) :: _) rfl ?_; clear hA; intro a hA
       refine st_val hA rfl rfl (by decide) (rn_load tbOk hA rfl rfl rfl rfl (cell_row (hS.heapAt 0 rfl) rfl)) ?_; clear hA; intro a hA
       refine st_run tbOk 1 hA (e' := (47, .int .u8 (x12f0.tmod 4)) :: _) rfl ?_; clear hA; intro a hA
       refine wpList_nil ?_
       replace hA := hA.sel [5, 6, 7, 9, 10, 34, 35, 36, 47] (e' := [(5, .pointer (some ⟨bb3, 0, none⟩)), (6, .int .i64 ((n : Nat) : Int)), (7, .slice (some ⟨b6, 0, none⟩) 2 2), (9, .pointer (some ⟨b14, 0, none⟩)), (10, .int .i64 ((kd : Nat) : Int)), (34, .slice (some ⟨b10, o11, none⟩) l.length c), (35, .int .i64 ((l.length : Nat) : Int)), (36, .int .i64 ((k : Nat) : Int)), (47, .int .u8 (x12f0.tmod 4))]) rfl
       refine xt_norm ?_
       refine wp_block ?_
       refine wp_seq_join (fun a w => ∃ (t9 : Bool), Has a 199 [(5, .pointer (some ⟨bb3, 0, none⟩)), (6, .int .i64 ((n : Nat) : Int)), (7, .slice (some ⟨b6, 0, none⟩) 2 2), (9, .pointer (some ⟨b14, 0, none⟩)), (10, .int .i64 ((kd : Nat) : Int)), (34, .slice (some ⟨b10, o11, none⟩) l.length c), (35, .int .i64 ((l.length : Nat) : Int)), (36, .int .i64 ((k : Nat) : Int)), (47, .int .u8 op), (99, .bool t9)] ∧ St w0 w ([(b14, rowO [.int .u8 x12f0, .int .u64 x12f1, .int .u64 x12f2, .int .u32 x12f3, .int .u16 x12f4, .int .u16 x12f5, .int .u64 x12f6, .int .u32 x12f7, .int .u8 x12f8, .int .u64 x12f9, .int .u64 x12f10, .slice x12A11 x12b11.length x12c11] 52)] :: L :: D :: C0 :: C1 :: [(b6, rowO [.slice A0 l0.length c0, .slice A1 l1.length c1] 44)] :: F)) ?_ ?_
       · refine wp_seq ?_
         refine wp_region_lit ?_
         replace hA := hA.rw 47 (v' := .int .u8 op) rfl (by rw [hop])
         refine st_run tbOk 2 hA (e' := (99, .bool (op == 0)) :: (100, .bool (op == 0)) :: _) rfl ?_; clear hA; intro a hA
         refine wpList_nil ?_
         replace hA := hA.sel [5, 6, 7, 9, 10, 34, 35, 36, 47, 99] (e' := [(5, .pointer (some ⟨bb3, 0, none⟩)), (6, .int .i64 ((n : Nat) : Int)), (7, .slice (some ⟨b6, 0, none⟩) 2 2), (9, .pointer (some ⟨b14, 0, none⟩)), (10, .int .i64 ((kd : Nat) : Int)), (34, .slice (some ⟨b10, o11, none⟩) l.length c), (35, .int .i64 ((l.length : Nat) : Int)), (36, .int .i64 ((k : Nat) : Int)), (47, .int .u8 op), (99, .bool (op == 0))]) rfl
         refine xt_norm ?_
         by_cases hc17 : op = 0
         · first
           | (exfalso; omega)
           | (replace hA := hA.rw 99 (v' := .bool true) rfl (vb_eq_t hc17)
              refine cd_cond_t hA rfl ?_
              refine wp_skip ?_
              refine xt_norm ?_
              exact ⟨true, (hA.sel [5, 6, 7, 9, 10, 34, 35, 36, 47, 99] rfl), hS⟩)
         · first
           | (exfalso; omega)
           | (replace hA := hA.rw 99 (v' := .bool false) rfl (vb_eq_f hc17)
              refine cd_cond_f hA rfl ?_
              refine wp_region_lit ?_
              refine st_run tbOk 2 hA (e' := (99, .bool (op == 1)) :: (101, .bool (op == 1)) :: _) rfl ?_; clear hA; intro a hA
              refine wpList_nil ?_
              replace hA := hA.sel [5, 6, 7, 9, 10, 34, 35, 36, 47, 99] (e' := [(5, .pointer (some ⟨bb3, 0, none⟩)), (6, .int .i64 ((n : Nat) : Int)), (7, .slice (some ⟨b6, 0, none⟩) 2 2), (9, .pointer (some ⟨b14, 0, none⟩)), (10, .int .i64 ((kd : Nat) : Int)), (34, .slice (some ⟨b10, o11, none⟩) l.length c), (35, .int .i64 ((l.length : Nat) : Int)), (36, .int .i64 ((k : Nat) : Int)), (47, .int .u8 op), (99, .bool (op == 1))]) rfl
              refine xt_norm ?_
              exact ⟨(op == 1), (hA.sel [5, 6, 7, 9, 10, 34, 35, 36, 47, 99] rfl), hS⟩)
       · clear hA hS; rintro a w18 ⟨t9, hA, hS⟩
         by_cases hc19 : t9 = true
         · first
           | (exfalso; omega)
           | (replace hA := hA.rw 99 (v' := .bool true) rfl (vb_t hc19)
              refine cd_cond_t hA rfl ?_
              refine wp_seq ?_
              refine wp_region_lit ?_
              rcases hkd2 with h9 | h9
              · replace hA := hA.rw 10 (v' := .int .i64 0) rfl (vint (by omega))
                refine st_run tbOk 2 hA (e' := (103, .pointer (some ⟨b14, 1, none⟩)) :: (102, .pointer (some ⟨bb3, 0, none⟩)) :: _) rfl ?_; clear hA; intro a hA
                refine st_val hA rfl rfl (by decide) (rn_loadA tbOk hA [.int .u64 x12f1, .int .u64 x12f2, .int .u32 x12f3, .int .u16 x12f4, .int .u16 x12f5, .int .u64 x12f6, .int .u32 x12f7, .int .u8 x12f8, .int .u64 x12f9, .int .u64 x12f10, .slice x12A11 x12b11.length x12c11] rfl rfl rfl rfl rfl (cells_row (hS.heapAt 0 rfl) rfl)) ?_; clear hA; intro a hA
                refine st_run tbOk 2 hA (e' := (106, .bool true) :: (105, .int .i64 0) :: _) rfl ?_; clear hA; intro a hA
                rcases Nat.lt_or_ge l0.length n with hr9 | hr9
                · replace hS := hS.front 2 (C := D) (L' := [(b14, rowO [.int .u8 x12f0, .int .u64 x12f1, .int .u64 x12f2, .int .u32 x12f3, .int .u16 x12f4, .int .u16 x12f5, .int .u64 x12f6, .int .u32 x12f7, .int .u8 x12f8, .int .u64 x12f9, .int .u64 x12f10, .slice x12A11 x12b11.length x12c11] 52)] :: L :: C0 :: C1 :: [(b6, rowO [.slice A0 l0.length c0, .slice A1 l1.length c1] 44)] :: F) rfl rfl
                  replace hS := hS.front 2 (C := L) (L' := D :: [(b14, rowO [.int .u8 x12f0, .int .u64 x12f1, .int .u64 x12f2, .int .u32 x12f3, .int .u16 x12f4, .int .u16 x12f5, .int .u64 x12f6, .int .u32 x12f7, .int .u8 x12f8, .int .u64 x12f9, .int .u64 x12f10, .slice x12A11 x12b11.length x12c11] 52)] :: C0 :: C1 :: [(b6, rowO [.slice A0 l0.length c0, .slice A1 l1.length c1] 44)] :: F) rfl rfl
                  refine st_call0 hA rfl rfl rfl isfn9 rfl rfl (by decide) (put_u_room9 hS hM x12f1 x12f2 x12f3 x12f4 x12f5 x12f6 x12f7 x12f8 x12f9 x12f10 (bs := x12b11) (fun w' h => (hd13 _ (h.only 0 rfl))) (by first | omega | exact Nat.le_of_ble_eq_true rfl) (by first | omega | (simp; omega))) ?_
                  clear hA hS; rintro _ w20 a ⟨L21, E23, A24, c25, hM22, hE26, rfl, hS⟩ hA
                  refine st_run tbOk 1 hA (e' := (11, .nilIface) :: _) rfl ?_; clear hA; intro a hA
                  refine wpList_nil ?_
                  replace hA := hA.sel [5, 6, 7, 9, 10, 11, 34, 35, 36] (e' := [(5, .pointer (some ⟨bb3, 0, none⟩)), (6, .int .i64 ((n : Nat) : Int)), (7, .slice (some ⟨b6, 0, none⟩) 2 2), (9, .pointer (some ⟨b14, 0, none⟩)), (10, .int .i64 0), (11, .nilIface), (34, .slice (some ⟨b10, o11, none⟩) l.length c), (35, .int .i64 ((l.length : Nat) : Int)), (36, .int .i64 ((k : Nat) : Int))]) rfl
                  refine xt_norm ?_
                  refine wp_seq ?_
                  refine wp_seq ?_
                  refine wp_region_lit ?_
                  refine st_run tbOk 2 hA (e' := (109, .int .i64 0) :: (108, .slice (some ⟨b6, 0, none⟩) 2 2) :: _) rfl ?_; clear hA; intro a hA
                  refine st_val hA rfl rfl (by decide) (rn_indexAddr tbOk hA 0 0 rfl rfl rfl rfl rfl rfl (by rfl) (by omega) (by first | rfl | simp [Nat.mul_one, Nat.zero_add] | omega)) ?_; clear hA; intro a hA
                  refine st_val hA rfl rfl (by decide) (rn_load tbOk hA rfl rfl rfl rfl (cell_row (hS.heapAt 5 rfl) rfl)) ?_; clear hA; intro a hA
                  refine st_run tbOk 3 hA (e' := (114, .bool (decide (((l0.length : Nat) : Int) ≥ ((n : Nat) : Int)))) :: (113, .int .i64 ((n : Nat) : Int)) :: (112, .int .i64 ((l0.length : Nat) : Int)) :: _) rfl ?_; clear hA; intro a hA
                  refine wpList_nil ?_
                  replace hA := hA.sel [5, 6, 7, 9, 10, 11, 34, 35, 36, 114] (e' := [(5, .pointer (some ⟨bb3, 0, none⟩)), (6, .int .i64 ((n : Nat) : Int)), (7, .slice (some ⟨b6, 0, none⟩) 2 2), (9, .pointer (some ⟨b14, 0, none⟩)), (10, .int .i64 0), (11, .nilIface), (34, .slice (some ⟨b10, o11, none⟩) l.length c), (35, .int .i64 ((l.length : Nat) : Int)), (36, .int .i64 ((k : Nat) : Int)), (114, .bool (decide (((l0.length : Nat) : Int) ≥ ((n : Nat) : Int))))]) rfl
                  refine xt_norm ?_
                  have hc27 : ¬ (((l0.length : Nat) : Int) ≥ ((n : Nat) : Int)) := by omega
                  replace hA := hA.rw 114 (v' := .bool false) rfl (vb_false hc27)
                  refine cd_cond_f hA rfl ?_
                  refine wp_skip ?_
                  refine xt_norm ?_
                  refine wp_seq ?_
                  replace hS := hS.front 3 (C := C0) (L' := L21 :: (E23 ++ D) :: [(b14, rowO [.int .u8 x12f0, .int .u64 x12f1, .int .u64 x12f2, .int .u32 x12f3, .int .u16 x12f4, .int .u16 x12f5, .int .u64 x12f6, .int .u32 x12f7, .int .u8 x12f8, .int .u64 x12f9, .int .u64 x12f10, .slice x12A11 x12b11.length x12c11] 52)] :: C1 :: [(b6, rowO [.slice A0 l0.length c0, .slice A1 l1.length c1] 44)] :: F) rfl rfl
                  refine wp_draw (fun w' => St w0 w' (L21 :: (E23 ++ D) :: [(b14, rowO [.int .u8 x12f0, .int .u64 x12f1, .int .u64 x12f2, .int .u32 x12f3, .int .u16 x12f4, .int .u16 x12f5, .int .u64 x12f6, .int .u32 x12f7, .int .u8 x12f8, .int .u64 x12f9, .int .u64 x12f10, .slice x12A11 x12b11.length x12c11] 52)] :: C1 :: [(b6, rowO [.slice A0 l0.length c0, .slice A1 l1.length c1] 44)] :: F)) [11] [(0, true), (1, true), (2, true), (3, true), (4, true), (5, true), (6, true), (7, true), (8, false), (9, false), (10, true), (11, false)] mixed (by kernel_rfl) (by rintro c a w ⟨_, _, h, _⟩; cases h) (by rfl) (by kernel_rfl) ?_
                  replace hS := hS.drew
                  refine dr_run tbOk 4 hA (hS.tail 1 rfl) (e' := (121, .int .i64 0) :: (120, .slice (some ⟨b6, 0, none⟩) 2 2) :: (119, .int .i64 0) :: (118, .slice (some ⟨b6, 0, none⟩) 2 2) :: _) rfl ?_; clear hA; intro a hA
                  refine dr_y hA rfl rfl rfl (by decide) (hS.tail 1 rfl) (fun w' hS' => rn_indexAddr tbOk hA 0 0 rfl rfl rfl rfl rfl rfl (by rfl) (by omega) (by first | rfl | simp [Nat.mul_one, Nat.zero_add] | omega)) ?_; clear hA; intro a hA
                  refine dr_y hA rfl rfl rfl (by decide) (hS.tail 1 rfl) (fun w' hS' => rn_load tbOk hA rfl rfl rfl rfl (cell_row (hS'.heapAt 4 rfl) rfl)) ?_; clear hA; intro a hA
                  refine dr_run tbOk 1 hA (hS.tail 1 rfl) (e' := (124, .pointer (some ⟨b14, 1, none⟩)) :: _) rfl ?_; clear hA; intro a hA
                  refine dr_y hA rfl rfl rfl (by decide) (hS.tail 1 rfl) (fun w' hS' => rn_loadA tbOk hA [.int .u64 x12f1, .int .u64 x12f2, .int .u32 x12f3, .int .u16 x12f4, .int .u16 x12f5, .int .u64 x12f6, .int .u32 x12f7, .int .u8 x12f8, .int .u64 x12f9, .int .u64 x12f10, .slice x12A11 x12b11.length x12c11] rfl rfl rfl rfl rfl (cells_row (hS'.heapAt 2 rfl) rfl)) ?_; clear hA; intro a hA
                  refine dr_b (o := _) rfl ?_
                  refine st_buildSlice tbOk hA hS [.int .u64 x12f1, .int .u64 x12f2, .int .u32 x12f3, .int .u16 x12f4, .int .u16 x12f5, .int .u64 x12f6, .int .u32 x12f7, .int .u8 x12f8, .int .u64 x12f9, .int .u64 x12f10, .slice x12A11 x12b11.length x12c11] rfl rfl rfl rfl rfl (by decide) (by kernel_rfl) rfl rfl (by decide) ?_; clear hA hS; intro b28 w29 a hS hA
                  refine dr_nil (.inr (hS.tail 2 rfl)) ?_
                  refine dr_b (o := _) rfl ?_
                  replace hS := hS.front 1 (C := C0) (L' := [(b28, rowO [.int .u64 x12f1, .int .u64 x12f2, .int .u32 x12f3, .int .u16 x12f4, .int .u16 x12f5, .int .u64 x12f6, .int .u32 x12f7, .int .u8 x12f8, .int .u64 x12f9, .int .u64 x12f10, .slice x12A11 x12b11.length x12c11] 37)] :: L21 :: (E23 ++ D) :: [(b14, rowO [.int .u8 x12f0, .int .u64 x12f1, .int .u64 x12f2, .int .u32 x12f3, .int .u16 x12f4, .int .u16 x12f5, .int .u64 x12f6, .int .u32 x12f7, .int .u8 x12f8, .int .u64 x12f9, .int .u64 x12f10, .slice x12A11 x12b11.length x12c11] 52)] :: C1 :: [(b6, rowO [.slice A0 l0.length c0, .slice A1 l1.length c1] 44)] :: F) rfl rfl
                  refine st_append tbOk hA (m := l0.length) (q := 1) (xs := rows encMessage l0) (news := rows encMessage ([(x12f1, x12f2, x12f3, x12f4, x12f5, x12f6, x12f7, x12f8, x12f9, x12f10, x12A11, x12c11, x12b11)] : List (Int × Int × Int × Int × Int × Int × Int × Int × Int × Int × Option Addr × Nat × List UInt8))) rfl rfl rfl rfl rfl rfl rfl rfl (by decide) hR0 hS (((Own.full (T := 37) (size := 11) (g := b28) (m := 1) rfl (by decide)).rd (hS.own_ 1 rfl)).x) (rows_one encMessage_ok _) (maxLen_le (by first | omega | (simp; omega))) (by show (l0.length + 1) * 80 ≤ 140737488355328; first | omega | (simp; omega)) rfl rfl (by decide) ?_
                  clear hA hS; intro v30 w31 C32 a hO32 hS hA
                  replace hO32 := Own.app (l := l0) (l2 := ([(x12f1, x12f2, x12f3, x12f4, x12f5, x12f6, x12f7, x12f8, x12f9, x12f10, x12A11, x12c11, x12b11)] : List (Int × Int × Int × Int × Int × Int × Int × Int × Int × Int × Option Addr × Nat × List UInt8))) hO32
                  obtain ⟨A33, c34, rfl, hmc34, hxc34⟩ := hO32.open'
                  refine dr_nil (.inr (hS.tail 2 rfl)) ?_
                  refine dr_y hA rfl rfl rfl (by decide) (hS.tail 2 rfl) (fun w' hS' => rn_indexAddr tbOk hA 0 0 rfl rfl rfl rfl rfl rfl (by rfl) (by omega) (by first | rfl | simp [Nat.mul_one, Nat.zero_add] | omega)) ?_; clear hA; intro a hA
                  refine dr_b (o := _) rfl ?_
                  replace hS := hS.front 6 (C := [(b6, rowO [.slice A0 l0.length c0, .slice A1 l1.length c1] 44)]) (L' := C32 :: [(b28, rowO [.int .u64 x12f1, .int .u64 x12f2, .int .u32 x12f3, .int .u16 x12f4, .int .u16 x12f5, .int .u64 x12f6, .int .u32 x12f7, .int .u8 x12f8, .int .u64 x12f9, .int .u64 x12f10, .slice x12A11 x12b11.length x12c11] 37)] :: L21 :: (E23 ++ D) :: [(b14, rowO [.int .u8 x12f0, .int .u64 x12f1, .int .u64 x12f2, .int .u32 x12f3, .int .u16 x12f4, .int .u16 x12f5, .int .u64 x12f6, .int .u32 x12f7, .int .u8 x12f8, .int .u64 x12f9, .int .u64 x12f10, .slice x12A11 x12b11.length x12c11] 52)] :: C1 :: F) rfl rfl
                  refine st_store tbOk hA hS [.slice A33 ((l0 ++ ([(x12f1, x12f2, x12f3, x12f4, x12f5, x12f6, x12f7, x12f8, x12f9, x12f10, x12A11, x12c11, x12b11)] : List (Int × Int × Int × Int × Int × Int × Int × Int × Int × Int × Option Addr × Nat × List UInt8))).length) c34] [.slice A33 ((l0 ++ ([(x12f1, x12f2, x12f3, x12f4, x12f5, x12f6, x12f7, x12f8, x12f9, x12f10, x12A11, x12c11, x12b11)] : List (Int × Int × Int × Int × Int × Int × Int × Int × Int × Int × Option Addr × Nat × List UInt8))).length) c34, .slice A1 l1.length c1] rfl rfl rfl rfl rfl rfl (by intro u hu; rw [List.mem_singleton.1 hu]; rfl) (Nat.le_of_ble_eq_true rfl) rfl rfl rfl ?_; clear hS; intro w35 hS
                  refine dr_nil (.inl (by decide)) ?_
                  refine dr_end ?_
                  replace hA := hA.sel [5, 6, 7, 11, 34, 35, 36] (e' := [(5, .pointer (some ⟨bb3, 0, none⟩)), (6, .int .i64 ((n : Nat) : Int)), (7, .slice (some ⟨b6, 0, none⟩) 2 2), (11, .nilIface), (34, .slice (some ⟨b10, o11, none⟩) l.length c), (35, .int .i64 ((l.length : Nat) : Int)), (36, .int .i64 ((k : Nat) : Int))]) rfl
                  refine xt_norm ?_
                  refine wp_seq ?_
                  refine wp_region_lit ?_
                  refine st_run tbOk 2 hA (e' := (130, .bool false) :: (129, .nilIface) :: _) rfl ?_; clear hA; intro a hA
                  refine wpList_nil ?_
                  replace hA := hA.sel [5, 6, 7, 34, 35, 36, 130] (e' := [(5, .pointer (some ⟨bb3, 0, none⟩)), (6, .int .i64 ((n : Nat) : Int)), (7, .slice (some ⟨b6, 0, none⟩) 2 2), (34, .slice (some ⟨b10, o11, none⟩) l.length c), (35, .int .i64 ((l.length : Nat) : Int)), (36, .int .i64 ((k : Nat) : Int)), (130, .bool false)]) rfl
                  refine xt_norm ?_
                  refine cd_cond_f hA rfl ?_
                  refine wp_skip ?_
                  refine xb_norm ?_
                  refine xt_norm ?_
                  refine wp_seq ?_
                  refine wp_region_lit ?_
                  refine st_run tbOk 1 hA (e' := (180, .pointer (some ⟨bb3, 0, none⟩)) :: _) rfl ?_; clear hA; intro a hA
                  replace hS := hS.front 3 (C := L21) (L' := [(b6, rowO [.slice A33 ((l0 ++ ([(x12f1, x12f2, x12f3, x12f4, x12f5, x12f6, x12f7, x12f8, x12f9, x12f10, x12A11, x12c11, x12b11)] : List (Int × Int × Int × Int × Int × Int × Int × Int × Int × Int × Option Addr × Nat × List UInt8))).length) c34, .slice A1 l1.length c1] 44)] :: C32 :: [(b28, rowO [.int .u64 x12f1, .int .u64 x12f2, .int .u32 x12f3, .int .u16 x12f4, .int .u16 x12f5, .int .u64 x12f6, .int .u32 x12f7, .int .u8 x12f8, .int .u64 x12f9, .int .u64 x12f10, .slice x12A11 x12b11.length x12c11] 37)] :: (E23 ++ D) :: [(b14, rowO [.int .u8 x12f0, .int .u64 x12f1, .int .u64 x12f2, .int .u32 x12f3, .int .u16 x12f4, .int .u16 x12f5, .int .u64 x12f6, .int .u32 x12f7, .int .u8 x12f8, .int .u64 x12f9, .int .u64 x12f10, .slice x12A11 x12b11.length x12c11] 52)] :: C1 :: F) rfl rfl
                  refine st_call0 hA rfl rfl rfl isfn16 rfl rfl (by decide) (len16 hS hM22) ?_; clear hA hS; rintro _ w36 a ⟨L37, hM38, rfl, hS⟩ hA
                  refine st_run tbOk 5 hA (e' := (23, .int .i64 ((ps.length : Nat) : Int)) :: (22, .int .i64 (((us ++ [(x12f1, x12f2, x12f3, x12f4, x12f5, x12f6, x12f7, x12f8, x12f9, x12f10, A24, c25, x12b11)]).length : Nat) : Int)) :: (183, .int .i64 ((ps.length : Nat) : Int)) :: (182, .int .i64 (((us ++ [(x12f1, x12f2, x12f3, x12f4, x12f5, x12f6, x12f7, x12f8, x12f9, x12f10, A24, c25, x12b11)]).length : Nat) : Int)) :: (179, .tuple #[.int .i64 (((us ++ [(x12f1, x12f2, x12f3, x12f4, x12f5, x12f6, x12f7, x12f8, x12f9, x12f10, A24, c25, x12b11)]).length : Nat) : Int), .int .i64 ((ps.length : Nat) : Int)]) :: _) rfl ?_; clear hA; intro a hA
                  refine wpList_nil ?_
                  replace hA := hA.sel [5, 6, 7, 22, 23, 34, 35, 36] (e' := [(5, .pointer (some ⟨bb3, 0, none⟩)), (6, .int .i64 ((n : Nat) : Int)), (7, .slice (some ⟨b6, 0, none⟩) 2 2), (22, .int .i64 (((us ++ [(x12f1, x12f2, x12f3, x12f4, x12f5, x12f6, x12f7, x12f8, x12f9, x12f10, A24, c25, x12b11)]).length : Nat) : Int)), (23, .int .i64 ((ps.length : Nat) : Int)), (34, .slice (some ⟨b10, o11, none⟩) l.length c), (35, .int .i64 ((l.length : Nat) : Int)), (36, .int .i64 ((k : Nat) : Int))]) rfl
                  refine xt_norm ?_
                  refine wp_seq ?_
                  refine wp_region_lit ?_
                  have hq0 : (us ++ [(x12f1, x12f2, x12f3, x12f4, x12f5, x12f6, x12f7, x12f8, x12f9, x12f10, A24, c25, x12b11)]).length = (l0 ++ ([(x12f1, x12f2, x12f3, x12f4, x12f5, x12f6, x12f7, x12f8, x12f9, x12f10, x12A11, x12c11, x12b11)] : List (Int × Int × Int × Int × Int × Int × Int × Int × Int × Int × Option Addr × Nat × List UInt8))).length := len_of (app_mst he0 (u2 := [(x12f1, x12f2, x12f3, x12f4, x12f5, x12f6, x12f7, x12f8, x12f9, x12f10, A24, c25, x12b11)]) (l2 := [(x12f1, x12f2, x12f3, x12f4, x12f5, x12f6, x12f7, x12f8, x12f9, x12f10, x12A11, x12c11, x12b11)]) rfl); have hq1 : ps.length = l1.length := len_of he1
                  refine st_run tbOk 2 hA (e' := (185, .slice (some ⟨b6, 0, none⟩) 2 2) :: (184, .int .i64 (((us ++ [(x12f1, x12f2, x12f3, x12f4, x12f5, x12f6, x12f7, x12f8, x12f9, x12f10, A24, c25, x12b11)]).length : Nat) : Int)) :: _) rfl ?_; clear hA; intro a hA
                  refine st_val hA rfl rfl (by decide) (rn_indexAddr tbOk hA 0 0 rfl rfl rfl rfl rfl rfl (by rfl) (by omega) (by first | rfl | simp [Nat.mul_one, Nat.zero_add] | omega)) ?_; clear hA; intro a hA
                  refine st_val hA rfl rfl (by decide) (rn_load tbOk hA rfl rfl rfl rfl (cell_row (hS.heapAt 1 rfl) rfl)) ?_; clear hA; intro a hA
                  refine st_run tbOk 3 hA (e' := (190, .bool ((((us ++ [(x12f1, x12f2, x12f3, x12f4, x12f5, x12f6, x12f7, x12f8, x12f9, x12f10, A24, c25, x12b11)]).length : Nat) : Int) != (((l0 ++ ([(x12f1, x12f2, x12f3, x12f4, x12f5, x12f6, x12f7, x12f8, x12f9, x12f10, x12A11, x12c11, x12b11)] : List (Int × Int × Int × Int × Int × Int × Int × Int × Int × Int × Option Addr × Nat × List UInt8))).length : Nat) : Int))) :: (189, .bool ((((us ++ [(x12f1, x12f2, x12f3, x12f4, x12f5, x12f6, x12f7, x12f8, x12f9, x12f10, A24, c25, x12b11)]).length : Nat) : Int) != (((l0 ++ ([(x12f1, x12f2, x12f3, x12f4, x12f5, x12f6, x12f7, x12f8, x12f9, x12f10, x12A11, x12c11, x12b11)] : List (Int × Int × Int × Int × Int × Int × Int × Int × Int × Int × Option Addr × Nat × List UInt8))).length : Nat) : Int))) :: (188, .int .i64 (((l0 ++ ([(x12f1, x12f2, x12f3, x12f4, x12f5, x12f6, x12f7, x12f8, x12f9, x12f10, x12A11, x12c11, x12b11)] : List (Int × Int × Int × Int × Int × Int × Int × Int × Int × Int × Option Addr × Nat × List UInt8))).length : Nat) : Int)) :: _) rfl ?_; clear hA; intro a hA
                  have hc39 : (((us ++ [(x12f1, x12f2, x12f3, x12f4, x12f5, x12f6, x12f7, x12f8, x12f9, x12f10, A24, c25, x12b11)]).length : Nat) : Int) = (((l0 ++ ([(x12f1, x12f2, x12f3, x12f4, x12f5, x12f6, x12f7, x12f8, x12f9, x12f10, x12A11, x12c11, x12b11)] : List (Int × Int × Int × Int × Int × Int × Int × Int × Int × Int × Option Addr × Nat × List UInt8))).length : Nat) : Int) := by omega
                  replace hA := hA.rw 189 (v' := .bool false) rfl (vb_ne_f hc39)
                  replace hA := hA.rw 190 (v' := .bool false) rfl (vb_ne_f hc39)
                  refine st_run tbOk 2 hA (e' := (192, .slice (some ⟨b6, 0, none⟩) 2 2) :: (191, .int .i64 ((ps.length : Nat) : Int)) :: _) rfl ?_; clear hA; intro a hA
                  refine st_val hA rfl rfl (by decide) (rn_indexAddr tbOk hA 1 1 rfl rfl rfl rfl rfl rfl (by rfl) (by omega) (by first | rfl | simp [Nat.mul_one, Nat.zero_add] | omega)) ?_; clear hA; intro a hA
                  refine st_val hA rfl rfl (by decide) (rn_load tbOk hA rfl rfl rfl rfl (cell_row (hS.heapAt 1 rfl) rfl)) ?_; clear hA; intro a hA
                  refine st_run tbOk 3 hA (e' := (197, .bool (((ps.length : Nat) : Int) != ((l1.length : Nat) : Int))) :: (196, .bool (((ps.length : Nat) : Int) != ((l1.length : Nat) : Int))) :: (195, .int .i64 ((l1.length : Nat) : Int)) :: _) rfl ?_; clear hA; intro a hA
                  refine wpList_nil ?_
                  replace hA := hA.sel [5, 6, 7, 34, 35, 36, 197] (e' := [(5, .pointer (some ⟨bb3, 0, none⟩)), (6, .int .i64 ((n : Nat) : Int)), (7, .slice (some ⟨b6, 0, none⟩) 2 2), (34, .slice (some ⟨b10, o11, none⟩) l.length c), (35, .int .i64 ((l.length : Nat) : Int)), (36, .int .i64 ((k : Nat) : Int)), (197, .bool (((ps.length : Nat) : Int) != ((l1.length : Nat) : Int)))]) rfl
                  refine xt_norm ?_
                  have hc40 : ((ps.length : Nat) : Int) = ((l1.length : Nat) : Int) := by omega
                  replace hA := hA.rw 197 (v' := .bool false) rfl (vb_ne_f hc40)
                  refine cd_cond_f hA rfl ?_
                  refine wp_skip ?_
                  refine xb_norm ?_
                  refine xt_norm ?_
                  refine wp_region_lit ?_
                  refine st_run tbOk 1 hA (e' := (198, .int .i64 (IntKind.i64.wrap (((k : Nat) : Int) + 1))) :: _) rfl ?_; clear hA; intro a hA
                  replace hA := hA.rw 198 (v' := .int .i64 ((k + 1 : Nat) : Int)) rfl (wr64 (by omega) (by omega) (by omega))
                  refine st_run tbOk 1 hA (e' := (36, .int .i64 ((k + 1 : Nat) : Int)) :: _) rfl ?_; clear hA; intro a hA
                  refine wpList_nil ?_
                  replace hA := hA.sel [5, 6, 7, 34, 35, 36] (e' := [(5, .pointer (some ⟨bb3, 0, none⟩)), (6, .int .i64 ((n : Nat) : Int)), (7, .slice (some ⟨b6, 0, none⟩) 2 2), (34, .slice (some ⟨b10, o11, none⟩) l.length c), (35, .int .i64 ((l.length : Nat) : Int)), (36, .int .i64 ((k + 1 : Nat) : Int))]) rfl
                  replace hS := hS.front 5 (C := [(b14, rowO [.int .u8 x12f0, .int .u64 x12f1, .int .u64 x12f2, .int .u32 x12f3, .int .u16 x12f4, .int .u16 x12f5, .int .u64 x12f6, .int .u32 x12f7, .int .u8 x12f8, .int .u64 x12f9, .int .u64 x12f10, .slice x12A11 x12b11.length x12c11] 52)]) (L' := L37 :: [(b6, rowO [.slice A33 ((l0 ++ ([(x12f1, x12f2, x12f3, x12f4, x12f5, x12f6, x12f7, x12f8, x12f9, x12f10, x12A11, x12c11, x12b11)] : List (Int × Int × Int × Int × Int × Int × Int × Int × Int × Int × Option Addr × Nat × List UInt8))).length) c34, .slice A1 l1.length c1] 44)] :: C32 :: [(b28, rowO [.int .u64 x12f1, .int .u64 x12f2, .int .u32 x12f3, .int .u16 x12f4, .int .u16 x12f5, .int .u64 x12f6, .int .u32 x12f7, .int .u8 x12f8, .int .u64 x12f9, .int .u64 x12f10, .slice x12A11 x12b11.length x12c11] 37)] :: (E23 ++ D) :: C1 :: F) rfl rfl
                  replace hS := hS.drop1
                  replace hS := hS.front 3 (C := [(b28, rowO [.int .u64 x12f1, .int .u64 x12f2, .int .u32 x12f3, .int .u16 x12f4, .int .u16 x12f5, .int .u64 x12f6, .int .u32 x12f7, .int .u8 x12f8, .int .u64 x12f9, .int .u64 x12f10, .slice x12A11 x12b11.length x12c11] 37)]) (L' := L37 :: [(b6, rowO [.slice A33 ((l0 ++ ([(x12f1, x12f2, x12f3, x12f4, x12f5, x12f6, x12f7, x12f8, x12f9, x12f10, x12A11, x12c11, x12b11)] : List (Int × Int × Int × Int × Int × Int × Int × Int × Int × Int × Option Addr × Nat × List UInt8))).length) c34, .slice A1 l1.length c1] 44)] :: C32 :: (E23 ++ D) :: C1 :: F) rfl rfl
                  replace hS := hS.drop1
                  replace hS := hS.front 1 (C := [(b6, rowO [.slice A33 ((l0 ++ ([(x12f1, x12f2, x12f3, x12f4, x12f5, x12f6, x12f7, x12f8, x12f9, x12f10, x12A11, x12c11, x12b11)] : List (Int × Int × Int × Int × Int × Int × Int × Int × Int × Int × Option Addr × Nat × List UInt8))).length) c34, .slice A1 l1.length c1] 44)]) (L' := L37 :: C32 :: (E23 ++ D) :: C1 :: F) rfl rfl
                  replace hS := hS.front 4 (C := C1) (L' := [(b6, rowO [.slice A33 ((l0 ++ ([(x12f1, x12f2, x12f3, x12f4, x12f5, x12f6, x12f7, x12f8, x12f9, x12f10, x12A11, x12c11, x12b11)] : List (Int × Int × Int × Int × Int × Int × Int × Int × Int × Int × Option Addr × Nat × List UInt8))).length) c34, .slice A1 l1.length c1] 44)] :: L37 :: C32 :: (E23 ++ D) :: F) rfl rfl
                  replace hS := hS.front 3 (C := C32) (L' := C1 :: [(b6, rowO [.slice A33 ((l0 ++ ([(x12f1, x12f2, x12f3, x12f4, x12f5, x12f6, x12f7, x12f8, x12f9, x12f10, x12A11, x12c11, x12b11)] : List (Int × Int × Int × Int × Int × Int × Int × Int × Int × Int × Option Addr × Nat × List UInt8))).length) c34, .slice A1 l1.length c1] 44)] :: L37 :: (E23 ++ D) :: F) rfl rfl
                  replace hS := hS.front 4 (C := (E23 ++ D)) (L' := C32 :: C1 :: [(b6, rowO [.slice A33 ((l0 ++ ([(x12f1, x12f2, x12f3, x12f4, x12f5, x12f6, x12f7, x12f8, x12f9, x12f10, x12A11, x12c11, x12b11)] : List (Int × Int × Int × Int × Int × Int × Int × Int × Int × Int × Option Addr × Nat × List UInt8))).length) c34, .slice A1 l1.length c1] 44)] :: L37 :: F) rfl rfl
                  replace hS := hS.front 4 (C := L37) (L' := (E23 ++ D) :: C32 :: C1 :: [(b6, rowO [.slice A33 ((l0 ++ ([(x12f1, x12f2, x12f3, x12f4, x12f5, x12f6, x12f7, x12f8, x12f9, x12f10, x12A11, x12c11, x12b11)] : List (Int × Int × Int × Int × Int × Int × Int × Int × Int × Int × Option Addr × Nat × List UInt8))).length) c34, .slice A1 l1.length c1] 44)] :: F) rfl rfl
                  exact lp_next _ (by omega) ⟨(k + 1), (us ++ [(x12f1, x12f2, x12f3, x12f4, x12f5, x12f6, x12f7, x12f8, x12f9, x12f10, A24, c25, x12b11)]), ps, (l0 ++ ([(x12f1, x12f2, x12f3, x12f4, x12f5, x12f6, x12f7, x12f8, x12f9, x12f10, x12A11, x12c11, x12b11)] : List (Int × Int × Int × Int × Int × Int × Int × Int × Int × Int × Option Addr × Nat × List UInt8))), (l1), L37, (E23 ++ D), A33, c34, C32, A1, c1, C1, rfl, (hA.sel [5, 6, 7, 34, 35, 36] rfl), hS, by omega, hM38, hO32, hR1, (dd_snoc (encMessage_lefts hdu) (m := (x12f1, x12f2, x12f3, x12f4, x12f5, x12f6, x12f7, x12f8, x12f9, x12f10, A24, c25, x12b11)) (hE26.right)), (encMessage_lefts hdp), (gd_snoc hl0 (m := (x12f1, x12f2, x12f3, x12f4, x12f5, x12f6, x12f7, x12f8, x12f9, x12f10, x12A11, x12c11, x12b11)) (fun D => DD.of hdl)), hl1, (app_mst he0 (u2 := [(x12f1, x12f2, x12f3, x12f4, x12f5, x12f6, x12f7, x12f8, x12f9, x12f10, A24, c25, x12b11)]) (l2 := [(x12f1, x12f2, x12f3, x12f4, x12f5, x12f6, x12f7, x12f8, x12f9, x12f10, x12A11, x12c11, x12b11)]) rfl), he1, (by rw [List.length_append]; exact hr9), hn1⟩
                · replace hS := hS.front 2 (C := D) (L' := [(b14, rowO [.int .u8 x12f0, .int .u64 x12f1, .int .u64 x12f2, .int .u32 x12f3, .int .u16 x12f4, .int .u16 x12f5, .int .u64 x12f6, .int .u32 x12f7, .int .u8 x12f8, .int .u64 x12f9, .int .u64 x12f10, .slice x12A11 x12b11.length x12c11] 52)] :: L :: C0 :: C1 :: [(b6, rowO [.slice A0 l0.length c0, .slice A1 l1.length c1] 44)] :: F) rfl rfl
                  replace hS := hS.front 2 (C := L) (L' := D :: [(b14, rowO [.int .u8 x12f0, .int .u64 x12f1, .int .u64 x12f2, .int .u32 x12f3, .int .u16 x12f4, .int .u16 x12f5, .int .u64 x12f6, .int .u32 x12f7, .int .u8 x12f8, .int .u64 x12f9, .int .u64 x12f10, .slice x12A11 x12b11.length x12c11] 52)] :: C0 :: C1 :: [(b6, rowO [.slice A0 l0.length c0, .slice A1 l1.length c1] 44)] :: F) rfl rfl
                  refine st_call0 hA rfl rfl rfl isfn9 rfl rfl (by decide) (put_u_full9 hS hM x12f1 x12f2 x12f3 x12f4 x12f5 x12f6 x12f7 x12f8 x12f9 x12f10 (bs := x12b11) (fun w' h => (hd13 _ (h.only 0 rfl))) (by first | omega | exact Nat.le_of_ble_eq_true rfl) (by first | omega | (simp; omega))) ?_
                  clear hA hS; rintro _ w41 a ⟨L42, hM43, rfl, hS⟩ hA
                  refine st_run tbOk 1 hA (e' := (11, .iface 41 (.int .i64 5)) :: _) rfl ?_; clear hA; intro a hA
                  refine wpList_nil ?_
                  replace hA := hA.sel [5, 6, 7, 9, 10, 11, 34, 35, 36] (e' := [(5, .pointer (some ⟨bb3, 0, none⟩)), (6, .int .i64 ((n : Nat) : Int)), (7, .slice (some ⟨b6, 0, none⟩) 2 2), (9, .pointer (some ⟨b14, 0, none⟩)), (10, .int .i64 0), (11, .iface 41 (.int .i64 5)), (34, .slice (some ⟨b10, o11, none⟩) l.length c), (35, .int .i64 ((l.length : Nat) : Int)), (36, .int .i64 ((k : Nat) : Int))]) rfl
                  refine xt_norm ?_
                  refine wp_seq ?_
                  refine wp_seq ?_
                  refine wp_region_lit ?_
                  refine st_run tbOk 2 hA (e' := (109, .int .i64 0) :: (108, .slice (some ⟨b6, 0, none⟩) 2 2) :: _) rfl ?_; clear hA; intro a hA
                  refine st_val hA rfl rfl (by decide) (rn_indexAddr tbOk hA 0 0 rfl rfl rfl rfl rfl rfl (by rfl) (by omega) (by first | rfl | simp [Nat.mul_one, Nat.zero_add] | omega)) ?_; clear hA; intro a hA
                  refine st_val hA rfl rfl (by decide) (rn_load tbOk hA rfl rfl rfl rfl (cell_row (hS.heapAt 5 rfl) rfl)) ?_; clear hA; intro a hA
                  refine st_run tbOk 3 hA (e' := (114, .bool (decide (((l0.length : Nat) : Int) ≥ ((n : Nat) : Int)))) :: (113, .int .i64 ((n : Nat) : Int)) :: (112, .int .i64 ((l0.length : Nat) : Int)) :: _) rfl ?_; clear hA; intro a hA
                  refine wpList_nil ?_
                  replace hA := hA.sel [5, 6, 7, 9, 10, 11, 34, 35, 36, 114] (e' := [(5, .pointer (some ⟨bb3, 0, none⟩)), (6, .int .i64 ((n : Nat) : Int)), (7, .slice (some ⟨b6, 0, none⟩) 2 2), (9, .pointer (some ⟨b14, 0, none⟩)), (10, .int .i64 0), (11, .iface 41 (.int .i64 5)), (34, .slice (some ⟨b10, o11, none⟩) l.length c), (35, .int .i64 ((l.length : Nat) : Int)), (36, .int .i64 ((k : Nat) : Int)), (114, .bool (decide (((l0.length : Nat) : Int) ≥ ((n : Nat) : Int))))]) rfl
                  refine xt_norm ?_
                  have hc44 : ((l0.length : Nat) : Int) ≥ ((n : Nat) : Int) := by omega
                  replace hA := hA.rw 114 (v' := .bool true) rfl (vb_true hc44)
                  refine cd_cond_t hA rfl ?_
                  refine wp_seq ?_
                  refine wp_seq ?_
                  refine wp_region_lit ?_
                  refine st_run tbOk 1 hA (e' := (115, .iface 41 (.int .i64 5)) :: _) rfl ?_; clear hA; intro a hA
                  refine st_call0 hA rfl rfl rfl isfn11 rfl rfl (by decide) (number_hit11 hS hg 5) ?_
                  clear hA hS; rintro v w45 a ⟨rfl, hS⟩ hA
                  refine st_run tbOk 1 hA (e' := (117, .bool false) :: _) rfl ?_; clear hA; intro a hA
                  refine wpList_nil ?_
                  replace hA := hA.sel [5, 6, 7, 34, 35, 36, 117] (e' := [(5, .pointer (some ⟨bb3, 0, none⟩)), (6, .int .i64 ((n : Nat) : Int)), (7, .slice (some ⟨b6, 0, none⟩) 2 2), (34, .slice (some ⟨b10, o11, none⟩) l.length c), (35, .int .i64 ((l.length : Nat) : Int)), (36, .int .i64 ((k : Nat) : Int)), (117, .bool false)]) rfl
                  refine xt_norm ?_
                  refine cd_cond_f hA rfl ?_
                  refine wp_skip ?_
                  refine xt_norm ?_
                  refine wp_exit ?_
                  refine xt_exit ?_
                  refine cd_exit_ne (by decide) ?_
                  refine xt_exit ?_
                  refine cd_exit_eq ?_
                  refine xt_norm ?_
                  refine wp_region_lit ?_
                  refine st_run tbOk 1 hA (e' := (198, .int .i64 (IntKind.i64.wrap (((k : Nat) : Int) + 1))) :: _) rfl ?_; clear hA; intro a hA
                  replace hA := hA.rw 198 (v' := .int .i64 ((k + 1 : Nat) : Int)) rfl (wr64 (by omega) (by omega) (by omega))
                  refine st_run tbOk 1 hA (e' := (36, .int .i64 ((k + 1 : Nat) : Int)) :: _) rfl ?_; clear hA; intro a hA
                  refine wpList_nil ?_
                  replace hA := hA.sel [5, 6, 7, 34, 35, 36] (e' := [(5, .pointer (some ⟨bb3, 0, none⟩)), (6, .int .i64 ((n : Nat) : Int)), (7, .slice (some ⟨b6, 0, none⟩) 2 2), (34, .slice (some ⟨b10, o11, none⟩) l.length c), (35, .int .i64 ((l.length : Nat) : Int)), (36, .int .i64 ((k + 1 : Nat) : Int))]) rfl
                  replace hS := hS.front 2 (C := [(b14, rowO [.int .u8 x12f0, .int .u64 x12f1, .int .u64 x12f2, .int .u32 x12f3, .int .u16 x12f4, .int .u16 x12f5, .int .u64 x12f6, .int .u32 x12f7, .int .u8 x12f8, .int .u64 x12f9, .int .u64 x12f10, .slice x12A11 x12b11.length x12c11] 52)]) (L' := L42 :: D :: C0 :: C1 :: [(b6, rowO [.slice A0 l0.length c0, .slice A1 l1.length c1] 44)] :: F) rfl rfl
                  replace hS := hS.drop1
                  replace hS := hS.front 4 (C := [(b6, rowO [.slice A0 l0.length c0, .slice A1 l1.length c1] 44)]) (L' := L42 :: D :: C0 :: C1 :: F) rfl rfl
                  replace hS := hS.front 4 (C := C1) (L' := [(b6, rowO [.slice A0 l0.length c0, .slice A1 l1.length c1] 44)] :: L42 :: D :: C0 :: F) rfl rfl
                  replace hS := hS.front 4 (C := C0) (L' := C1 :: [(b6, rowO [.slice A0 l0.length c0, .slice A1 l1.length c1] 44)] :: L42 :: D :: F) rfl rfl
                  replace hS := hS.front 4 (C := D) (L' := C0 :: C1 :: [(b6, rowO [.slice A0 l0.length c0, .slice A1 l1.length c1] 44)] :: L42 :: F) rfl rfl
                  replace hS := hS.front 4 (C := L42) (L' := D :: C0 :: C1 :: [(b6, rowO [.slice A0 l0.length c0, .slice A1 l1.length c1] 44)] :: F) rfl rfl
                  exact lp_next _ (by omega) ⟨(k + 1), us, ps, (l0), (l1), L42, D, A0, c0, C0, A1, c1, C1, rfl, (hA.sel [5, 6, 7, 34, 35, 36] rfl), hS, by omega, hM43, hR0, hR1, hdu, hdp, hl0, hl1, he0, he1, hn0, hn1⟩
              · replace hA := hA.rw 10 (v' := .int .i64 1) rfl (vint (by omega))
                refine st_run tbOk 2 hA (e' := (103, .pointer (some ⟨b14, 1, none⟩)) :: (102, .pointer (some ⟨bb3, 0, none⟩)) :: _) rfl ?_; clear hA; intro a hA
                refine st_val hA rfl rfl (by decide) (rn_loadA tbOk hA [.int .u64 x12f1, .int .u64 x12f2, .int .u32 x12f3, .int .u16 x12f4, .int .u16 x12f5, .int .u64 x12f6, .int .u32 x12f7, .int .u8 x12f8, .int .u64 x12f9, .int .u64 x12f10, .slice x12A11 x12b11.length x12c11] rfl rfl rfl rfl rfl (cells_row (hS.heapAt 0 rfl) rfl)) ?_; clear hA; intro a hA
                refine st_run tbOk 2 hA (e' := (106, .bool false) :: (105, .int .i64 1) :: _) rfl ?_; clear hA; intro a hA
                rcases Nat.lt_or_ge l1.length n with hr9 | hr9
                · replace hS := hS.front 2 (C := D) (L' := [(b14, rowO [.int .u8 x12f0, .int .u64 x12f1, .int .u64 x12f2, .int .u32 x12f3, .int .u16 x12f4, .int .u16 x12f5, .int .u64 x12f6, .int .u32 x12f7, .int .u8 x12f8, .int .u64 x12f9, .int .u64 x12f10, .slice x12A11 x12b11.length x12c11] 52)] :: L :: C0 :: C1 :: [(b6, rowO [.slice A0 l0.length c0, .slice A1 l1.length c1] 44)] :: F) rfl rfl
                  replace hS := hS.front 2 (C := L) (L' := D :: [(b14, rowO [.int .u8 x12f0, .int .u64 x12f1, .int .u64 x12f2, .int .u32 x12f3, .int .u16 x12f4, .int .u16 x12f5, .int .u64 x12f6, .int .u32 x12f7, .int .u8 x12f8, .int .u64 x12f9, .int .u64 x12f10, .slice x12A11 x12b11.length x12c11] 52)] :: C0 :: C1 :: [(b6, rowO [.slice A0 l0.length c0, .slice A1 l1.length c1] 44)] :: F) rfl rfl
                  refine st_call0 hA rfl rfl rfl isfn9 rfl rfl (by decide) (put_p_room9 hS hM x12f1 x12f2 x12f3 x12f4 x12f5 x12f6 x12f7 x12f8 x12f9 x12f10 (bs := x12b11) (fun w' h => (hd13 _ (h.only 0 rfl))) (by first | omega | exact Nat.le_of_ble_eq_true rfl) (by first | omega | (simp; omega))) ?_
                  clear hA hS; rintro _ w46 a ⟨L47, E49, A50, c51, hM48, hE52, rfl, hS⟩ hA
                  refine st_run tbOk 1 hA (e' := (11, .nilIface) :: _) rfl ?_; clear hA; intro a hA
                  refine wpList_nil ?_
                  replace hA := hA.sel [5, 6, 7, 9, 10, 11, 34, 35, 36] (e' := [(5, .pointer (some ⟨bb3, 0, none⟩)), (6, .int .i64 ((n : Nat) : Int)), (7, .slice (some ⟨b6, 0, none⟩) 2 2), (9, .pointer (some ⟨b14, 0, none⟩)), (10, .int .i64 1), (11, .nilIface), (34, .slice (some ⟨b10, o11, none⟩) l.length c), (35, .int .i64 ((l.length : Nat) : Int)), (36, .int .i64 ((k : Nat) : Int))]) rfl
                  refine xt_norm ?_
                  refine wp_seq ?_
                  refine wp_seq ?_
                  refine wp_region_lit ?_
                  refine st_run tbOk 2 hA (e' := (109, .int .i64 1) :: (108, .slice (some ⟨b6, 0, none⟩) 2 2) :: _) rfl ?_; clear hA; intro a hA
                  refine st_val hA rfl rfl (by decide) (rn_indexAddr tbOk hA 1 1 rfl rfl rfl rfl rfl rfl (by rfl) (by omega) (by first | rfl | simp [Nat.mul_one, Nat.zero_add] | omega)) ?_; clear hA; intro a hA
                  refine st_val hA rfl rfl (by decide) (rn_load tbOk hA rfl rfl rfl rfl (cell_row (hS.heapAt 5 rfl) rfl)) ?_; clear hA; intro a hA
                  refine st_run tbOk 3 hA (e' := (114, .bool (decide (((l1.length : Nat) : Int) ≥ ((n : Nat) : Int)))) :: (113, .int .i64 ((n : Nat) : Int)) :: (112, .int .i64 ((l1.length : Nat) : Int)) :: _) rfl ?_; clear hA; intro a hA
                  refine wpList_nil ?_
                  replace hA := hA.sel [5, 6, 7, 9, 10, 11, 34, 35, 36, 114] (e' := [(5, .pointer (some ⟨bb3, 0, none⟩)), (6, .int .i64 ((n : Nat) : Int)), (7, .slice (some ⟨b6, 0, none⟩) 2 2), (9, .pointer (some ⟨b14, 0, none⟩)), (10, .int .i64 1), (11, .nilIface), (34, .slice (some ⟨b10, o11, none⟩) l.length c), (35, .int .i64 ((l.length : Nat) : Int)), (36, .int .i64 ((k : Nat) : Int)), (114, .bool (decide (((l1.length : Nat) : Int) ≥ ((n : Nat) : Int))))]) rfl
                  refine xt_norm ?_
                  have hc53 : ¬ (((l1.length : Nat) : Int) ≥ ((n : Nat) : Int)) := by omega
                  replace hA := hA.rw 114 (v' := .bool false) rfl (vb_false hc53)
                  refine cd_cond_f hA rfl ?_
                  refine wp_skip ?_
                  refine xt_norm ?_
                  refine wp_seq ?_
                  replace hS := hS.front 4 (C := C1) (L' := L47 :: (E49 ++ D) :: [(b14, rowO [.int .u8 x12f0, .int .u64 x12f1, .int .u64 x12f2, .int .u32 x12f3, .int .u16 x12f4, .int .u16 x12f5, .int .u64 x12f6, .int .u32 x12f7, .int .u8 x12f8, .int .u64 x12f9, .int .u64 x12f10, .slice x12A11 x12b11.length x12c11] 52)] :: C0 :: [(b6, rowO [.slice A0 l0.length c0, .slice A1 l1.length c1] 44)] :: F) rfl rfl
                  refine wp_draw (fun w' => St w0 w' (L47 :: (E49 ++ D) :: [(b14, rowO [.int .u8 x12f0, .int .u64 x12f1, .int .u64 x12f2, .int .u32 x12f3, .int .u16 x12f4, .int .u16 x12f5, .int .u64 x12f6, .int .u32 x12f7, .int .u8 x12f8, .int .u64 x12f9, .int .u64 x12f10, .slice x12A11 x12b11.length x12c11] 52)] :: C0 :: [(b6, rowO [.slice A0 l0.length c0, .slice A1 l1.length c1] 44)] :: F)) [11] [(0, true), (1, true), (2, true), (3, true), (4, true), (5, true), (6, true), (7, true), (8, false), (9, false), (10, true), (11, false)] mixed (by kernel_rfl) (by rintro c a w ⟨_, _, h, _⟩; cases h) (by rfl) (by kernel_rfl) ?_
                  replace hS := hS.drew
                  refine dr_run tbOk 4 hA (hS.tail 1 rfl) (e' := (121, .int .i64 1) :: (120, .slice (some ⟨b6, 0, none⟩) 2 2) :: (119, .int .i64 1) :: (118, .slice (some ⟨b6, 0, none⟩) 2 2) :: _) rfl ?_; clear hA; intro a hA
                  refine dr_y hA rfl rfl rfl (by decide) (hS.tail 1 rfl) (fun w' hS' => rn_indexAddr tbOk hA 1 1 rfl rfl rfl rfl rfl rfl (by rfl) (by omega) (by first | rfl | simp [Nat.mul_one, Nat.zero_add] | omega)) ?_; clear hA; intro a hA
                  refine dr_y hA rfl rfl rfl (by decide) (hS.tail 1 rfl) (fun w' hS' => rn_load tbOk hA rfl rfl rfl rfl (cell_row (hS'.heapAt 4 rfl) rfl)) ?_; clear hA; intro a hA
                  refine dr_run tbOk 1 hA (hS.tail 1 rfl) (e' := (124, .pointer (some ⟨b14, 1, none⟩)) :: _) rfl ?_; clear hA; intro a hA
                  refine dr_y hA rfl rfl rfl (by decide) (hS.tail 1 rfl) (fun w' hS' => rn_loadA tbOk hA [.int .u64 x12f1, .int .u64 x12f2, .int .u32 x12f3, .int .u16 x12f4, .int .u16 x12f5, .int .u64 x12f6, .int .u32 x12f7, .int .u8 x12f8, .int .u64 x12f9, .int .u64 x12f10, .slice x12A11 x12b11.length x12c11] rfl rfl rfl rfl rfl (cells_row (hS'.heapAt 2 rfl) rfl)) ?_; clear hA; intro a hA
                  refine dr_b (o := _) rfl ?_
                  refine st_buildSlice tbOk hA hS [.int .u64 x12f1, .int .u64 x12f2, .int .u32 x12f3, .int .u16 x12f4, .int .u16 x12f5, .int .u64 x12f6, .int .u32 x12f7, .int .u8 x12f8, .int .u64 x12f9, .int .u64 x12f10, .slice x12A11 x12b11.length x12c11] rfl rfl rfl rfl rfl (by decide) (by kernel_rfl) rfl rfl (by decide) ?_; clear hA hS; intro b54 w55 a hS hA
                  refine dr_nil (.inr (hS.tail 2 rfl)) ?_
                  refine dr_b (o := _) rfl ?_
                  replace hS := hS.front 1 (C := C1) (L' := [(b54, rowO [.int .u64 x12f1, .int .u64 x12f2, .int .u32 x12f3, .int .u16 x12f4, .int .u16 x12f5, .int .u64 x12f6, .int .u32 x12f7, .int .u8 x12f8, .int .u64 x12f9, .int .u64 x12f10, .slice x12A11 x12b11.length x12c11] 37)] :: L47 :: (E49 ++ D) :: [(b14, rowO [.int .u8 x12f0, .int .u64 x12f1, .int .u64 x12f2, .int .u32 x12f3, .int .u16 x12f4, .int .u16 x12f5, .int .u64 x12f6, .int .u32 x12f7, .int .u8 x12f8, .int .u64 x12f9, .int .u64 x12f10, .slice x12A11 x12b11.length x12c11] 52)] :: C0 :: [(b6, rowO [.slice A0 l0.length c0, .slice A1 l1.length c1] 44)] :: F) rfl rfl
                  refine st_append tbOk hA (m := l1.length) (q := 1) (xs := rows encMessage l1) (news := rows encMessage ([(x12f1, x12f2, x12f3, x12f4, x12f5, x12f6, x12f7, x12f8, x12f9, x12f10, x12A11, x12c11, x12b11)] : List (Int × Int × Int × Int × Int × Int × Int × Int × Int × Int × Option Addr × Nat × List UInt8))) rfl rfl rfl rfl rfl rfl rfl rfl (by decide) hR1 hS (((Own.full (T := 37) (size := 11) (g := b54) (m := 1) rfl (by decide)).rd (hS.own_ 1 rfl)).x) (rows_one encMessage_ok _) (maxLen_le (by first | omega | (simp; omega))) (by show (l1.length + 1) * 80 ≤ 140737488355328; first | omega | (simp; omega)) rfl rfl (by decide) ?_
                  clear hA hS; intro v56 w57 C58 a hO58 hS hA
                  replace hO58 := Own.app (l := l1) (l2 := ([(x12f1, x12f2, x12f3, x12f4, x12f5, x12f6, x12f7, x12f8, x12f9, x12f10, x12A11, x12c11, x12b11)] : List (Int × Int × Int × Int × Int × Int × Int × Int × Int × Int × Option Addr × Nat × List UInt8))) hO58
                  obtain ⟨A59, c60, rfl, hmc60, hxc60⟩ := hO58.open'
                  refine dr_nil (.inr (hS.tail 2 rfl)) ?_
                  refine dr_y hA rfl rfl rfl (by decide) (hS.tail 2 rfl) (fun w' hS' => rn_indexAddr tbOk hA 1 1 rfl rfl rfl rfl rfl rfl (by rfl) (by omega) (by first | rfl | simp [Nat.mul_one, Nat.zero_add] | omega)) ?_; clear hA; intro a hA
                  refine dr_b (o := _) rfl ?_
                  replace hS := hS.front 6 (C := [(b6, rowO [.slice A0 l0.length c0, .slice A1 l1.length c1] 44)]) (L' := C58 :: [(b54, rowO [.int .u64 x12f1, .int .u64 x12f2, .int .u32 x12f3, .int .u16 x12f4, .int .u16 x12f5, .int .u64 x12f6, .int .u32 x12f7, .int .u8 x12f8, .int .u64 x12f9, .int .u64 x12f10, .slice x12A11 x12b11.length x12c11] 37)] :: L47 :: (E49 ++ D) :: [(b14, rowO [.int .u8 x12f0, .int .u64 x12f1, .int .u64 x12f2, .int .u32 x12f3, .int .u16 x12f4, .int .u16 x12f5, .int .u64 x12f6, .int .u32 x12f7, .int .u8 x12f8, .int .u64 x12f9, .int .u64 x12f10, .slice x12A11 x12b11.length x12c11] 52)] :: C0 :: F) rfl rfl
                  refine st_store tbOk hA hS [.slice A59 ((l1 ++ ([(x12f1, x12f2, x12f3, x12f4, x12f5, x12f6, x12f7, x12f8, x12f9, x12f10, x12A11, x12c11, x12b11)] : List (Int × Int × Int × Int × Int × Int × Int × Int × Int × Int × Option Addr × Nat × List UInt8))).length) c60] [.slice A0 l0.length c0, .slice A59 ((l1 ++ ([(x12f1, x12f2, x12f3, x12f4, x12f5, x12f6, x12f7, x12f8, x12f9, x12f10, x12A11, x12c11, x12b11)] : List (Int × Int × Int × Int × Int × Int × Int × Int × Int × Int × Option Addr × Nat × List UInt8))).length) c60] rfl rfl rfl rfl rfl rfl (by intro u hu; rw [List.mem_singleton.1 hu]; rfl) (Nat.le_of_ble_eq_true rfl) rfl rfl rfl ?_; clear hS; intro w61 hS
                  refine dr_nil (.inl (by decide)) ?_
                  refine dr_end ?_
                  replace hA := hA.sel [5, 6, 7, 11, 34, 35, 36] (e' := [(5, .pointer (some ⟨bb3, 0, none⟩)), (6, .int .i64 ((n : Nat) : Int)), (7, .slice (some ⟨b6, 0, none⟩) 2 2), (11, .nilIface), (34, .slice (some ⟨b10, o11, none⟩) l.length c), (35, .int .i64 ((l.length : Nat) : Int)), (36, .int .i64 ((k : Nat) : Int))]) rfl
                  refine xt_norm ?_
                  refine wp_seq ?_
                  refine wp_region_lit ?_
                  refine st_run tbOk 2 hA (e' := (130, .bool false) :: (129, .nilIface) :: _) rfl ?_; clear hA; intro a hA
                  refine wpList_nil ?_
                  replace hA := hA.sel [5, 6, 7, 34, 35, 36, 130] (e' := [(5, .pointer (some ⟨bb3, 0, none⟩)), (6, .int .i64 ((n : Nat) : Int)), (7, .slice (some ⟨b6, 0, none⟩) 2 2), (34, .slice (some ⟨b10, o11, none⟩) l.length c), (35, .int .i64 ((l.length : Nat) : Int)), (36, .int .i64 ((k : Nat) : Int)), (130, .bool false)]) rfl
                  refine xt_norm ?_
                  refine cd_cond_f hA rfl ?_
                  refine wp_skip ?_
                  refine xb_norm ?_
                  refine xt_norm ?_
                  refine wp_seq ?_
                  refine wp_region_lit ?_
                  refine st_run tbOk 1 hA (e' := (180, .pointer (some ⟨bb3, 0, none⟩)) :: _) rfl ?_; clear hA; intro a hA
                  replace hS := hS.front 3 (C := L47) (L' := [(b6, rowO [.slice A0 l0.length c0, .slice A59 ((l1 ++ ([(x12f1, x12f2, x12f3, x12f4, x12f5, x12f6, x12f7, x12f8, x12f9, x12f10, x12A11, x12c11, x12b11)] : List (Int × Int × Int × Int × Int × Int × Int × Int × Int × Int × Option Addr × Nat × List UInt8))).length) c60] 44)] :: C58 :: [(b54, rowO [.int .u64 x12f1, .int .u64 x12f2, .int .u32 x12f3, .int .u16 x12f4, .int .u16 x12f5, .int .u64 x12f6, .int .u32 x12f7, .int .u8 x12f8, .int .u64 x12f9, .int .u64 x12f10, .slice x12A11 x12b11.length x12c11] 37)] :: (E49 ++ D) :: [(b14, rowO [.int .u8 x12f0, .int .u64 x12f1, .int .u64 x12f2, .int .u32 x12f3, .int .u16 x12f4, .int .u16 x12f5, .int .u64 x12f6, .int .u32 x12f7, .int .u8 x12f8, .int .u64 x12f9, .int .u64 x12f10, .slice x12A11 x12b11.length x12c11] 52)] :: C0 :: F) rfl rfl
                  refine st_call0 hA rfl rfl rfl isfn16 rfl rfl (by decide) (len16 hS hM48) ?_; clear hA hS; rintro _ w62 a ⟨L63, hM64, rfl, hS⟩ hA
                  refine st_run tbOk 5 hA (e' := (23, .int .i64 (((ps ++ [(x12f1, x12f2, x12f3, x12f4, x12f5, x12f6, x12f7, x12f8, x12f9, x12f10, A50, c51, x12b11)]).length : Nat) : Int)) :: (22, .int .i64 ((us.length : Nat) : Int)) :: (183, .int .i64 (((ps ++ [(x12f1, x12f2, x12f3, x12f4, x12f5, x12f6, x12f7, x12f8, x12f9, x12f10, A50, c51, x12b11)]).length : Nat) : Int)) :: (182, .int .i64 ((us.length : Nat) : Int)) :: (179, .tuple #[.int .i64 ((us.length : Nat) : Int), .int .i64 (((ps ++ [(x12f1, x12f2, x12f3, x12f4, x12f5, x12f6, x12f7, x12f8, x12f9, x12f10, A50, c51, x12b11)]).length : Nat) : Int)]) :: _) rfl ?_; clear hA; intro a hA
                  refine wpList_nil ?_
                  replace hA := hA.sel [5, 6, 7, 22, 23, 34, 35, 36] (e' := [(5, .pointer (some ⟨bb3, 0, none⟩)), (6, .int .i64 ((n : Nat) : Int)), (7, .slice (some ⟨b6, 0, none⟩) 2 2), (22, .int .i64 ((us.length : Nat) : Int)), (23, .int .i64 (((ps ++ [(x12f1, x12f2, x12f3, x12f4, x12f5, x12f6, x12f7, x12f8, x12f9, x12f10, A50, c51, x12b11)]).length : Nat) : Int)), (34, .slice (some ⟨b10, o11, none⟩) l.length c), (35, .int .i64 ((l.length : Nat) : Int)), (36, .int .i64 ((k : Nat) : Int))]) rfl
                  refine xt_norm ?_
                  refine wp_seq ?_
                  refine wp_region_lit ?_
                  have hq0 : us.length = l0.length := len_of he0; have hq1 : (ps ++ [(x12f1, x12f2, x12f3, x12f4, x12f5, x12f6, x12f7, x12f8, x12f9, x12f10, A50, c51, x12b11)]).length = (l1 ++ ([(x12f1, x12f2, x12f3, x12f4, x12f5, x12f6, x12f7, x12f8, x12f9, x12f10, x12A11, x12c11, x12b11)] : List (Int × Int × Int × Int × Int × Int × Int × Int × Int × Int × Option Addr × Nat × List UInt8))).length := len_of (app_mst he1 (u2 := [(x12f1, x12f2, x12f3, x12f4, x12f5, x12f6, x12f7, x12f8, x12f9, x12f10, A50, c51, x12b11)]) (l2 := [(x12f1, x12f2, x12f3, x12f4, x12f5, x12f6, x12f7, x12f8, x12f9, x12f10, x12A11, x12c11, x12b11)]) rfl)
                  refine st_run tbOk 2 hA (e' := (185, .slice (some ⟨b6, 0, none⟩) 2 2) :: (184, .int .i64 ((us.length : Nat) : Int)) :: _) rfl ?_; clear hA; intro a hA
                  refine st_val hA rfl rfl (by decide) (rn_indexAddr tbOk hA 0 0 rfl rfl rfl rfl rfl rfl (by rfl) (by omega) (by first | rfl | simp [Nat.mul_one, Nat.zero_add] | omega)) ?_; clear hA; intro a hA
                  refine st_val hA rfl rfl (by decide) (rn_load tbOk hA rfl rfl rfl rfl (cell_row (hS.heapAt 1 rfl) rfl)) ?_; clear hA; intro a hA
                  refine st_run tbOk 3 hA (e' := (190, .bool (((us.length : Nat) : Int) != ((l0.length : Nat) : Int))) :: (189, .bool (((us.length : Nat) : Int) != ((l0.length : Nat) : Int))) :: (188, .int .i64 ((l0.length : Nat) : Int)) :: _) rfl ?_; clear hA; intro a hA
                  have hc65 : ((us.length : Nat) : Int) = ((l0.length : Nat) : Int) := by omega
                  replace hA := hA.rw 189 (v' := .bool false) rfl (vb_ne_f hc65)
                  replace hA := hA.rw 190 (v' := .bool false) rfl (vb_ne_f hc65)
                  refine st_run tbOk 2 hA (e' := (192, .slice (some ⟨b6, 0, none⟩) 2 2) :: (191, .int .i64 (((ps ++ [(x12f1, x12f2, x12f3, x12f4, x12f5, x12f6, x12f7, x12f8, x12f9, x12f10, A50, c51, x12b11)]).length : Nat) : Int)) :: _) rfl ?_; clear hA; intro a hA
                  refine st_val hA rfl rfl (by decide) (rn_indexAddr tbOk hA 1 1 rfl rfl rfl rfl rfl rfl (by rfl) (by omega) (by first | rfl | simp [Nat.mul_one, Nat.zero_add] | omega)) ?_; clear hA; intro a hA
                  refine st_val hA rfl rfl (by decide) (rn_load tbOk hA rfl rfl rfl rfl (cell_row (hS.heapAt 1 rfl) rfl)) ?_; clear hA; intro a hA
                  refine st_run tbOk 3 hA (e' := (197, .bool ((((ps ++ [(x12f1, x12f2, x12f3, x12f4, x12f5, x12f6, x12f7, x12f8, x12f9, x12f10, A50, c51, x12b11)]).length : Nat) : Int) != (((l1 ++ ([(x12f1, x12f2, x12f3, x12f4, x12f5, x12f6, x12f7, x12f8, x12f9, x12f10, x12A11, x12c11, x12b11)] : List (Int × Int × Int × Int × Int × Int × Int × Int × Int × Int × Option Addr × Nat × List UInt8))).length : Nat) : Int))) :: (196, .bool ((((ps ++ [(x12f1, x12f2, x12f3, x12f4, x12f5, x12f6, x12f7, x12f8, x12f9, x12f10, A50, c51, x12b11)]).length : Nat) : Int) != (((l1 ++ ([(x12f1, x12f2, x12f3, x12f4, x12f5, x12f6, x12f7, x12f8, x12f9, x12f10, x12A11, x12c11, x12b11)] : List (Int × Int × Int × Int × Int × Int × Int × Int × Int × Int × Option Addr × Nat × List UInt8))).length : Nat) : Int))) :: (195, .int .i64 (((l1 ++ ([(x12f1, x12f2, x12f3, x12f4, x12f5, x12f6, x12f7, x12f8, x12f9, x12f10, x12A11, x12c11, x12b11)] : List (Int × Int × Int × Int × Int × Int × Int × Int × Int × Int × Option Addr × Nat × List UInt8))).length : Nat) : Int)) :: _) rfl ?_; clear hA; intro a hA
                  refine wpList_nil ?_
                  replace hA := hA.sel [5, 6, 7, 34, 35, 36, 197] (e' := [(5, .pointer (some ⟨bb3, 0, none⟩)), (6, .int .i64 ((n : Nat) : Int)), (7, .slice (some ⟨b6, 0, none⟩) 2 2), (34, .slice (some ⟨b10, o11, none⟩) l.length c), (35, .int .i64 ((l.length : Nat) : Int)), (36, .int .i64 ((k : Nat) : Int)), (197, .bool ((((ps ++ [(x12f1, x12f2, x12f3, x12f4, x12f5, x12f6, x12f7, x12f8, x12f9, x12f10, A50, c51, x12b11)]).length : Nat) : Int) != (((l1 ++ ([(x12f1, x12f2, x12f3, x12f4, x12f5, x12f6, x12f7, x12f8, x12f9, x12f10, x12A11, x12c11, x12b11)] : List (Int × Int × Int × Int × Int × Int × Int × Int × Int × Int × Option Addr × Nat × List UInt8))).length : Nat) : Int)))]) rfl
                  refine xt_norm ?_
                  have hc66 : (((ps ++ [(x12f1, x12f2, x12f3, x12f4, x12f5, x12f6, x12f7, x12f8, x12f9, x12f10, A50, c51, x12b11)]).length : Nat) : Int) = (((l1 ++ ([(x12f1, x12f2, x12f3, x12f4, x12f5, x12f6, x12f7, x12f8, x12f9, x12f10, x12A11, x12c11, x12b11)] : List (Int × Int × Int × Int × Int × Int × Int × Int × Int × Int × Option Addr × Nat × List UInt8))).length : Nat) : Int) := by omega
                  replace hA := hA.rw 197 (v' := .bool false) rfl (vb_ne_f hc66)
                  refine cd_cond_f hA rfl ?_
                  refine wp_skip ?_
                  refine xb_norm ?_
                  refine xt_norm ?_
                  refine wp_region_lit ?_
                  refine st_run tbOk 1 hA (e' := (198, .int .i64 (IntKind.i64.wrap (((k : Nat) : Int) + 1))) :: _) rfl ?_; clear hA; intro a hA
                  replace hA := hA.rw 198 (v' := .int .i64 ((k + 1 : Nat) : Int)) rfl (wr64 (by omega) (by omega) (by omega))
                  refine st_run tbOk 1 hA (e' := (36, .int .i64 ((k + 1 : Nat) : Int)) :: _) rfl ?_; clear hA; intro a hA
                  refine wpList_nil ?_
                  replace hA := hA.sel [5, 6, 7, 34, 35, 36] (e' := [(5, .pointer (some ⟨bb3, 0, none⟩)), (6, .int .i64 ((n : Nat) : Int)), (7, .slice (some ⟨b6, 0, none⟩) 2 2), (34, .slice (some ⟨b10, o11, none⟩) l.length c), (35, .int .i64 ((l.length : Nat) : Int)), (36, .int .i64 ((k + 1 : Nat) : Int))]) rfl
                  replace hS := hS.front 5 (C := [(b14, rowO [.int .u8 x12f0, .int .u64 x12f1, .int .u64 x12f2, .int .u32 x12f3, .int .u16 x12f4, .int .u16 x12f5, .int .u64 x12f6, .int .u32 x12f7, .int .u8 x12f8, .int .u64 x12f9, .int .u64 x12f10, .slice x12A11 x12b11.length x12c11] 52)]) (L' := L63 :: [(b6, rowO [.slice A0 l0.length c0, .slice A59 ((l1 ++ ([(x12f1, x12f2, x12f3, x12f4, x12f5, x12f6, x12f7, x12f8, x12f9, x12f10, x12A11, x12c11, x12b11)] : List (Int × Int × Int × Int × Int × Int × Int × Int × Int × Int × Option Addr × Nat × List UInt8))).length) c60] 44)] :: C58 :: [(b54, rowO [.int .u64 x12f1, .int .u64 x12f2, .int .u32 x12f3, .int .u16 x12f4, .int .u16 x12f5, .int .u64 x12f6, .int .u32 x12f7, .int .u8 x12f8, .int .u64 x12f9, .int .u64 x12f10, .slice x12A11 x12b11.length x12c11] 37)] :: (E49 ++ D) :: C0 :: F) rfl rfl
                  replace hS := hS.drop1
                  replace hS := hS.front 3 (C := [(b54, rowO [.int .u64 x12f1, .int .u64 x12f2, .int .u32 x12f3, .int .u16 x12f4, .int .u16 x12f5, .int .u64 x12f6, .int .u32 x12f7, .int .u8 x12f8, .int .u64 x12f9, .int .u64 x12f10, .slice x12A11 x12b11.length x12c11] 37)]) (L' := L63 :: [(b6, rowO [.slice A0 l0.length c0, .slice A59 ((l1 ++ ([(x12f1, x12f2, x12f3, x12f4, x12f5, x12f6, x12f7, x12f8, x12f9, x12f10, x12A11, x12c11, x12b11)] : List (Int × Int × Int × Int × Int × Int × Int × Int × Int × Int × Option Addr × Nat × List UInt8))).length) c60] 44)] :: C58 :: (E49 ++ D) :: C0 :: F) rfl rfl
                  replace hS := hS.drop1
                  replace hS := hS.front 1 (C := [(b6, rowO [.slice A0 l0.length c0, .slice A59 ((l1 ++ ([(x12f1, x12f2, x12f3, x12f4, x12f5, x12f6, x12f7, x12f8, x12f9, x12f10, x12A11, x12c11, x12b11)] : List (Int × Int × Int × Int × Int × Int × Int × Int × Int × Int × Option Addr × Nat × List UInt8))).length) c60] 44)]) (L' := L63 :: C58 :: (E49 ++ D) :: C0 :: F) rfl rfl
                  replace hS := hS.front 2 (C := C58) (L' := [(b6, rowO [.slice A0 l0.length c0, .slice A59 ((l1 ++ ([(x12f1, x12f2, x12f3, x12f4, x12f5, x12f6, x12f7, x12f8, x12f9, x12f10, x12A11, x12c11, x12b11)] : List (Int × Int × Int × Int × Int × Int × Int × Int × Int × Int × Option Addr × Nat × List UInt8))).length) c60] 44)] :: L63 :: (E49 ++ D) :: C0 :: F) rfl rfl
                  replace hS := hS.front 4 (C := C0) (L' := C58 :: [(b6, rowO [.slice A0 l0.length c0, .slice A59 ((l1 ++ ([(x12f1, x12f2, x12f3, x12f4, x12f5, x12f6, x12f7, x12f8, x12f9, x12f10, x12A11, x12c11, x12b11)] : List (Int × Int × Int × Int × Int × Int × Int × Int × Int × Int × Option Addr × Nat × List UInt8))).length) c60] 44)] :: L63 :: (E49 ++ D) :: F) rfl rfl
                  replace hS := hS.front 4 (C := (E49 ++ D)) (L' := C0 :: C58 :: [(b6, rowO [.slice A0 l0.length c0, .slice A59 ((l1 ++ ([(x12f1, x12f2, x12f3, x12f4, x12f5, x12f6, x12f7, x12f8, x12f9, x12f10, x12A11, x12c11, x12b11)] : List (Int × Int × Int × Int × Int × Int × Int × Int × Int × Int × Option Addr × Nat × List UInt8))).length) c60] 44)] :: L63 :: F) rfl rfl
                  replace hS := hS.front 4 (C := L63) (L' := (E49 ++ D) :: C0 :: C58 :: [(b6, rowO [.slice A0 l0.length c0, .slice A59 ((l1 ++ ([(x12f1, x12f2, x12f3, x12f4, x12f5, x12f6, x12f7, x12f8, x12f9, x12f10, x12A11, x12c11, x12b11)] : List (Int × Int × Int × Int × Int × Int × Int × Int × Int × Int × Option Addr × Nat × List UInt8))).length) c60] 44)] :: F) rfl rfl
                  exact lp_next _ (by omega) ⟨(k + 1), us, (ps ++ [(x12f1, x12f2, x12f3, x12f4, x12f5, x12f6, x12f7, x12f8, x12f9, x12f10, A50, c51, x12b11)]), (l0), (l1 ++ ([(x12f1, x12f2, x12f3, x12f4, x12f5, x12f6, x12f7, x12f8, x12f9, x12f10, x12A11, x12c11, x12b11)] : List (Int × Int × Int × Int × Int × Int × Int × Int × Int × Int × Option Addr × Nat × List UInt8))), L63, (E49 ++ D), A0, c0, C0, A59, c60, C58, rfl, (hA.sel [5, 6, 7, 34, 35, 36] rfl), hS, by omega, hM64, hR0, hO58, (encMessage_lefts hdu), (dd_snoc (encMessage_lefts hdp) (m := (x12f1, x12f2, x12f3, x12f4, x12f5, x12f6, x12f7, x12f8, x12f9, x12f10, A50, c51, x12b11)) (hE52.right)), hl0, (gd_snoc hl1 (m := (x12f1, x12f2, x12f3, x12f4, x12f5, x12f6, x12f7, x12f8, x12f9, x12f10, x12A11, x12c11, x12b11)) (fun D => DD.of hdl)), he0, (app_mst he1 (u2 := [(x12f1, x12f2, x12f3, x12f4, x12f5, x12f6, x12f7, x12f8, x12f9, x12f10, A50, c51, x12b11)]) (l2 := [(x12f1, x12f2, x12f3, x12f4, x12f5, x12f6, x12f7, x12f8, x12f9, x12f10, x12A11, x12c11, x12b11)]) rfl), hn0, (by rw [List.length_append]; exact hr9)⟩
                · replace hS := hS.front 2 (C := D) (L' := [(b14, rowO [.int .u8 x12f0, .int .u64 x12f1, .int .u64 x12f2, .int .u32 x12f3, .int .u16 x12f4, .int .u16 x12f5, .int .u64 x12f6, .int .u32 x12f7, .int .u8 x12f8, .int .u64 x12f9, .int .u64 x12f10, .slice x12A11 x12b11.length x12c11] 52)] :: L :: C0 :: C1 :: [(b6, rowO [.slice A0 l0.length c0, .slice A1 l1.length c1] 44)] :: F) rfl rfl
                  replace hS := hS.front 2 (C := L) (L' := D :: [(b14, rowO [.int .u8 x12f0, .int .u64 x12f1, .int .u64 x12f2, .int .u32 x12f3, .int .u16 x12f4, .int .u16 x12f5, .int .u64 x12f6, .int .u32 x12f7, .int .u8 x12f8, .int .u64 x12f9, .int .u64 x12f10, .slice x12A11 x12b11.length x12c11] 52)] :: C0 :: C1 :: [(b6, rowO [.slice A0 l0.length c0, .slice A1 l1.length c1] 44)] :: F) rfl rfl
                  refine st_call0 hA rfl rfl rfl isfn9 rfl rfl (by decide) (put_p_full9 hS hM x12f1 x12f2 x12f3 x12f4 x12f5 x12f6 x12f7 x12f8 x12f9 x12f10 (bs := x12b11) (fun w' h => (hd13 _ (h.only 0 rfl))) (by first | omega | exact Nat.le_of_ble_eq_true rfl) (by first | omega | (simp; omega))) ?_
                  clear hA hS; rintro _ w67 a ⟨L68, hM69, rfl, hS⟩ hA
                  refine st_run tbOk 1 hA (e' := (11, .iface 41 (.int .i64 5)) :: _) rfl ?_; clear hA; intro a hA
                  refine wpList_nil ?_
                  replace hA := hA.sel [5, 6, 7, 9, 10, 11, 34, 35, 36] (e' := [(5, .pointer (some ⟨bb3, 0, none⟩)), (6, .int .i64 ((n : Nat) : Int)), (7, .slice (some ⟨b6, 0, none⟩) 2 2), (9, .pointer (some ⟨b14, 0, none⟩)), (10, .int .i64 1), (11, .iface 41 (.int .i64 5)), (34, .slice (some ⟨b10, o11, none⟩) l.length c), (35, .int .i64 ((l.length : Nat) : Int)), (36, .int .i64 ((k : Nat) : Int))]) rfl
                  refine xt_norm ?_
                  refine wp_seq ?_
                  refine wp_seq ?_
                  refine wp_region_lit ?_
                  refine st_run tbOk 2 hA (e' := (109, .int .i64 1) :: (108, .slice (some ⟨b6, 0, none⟩) 2 2) :: _) rfl ?_; clear hA; intro a hA
                  refine st_val hA rfl rfl (by decide) (rn_indexAddr tbOk hA 1 1 rfl rfl rfl rfl rfl rfl (by rfl) (by omega) (by first | rfl | simp [Nat.mul_one, Nat.zero_add] | omega)) ?_; clear hA; intro a hA
                  refine st_val hA rfl rfl (by decide) (rn_load tbOk hA rfl rfl rfl rfl (cell_row (hS.heapAt 5 rfl) rfl)) ?_; clear hA; intro a hA
                  refine st_run tbOk 3 hA (e' := (114, .bool (decide (((l1.length : Nat) : Int) ≥ ((n : Nat) : Int)))) :: (113, .int .i64 ((n : Nat) : Int)) :: (112, .int .i64 ((l1.length : Nat) : Int)) :: _) rfl ?_; clear hA; intro a hA
                  refine wpList_nil ?_
                  replace hA := hA.sel [5, 6, 7, 9, 10, 11, 34, 35, 36, 114] (e' := [(5, .pointer (some ⟨bb3, 0, none⟩)), (6, .int .i64 ((n : Nat) : Int)), (7, .slice (some ⟨b6, 0, none⟩) 2 2), (9, .pointer (some ⟨b14, 0, none⟩)), (10, .int .i64 1), (11, .iface 41 (.int .i64 5)), (34, .slice (some ⟨b10, o11, none⟩) l.length c), (35, .int .i64 ((l.length : Nat) : Int)), (36, .int .i64 ((k : Nat) : Int)), (114, .bool (decide (((l1.length : Nat) : Int) ≥ ((n : Nat) : Int))))]) rfl
                  refine xt_norm ?_
                  have hc70 : ((l1.length : Nat) : Int) ≥ ((n : Nat) : Int) := by omega
                  replace hA := hA.rw 114 (v' := .bool true) rfl (vb_true hc70)
                  refine cd_cond_t hA rfl ?_
                  refine wp_seq ?_
                  refine wp_seq ?_
                  refine wp_region_lit ?_
                  refine st_run tbOk 1 hA (e' := (115, .iface 41 (.int .i64 5)) :: _) rfl ?_; clear hA; intro a hA
                  refine st_call0 hA rfl rfl rfl isfn11 rfl rfl (by decide) (number_hit11 hS hg 5) ?_
                  clear hA hS; rintro v w71 a ⟨rfl, hS⟩ hA
                  refine st_run tbOk 1 hA (e' := (117, .bool false) :: _) rfl ?_; clear hA; intro a hA
                  refine wpList_nil ?_
                  replace hA := hA.sel [5, 6, 7, 34, 35, 36, 117] (e' := [(5, .pointer (some ⟨bb3, 0, none⟩)), (6, .int .i64 ((n : Nat) : Int)), (7, .slice (some ⟨b6, 0, none⟩) 2 2), (34, .slice (some ⟨b10, o11, none⟩) l.length c), (35, .int .i64 ((l.length : Nat) : Int)), (36, .int .i64 ((k : Nat) : Int)), (117, .bool false)]) rfl
                  refine xt_norm ?_
                  refine cd_cond_f hA rfl ?_
                  refine wp_skip ?_
                  refine xt_norm ?_
                  refine wp_exit ?_
                  refine xt_exit ?_
                  refine cd_exit_ne (by decide) ?_
                  refine xt_exit ?_
                  refine cd_exit_eq ?_
                  refine xt_norm ?_
                  refine wp_region_lit ?_
                  refine st_run tbOk 1 hA (e' := (198, .int .i64 (IntKind.i64.wrap (((k : Nat) : Int) + 1))) :: _) rfl ?_; clear hA; intro a hA
                  replace hA := hA.rw 198 (v' := .int .i64 ((k + 1 : Nat) : Int)) rfl (wr64 (by omega) (by omega) (by omega))
                  refine st_run tbOk 1 hA (e' := (36, .int .i64 ((k + 1 : Nat) : Int)) :: _) rfl ?_; clear hA; intro a hA
                  refine wpList_nil ?_
                  replace hA := hA.sel [5, 6, 7, 34, 35, 36] (e' := [(5, .pointer (some ⟨bb3, 0, none⟩)), (6, .int .i64 ((n : Nat) : Int)), (7, .slice (some ⟨b6, 0, none⟩) 2 2), (34, .slice (some ⟨b10, o11, none⟩) l.length c), (35, .int .i64 ((l.length : Nat) : Int)), (36, .int .i64 ((k + 1 : Nat) : Int))]) rfl
                  replace hS := hS.front 2 (C := [(b14, rowO [.int .u8 x12f0, .int .u64 x12f1, .int .u64 x12f2, .int .u32 x12f3, .int .u16 x12f4, .int .u16 x12f5, .int .u64 x12f6, .int .u32 x12f7, .int .u8 x12f8, .int .u64 x12f9, .int .u64 x12f10, .slice x12A11 x12b11.length x12c11] 52)]) (L' := L68 :: D :: C0 :: C1 :: [(b6, rowO [.slice A0 l0.length c0, .slice A1 l1.length c1] 44)] :: F) rfl rfl
                  replace hS := hS.drop1
                  replace hS := hS.front 4 (C := [(b6, rowO [.slice A0 l0.length c0, .slice A1 l1.length c1] 44)]) (L' := L68 :: D :: C0 :: C1 :: F) rfl rfl
                  replace hS := hS.front 4 (C := C1) (L' := [(b6, rowO [.slice A0 l0.length c0, .slice A1 l1.length c1] 44)] :: L68 :: D :: C0 :: F) rfl rfl
                  replace hS := hS.front 4 (C := C0) (L' := C1 :: [(b6, rowO [.slice A0 l0.length c0, .slice A1 l1.length c1] 44)] :: L68 :: D :: F) rfl rfl
                  replace hS := hS.front 4 (C := D) (L' := C0 :: C1 :: [(b6, rowO [.slice A0 l0.length c0, .slice A1 l1.length c1] 44)] :: L68 :: F) rfl rfl
                  replace hS := hS.front 4 (C := L68) (L' := D :: C0 :: C1 :: [(b6, rowO [.slice A0 l0.length c0, .slice A1 l1.length c1] 44)] :: F) rfl rfl
                  exact lp_next _ (by omega) ⟨(k + 1), us, ps, (l0), (l1), L68, D, A0, c0, C0, A1, c1, C1, rfl, (hA.sel [5, 6, 7, 34, 35, 36] rfl), hS, by omega, hM69, hR0, hR1, hdu, hdp, hl0, hl1, he0, he1, hn0, hn1⟩)
         · first
           | (exfalso; omega)
           | (replace hA := hA.rw 99 (v' := .bool false) rfl (vb_f hc19)
              refine cd_cond_f hA rfl ?_
              refine wp_seq ?_
              refine wp_region_lit ?_
              refine st_run tbOk 2 hA (e' := (131, .bool (op == 2)) :: (132, .bool (op == 2)) :: _) rfl ?_; clear hA; intro a hA
              refine wpList_nil ?_
              replace hA := hA.sel [5, 6, 7, 9, 34, 35, 36, 131] (e' := [(5, .pointer (some ⟨bb3, 0, none⟩)), (6, .int .i64 ((n : Nat) : Int)), (7, .slice (some ⟨b6, 0, none⟩) 2 2), (9, .pointer (some ⟨b14, 0, none⟩)), (34, .slice (some ⟨b10, o11, none⟩) l.length c), (35, .int .i64 ((l.length : Nat) : Int)), (36, .int .i64 ((k : Nat) : Int)), (131, .bool (op == 2))]) rfl
              refine xt_norm ?_
              by_cases hc72 : op = 2
              · first
                | (exfalso; omega)
                | (replace hA := hA.rw 131 (v' := .bool true) rfl (vb_eq_t hc72)
                   refine cd_cond_t hA rfl ?_
                   refine wp_seq ?_
                   refine wp_region_lit ?_
                   rcases getcs he0 he1 with ⟨⟨x0, x1, x2, x3, x4, x5, x6, x7, x8, x9, xA, xc, xb⟩, u9, ⟨y0, y1, y2, y3, y4, y5, y6, y7, y8, y9, yA, yc, yb⟩, l9, hus, hls, hxy, hul9⟩ | ⟨hus0, hls0, ⟨x0, x1, x2, x3, x4, x5, x6, x7, x8, x9, xA, xc, xb⟩, u9, ⟨y0, y1, y2, y3, y4, y5, y6, y7, y8, y9, yA, yc, yb⟩, l9, hus, hls, hxy, hul9⟩ | ⟨hus0, hls0, hps0, hlp0⟩
                   · subst hus
                     have hl9 := congrArg List.length hls; rw [List.length_cons] at hl9
                     have hsm := hxy; simp only [mst, mdat, Prod.mk.injEq] at hsm
                     have hy0 : l0[0]? = some (y0, y1, y2, y3, y4, y5, y6, y7, y8, y9, yA, yc, yb) := by rw [hls]; rfl
                     have hdy : encMessage_dd w0 D (y0, y1, y2, y3, y4, y5, y6, y7, y8, y9, yA, yc, yb) := hl0 _ (by rw [hls]; exact List.mem_cons_self) D
                     have hdx : encMessage_dd w0 D (x0, x1, x2, x3, x4, x5, x6, x7, x8, x9, xA, xc, xb) := hdu _ List.mem_cons_self
                     refine st_run tbOk 1 hA (e' := (134, .pointer (some ⟨bb3, 0, none⟩)) :: _) rfl ?_; clear hA; intro a hA
                     replace hS := hS.front 2 (C := D) (L' := [(b14, rowO [.int .u8 x12f0, .int .u64 x12f1, .int .u64 x12f2, .int .u32 x12f3, .int .u16 x12f4, .int .u16 x12f5, .int .u64 x12f6, .int .u32 x12f7, .int .u8 x12f8, .int .u64 x12f9, .int .u64 x12f10, .slice x12A11 x12b11.length x12c11] 52)] :: L :: C0 :: C1 :: [(b6, rowO [.slice A0 l0.length c0, .slice A1 l1.length c1] 44)] :: F) rfl rfl
                     replace hS := hS.front 2 (C := L) (L' := D :: [(b14, rowO [.int .u8 x12f0, .int .u64 x12f1, .int .u64 x12f2, .int .u32 x12f3, .int .u16 x12f4, .int .u16 x12f5, .int .u64 x12f6, .int .u32 x12f7, .int .u8 x12f8, .int .u64 x12f9, .int .u64 x12f10, .slice x12A11 x12b11.length x12c11] 52)] :: C0 :: C1 :: [(b6, rowO [.slice A0 l0.length c0, .slice A1 l1.length c1] 44)] :: F) rfl rfl
                     refine st_call0 hA rfl rfl rfl isfn10 rfl rfl (by decide) (get_u10 hS hM) ?_
                     clear hA hS; rintro _ w73 a ⟨L74, hM75, rfl, hS⟩ hA
                     refine st_run tbOk 3 hA (e' := (137, .bool true) :: (136, .agg #[.int .u64 x0, .int .u64 x1, .int .u32 x2, .int .u16 x3, .int .u16 x4, .int .u64 x5, .int .u32 x6, .int .u8 x7, .int .u64 x8, .int .u64 x9, .slice xA xb.length xc]) :: (133, .tuple #[.agg #[.int .u64 x0, .int .u64 x1, .int .u32 x2, .int .u16 x3, .int .u16 x4, .int .u64 x5, .int .u32 x6, .int .u8 x7, .int .u64 x8, .int .u64 x9, .slice xA xb.length xc], .bool true]) :: _) rfl ?_; clear hA; intro a hA
                     refine st_alloc tbOk hA hS [.int .u64 0, .int .u64 0, .int .u32 0, .int .u16 0, .int .u16 0, .int .u64 0, .int .u32 0, .int .u8 0, .int .u64 0, .int .u64 0, .slice none 0 0] rfl rfl rfl rfl rfl (by decide) ?_; clear hA hS; intro b76 w77 a hS hA
                     refine st_store tbOk hA hS [.int .u64 x0, .int .u64 x1, .int .u32 x2, .int .u16 x3, .int .u16 x4, .int .u64 x5, .int .u32 x6, .int .u8 x7, .int .u64 x8, .int .u64 x9, .slice xA xb.length xc] [.int .u64 x0, .int .u64 x1, .int .u32 x2, .int .u16 x3, .int .u16 x4, .int .u64 x5, .int .u32 x6, .int .u8 x7, .int .u64 x8, .int .u64 x9, .slice xA xb.length xc] rfl rfl rfl rfl rfl rfl (by simp [Value.oneCell']) (Nat.le_of_ble_eq_true rfl) rfl rfl rfl ?_; clear hS; intro w78 hS
                     refine st_run tbOk 1 hA (e' := (13, .bool true) :: _) rfl ?_; clear hA; intro a hA
                     refine wpList_nil ?_
                     replace hA := hA.sel [5, 6, 7, 12, 13, 34, 35, 36] (e' := [(5, .pointer (some ⟨bb3, 0, none⟩)), (6, .int .i64 ((n : Nat) : Int)), (7, .slice (some ⟨b6, 0, none⟩) 2 2), (12, .pointer (some ⟨b76, 0, none⟩)), (13, .bool true), (34, .slice (some ⟨b10, o11, none⟩) l.length c), (35, .int .i64 ((l.length : Nat) : Int)), (36, .int .i64 ((k : Nat) : Int))]) rfl
                     refine xt_norm ?_
                     refine wp_seq ?_
                     refine wp_region_lit ?_
                     refine st_run tbOk 1 hA (e' := (14, .int .i64 0) :: _) rfl ?_; clear hA; intro a hA
                     refine wpList_nil ?_
                     refine xt_norm ?_
                     refine wp_seq ?_
                     refine wp_seq ?_
                     refine wp_region_lit ?_
                     refine st_run tbOk 1 hA (e' := (138, .slice (some ⟨b6, 0, none⟩) 2 2) :: _) rfl ?_; clear hA; intro a hA
                     refine st_val hA rfl rfl (by decide) (rn_indexAddr tbOk hA 0 0 rfl rfl rfl rfl rfl rfl (by rfl) (by omega) (by first | rfl | simp [Nat.mul_one, Nat.zero_add] | omega)) ?_; clear hA; intro a hA
                     refine st_val hA rfl rfl (by decide) (rn_load tbOk hA rfl rfl rfl rfl (cell_row (hS.heapAt 6 rfl) rfl)) ?_; clear hA; intro a hA
                     refine st_run tbOk 2 hA (e' := (142, .bool (((l0.length : Nat) : Int) == 0)) :: (141, .int .i64 ((l0.length : Nat) : Int)) :: _) rfl ?_; clear hA; intro a hA
                     refine wpList_nil ?_
                     replace hA := hA.sel [5, 6, 7, 12, 13, 14, 34, 35, 36, 142] (e' := [(5, .pointer (some ⟨bb3, 0, none⟩)), (6, .int .i64 ((n : Nat) : Int)), (7, .slice (some ⟨b6, 0, none⟩) 2 2), (12, .pointer (some ⟨b76, 0, none⟩)), (13, .bool true), (14, .int .i64 0), (34, .slice (some ⟨b10, o11, none⟩) l.length c), (35, .int .i64 ((l.length : Nat) : Int)), (36, .int .i64 ((k : Nat) : Int)), (142, .bool (((l0.length : Nat) : Int) == 0))]) rfl
                     refine xt_norm ?_
                     have hc79 : ¬ (((l0.length : Nat) : Int) = 0) := by omega
                     replace hA := hA.rw 142 (v' := .bool false) rfl (vb_eq_f hc79)
                     refine cd_cond_f hA rfl ?_
                     refine wp_skip ?_
                     refine xt_norm ?_
                     refine wp_seq ?_
                     refine wp_seq ?_
                     refine wp_region_lit ?_
                     refine st_run tbOk 3 hA (e' := (145, .int .i64 0) :: (144, .slice (some ⟨b6, 0, none⟩) 2 2) :: (143, .bool true) :: _) rfl ?_; clear hA; intro a hA
                     refine st_val hA rfl rfl (by decide) (rn_indexAddr tbOk hA 0 0 rfl rfl rfl rfl rfl rfl (by rfl) (by omega) (by first | rfl | simp [Nat.mul_one, Nat.zero_add] | omega)) ?_; clear hA; intro a hA
                     refine st_val hA rfl rfl (by decide) (rn_load tbOk hA rfl rfl rfl rfl (cell_row (hS.heapAt 6 rfl) rfl)) ?_; clear hA; intro a hA
                     refine st_run tbOk 2 hA (e' := (149, .bool (decide (((l0.length : Nat) : Int) > 0))) :: (148, .int .i64 ((l0.length : Nat) : Int)) :: _) rfl ?_; clear hA; intro a hA
                     replace hA := hA.rw 149 (v' := .bool true) rfl (congrArg Value.bool (decide_eq_true (by omega)))
                     refine st_run tbOk 11 hA (e' := (160, .bool false) :: (159, .bool false) :: (158, undef) :: (157, undef) :: (156, undef) :: (155, undef) :: (154, .bool false) :: (153, .bool false) :: (152, .bool true) :: (151, .bool false) :: (150, .bool false) :: _) rfl ?_; clear hA; intro a hA
                     refine wpList_nil ?_
                     replace hA := hA.sel [5, 6, 7, 12, 13, 14, 34, 35, 36, 160] (e' := [(5, .pointer (some ⟨bb3, 0, none⟩)), (6, .int .i64 ((n : Nat) : Int)), (7, .slice (some ⟨b6, 0, none⟩) 2 2), (12, .pointer (some ⟨b76, 0, none⟩)), (13, .bool true), (14, .int .i64 0), (34, .slice (some ⟨b10, o11, none⟩) l.length c), (35, .int .i64 ((l.length : Nat) : Int)), (36, .int .i64 ((k : Nat) : Int)), (160, .bool false)]) rfl
                     refine xt_norm ?_
                     refine cd_cond_f hA rfl ?_
                     refine wp_skip ?_
                     refine xt_norm ?_
                     refine wp_seq ?_
                     refine wp_region_lit ?_
                     refine st_run tbOk 1 hA (e' := (161, .bool true) :: _) rfl ?_; clear hA; intro a hA
                     refine wpList_nil ?_
                     replace hA := hA.sel [5, 6, 7, 12, 14, 34, 35, 36, 161] (e' := [(5, .pointer (some ⟨bb3, 0, none⟩)), (6, .int .i64 ((n : Nat) : Int)), (7, .slice (some ⟨b6, 0, none⟩) 2 2), (12, .pointer (some ⟨b76, 0, none⟩)), (14, .int .i64 0), (34, .slice (some ⟨b10, o11, none⟩) l.length c), (35, .int .i64 ((l.length : Nat) : Int)), (36, .int .i64 ((k : Nat) : Int)), (161, .bool true)]) rfl
                     refine xt_norm ?_
                     refine cd_cond_t hA rfl ?_
                     refine wp_seq ?_
                     refine wp_seq ?_
                     obtain ⟨b80, o81, rfl⟩ := hR0.isSome (k := 0) (by omega)
                     refine wp_draw (fun w' => St w0 w' ([(b76, rowO [.int .u64 x0, .int .u64 x1, .int .u32 x2, .int .u16 x3, .int .u16 x4, .int .u64 x5, .int .u32 x6, .int .u8 x7, .int .u64 x8, .int .u64 x9, .slice xA xb.length xc] 37)] :: L74 :: D :: [(b14, rowO [.int .u8 x12f0, .int .u64 x12f1, .int .u64 x12f2, .int .u32 x12f3, .int .u16 x12f4, .int .u16 x12f5, .int .u64 x12f6, .int .u32 x12f7, .int .u8 x12f8, .int .u64 x12f9, .int .u64 x12f10, .slice x12A11 x12b11.length x12c11] 52)] :: C0 :: C1 :: [(b6, rowO [.slice (some ⟨b80, o81, none⟩) l0.length c0, .slice A1 l1.length c1] 44)] :: F)) [] [(0, true), (1, true), (2, true), (3, true), (4, true), (5, true), (6, true), (7, false), (8, true)] mixed (by kernel_rfl) (by rintro c a w ⟨_, _, h, _⟩; cases h) (by rfl) (by kernel_rfl) ?_
                     replace hS := hS.drew
                     refine dr_y hA rfl rfl rfl (by decide) hS (fun w' hS' => rn_loadA tbOk hA [.int .u64 x0, .int .u64 x1, .int .u32 x2, .int .u16 x3, .int .u16 x4, .int .u64 x5, .int .u32 x6, .int .u8 x7, .int .u64 x8, .int .u64 x9, .slice xA xb.length xc] rfl rfl rfl rfl rfl (cells_row (hS'.heapAt 0 rfl) rfl)) ?_; clear hA; intro a hA
                     refine dr_run tbOk 2 hA hS (e' := (164, .int .i64 0) :: (163, .slice (some ⟨b6, 0, none⟩) 2 2) :: _) rfl ?_; clear hA; intro a hA
                     refine dr_y hA rfl rfl rfl (by decide) hS (fun w' hS' => rn_indexAddr tbOk hA 0 0 rfl rfl rfl rfl rfl rfl (by rfl) (by omega) (by first | rfl | simp [Nat.mul_one, Nat.zero_add] | omega)) ?_; clear hA; intro a hA
                     refine dr_y hA rfl rfl rfl (by decide) hS (fun w' hS' => rn_load tbOk hA rfl rfl rfl rfl (cell_row (hS'.heapAt 6 rfl) rfl)) ?_; clear hA; intro a hA
                     refine dr_y hA rfl rfl rfl (by decide) hS (fun w' hS' => rn_indexAddr tbOk hA 0 o81 rfl rfl rfl rfl rfl rfl (by rfl) (by omega) (by first | rfl | simp [Nat.mul_one, Nat.zero_add] | omega)) ?_; clear hA; intro a hA
                     refine dr_y hA rfl rfl rfl (by decide) hS (fun w' hS' => rn_loadA tbOk hA ([.int .u64 y0, .int .u64 y1, .int .u32 y2, .int .u16 y3, .int .u16 y4, .int .u64 y5, .int .u32 y6, .int .u8 y7, .int .u64 y8, .int .u64 y9, .slice yA yb.length yc]) rfl rfl rfl rfl (by rfl) ((hR0.rd (hS'.own_ 4 rfl)).elem (k := 0) encMessage_ok hy0)) ?_; clear hA; intro a hA
                     refine dr_b (o := _) rfl ?_
                     refine st_call0 hA rfl rfl rfl isfn14 rfl rfl (by decide) (same04_14 hS x0 x1 x2 x3 x4 x5 x6 x7 x8 x9 y0 y1 y2 y3 y4 y5 y6 y7 y8 y9 (bs := xb) (cs := yb) (fun w' h => (hdx _ (h.only 2 rfl))) (fun w' h => (hdy _ (h.only 2 rfl)))) ?_
                     clear hA hS; rintro v w82 a ⟨rfl, hS⟩ hA
                     replace hA := hA.rw 169 (v' := .bool true) rfl (congrArg Value.bool (by rw [decide_eq_true_eq]; obtain ⟨q0, q1, q2, q3, q4, q5, q6, q7, q8, q9, qb⟩ := hsm; exact ⟨q0, q1, q2, q3, q4, ⟨q5, q6, q7, q8⟩, q9, qb⟩))
                     refine dr_nil (.inr hS) ?_
                     refine dr_run tbOk 1 hA hS (e' := (170, .bool false) :: _) rfl ?_; clear hA; intro a hA
                     refine dr_end ?_
                     replace hA := hA.sel [5, 6, 7, 14, 34, 35, 36, 170] (e' := [(5, .pointer (some ⟨bb3, 0, none⟩)), (6, .int .i64 ((n : Nat) : Int)), (7, .slice (some ⟨b6, 0, none⟩) 2 2), (14, .int .i64 0), (34, .slice (some ⟨b10, o11, none⟩) l.length c), (35, .int .i64 ((l.length : Nat) : Int)), (36, .int .i64 ((k : Nat) : Int)), (170, .bool false)]) rfl
                     refine xt_norm ?_
                     refine cd_cond_f hA rfl ?_
                     refine wp_skip ?_
                     refine xt_norm ?_
                     refine wp_region_lit ?_
                     refine st_run tbOk 4 hA (e' := (174, .int .i64 0) :: (173, .slice (some ⟨b6, 0, none⟩) 2 2) :: (172, .int .i64 0) :: (171, .slice (some ⟨b6, 0, none⟩) 2 2) :: _) rfl ?_; clear hA; intro a hA
                     refine st_val hA rfl rfl (by decide) (rn_indexAddr tbOk hA 0 0 rfl rfl rfl rfl rfl rfl (by rfl) (by omega) (by first | rfl | simp [Nat.mul_one, Nat.zero_add] | omega)) ?_; clear hA; intro a hA
                     refine st_val hA rfl rfl (by decide) (rn_load tbOk hA rfl rfl rfl rfl (cell_row (hS.heapAt 6 rfl) rfl)) ?_; clear hA; intro a hA
                     refine st_val hA rfl rfl (by decide) (rn_slice_l tbOk hA 1 rfl rfl rfl rfl rfl rfl (by rfl) (by omega)) ?_; clear hA; intro a hA
                     generalize hsv : slv (some ⟨b80, o81, none⟩) 1 l0.length c0 11 = v83 at hA
                     have hOs84 := hR0.rslv encMessage_ok 1 l0.length c0 (by omega) (by omega) (by omega) (by omega)
                     rw [hsv] at hOs84; clear hsv
                     have hsl : (l0.take l0.length).drop 1 = l9 := by rw [hls]; simp
                     rw [hsl] at hOs84; clear hsl
                     obtain ⟨A85, c86, rfl, hmc86, hxc86⟩ := hOs84.open'
                     refine st_val hA rfl rfl (by decide) (rn_indexAddr tbOk hA 0 0 rfl rfl rfl rfl rfl rfl (by rfl) (by omega) (by first | rfl | simp [Nat.mul_one, Nat.zero_add] | omega)) ?_; clear hA; intro a hA
                     replace hS := hS.front 6 (C := [(b6, rowO [.slice (some ⟨b80, o81, none⟩) l0.length c0, .slice A1 l1.length c1] 44)]) (L' := [(b76, rowO [.int .u64 x0, .int .u64 x1, .int .u32 x2, .int .u16 x3, .int .u16 x4, .int .u64 x5, .int .u32 x6, .int .u8 x7, .int .u64 x8, .int .u64 x9, .slice xA xb.length xc] 37)] :: L74 :: D :: [(b14, rowO [.int .u8 x12f0, .int .u64 x12f1, .int .u64 x12f2, .int .u32 x12f3, .int .u16 x12f4, .int .u16 x12f5, .int .u64 x12f6, .int .u32 x12f7, .int .u8 x12f8, .int .u64 x12f9, .int .u64 x12f10, .slice x12A11 x12b11.length x12c11] 52)] :: C0 :: C1 :: F) rfl rfl
                     refine st_store tbOk hA hS [.slice A85 l9.length c86] [.slice A85 l9.length c86, .slice A1 l1.length c1] rfl rfl rfl rfl rfl rfl (by intro u hu; rw [List.mem_singleton.1 hu]; rfl) (Nat.le_of_ble_eq_true rfl) rfl rfl rfl ?_; clear hS; intro w87 hS
                     refine wpList_nil ?_
                     replace hA := hA.sel [5, 6, 7, 34, 35, 36] (e' := [(5, .pointer (some ⟨bb3, 0, none⟩)), (6, .int .i64 ((n : Nat) : Int)), (7, .slice (some ⟨b6, 0, none⟩) 2 2), (34, .slice (some ⟨b10, o11, none⟩) l.length c), (35, .int .i64 ((l.length : Nat) : Int)), (36, .int .i64 ((k : Nat) : Int))]) rfl
                     refine xb_norm ?_
                     refine xt_norm ?_
                     refine wp_seq ?_
                     refine wp_region_lit ?_
                     refine st_run tbOk 1 hA (e' := (180, .pointer (some ⟨bb3, 0, none⟩)) :: _) rfl ?_; clear hA; intro a hA
                     replace hS := hS.front 2 (C := L74) (L' := [(b6, rowO [.slice A85 l9.length c86, .slice A1 l1.length c1] 44)] :: [(b76, rowO [.int .u64 x0, .int .u64 x1, .int .u32 x2, .int .u16 x3, .int .u16 x4, .int .u64 x5, .int .u32 x6, .int .u8 x7, .int .u64 x8, .int .u64 x9, .slice xA xb.length xc] 37)] :: D :: [(b14, rowO [.int .u8 x12f0, .int .u64 x12f1, .int .u64 x12f2, .int .u32 x12f3, .int .u16 x12f4, .int .u16 x12f5, .int .u64 x12f6, .int .u32 x12f7, .int .u8 x12f8, .int .u64 x12f9, .int .u64 x12f10, .slice x12A11 x12b11.length x12c11] 52)] :: C0 :: C1 :: F) rfl rfl
                     refine st_call0 hA rfl rfl rfl isfn16 rfl rfl (by decide) (len16 hS hM75) ?_; clear hA hS; rintro _ w88 a ⟨L89, hM90, rfl, hS⟩ hA
                     refine st_run tbOk 5 hA (e' := (23, .int .i64 ((ps.length : Nat) : Int)) :: (22, .int .i64 ((u9.length : Nat) : Int)) :: (183, .int .i64 ((ps.length : Nat) : Int)) :: (182, .int .i64 ((u9.length : Nat) : Int)) :: (179, .tuple #[.int .i64 ((u9.length : Nat) : Int), .int .i64 ((ps.length : Nat) : Int)]) :: _) rfl ?_; clear hA; intro a hA
                     refine wpList_nil ?_
                     replace hA := hA.sel [5, 6, 7, 22, 23, 34, 35, 36] (e' := [(5, .pointer (some ⟨bb3, 0, none⟩)), (6, .int .i64 ((n : Nat) : Int)), (7, .slice (some ⟨b6, 0, none⟩) 2 2), (22, .int .i64 ((u9.length : Nat) : Int)), (23, .int .i64 ((ps.length : Nat) : Int)), (34, .slice (some ⟨b10, o11, none⟩) l.length c), (35, .int .i64 ((l.length : Nat) : Int)), (36, .int .i64 ((k : Nat) : Int))]) rfl
                     refine xt_norm ?_
                     refine wp_seq ?_
                     refine wp_region_lit ?_
                     have hq0 : u9.length = l9.length := len_of hul9; have hq1 : ps.length = l1.length := len_of he1
                     refine st_run tbOk 2 hA (e' := (185, .slice (some ⟨b6, 0, none⟩) 2 2) :: (184, .int .i64 ((u9.length : Nat) : Int)) :: _) rfl ?_; clear hA; intro a hA
                     refine st_val hA rfl rfl (by decide) (rn_indexAddr tbOk hA 0 0 rfl rfl rfl rfl rfl rfl (by rfl) (by omega) (by first | rfl | simp [Nat.mul_one, Nat.zero_add] | omega)) ?_; clear hA; intro a hA
                     refine st_val hA rfl rfl (by decide) (rn_load tbOk hA rfl rfl rfl rfl (cell_row (hS.heapAt 1 rfl) rfl)) ?_; clear hA; intro a hA
                     refine st_run tbOk 3 hA (e' := (190, .bool (((u9.length : Nat) : Int) != ((l9.length : Nat) : Int))) :: (189, .bool (((u9.length : Nat) : Int) != ((l9.length : Nat) : Int))) :: (188, .int .i64 ((l9.length : Nat) : Int)) :: _) rfl ?_; clear hA; intro a hA
                     have hc91 : ((u9.length : Nat) : Int) = ((l9.length : Nat) : Int) := by omega
                     replace hA := hA.rw 189 (v' := .bool false) rfl (vb_ne_f hc91)
                     replace hA := hA.rw 190 (v' := .bool false) rfl (vb_ne_f hc91)
                     refine st_run tbOk 2 hA (e' := (192, .slice (some ⟨b6, 0, none⟩) 2 2) :: (191, .int .i64 ((ps.length : Nat) : Int)) :: _) rfl ?_; clear hA; intro a hA
                     refine st_val hA rfl rfl (by decide) (rn_indexAddr tbOk hA 1 1 rfl rfl rfl rfl rfl rfl (by rfl) (by omega) (by first | rfl | simp [Nat.mul_one, Nat.zero_add] | omega)) ?_; clear hA; intro a hA
                     refine st_val hA rfl rfl (by decide) (rn_load tbOk hA rfl rfl rfl rfl (cell_row (hS.heapAt 1 rfl) rfl)) ?_; clear hA; intro a hA
                     refine st_run tbOk 3 hA (e' := (197, .bool (((ps.length : Nat) : Int) != ((l1.length : Nat) : Int))) :: (196, .bool (((ps.length : Nat) : Int) != ((l1.length : Nat) : Int))) :: (195, .int .i64 ((l1.length : Nat) : Int)) :: _) rfl ?_; clear hA; intro a hA
                     refine wpList_nil ?_
                     replace hA := hA.sel [5, 6, 7, 34, 35, 36, 197] (e' := [(5, .pointer (some ⟨bb3, 0, none⟩)), (6, .int .i64 ((n : Nat) : Int)), (7, .slice (some ⟨b6, 0, none⟩) 2 2), (34, .slice (some ⟨b10, o11, none⟩) l.length c), (35, .int .i64 ((l.length : Nat) : Int)), (36, .int .i64 ((k : Nat) : Int)), (197, .bool (((ps.length : Nat) : Int) != ((l1.length : Nat) : Int)))]) rfl
                     refine xt_norm ?_
                     have hc92 : ((ps.length : Nat) : Int) = ((l1.length : Nat) : Int) := by omega
                     replace hA := hA.rw 197 (v' := .bool false) rfl (vb_ne_f hc92)
                     refine cd_cond_f hA rfl ?_
                     refine wp_skip ?_
                     refine xb_norm ?_
                     refine xt_norm ?_
                     refine wp_region_lit ?_
                     refine st_run tbOk 1 hA (e' := (198, .int .i64 (IntKind.i64.wrap (((k : Nat) : Int) + 1))) :: _) rfl ?_; clear hA; intro a hA
                     replace hA := hA.rw 198 (v' := .int .i64 ((k + 1 : Nat) : Int)) rfl (wr64 (by omega) (by omega) (by omega))
                     refine st_run tbOk 1 hA (e' := (36, .int .i64 ((k + 1 : Nat) : Int)) :: _) rfl ?_; clear hA; intro a hA
                     refine wpList_nil ?_
                     replace hA := hA.sel [5, 6, 7, 34, 35, 36] (e' := [(5, .pointer (some ⟨bb3, 0, none⟩)), (6, .int .i64 ((n : Nat) : Int)), (7, .slice (some ⟨b6, 0, none⟩) 2 2), (34, .slice (some ⟨b10, o11, none⟩) l.length c), (35, .int .i64 ((l.length : Nat) : Int)), (36, .int .i64 ((k + 1 : Nat) : Int))]) rfl
                     replace hS := hS.front 4 (C := [(b14, rowO [.int .u8 x12f0, .int .u64 x12f1, .int .u64 x12f2, .int .u32 x12f3, .int .u16 x12f4, .int .u16 x12f5, .int .u64 x12f6, .int .u32 x12f7, .int .u8 x12f8, .int .u64 x12f9, .int .u64 x12f10, .slice x12A11 x12b11.length x12c11] 52)]) (L' := L89 :: [(b6, rowO [.slice A85 l9.length c86, .slice A1 l1.length c1] 44)] :: [(b76, rowO [.int .u64 x0, .int .u64 x1, .int .u32 x2, .int .u16 x3, .int .u16 x4, .int .u64 x5, .int .u32 x6, .int .u8 x7, .int .u64 x8, .int .u64 x9, .slice xA xb.length xc] 37)] :: D :: C0 :: C1 :: F) rfl rfl
                     replace hS := hS.drop1
                     replace hS := hS.front 2 (C := [(b76, rowO [.int .u64 x0, .int .u64 x1, .int .u32 x2, .int .u16 x3, .int .u16 x4, .int .u64 x5, .int .u32 x6, .int .u8 x7, .int .u64 x8, .int .u64 x9, .slice xA xb.length xc] 37)]) (L' := L89 :: [(b6, rowO [.slice A85 l9.length c86, .slice A1 l1.length c1] 44)] :: D :: C0 :: C1 :: F) rfl rfl
                     replace hS := hS.drop1
                     replace hS := hS.front 1 (C := [(b6, rowO [.slice A85 l9.length c86, .slice A1 l1.length c1] 44)]) (L' := L89 :: D :: C0 :: C1 :: F) rfl rfl
                     replace hS := hS.front 4 (C := C1) (L' := [(b6, rowO [.slice A85 l9.length c86, .slice A1 l1.length c1] 44)] :: L89 :: D :: C0 :: F) rfl rfl
                     replace hS := hS.front 4 (C := C0) (L' := C1 :: [(b6, rowO [.slice A85 l9.length c86, .slice A1 l1.length c1] 44)] :: L89 :: D :: F) rfl rfl
                     replace hS := hS.front 4 (C := D) (L' := C0 :: C1 :: [(b6, rowO [.slice A85 l9.length c86, .slice A1 l1.length c1] 44)] :: L89 :: F) rfl rfl
                     replace hS := hS.front 4 (C := L89) (L' := D :: C0 :: C1 :: [(b6, rowO [.slice A85 l9.length c86, .slice A1 l1.length c1] 44)] :: F) rfl rfl
                     exact lp_next _ (by omega) ⟨(k + 1), u9, ps, (l9), (l1), L89, D, A85, c86, C0, A1, c1, C1, rfl, (hA.sel [5, 6, 7, 34, 35, 36] rfl), hS, by omega, hM90, hOs84, hR1, (dd_tl hdu), hdp, (gd_tl hl0 hls), hl1, hul9, he1, (by omega), hn1⟩
                   · subst hus0
                     subst hus
                     have hl0z : l0.length = 0 := by rw [hls0]; rfl
                     have hl9 := congrArg List.length hls; rw [List.length_cons] at hl9
                     have hsm := hxy; simp only [mst, mdat, Prod.mk.injEq] at hsm
                     have hy0 : l1[0]? = some (y0, y1, y2, y3, y4, y5, y6, y7, y8, y9, yA, yc, yb) := by rw [hls]; rfl
                     have hdy : encMessage_dd w0 D (y0, y1, y2, y3, y4, y5, y6, y7, y8, y9, yA, yc, yb) := hl1 _ (by rw [hls]; exact List.mem_cons_self) D
                     have hdx : encMessage_dd w0 D (x0, x1, x2, x3, x4, x5, x6, x7, x8, x9, xA, xc, xb) := hdp _ List.mem_cons_self
                     refine st_run tbOk 1 hA (e' := (134, .pointer (some ⟨bb3, 0, none⟩)) :: _) rfl ?_; clear hA; intro a hA
                     replace hS := hS.front 2 (C := D) (L' := [(b14, rowO [.int .u8 x12f0, .int .u64 x12f1, .int .u64 x12f2, .int .u32 x12f3, .int .u16 x12f4, .int .u16 x12f5, .int .u64 x12f6, .int .u32 x12f7, .int .u8 x12f8, .int .u64 x12f9, .int .u64 x12f10, .slice x12A11 x12b11.length x12c11] 52)] :: L :: C0 :: C1 :: [(b6, rowO [.slice A0 l0.length c0, .slice A1 l1.length c1] 44)] :: F) rfl rfl
                     replace hS := hS.front 2 (C := L) (L' := D :: [(b14, rowO [.int .u8 x12f0, .int .u64 x12f1, .int .u64 x12f2, .int .u32 x12f3, .int .u16 x12f4, .int .u16 x12f5, .int .u64 x12f6, .int .u32 x12f7, .int .u8 x12f8, .int .u64 x12f9, .int .u64 x12f10, .slice x12A11 x12b11.length x12c11] 52)] :: C0 :: C1 :: [(b6, rowO [.slice A0 l0.length c0, .slice A1 l1.length c1] 44)] :: F) rfl rfl
                     refine st_call0 hA rfl rfl rfl isfn10 rfl rfl (by decide) (get_p10 hS hM) ?_
                     clear hA hS; rintro _ w93 a ⟨L94, hM95, rfl, hS⟩ hA
                     refine st_run tbOk 3 hA (e' := (137, .bool true) :: (136, .agg #[.int .u64 x0, .int .u64 x1, .int .u32 x2, .int .u16 x3, .int .u16 x4, .int .u64 x5, .int .u32 x6, .int .u8 x7, .int .u64 x8, .int .u64 x9, .slice xA xb.length xc]) :: (133, .tuple #[.agg #[.int .u64 x0, .int .u64 x1, .int .u32 x2, .int .u16 x3, .int .u16 x4, .int .u64 x5, .int .u32 x6, .int .u8 x7, .int .u64 x8, .int .u64 x9, .slice xA xb.length xc], .bool true]) :: _) rfl ?_; clear hA; intro a hA
                     refine st_alloc tbOk hA hS [.int .u64 0, .int .u64 0, .int .u32 0, .int .u16 0, .int .u16 0, .int .u64 0, .int .u32 0, .int .u8 0, .int .u64 0, .int .u64 0, .slice none 0 0] rfl rfl rfl rfl rfl (by decide) ?_; clear hA hS; intro b96 w97 a hS hA
                     refine st_store tbOk hA hS [.int .u64 x0, .int .u64 x1, .int .u32 x2, .int .u16 x3, .int .u16 x4, .int .u64 x5, .int .u32 x6, .int .u8 x7, .int .u64 x8, .int .u64 x9, .slice xA xb.length xc] [.int .u64 x0, .int .u64 x1, .int .u32 x2, .int .u16 x3, .int .u16 x4, .int .u64 x5, .int .u32 x6, .int .u8 x7, .int .u64 x8, .int .u64 x9, .slice xA xb.length xc] rfl rfl rfl rfl rfl rfl (by simp [Value.oneCell']) (Nat.le_of_ble_eq_true rfl) rfl rfl rfl ?_; clear hS; intro w98 hS
                     refine st_run tbOk 1 hA (e' := (13, .bool true) :: _) rfl ?_; clear hA; intro a hA
                     refine wpList_nil ?_
                     replace hA := hA.sel [5, 6, 7, 12, 13, 34, 35, 36] (e' := [(5, .pointer (some ⟨bb3, 0, none⟩)), (6, .int .i64 ((n : Nat) : Int)), (7, .slice (some ⟨b6, 0, none⟩) 2 2), (12, .pointer (some ⟨b96, 0, none⟩)), (13, .bool true), (34, .slice (some ⟨b10, o11, none⟩) l.length c), (35, .int .i64 ((l.length : Nat) : Int)), (36, .int .i64 ((k : Nat) : Int))]) rfl
                     refine xt_norm ?_
                     refine wp_seq ?_
                     refine wp_region_lit ?_
                     refine st_run tbOk 1 hA (e' := (14, .int .i64 0) :: _) rfl ?_; clear hA; intro a hA
                     refine wpList_nil ?_
                     refine xt_norm ?_
                     refine wp_seq ?_
                     refine wp_seq ?_
                     refine wp_region_lit ?_
                     refine st_run tbOk 1 hA (e' := (138, .slice (some ⟨b6, 0, none⟩) 2 2) :: _) rfl ?_; clear hA; intro a hA
                     refine st_val hA rfl rfl (by decide) (rn_indexAddr tbOk hA 0 0 rfl rfl rfl rfl rfl rfl (by rfl) (by omega) (by first | rfl | simp [Nat.mul_one, Nat.zero_add] | omega)) ?_; clear hA; intro a hA
                     refine st_val hA rfl rfl (by decide) (rn_load tbOk hA rfl rfl rfl rfl (cell_row (hS.heapAt 6 rfl) rfl)) ?_; clear hA; intro a hA
                     refine st_run tbOk 2 hA (e' := (142, .bool (((l0.length : Nat) : Int) == 0)) :: (141, .int .i64 ((l0.length : Nat) : Int)) :: _) rfl ?_; clear hA; intro a hA
                     refine wpList_nil ?_
                     replace hA := hA.sel [5, 6, 7, 12, 13, 14, 34, 35, 36, 142] (e' := [(5, .pointer (some ⟨bb3, 0, none⟩)), (6, .int .i64 ((n : Nat) : Int)), (7, .slice (some ⟨b6, 0, none⟩) 2 2), (12, .pointer (some ⟨b96, 0, none⟩)), (13, .bool true), (14, .int .i64 0), (34, .slice (some ⟨b10, o11, none⟩) l.length c), (35, .int .i64 ((l.length : Nat) : Int)), (36, .int .i64 ((k : Nat) : Int)), (142, .bool (((l0.length : Nat) : Int) == 0))]) rfl
                     refine xt_norm ?_
                     have hc99 : ((l0.length : Nat) : Int) = 0 := by omega
                     replace hA := hA.rw 142 (v' := .bool true) rfl (vb_eq_t hc99)
                     refine cd_cond_t hA rfl ?_
                     refine wp_region_lit ?_
                     refine st_run tbOk 1 hA (e' := (14, .int .i64 1) :: _) rfl ?_; clear hA; intro a hA
                     refine wpList_nil ?_
                     replace hA := hA.sel [5, 6, 7, 12, 13, 14, 34, 35, 36] (e' := [(5, .pointer (some ⟨bb3, 0, none⟩)), (6, .int .i64 ((n : Nat) : Int)), (7, .slice (some ⟨b6, 0, none⟩) 2 2), (12, .pointer (some ⟨b96, 0, none⟩)), (13, .bool true), (14, .int .i64 1), (34, .slice (some ⟨b10, o11, none⟩) l.length c), (35, .int .i64 ((l.length : Nat) : Int)), (36, .int .i64 ((k : Nat) : Int))]) rfl
                     refine xt_norm ?_
                     refine wp_seq ?_
                     refine wp_seq ?_
                     refine wp_region_lit ?_
                     refine st_run tbOk 3 hA (e' := (145, .int .i64 1) :: (144, .slice (some ⟨b6, 0, none⟩) 2 2) :: (143, .bool true) :: _) rfl ?_; clear hA; intro a hA
                     refine st_val hA rfl rfl (by decide) (rn_indexAddr tbOk hA 1 1 rfl rfl rfl rfl rfl rfl (by rfl) (by omega) (by first | rfl | simp [Nat.mul_one, Nat.zero_add] | omega)) ?_; clear hA; intro a hA
                     refine st_val hA rfl rfl (by decide) (rn_load tbOk hA rfl rfl rfl rfl (cell_row (hS.heapAt 6 rfl) rfl)) ?_; clear hA; intro a hA
                     refine st_run tbOk 2 hA (e' := (149, .bool (decide (((l1.length : Nat) : Int) > 0))) :: (148, .int .i64 ((l1.length : Nat) : Int)) :: _) rfl ?_; clear hA; intro a hA
                     replace hA := hA.rw 149 (v' := .bool true) rfl (congrArg Value.bool (decide_eq_true (by omega)))
                     refine st_run tbOk 11 hA (e' := (160, .bool false) :: (159, .bool false) :: (158, undef) :: (157, undef) :: (156, undef) :: (155, undef) :: (154, .bool false) :: (153, .bool false) :: (152, .bool true) :: (151, .bool false) :: (150, .bool false) :: _) rfl ?_; clear hA; intro a hA
                     refine wpList_nil ?_
                     replace hA := hA.sel [5, 6, 7, 12, 13, 14, 34, 35, 36, 160] (e' := [(5, .pointer (some ⟨bb3, 0, none⟩)), (6, .int .i64 ((n : Nat) : Int)), (7, .slice (some ⟨b6, 0, none⟩) 2 2), (12, .pointer (some ⟨b96, 0, none⟩)), (13, .bool true), (14, .int .i64 1), (34, .slice (some ⟨b10, o11, none⟩) l.length c), (35, .int .i64 ((l.length : Nat) : Int)), (36, .int .i64 ((k : Nat) : Int)), (160, .bool false)]) rfl
                     refine xt_norm ?_
                     refine cd_cond_f hA rfl ?_
                     refine wp_skip ?_
                     refine xt_norm ?_
                     refine wp_seq ?_
                     refine wp_region_lit ?_
                     refine st_run tbOk 1 hA (e' := (161, .bool true) :: _) rfl ?_; clear hA; intro a hA
                     refine wpList_nil ?_
                     replace hA := hA.sel [5, 6, 7, 12, 14, 34, 35, 36, 161] (e' := [(5, .pointer (some ⟨bb3, 0, none⟩)), (6, .int .i64 ((n : Nat) : Int)), (7, .slice (some ⟨b6, 0, none⟩) 2 2), (12, .pointer (some ⟨b96, 0, none⟩)), (14, .int .i64 1), (34, .slice (some ⟨b10, o11, none⟩) l.length c), (35, .int .i64 ((l.length : Nat) : Int)), (36, .int .i64 ((k : Nat) : Int)), (161, .bool true)]) rfl
                     refine xt_norm ?_
                     refine cd_cond_t hA rfl ?_
                     refine wp_seq ?_
                     refine wp_seq ?_
                     obtain ⟨b100, o101, rfl⟩ := hR1.isSome (k := 0) (by omega)
                     refine wp_draw (fun w' => St w0 w' ([(b96, rowO [.int .u64 x0, .int .u64 x1, .int .u32 x2, .int .u16 x3, .int .u16 x4, .int .u64 x5, .int .u32 x6, .int .u8 x7, .int .u64 x8, .int .u64 x9, .slice xA xb.length xc] 37)] :: L94 :: D :: [(b14, rowO [.int .u8 x12f0, .int .u64 x12f1, .int .u64 x12f2, .int .u32 x12f3, .int .u16 x12f4, .int .u16 x12f5, .int .u64 x12f6, .int .u32 x12f7, .int .u8 x12f8, .int .u64 x12f9, .int .u64 x12f10, .slice x12A11 x12b11.length x12c11] 52)] :: C0 :: C1 :: [(b6, rowO [.slice A0 l0.length c0, .slice (some ⟨b100, o101, none⟩) l1.length c1] 44)] :: F)) [] [(0, true), (1, true), (2, true), (3, true), (4, true), (5, true), (6, true), (7, false), (8, true)] mixed (by kernel_rfl) (by rintro c a w ⟨_, _, h, _⟩; cases h) (by rfl) (by kernel_rfl) ?_
                     replace hS := hS.drew
                     refine dr_y hA rfl rfl rfl (by decide) hS (fun w' hS' => rn_loadA tbOk hA [.int .u64 x0, .int .u64 x1, .int .u32 x2, .int .u16 x3, .int .u16 x4, .int .u64 x5, .int .u32 x6, .int .u8 x7, .int .u64 x8, .int .u64 x9, .slice xA xb.length xc] rfl rfl rfl rfl rfl (cells_row (hS'.heapAt 0 rfl) rfl)) ?_; clear hA; intro a hA
                     refine dr_run tbOk 2 hA hS (e' := (164, .int .i64 1) :: (163, .slice (some ⟨b6, 0, none⟩) 2 2) :: _) rfl ?_; clear hA; intro a hA
                     refine dr_y hA rfl rfl rfl (by decide) hS (fun w' hS' => rn_indexAddr tbOk hA 1 1 rfl rfl rfl rfl rfl rfl (by rfl) (by omega) (by first | rfl | simp [Nat.mul_one, Nat.zero_add] | omega)) ?_; clear hA; intro a hA
                     refine dr_y hA rfl rfl rfl (by decide) hS (fun w' hS' => rn_load tbOk hA rfl rfl rfl rfl (cell_row (hS'.heapAt 6 rfl) rfl)) ?_; clear hA; intro a hA
                     refine dr_y hA rfl rfl rfl (by decide) hS (fun w' hS' => rn_indexAddr tbOk hA 0 o101 rfl rfl rfl rfl rfl rfl (by rfl) (by omega) (by first | rfl | simp [Nat.mul_one, Nat.zero_add] | omega)) ?_; clear hA; intro a hA
                     refine dr_y hA rfl rfl rfl (by decide) hS (fun w' hS' => rn_loadA tbOk hA ([.int .u64 y0, .int .u64 y1, .int .u32 y2, .int .u16 y3, .int .u16 y4, .int .u64 y5, .int .u32 y6, .int .u8 y7, .int .u64 y8, .int .u64 y9, .slice yA yb.length yc]) rfl rfl rfl rfl (by rfl) ((hR1.rd (hS'.own_ 5 rfl)).elem (k := 0) encMessage_ok hy0)) ?_; clear hA; intro a hA
                     refine dr_b (o := _) rfl ?_
                     refine st_call0 hA rfl rfl rfl isfn14 rfl rfl (by decide) (same04_14 hS x0 x1 x2 x3 x4 x5 x6 x7 x8 x9 y0 y1 y2 y3 y4 y5 y6 y7 y8 y9 (bs := xb) (cs := yb) (fun w' h => (hdx _ (h.only 2 rfl))) (fun w' h => (hdy _ (h.only 2 rfl)))) ?_
                     clear hA hS; rintro v w102 a ⟨rfl, hS⟩ hA
                     replace hA := hA.rw 169 (v' := .bool true) rfl (congrArg Value.bool (by rw [decide_eq_true_eq]; obtain ⟨q0, q1, q2, q3, q4, q5, q6, q7, q8, q9, qb⟩ := hsm; exact ⟨q0, q1, q2, q3, q4, ⟨q5, q6, q7, q8⟩, q9, qb⟩))
                     refine dr_nil (.inr hS) ?_
                     refine dr_run tbOk 1 hA hS (e' := (170, .bool false) :: _) rfl ?_; clear hA; intro a hA
                     refine dr_end ?_
                     replace hA := hA.sel [5, 6, 7, 14, 34, 35, 36, 170] (e' := [(5, .pointer (some ⟨bb3, 0, none⟩)), (6, .int .i64 ((n : Nat) : Int)), (7, .slice (some ⟨b6, 0, none⟩) 2 2), (14, .int .i64 1), (34, .slice (some ⟨b10, o11, none⟩) l.length c), (35, .int .i64 ((l.length : Nat) : Int)), (36, .int .i64 ((k : Nat) : Int)), (170, .bool false)]) rfl
                     refine xt_norm ?_
                     refine cd_cond_f hA rfl ?_
                     refine wp_skip ?_
                     refine xt_norm ?_
                     refine wp_region_lit ?_
                     refine st_run tbOk 4 hA (e' := (174, .int .i64 1) :: (173, .slice (some ⟨b6, 0, none⟩) 2 2) :: (172, .int .i64 1) :: (171, .slice (some ⟨b6, 0, none⟩) 2 2) :: _) rfl ?_; clear hA; intro a hA
                     refine st_val hA rfl rfl (by decide) (rn_indexAddr tbOk hA 1 1 rfl rfl rfl rfl rfl rfl (by rfl) (by omega) (by first | rfl | simp [Nat.mul_one, Nat.zero_add] | omega)) ?_; clear hA; intro a hA
                     refine st_val hA rfl rfl (by decide) (rn_load tbOk hA rfl rfl rfl rfl (cell_row (hS.heapAt 6 rfl) rfl)) ?_; clear hA; intro a hA
                     refine st_val hA rfl rfl (by decide) (rn_slice_l tbOk hA 1 rfl rfl rfl rfl rfl rfl (by rfl) (by omega)) ?_; clear hA; intro a hA
                     generalize hsv : slv (some ⟨b100, o101, none⟩) 1 l1.length c1 11 = v103 at hA
                     have hOs104 := hR1.rslv encMessage_ok 1 l1.length c1 (by omega) (by omega) (by omega) (by omega)
                     rw [hsv] at hOs104; clear hsv
                     have hsl : (l1.take l1.length).drop 1 = l9 := by rw [hls]; simp
                     rw [hsl] at hOs104; clear hsl
                     obtain ⟨A105, c106, rfl, hmc106, hxc106⟩ := hOs104.open'
                     refine st_val hA rfl rfl (by decide) (rn_indexAddr tbOk hA 1 1 rfl rfl rfl rfl rfl rfl (by rfl) (by omega) (by first | rfl | simp [Nat.mul_one, Nat.zero_add] | omega)) ?_; clear hA; intro a hA
                     replace hS := hS.front 6 (C := [(b6, rowO [.slice A0 l0.length c0, .slice (some ⟨b100, o101, none⟩) l1.length c1] 44)]) (L' := [(b96, rowO [.int .u64 x0, .int .u64 x1, .int .u32 x2, .int .u16 x3, .int .u16 x4, .int .u64 x5, .int .u32 x6, .int .u8 x7, .int .u64 x8, .int .u64 x9, .slice xA xb.length xc] 37)] :: L94 :: D :: [(b14, rowO [.int .u8 x12f0, .int .u64 x12f1, .int .u64 x12f2, .int .u32 x12f3, .int .u16 x12f4, .int .u16 x12f5, .int .u64 x12f6, .int .u32 x12f7, .int .u8 x12f8, .int .u64 x12f9, .int .u64 x12f10, .slice x12A11 x12b11.length x12c11] 52)] :: C0 :: C1 :: F) rfl rfl
                     refine st_store tbOk hA hS [.slice A105 l9.length c106] [.slice A0 l0.length c0, .slice A105 l9.length c106] rfl rfl rfl rfl rfl rfl (by intro u hu; rw [List.mem_singleton.1 hu]; rfl) (Nat.le_of_ble_eq_true rfl) rfl rfl rfl ?_; clear hS; intro w107 hS
                     refine wpList_nil ?_
                     replace hA := hA.sel [5, 6, 7, 34, 35, 36] (e' := [(5, .pointer (some ⟨bb3, 0, none⟩)), (6, .int .i64 ((n : Nat) : Int)), (7, .slice (some ⟨b6, 0, none⟩) 2 2), (34, .slice (some ⟨b10, o11, none⟩) l.length c), (35, .int .i64 ((l.length : Nat) : Int)), (36, .int .i64 ((k : Nat) : Int))]) rfl
                     refine xb_norm ?_
                     refine xt_norm ?_
                     refine wp_seq ?_
                     refine wp_region_lit ?_
                     refine st_run tbOk 1 hA (e' := (180, .pointer (some ⟨bb3, 0, none⟩)) :: _) rfl ?_; clear hA; intro a hA
                     replace hS := hS.front 2 (C := L94) (L' := [(b6, rowO [.slice A0 l0.length c0, .slice A105 l9.length c106] 44)] :: [(b96, rowO [.int .u64 x0, .int .u64 x1, .int .u32 x2, .int .u16 x3, .int .u16 x4, .int .u64 x5, .int .u32 x6, .int .u8 x7, .int .u64 x8, .int .u64 x9, .slice xA xb.length xc] 37)] :: D :: [(b14, rowO [.int .u8 x12f0, .int .u64 x12f1, .int .u64 x12f2, .int .u32 x12f3, .int .u16 x12f4, .int .u16 x12f5, .int .u64 x12f6, .int .u32 x12f7, .int .u8 x12f8, .int .u64 x12f9, .int .u64 x12f10, .slice x12A11 x12b11.length x12c11] 52)] :: C0 :: C1 :: F) rfl rfl
                     refine st_call0 hA rfl rfl rfl isfn16 rfl rfl (by decide) (len16 hS hM95) ?_; clear hA hS; rintro _ w108 a ⟨L109, hM110, rfl, hS⟩ hA
                     refine st_run tbOk 5 hA (e' := (23, .int .i64 ((u9.length : Nat) : Int)) :: (22, .int .i64 ((([] : List Msg).length : Nat) : Int)) :: (183, .int .i64 ((u9.length : Nat) : Int)) :: (182, .int .i64 ((([] : List Msg).length : Nat) : Int)) :: (179, .tuple #[.int .i64 ((([] : List Msg).length : Nat) : Int), .int .i64 ((u9.length : Nat) : Int)]) :: _) rfl ?_; clear hA; intro a hA
                     refine wpList_nil ?_
                     replace hA := hA.sel [5, 6, 7, 22, 23, 34, 35, 36] (e' := [(5, .pointer (some ⟨bb3, 0, none⟩)), (6, .int .i64 ((n : Nat) : Int)), (7, .slice (some ⟨b6, 0, none⟩) 2 2), (22, .int .i64 ((([] : List Msg).length : Nat) : Int)), (23, .int .i64 ((u9.length : Nat) : Int)), (34, .slice (some ⟨b10, o11, none⟩) l.length c), (35, .int .i64 ((l.length : Nat) : Int)), (36, .int .i64 ((k : Nat) : Int))]) rfl
                     refine xt_norm ?_
                     refine wp_seq ?_
                     refine wp_region_lit ?_
                     have hq0 : ([] : List Msg).length = l0.length := len_of he0; have hq1 : u9.length = l9.length := len_of hul9
                     refine st_run tbOk 2 hA (e' := (185, .slice (some ⟨b6, 0, none⟩) 2 2) :: (184, .int .i64 ((([] : List Msg).length : Nat) : Int)) :: _) rfl ?_; clear hA; intro a hA
                     refine st_val hA rfl rfl (by decide) (rn_indexAddr tbOk hA 0 0 rfl rfl rfl rfl rfl rfl (by rfl) (by omega) (by first | rfl | simp [Nat.mul_one, Nat.zero_add] | omega)) ?_; clear hA; intro a hA
                     refine st_val hA rfl rfl (by decide) (rn_load tbOk hA rfl rfl rfl rfl (cell_row (hS.heapAt 1 rfl) rfl)) ?_; clear hA; intro a hA
                     refine st_run tbOk 3 hA (e' := (190, .bool (((([] : List Msg).length : Nat) : Int) != ((l0.length : Nat) : Int))) :: (189, .bool (((([] : List Msg).length : Nat) : Int) != ((l0.length : Nat) : Int))) :: (188, .int .i64 ((l0.length : Nat) : Int)) :: _) rfl ?_; clear hA; intro a hA
                     have hc111 : ((([] : List Msg).length : Nat) : Int) = ((l0.length : Nat) : Int) := by omega
                     replace hA := hA.rw 189 (v' := .bool false) rfl (vb_ne_f hc111)
                     replace hA := hA.rw 190 (v' := .bool false) rfl (vb_ne_f hc111)
                     refine st_run tbOk 2 hA (e' := (192, .slice (some ⟨b6, 0, none⟩) 2 2) :: (191, .int .i64 ((u9.length : Nat) : Int)) :: _) rfl ?_; clear hA; intro a hA
                     refine st_val hA rfl rfl (by decide) (rn_indexAddr tbOk hA 1 1 rfl rfl rfl rfl rfl rfl (by rfl) (by omega) (by first | rfl | simp [Nat.mul_one, Nat.zero_add] | omega)) ?_; clear hA; intro a hA
                     refine st_val hA rfl rfl (by decide) (rn_load tbOk hA rfl rfl rfl rfl (cell_row (hS.heapAt 1 rfl) rfl)) ?_; clear hA; intro a hA
                     refine st_run tbOk 3 hA (e' := (197, .bool (((u9.length : Nat) : Int) != ((l9.length : Nat) : Int))) :: (196, .bool (((u9.length : Nat) : Int) != ((l9.length : Nat) : Int))) :: (195, .int .i64 ((l9.length : Nat) : Int)) :: _) rfl ?_; clear hA; intro a hA
                     refine wpList_nil ?_
                     replace hA := hA.sel [5, 6, 7, 34, 35, 36, 197] (e' := [(5, .pointer (some ⟨bb3, 0, none⟩)), (6, .int .i64 ((n : Nat) : Int)), (7, .slice (some ⟨b6, 0, none⟩) 2 2), (34, .slice (some ⟨b10, o11, none⟩) l.length c), (35, .int .i64 ((l.length : Nat) : Int)), (36, .int .i64 ((k : Nat) : Int)), (197, .bool (((u9.length : Nat) : Int) != ((l9.length : Nat) : Int)))]) rfl
                     refine xt_norm ?_
                     have hc112 : ((u9.length : Nat) : Int) = ((l9.length : Nat) : Int) := by omega
                     replace hA := hA.rw 197 (v' := .bool false) rfl (vb_ne_f hc112)
                     refine cd_cond_f hA rfl ?_
                     refine wp_skip ?_
                     refine xb_norm ?_
                     refine xt_norm ?_
                     refine wp_region_lit ?_
                     refine st_run tbOk 1 hA (e' := (198, .int .i64 (IntKind.i64.wrap (((k : Nat) : Int) + 1))) :: _) rfl ?_; clear hA; intro a hA
                     replace hA := hA.rw 198 (v' := .int .i64 ((k + 1 : Nat) : Int)) rfl (wr64 (by omega) (by omega) (by omega))
                     refine st_run tbOk 1 hA (e' := (36, .int .i64 ((k + 1 : Nat) : Int)) :: _) rfl ?_; clear hA; intro a hA
                     refine wpList_nil ?_
                     replace hA := hA.sel [5, 6, 7, 34, 35, 36] (e' := [(5, .pointer (some ⟨bb3, 0, none⟩)), (6, .int .i64 ((n : Nat) : Int)), (7, .slice (some ⟨b6, 0, none⟩) 2 2), (34, .slice (some ⟨b10, o11, none⟩) l.length c), (35, .int .i64 ((l.length : Nat) : Int)), (36, .int .i64 ((k + 1 : Nat) : Int))]) rfl
                     replace hS := hS.front 4 (C := [(b14, rowO [.int .u8 x12f0, .int .u64 x12f1, .int .u64 x12f2, .int .u32 x12f3, .int .u16 x12f4, .int .u16 x12f5, .int .u64 x12f6, .int .u32 x12f7, .int .u8 x12f8, .int .u64 x12f9, .int .u64 x12f10, .slice x12A11 x12b11.length x12c11] 52)]) (L' := L109 :: [(b6, rowO [.slice A0 l0.length c0, .slice A105 l9.length c106] 44)] :: [(b96, rowO [.int .u64 x0, .int .u64 x1, .int .u32 x2, .int .u16 x3, .int .u16 x4, .int .u64 x5, .int .u32 x6, .int .u8 x7, .int .u64 x8, .int .u64 x9, .slice xA xb.length xc] 37)] :: D :: C0 :: C1 :: F) rfl rfl
                     replace hS := hS.drop1
                     replace hS := hS.front 2 (C := [(b96, rowO [.int .u64 x0, .int .u64 x1, .int .u32 x2, .int .u16 x3, .int .u16 x4, .int .u64 x5, .int .u32 x6, .int .u8 x7, .int .u64 x8, .int .u64 x9, .slice xA xb.length xc] 37)]) (L' := L109 :: [(b6, rowO [.slice A0 l0.length c0, .slice A105 l9.length c106] 44)] :: D :: C0 :: C1 :: F) rfl rfl
                     replace hS := hS.drop1
                     replace hS := hS.front 1 (C := [(b6, rowO [.slice A0 l0.length c0, .slice A105 l9.length c106] 44)]) (L' := L109 :: D :: C0 :: C1 :: F) rfl rfl
                     replace hS := hS.front 4 (C := C1) (L' := [(b6, rowO [.slice A0 l0.length c0, .slice A105 l9.length c106] 44)] :: L109 :: D :: C0 :: F) rfl rfl
                     replace hS := hS.front 4 (C := C0) (L' := C1 :: [(b6, rowO [.slice A0 l0.length c0, .slice A105 l9.length c106] 44)] :: L109 :: D :: F) rfl rfl
                     replace hS := hS.front 4 (C := D) (L' := C0 :: C1 :: [(b6, rowO [.slice A0 l0.length c0, .slice A105 l9.length c106] 44)] :: L109 :: F) rfl rfl
                     replace hS := hS.front 4 (C := L109) (L' := D :: C0 :: C1 :: [(b6, rowO [.slice A0 l0.length c0, .slice A105 l9.length c106] 44)] :: F) rfl rfl
                     exact lp_next _ (by omega) ⟨(k + 1), ([] : List Msg), u9, (l0), (l9), L109, D, A0, c0, C0, A105, c106, C1, rfl, (hA.sel [5, 6, 7, 34, 35, 36] rfl), hS, by omega, hM110, hR0, hOs104, hdu, (dd_tl hdp), hl0, (gd_tl hl1 hls), he0, hul9, hn0, (by omega)⟩
                   · subst hus0
                     subst hps0
                     have hl0z : l0.length = 0 := by rw [hls0]; rfl
                     have hl1z : l1.length = 0 := by rw [hlp0]; rfl
                     refine st_run tbOk 1 hA (e' := (134, .pointer (some ⟨bb3, 0, none⟩)) :: _) rfl ?_; clear hA; intro a hA
                     replace hS := hS.front 2 (C := D) (L' := [(b14, rowO [.int .u8 x12f0, .int .u64 x12f1, .int .u64 x12f2, .int .u32 x12f3, .int .u16 x12f4, .int .u16 x12f5, .int .u64 x12f6, .int .u32 x12f7, .int .u8 x12f8, .int .u64 x12f9, .int .u64 x12f10, .slice x12A11 x12b11.length x12c11] 52)] :: L :: C0 :: C1 :: [(b6, rowO [.slice A0 l0.length c0, .slice A1 l1.length c1] 44)] :: F) rfl rfl
                     replace hS := hS.front 2 (C := L) (L' := D :: [(b14, rowO [.int .u8 x12f0, .int .u64 x12f1, .int .u64 x12f2, .int .u32 x12f3, .int .u16 x12f4, .int .u16 x12f5, .int .u64 x12f6, .int .u32 x12f7, .int .u8 x12f8, .int .u64 x12f9, .int .u64 x12f10, .slice x12A11 x12b11.length x12c11] 52)] :: C0 :: C1 :: [(b6, rowO [.slice A0 l0.length c0, .slice A1 l1.length c1] 44)] :: F) rfl rfl
                     refine st_call0 hA rfl rfl rfl isfn10 rfl rfl (by decide) (get_none10 hS hM) ?_
                     clear hA hS; rintro _ w113 a ⟨L114, hM115, rfl, hS⟩ hA
                     refine st_run tbOk 3 hA (e' := (137, .bool false) :: (136, .agg #[.int .u64 0, .int .u64 0, .int .u32 0, .int .u16 0, .int .u16 0, .int .u64 0, .int .u32 0, .int .u8 0, .int .u64 0, .int .u64 0, .slice none 0 0]) :: (133, .tuple #[.agg #[.int .u64 0, .int .u64 0, .int .u32 0, .int .u16 0, .int .u16 0, .int .u64 0, .int .u32 0, .int .u8 0, .int .u64 0, .int .u64 0, .slice none 0 0], .bool false]) :: _) rfl ?_; clear hA; intro a hA
                     refine st_alloc tbOk hA hS [.int .u64 0, .int .u64 0, .int .u32 0, .int .u16 0, .int .u16 0, .int .u64 0, .int .u32 0, .int .u8 0, .int .u64 0, .int .u64 0, .slice none 0 0] rfl rfl rfl rfl rfl (by decide) ?_; clear hA hS; intro b116 w117 a hS hA
                     refine st_store tbOk hA hS [.int .u64 0, .int .u64 0, .int .u32 0, .int .u16 0, .int .u16 0, .int .u64 0, .int .u32 0, .int .u8 0, .int .u64 0, .int .u64 0, .slice none 0 0] [.int .u64 0, .int .u64 0, .int .u32 0, .int .u16 0, .int .u16 0, .int .u64 0, .int .u32 0, .int .u8 0, .int .u64 0, .int .u64 0, .slice none 0 0] rfl rfl rfl rfl rfl rfl (by simp [Value.oneCell']) (Nat.le_of_ble_eq_true rfl) rfl rfl rfl ?_; clear hS; intro w118 hS
                     refine st_run tbOk 1 hA (e' := (13, .bool false) :: _) rfl ?_; clear hA; intro a hA
                     refine wpList_nil ?_
                     replace hA := hA.sel [5, 6, 7, 12, 13, 34, 35, 36] (e' := [(5, .pointer (some ⟨bb3, 0, none⟩)), (6, .int .i64 ((n : Nat) : Int)), (7, .slice (some ⟨b6, 0, none⟩) 2 2), (12, .pointer (some ⟨b116, 0, none⟩)), (13, .bool false), (34, .slice (some ⟨b10, o11, none⟩) l.length c), (35, .int .i64 ((l.length : Nat) : Int)), (36, .int .i64 ((k : Nat) : Int))]) rfl
                     refine xt_norm ?_
                     refine wp_seq ?_
                     refine wp_region_lit ?_
                     refine st_run tbOk 1 hA (e' := (14, .int .i64 0) :: _) rfl ?_; clear hA; intro a hA
                     refine wpList_nil ?_
                     refine xt_norm ?_
                     refine wp_seq ?_
                     refine wp_seq ?_
                     refine wp_region_lit ?_
                     refine st_run tbOk 1 hA (e' := (138, .slice (some ⟨b6, 0, none⟩) 2 2) :: _) rfl ?_; clear hA; intro a hA
                     refine st_val hA rfl rfl (by decide) (rn_indexAddr tbOk hA 0 0 rfl rfl rfl rfl rfl rfl (by rfl) (by omega) (by first | rfl | simp [Nat.mul_one, Nat.zero_add] | omega)) ?_; clear hA; intro a hA
                     refine st_val hA rfl rfl (by decide) (rn_load tbOk hA rfl rfl rfl rfl (cell_row (hS.heapAt 6 rfl) rfl)) ?_; clear hA; intro a hA
                     refine st_run tbOk 2 hA (e' := (142, .bool (((l0.length : Nat) : Int) == 0)) :: (141, .int .i64 ((l0.length : Nat) : Int)) :: _) rfl ?_; clear hA; intro a hA
                     refine wpList_nil ?_
                     replace hA := hA.sel [5, 6, 7, 12, 13, 14, 34, 35, 36, 142] (e' := [(5, .pointer (some ⟨bb3, 0, none⟩)), (6, .int .i64 ((n : Nat) : Int)), (7, .slice (some ⟨b6, 0, none⟩) 2 2), (12, .pointer (some ⟨b116, 0, none⟩)), (13, .bool false), (14, .int .i64 0), (34, .slice (some ⟨b10, o11, none⟩) l.length c), (35, .int .i64 ((l.length : Nat) : Int)), (36, .int .i64 ((k : Nat) : Int)), (142, .bool (((l0.length : Nat) : Int) == 0))]) rfl
                     refine xt_norm ?_
                     have hc119 : ((l0.length : Nat) : Int) = 0 := by omega
                     replace hA := hA.rw 142 (v' := .bool true) rfl (vb_eq_t hc119)
                     refine cd_cond_t hA rfl ?_
                     refine wp_region_lit ?_
                     refine st_run tbOk 1 hA (e' := (14, .int .i64 1) :: _) rfl ?_; clear hA; intro a hA
                     refine wpList_nil ?_
                     replace hA := hA.sel [5, 6, 7, 12, 13, 14, 34, 35, 36] (e' := [(5, .pointer (some ⟨bb3, 0, none⟩)), (6, .int .i64 ((n : Nat) : Int)), (7, .slice (some ⟨b6, 0, none⟩) 2 2), (12, .pointer (some ⟨b116, 0, none⟩)), (13, .bool false), (14, .int .i64 1), (34, .slice (some ⟨b10, o11, none⟩) l.length c), (35, .int .i64 ((l.length : Nat) : Int)), (36, .int .i64 ((k : Nat) : Int))]) rfl
                     refine xt_norm ?_
                     refine wp_seq ?_
                     refine wp_seq ?_
                     refine wp_region_lit ?_
                     refine st_run tbOk 3 hA (e' := (145, .int .i64 1) :: (144, .slice (some ⟨b6, 0, none⟩) 2 2) :: (143, .bool false) :: _) rfl ?_; clear hA; intro a hA
                     refine st_val hA rfl rfl (by decide) (rn_indexAddr tbOk hA 1 1 rfl rfl rfl rfl rfl rfl (by rfl) (by omega) (by first | rfl | simp [Nat.mul_one, Nat.zero_add] | omega)) ?_; clear hA; intro a hA
                     refine st_val hA rfl rfl (by decide) (rn_load tbOk hA rfl rfl rfl rfl (cell_row (hS.heapAt 6 rfl) rfl)) ?_; clear hA; intro a hA
                     refine st_run tbOk 2 hA (e' := (149, .bool (decide (((l1.length : Nat) : Int) > 0))) :: (148, .int .i64 ((l1.length : Nat) : Int)) :: _) rfl ?_; clear hA; intro a hA
                     replace hA := hA.rw 149 (v' := .bool false) rfl (congrArg Value.bool (decide_eq_false (by omega)))
                     refine st_run tbOk 5 hA (e' := (154, .bool true) :: (153, .bool true) :: (152, .bool false) :: (151, .bool false) :: (150, .bool false) :: _) rfl ?_; clear hA; intro a hA
                     refine st_val hA rfl rfl (by decide) (rn_loadA tbOk hA [.int .u64 0, .int .u64 0, .int .u32 0, .int .u16 0, .int .u16 0, .int .u64 0, .int .u32 0, .int .u8 0, .int .u64 0, .int .u64 0, .slice none 0 0] rfl rfl rfl rfl rfl (cells_row (hS.heapAt 0 rfl) rfl)) ?_; clear hA; intro a hA
                     refine st_val hA rfl rfl (by decide) (rn_build tbOk hA rfl rfl rfl rfl rfl rfl rfl) ?_; clear hA; intro a hA
                     refine st_call0 hA rfl rfl rfl isfn14 rfl rfl (by decide) (same04_14 hS 0 0 0 0 0 0 0 0 0 0 0 0 0 0 0 0 0 0 0 0 (bs := ([] : List UInt8)) (cs := ([] : List UInt8)) RdSX.nil RdSX.nil) ?_
                     clear hA hS; rintro v w120 a ⟨rfl, hS⟩ hA
                     replace hA := hA.rw 157 (v' := .bool true) rfl (congrArg Value.bool (by rw [decide_eq_true_eq]; exact ⟨rfl, rfl, rfl, rfl, rfl, ⟨rfl, rfl, rfl, rfl⟩, rfl, rfl⟩))
                     refine st_run tbOk 3 hA (e' := (160, .bool false) :: (159, .bool false) :: (158, .bool false) :: _) rfl ?_; clear hA; intro a hA
                     refine wpList_nil ?_
                     replace hA := hA.sel [5, 6, 7, 12, 13, 14, 34, 35, 36, 160] (e' := [(5, .pointer (some ⟨bb3, 0, none⟩)), (6, .int .i64 ((n : Nat) : Int)), (7, .slice (some ⟨b6, 0, none⟩) 2 2), (12, .pointer (some ⟨b116, 0, none⟩)), (13, .bool false), (14, .int .i64 1), (34, .slice (some ⟨b10, o11, none⟩) l.length c), (35, .int .i64 ((l.length : Nat) : Int)), (36, .int .i64 ((k : Nat) : Int)), (160, .bool false)]) rfl
                     refine xt_norm ?_
                     refine cd_cond_f hA rfl ?_
                     refine wp_skip ?_
                     refine xt_norm ?_
                     refine wp_seq ?_
                     refine wp_region_lit ?_
                     refine st_run tbOk 1 hA (e' := (161, .bool false) :: _) rfl ?_; clear hA; intro a hA
                     refine wpList_nil ?_
                     replace hA := hA.sel [5, 6, 7, 12, 14, 34, 35, 36, 161] (e' := [(5, .pointer (some ⟨bb3, 0, none⟩)), (6, .int .i64 ((n : Nat) : Int)), (7, .slice (some ⟨b6, 0, none⟩) 2 2), (12, .pointer (some ⟨b116, 0, none⟩)), (14, .int .i64 1), (34, .slice (some ⟨b10, o11, none⟩) l.length c), (35, .int .i64 ((l.length : Nat) : Int)), (36, .int .i64 ((k : Nat) : Int)), (161, .bool false)]) rfl
                     refine xt_norm ?_
                     refine cd_cond_f hA rfl ?_
                     refine wp_skip ?_
                     refine xb_norm ?_
                     refine xt_norm ?_
                     refine wp_seq ?_
                     refine wp_region_lit ?_
                     refine st_run tbOk 1 hA (e' := (180, .pointer (some ⟨bb3, 0, none⟩)) :: _) rfl ?_; clear hA; intro a hA
                     replace hS := hS.front 1 (C := L114) (L' := [(b116, rowO [.int .u64 0, .int .u64 0, .int .u32 0, .int .u16 0, .int .u16 0, .int .u64 0, .int .u32 0, .int .u8 0, .int .u64 0, .int .u64 0, .slice none 0 0] 37)] :: D :: [(b14, rowO [.int .u8 x12f0, .int .u64 x12f1, .int .u64 x12f2, .int .u32 x12f3, .int .u16 x12f4, .int .u16 x12f5, .int .u64 x12f6, .int .u32 x12f7, .int .u8 x12f8, .int .u64 x12f9, .int .u64 x12f10, .slice x12A11 x12b11.length x12c11] 52)] :: C0 :: C1 :: [(b6, rowO [.slice A0 l0.length c0, .slice A1 l1.length c1] 44)] :: F) rfl rfl
                     refine st_call0 hA rfl rfl rfl isfn16 rfl rfl (by decide) (len16 hS hM115) ?_; clear hA hS; rintro _ w121 a ⟨L122, hM123, rfl, hS⟩ hA
                     refine st_run tbOk 5 hA (e' := (23, .int .i64 ((([] : List Msg).length : Nat) : Int)) :: (22, .int .i64 ((([] : List Msg).length : Nat) : Int)) :: (183, .int .i64 ((([] : List Msg).length : Nat) : Int)) :: (182, .int .i64 ((([] : List Msg).length : Nat) : Int)) :: (179, .tuple #[.int .i64 ((([] : List Msg).length : Nat) : Int), .int .i64 ((([] : List Msg).length : Nat) : Int)]) :: _) rfl ?_; clear hA; intro a hA
                     refine wpList_nil ?_
                     replace hA := hA.sel [5, 6, 7, 22, 23, 34, 35, 36] (e' := [(5, .pointer (some ⟨bb3, 0, none⟩)), (6, .int .i64 ((n : Nat) : Int)), (7, .slice (some ⟨b6, 0, none⟩) 2 2), (22, .int .i64 ((([] : List Msg).length : Nat) : Int)), (23, .int .i64 ((([] : List Msg).length : Nat) : Int)), (34, .slice (some ⟨b10, o11, none⟩) l.length c), (35, .int .i64 ((l.length : Nat) : Int)), (36, .int .i64 ((k : Nat) : Int))]) rfl
                     refine xt_norm ?_
                     refine wp_seq ?_
                     refine wp_region_lit ?_
                     have hq0 : ([] : List Msg).length = l0.length := len_of he0; have hq1 : ([] : List Msg).length = l1.length := len_of he1
                     refine st_run tbOk 2 hA (e' := (185, .slice (some ⟨b6, 0, none⟩) 2 2) :: (184, .int .i64 ((([] : List Msg).length : Nat) : Int)) :: _) rfl ?_; clear hA; intro a hA
                     refine st_val hA rfl rfl (by decide) (rn_indexAddr tbOk hA 0 0 rfl rfl rfl rfl rfl rfl (by rfl) (by omega) (by first | rfl | simp [Nat.mul_one, Nat.zero_add] | omega)) ?_; clear hA; intro a hA
                     refine st_val hA rfl rfl (by decide) (rn_load tbOk hA rfl rfl rfl rfl (cell_row (hS.heapAt 6 rfl) rfl)) ?_; clear hA; intro a hA
                     refine st_run tbOk 3 hA (e' := (190, .bool (((([] : List Msg).length : Nat) : Int) != ((l0.length : Nat) : Int))) :: (189, .bool (((([] : List Msg).length : Nat) : Int) != ((l0.length : Nat) : Int))) :: (188, .int .i64 ((l0.length : Nat) : Int)) :: _) rfl ?_; clear hA; intro a hA
                     have hc124 : ((([] : List Msg).length : Nat) : Int) = ((l0.length : Nat) : Int) := by omega
                     replace hA := hA.rw 189 (v' := .bool false) rfl (vb_ne_f hc124)
                     replace hA := hA.rw 190 (v' := .bool false) rfl (vb_ne_f hc124)
                     refine st_run tbOk 2 hA (e' := (192, .slice (some ⟨b6, 0, none⟩) 2 2) :: (191, .int .i64 ((([] : List Msg).length : Nat) : Int)) :: _) rfl ?_; clear hA; intro a hA
                     refine st_val hA rfl rfl (by decide) (rn_indexAddr tbOk hA 1 1 rfl rfl rfl rfl rfl rfl (by rfl) (by omega) (by first | rfl | simp [Nat.mul_one, Nat.zero_add] | omega)) ?_; clear hA; intro a hA
                     refine st_val hA rfl rfl (by decide) (rn_load tbOk hA rfl rfl rfl rfl (cell_row (hS.heapAt 6 rfl) rfl)) ?_; clear hA; intro a hA
                     refine st_run tbOk 3 hA (e' := (197, .bool (((([] : List Msg).length : Nat) : Int) != ((l1.length : Nat) : Int))) :: (196, .bool (((([] : List Msg).length : Nat) : Int) != ((l1.length : Nat) : Int))) :: (195, .int .i64 ((l1.length : Nat) : Int)) :: _) rfl ?_; clear hA; intro a hA
                     refine wpList_nil ?_
                     replace hA := hA.sel [5, 6, 7, 34, 35, 36, 197] (e' := [(5, .pointer (some ⟨bb3, 0, none⟩)), (6, .int .i64 ((n : Nat) : Int)), (7, .slice (some ⟨b6, 0, none⟩) 2 2), (34, .slice (some ⟨b10, o11, none⟩) l.length c), (35, .int .i64 ((l.length : Nat) : Int)), (36, .int .i64 ((k : Nat) : Int)), (197, .bool (((([] : List Msg).length : Nat) : Int) != ((l1.length : Nat) : Int)))]) rfl
                     refine xt_norm ?_
                     have hc125 : ((([] : List Msg).length : Nat) : Int) = ((l1.length : Nat) : Int) := by omega
                     replace hA := hA.rw 197 (v' := .bool false) rfl (vb_ne_f hc125)
                     refine cd_cond_f hA rfl ?_
                     refine wp_skip ?_
                     refine xb_norm ?_
                     refine xt_norm ?_
                     refine wp_region_lit ?_
                     refine st_run tbOk 1 hA (e' := (198, .int .i64 (IntKind.i64.wrap (((k : Nat) : Int) + 1))) :: _) rfl ?_; clear hA; intro a hA
                     replace hA := hA.rw 198 (v' := .int .i64 ((k + 1 : Nat) : Int)) rfl (wr64 (by omega) (by omega) (by omega))
                     refine st_run tbOk 1 hA (e' := (36, .int .i64 ((k + 1 : Nat) : Int)) :: _) rfl ?_; clear hA; intro a hA
                     refine wpList_nil ?_
                     replace hA := hA.sel [5, 6, 7, 34, 35, 36] (e' := [(5, .pointer (some ⟨bb3, 0, none⟩)), (6, .int .i64 ((n : Nat) : Int)), (7, .slice (some ⟨b6, 0, none⟩) 2 2), (34, .slice (some ⟨b10, o11, none⟩) l.length c), (35, .int .i64 ((l.length : Nat) : Int)), (36, .int .i64 ((k + 1 : Nat) : Int))]) rfl
                     replace hS := hS.front 3 (C := [(b14, rowO [.int .u8 x12f0, .int .u64 x12f1, .int .u64 x12f2, .int .u32 x12f3, .int .u16 x12f4, .int .u16 x12f5, .int .u64 x12f6, .int .u32 x12f7, .int .u8 x12f8, .int .u64 x12f9, .int .u64 x12f10, .slice x12A11 x12b11.length x12c11] 52)]) (L' := L122 :: [(b116, rowO [.int .u64 0, .int .u64 0, .int .u32 0, .int .u16 0, .int .u16 0, .int .u64 0, .int .u32 0, .int .u8 0, .int .u64 0, .int .u64 0, .slice none 0 0] 37)] :: D :: C0 :: C1 :: [(b6, rowO [.slice A0 l0.length c0, .slice A1 l1.length c1] 44)] :: F) rfl rfl
                     replace hS := hS.drop1
                     replace hS := hS.front 1 (C := [(b116, rowO [.int .u64 0, .int .u64 0, .int .u32 0, .int .u16 0, .int .u16 0, .int .u64 0, .int .u32 0, .int .u8 0, .int .u64 0, .int .u64 0, .slice none 0 0] 37)]) (L' := L122 :: D :: C0 :: C1 :: [(b6, rowO [.slice A0 l0.length c0, .slice A1 l1.length c1] 44)] :: F) rfl rfl
                     replace hS := hS.drop1
                     replace hS := hS.front 4 (C := [(b6, rowO [.slice A0 l0.length c0, .slice A1 l1.length c1] 44)]) (L' := L122 :: D :: C0 :: C1 :: F) rfl rfl
                     replace hS := hS.front 4 (C := C1) (L' := [(b6, rowO [.slice A0 l0.length c0, .slice A1 l1.length c1] 44)] :: L122 :: D :: C0 :: F) rfl rfl
                     replace hS := hS.front 4 (C := C0) (L' := C1 :: [(b6, rowO [.slice A0 l0.length c0, .slice A1 l1.length c1] 44)] :: L122 :: D :: F) rfl rfl
                     replace hS := hS.front 4 (C := D) (L' := C0 :: C1 :: [(b6, rowO [.slice A0 l0.length c0, .slice A1 l1.length c1] 44)] :: L122 :: F) rfl rfl
                     replace hS := hS.front 4 (C := L122) (L' := D :: C0 :: C1 :: [(b6, rowO [.slice A0 l0.length c0, .slice A1 l1.length c1] 44)] :: F) rfl rfl
                     exact lp_next _ (by omega) ⟨(k + 1), ([] : List Msg), ([] : List Msg), (l0), (l1), L122, D, A0, c0, C0, A1, c1, C1, rfl, (hA.sel [5, 6, 7, 34, 35, 36] rfl), hS, by omega, hM123, hR0, hR1, hdu, hdp, hl0, hl1, he0, he1, hn0, hn1⟩)
              · first
                | (exfalso; omega)
                | (replace hA := hA.rw 131 (v' := .bool false) rfl (vb_eq_f hc72)
                   refine cd_cond_f hA rfl ?_
                   refine wp_seq ?_
                   refine wp_region_lit ?_
                   refine st_run tbOk 2 hA (e' := (15, .func (.func 15) #[] #[.pointer (some ⟨b14, 0, none⟩)]) :: (48, .func (.func 15) #[] #[.pointer (some ⟨b14, 0, none⟩)]) :: _) rfl ?_; clear hA; intro a hA
                   refine wpList_nil ?_
                   replace hA := hA.sel [5, 6, 7, 15, 34, 35, 36] (e' := [(5, .pointer (some ⟨bb3, 0, none⟩)), (6, .int .i64 ((n : Nat) : Int)), (7, .slice (some ⟨b6, 0, none⟩) 2 2), (15, .func (.func 15) #[] #[.pointer (some ⟨b14, 0, none⟩)]), (34, .slice (some ⟨b10, o11, none⟩) l.length c), (35, .int .i64 ((l.length : Nat) : Int)), (36, .int .i64 ((k : Nat) : Int))]) rfl
                   refine xt_norm ?_
                   refine wp_seq ?_
                   refine wp_region_lit ?_
                   refine st_run tbOk 2 hA (e' := (50, .func (.func 15) #[] #[.pointer (some ⟨b14, 0, none⟩)]) :: (49, .pointer (some ⟨bb3, 0, none⟩)) :: _) rfl ?_; clear hA; intro a hA
                   replace hS := hS.front 1 (C := L) (L' := [(b14, rowO [.int .u8 x12f0, .int .u64 x12f1, .int .u64 x12f2, .int .u32 x12f3, .int .u16 x12f4, .int .u16 x12f5, .int .u64 x12f6, .int .u32 x12f7, .int .u8 x12f8, .int .u64 x12f9, .int .u64 x12f10, .slice x12A11 x12b11.length x12c11] 52)] :: D :: C0 :: C1 :: [(b6, rowO [.slice A0 l0.length c0, .slice A1 l1.length c1] 44)] :: F) rfl rfl
                   refine st_call0 hA rfl rfl rfl isfn12 rfl rfl (by decide) (all12 hS hM (by omega) (by omega) (by omega) isfn15 (fun w9 x9 h9 => isc15 (fun w8 h8 => Rd.old h8 ((Own.full (T := 52) (size := 12) (g := b14) (m := 1) (xs := rows encAct [(x12f0, x12f1, x12f2, x12f3, x12f4, x12f5, x12f6, x12f7, x12f8, x12f9, x12f10, x12A11, x12c11, x12b11)]) rfl (by decide)).rd (h9.own_ 0 rfl))) x9)) ?_
                   clear hA hS; rintro _ w126 a ⟨v127, C128, L129, hO128, hM130, rfl, hS⟩ hA
                   have haC128 : us.filter (isA x12f3) ++ ps.filter (isA x12f3) = (us.filter (isA x12f3) ++ ps.filter (isA x12f3)) := rfl
                   have huC128 : us.filter (fun x => !(isA x12f3) x) = (us.filter (fun x => !isA x12f3 x)) := rfl
                   have hpC128 : ps.filter (fun x => !(isA x12f3) x) = (ps.filter (fun x => !isA x12f3 x)) := rfl
                   rw [haC128] at hO128; rw [huC128, hpC128] at hM130
                   obtain ⟨A131, c132, rfl, hmc132, hxc132⟩ := hO128.open'
                   refine st_run tbOk 1 hA (e' := (16, .slice A131 ((us.filter (isA x12f3) ++ ps.filter (isA x12f3)).length) c132) :: _) rfl ?_; clear hA; intro a hA
                   refine wpList_nil ?_
                   replace hA := hA.sel [5, 6, 7, 15, 16, 34, 35, 36] (e' := [(5, .pointer (some ⟨bb3, 0, none⟩)), (6, .int .i64 ((n : Nat) : Int)), (7, .slice (some ⟨b6, 0, none⟩) 2 2), (15, .func (.func 15) #[] #[.pointer (some ⟨b14, 0, none⟩)]), (16, .slice A131 ((us.filter (isA x12f3) ++ ps.filter (isA x12f3)).length) c132), (34, .slice (some ⟨b10, o11, none⟩) l.length c), (35, .int .i64 ((l.length : Nat) : Int)), (36, .int .i64 ((k : Nat) : Int))]) rfl
                   refine xt_norm ?_
                   refine wp_seq ?_
                   refine wp_region_lit ?_
                   have hout : (us.filter (isA x12f3) ++ ps.filter (isA x12f3)).map mst = (l0.filter (isA x12f3) ++ l1.filter (isA x12f3)).map mst := app_mst (flt_yes he0) (flt_yes he1)
                   have hol := (len_of hout).trans List.length_append
                   have hf0 := List.length_filter_le (isA x12f3) l0; have hf1 := List.length_filter_le (isA x12f3) l1; have hg0 := List.length_filter_le (fun x => !isA x12f3 x) l0; have hg1 := List.length_filter_le (fun x => !isA x12f3 x) l1
                   refine st_run tbOk 1 hA (e' := (17, .int .i64 0) :: _) rfl ?_; clear hA; intro a hA
                   refine wpList_nil ?_
                   refine xt_norm ?_
                   refine wp_seq ?_
                   refine wp_seq ?_
                   refine wp_region_lit ?_
                   refine st_run tbOk 3 hA (e' := (54, .int .i64 0) :: (53, .int .i64 2) :: (52, .slice (some ⟨b6, 0, none⟩) 2 2) :: _) rfl ?_; clear hA; intro a hA
                   refine wpList_nil ?_
                   replace hA := hA.sel [5, 6, 7, 15, 16, 17, 34, 35, 36, 53, 54] (e' := [(5, .pointer (some ⟨bb3, 0, none⟩)), (6, .int .i64 ((n : Nat) : Int)), (7, .slice (some ⟨b6, 0, none⟩) 2 2), (15, .func (.func 15) #[] #[.pointer (some ⟨b14, 0, none⟩)]), (16, .slice A131 ((us.filter (isA x12f3) ++ ps.filter (isA x12f3)).length) c132), (17, .int .i64 0), (34, .slice (some ⟨b10, o11, none⟩) l.length c), (35, .int .i64 ((l.length : Nat) : Int)), (36, .int .i64 ((k : Nat) : Int)), (53, .int .i64 2), (54, .int .i64 0)]) rfl
                   refine xt_norm ?_
                   refine wp_block ?_
                   replace hS := hS.front 2 (C := [(b14, rowO [.int .u8 x12f0, .int .u64 x12f1, .int .u64 x12f2, .int .u32 x12f3, .int .u16 x12f4, .int .u16 x12f5, .int .u64 x12f6, .int .u32 x12f7, .int .u8 x12f8, .int .u64 x12f9, .int .u64 x12f10, .slice x12A11 x12b11.length x12c11] 52)]) (L' := L129 :: C128 :: D :: C0 :: C1 :: [(b6, rowO [.slice A0 l0.length c0, .slice A1 l1.length c1] 44)] :: F) rfl rfl
                   replace hS := hS.front 6 (C := [(b6, rowO [.slice A0 l0.length c0, .slice A1 l1.length c1] 44)]) (L' := [(b14, rowO [.int .u8 x12f0, .int .u64 x12f1, .int .u64 x12f2, .int .u32 x12f3, .int .u16 x12f4, .int .u16 x12f5, .int .u64 x12f6, .int .u32 x12f7, .int .u8 x12f8, .int .u64 x12f9, .int .u64 x12f10, .slice x12A11 x12b11.length x12c11] 52)] :: L129 :: C128 :: D :: C0 :: C1 :: F) rfl rfl
                   replace hS := hS.front 6 (C := C1) (L' := [(b6, rowO [.slice A0 l0.length c0, .slice A1 l1.length c1] 44)] :: [(b14, rowO [.int .u8 x12f0, .int .u64 x12f1, .int .u64 x12f2, .int .u32 x12f3, .int .u16 x12f4, .int .u16 x12f5, .int .u64 x12f6, .int .u32 x12f7, .int .u8 x12f8, .int .u64 x12f9, .int .u64 x12f10, .slice x12A11 x12b11.length x12c11] 52)] :: L129 :: C128 :: D :: C0 :: F) rfl rfl
                   replace hS := hS.front 6 (C := C0) (L' := C1 :: [(b6, rowO [.slice A0 l0.length c0, .slice A1 l1.length c1] 44)] :: [(b14, rowO [.int .u8 x12f0, .int .u64 x12f1, .int .u64 x12f2, .int .u32 x12f3, .int .u16 x12f4, .int .u16 x12f5, .int .u64 x12f6, .int .u32 x12f7, .int .u8 x12f8, .int .u64 x12f9, .int .u64 x12f10, .slice x12A11 x12b11.length x12c11] 52)] :: L129 :: C128 :: D :: F) rfl rfl
                   replace hS := hS.front 5 (C := C128) (L' := C0 :: C1 :: [(b6, rowO [.slice A0 l0.length c0, .slice A1 l1.length c1] 44)] :: [(b14, rowO [.int .u8 x12f0, .int .u64 x12f1, .int .u64 x12f2, .int .u32 x12f3, .int .u16 x12f4, .int .u16 x12f5, .int .u64 x12f6, .int .u32 x12f7, .int .u8 x12f8, .int .u64 x12f9, .int .u64 x12f10, .slice x12A11 x12b11.length x12c11] 52)] :: L129 :: D :: F) rfl rfl
                   replace hS := hS.front 6 (C := D) (L' := C128 :: C0 :: C1 :: [(b6, rowO [.slice A0 l0.length c0, .slice A1 l1.length c1] 44)] :: [(b14, rowO [.int .u8 x12f0, .int .u64 x12f1, .int .u64 x12f2, .int .u32 x12f3, .int .u16 x12f4, .int .u16 x12f5, .int .u64 x12f6, .int .u32 x12f7, .int .u8 x12f8, .int .u64 x12f9, .int .u64 x12f10, .slice x12A11 x12b11.length x12c11] 52)] :: L129 :: F) rfl rfl
                   replace hS := hS.front 6 (C := L129) (L' := D :: C128 :: C0 :: C1 :: [(b6, rowO [.slice A0 l0.length c0, .slice A1 l1.length c1] 44)] :: [(b14, rowO [.int .u8 x12f0, .int .u64 x12f1, .int .u64 x12f2, .int .u32 x12f3, .int .u16 x12f4, .int .u16 x12f5, .int .u64 x12f6, .int .u32 x12f7, .int .u8 x12f8, .int .u64 x12f9, .int .u64 x12f10, .slice x12A11 x12b11.length x12c11] 52)] :: F) rfl rfl
                   refine wp_loop_ghost (fun m a w => ∃ (j : Nat) (r0 : List Msg) (r1 : List Msg) (aq : Nat) (B0 : Option Addr) (d0 : Nat) (E0 : Chunk) (B1 : Option Addr) (d1 : Nat) (E1 : Chunk), m = 2 - j ∧ Has a 199 [(5, .pointer (some ⟨bb3, 0, none⟩)), (6, .int .i64 ((n : Nat) : Int)), (7, .slice (some ⟨b6, 0, none⟩) 2 2), (15, .func (.func 15) #[] #[.pointer (some ⟨b14, 0, none⟩)]), (16, .slice A131 ((us.filter (isA x12f3) ++ ps.filter (isA x12f3)).length) c132), (17, .int .i64 ((aq : Nat) : Int)), (34, .slice (some ⟨b10, o11, none⟩) l.length c), (35, .int .i64 ((l.length : Nat) : Int)), (36, .int .i64 ((k : Nat) : Int)), (53, .int .i64 2), (54, .int .i64 ((j : Nat) : Int))] ∧ St w0 w (L129 :: D :: C128 :: E0 :: E1 :: [(b6, rowO [.slice B0 r0.length d0, .slice B1 r1.length d1] 44)] :: [(b14, rowO [.int .u8 x12f0, .int .u64 x12f1, .int .u64 x12f2, .int .u32 x12f3, .int .u16 x12f4, .int .u16 x12f5, .int .u64 x12f6, .int .u32 x12f7, .int .u8 x12f8, .int .u64 x12f9, .int .u64 x12f10, .slice x12A11 x12b11.length x12c11] 52)] :: F) ∧ (j ≤ 2) ∧ ((j = 0 ∧ l0 = r0 ∧ l1 = r1 ∧ aq = 0) ∨ (j = 1 ∧ r0 = l0.filter (fun x => !isA x12f3 x) ∧ l1 = r1 ∧ aq = 0 + (l0.filter (isA x12f3)).length) ∨ (j = 2 ∧ r0 = l0.filter (fun x => !isA x12f3 x) ∧ r1 = l1.filter (fun x => !isA x12f3 x) ∧ aq = 0 + (l0.filter (isA x12f3)).length + (l1.filter (isA x12f3)).length)) ∧ (Own 37 11 (.slice B0 r0.length d0) r0.length (rows encMessage r0) E0) ∧ (Own 37 11 (.slice B1 r1.length d1) r1.length (rows encMessage r1) E1) ∧ (∀ x ∈ r0, ∀ D, encMessage_dd w0 D x) ∧ (∀ x ∈ r1, ∀ D, encMessage_dd w0 D x)) (2 - 0)
                     ⟨0, l0, l1, 0, A0, c0, C0, A1, c1, C1, rfl, (hA.sel [5, 6, 7, 15, 16, 17, 34, 35, 36, 53, 54] rfl), hS, Nat.zero_le _, .inl ⟨rfl, rfl, rfl, rfl⟩, hR0, hR1, hl0, hl1⟩ ?_
                   clear hA hS; rintro m0 a w133 ⟨j, r0, r1, aq, B0, d0, E0, B1, d1, E1, rfl, hA, hS, hj, hst, hT0, hT1, hm0, hm1⟩
                   refine wp_seq ?_
                   refine wp_region_lit ?_
                   refine st_run tbOk 1 hA (e' := (55, .bool (decide (((j : Nat) : Int) < 2))) :: _) rfl ?_; clear hA; intro a hA
                   refine wpList_nil ?_
                   refine xt_norm ?_
                   refine wp_seq ?_
                   by_cases hc134 : ((j : Nat) : Int) < 2
                   · first
                     | (exfalso; omega)
                     | (replace hA := hA.rw 55 (v' := .bool true) rfl (vb_true hc134)
                        refine cd_cond_t hA rfl ?_
                        refine wp_skip ?_
                        refine xt_norm ?_
                        refine wp_seq ?_
                        refine wp_block ?_
                        refine wp_seq ?_
                        refine wp_region_lit ?_
                        rcases hst with ⟨rfl, rfl, rfl, rfl⟩ | ⟨rfl, rfl, rfl, haq⟩ | ⟨h9, _⟩
                        · refine st_run tbOk 2 hA (e' := (18, .int .i64 ((0 : Nat) : Int)) :: (56, .int .i64 ((0 : Nat) : Int)) :: _) rfl ?_; clear hA; intro a hA
                          refine wpList_nil ?_
                          replace hA := hA.sel [5, 6, 7, 15, 16, 17, 18, 34, 35, 36, 53, 54] (e' := [(5, .pointer (some ⟨bb3, 0, none⟩)), (6, .int .i64 ((n : Nat) : Int)), (7, .slice (some ⟨b6, 0, none⟩) 2 2), (15, .func (.func 15) #[] #[.pointer (some ⟨b14, 0, none⟩)]), (16, .slice A131 ((us.filter (isA x12f3) ++ ps.filter (isA x12f3)).length) c132), (17, .int .i64 ((0 : Nat) : Int)), (18, .int .i64 ((0 : Nat) : Int)), (34, .slice (some ⟨b10, o11, none⟩) l.length c), (35, .int .i64 ((l.length : Nat) : Int)), (36, .int .i64 ((k : Nat) : Int)), (53, .int .i64 2), (54, .int .i64 ((0 : Nat) : Int))]) rfl
                          refine xt_norm ?_
                          refine wp_seq ?_
                          refine wp_region_lit ?_
                          refine st_run tbOk 1 hA (e' := (19, .slice none 0 0) :: _) rfl ?_; clear hA; intro a hA
                          refine wpList_nil ?_
                          refine xt_norm ?_
                          refine wp_seq ?_
                          refine wp_seq ?_
                          refine wp_region_lit ?_
                          refine st_run tbOk 2 hA (e' := (58, .int .i64 ((0 : Nat) : Int)) :: (57, .slice (some ⟨b6, 0, none⟩) 2 2) :: _) rfl ?_; clear hA; intro a hA
                          refine st_val hA rfl rfl (by decide) (rn_indexAddr tbOk hA 0 0 rfl rfl rfl rfl rfl rfl (by rfl) (by omega) (by first | rfl | simp [Nat.mul_one, Nat.zero_add] | omega)) ?_; clear hA; intro a hA
                          refine st_val hA rfl rfl (by decide) (rn_load tbOk hA rfl rfl rfl rfl (cell_row (hS.heapAt 5 rfl) rfl)) ?_; clear hA; intro a hA
                          refine st_run tbOk 2 hA (e' := (62, .int .i64 0) :: (61, .int .i64 ((l0.length : Nat) : Int)) :: _) rfl ?_; clear hA; intro a hA
                          refine wpList_nil ?_
                          replace hA := hA.sel [5, 6, 7, 15, 16, 17, 18, 19, 34, 35, 36, 53, 54, 60, 61, 62] (e' := [(5, .pointer (some ⟨bb3, 0, none⟩)), (6, .int .i64 ((n : Nat) : Int)), (7, .slice (some ⟨b6, 0, none⟩) 2 2), (15, .func (.func 15) #[] #[.pointer (some ⟨b14, 0, none⟩)]), (16, .slice A131 ((us.filter (isA x12f3) ++ ps.filter (isA x12f3)).length) c132), (17, .int .i64 ((0 : Nat) : Int)), (18, .int .i64 ((0 : Nat) : Int)), (19, .slice none 0 0), (34, .slice (some ⟨b10, o11, none⟩) l.length c), (35, .int .i64 ((l.length : Nat) : Int)), (36, .int .i64 ((k : Nat) : Int)), (53, .int .i64 2), (54, .int .i64 ((0 : Nat) : Int)), (60, .slice B0 l0.length d0), (61, .int .i64 ((l0.length : Nat) : Int)), (62, .int .i64 0)]) rfl
                          refine xt_norm ?_
                          refine wp_block ?_
                          replace hS := hS.nil
                          replace hS := hS.front 7 (C := [(b14, rowO [.int .u8 x12f0, .int .u64 x12f1, .int .u64 x12f2, .int .u32 x12f3, .int .u16 x12f4, .int .u16 x12f5, .int .u64 x12f6, .int .u32 x12f7, .int .u8 x12f8, .int .u64 x12f9, .int .u64 x12f10, .slice x12A11 x12b11.length x12c11] 52)]) (L' := [] :: L129 :: D :: C128 :: E0 :: E1 :: [(b6, rowO [.slice B0 l0.length d0, .slice B1 l1.length d1] 44)] :: F) rfl rfl
                          replace hS := hS.front 7 (C := [(b6, rowO [.slice B0 l0.length d0, .slice B1 l1.length d1] 44)]) (L' := [(b14, rowO [.int .u8 x12f0, .int .u64 x12f1, .int .u64 x12f2, .int .u32 x12f3, .int .u16 x12f4, .int .u16 x12f5, .int .u64 x12f6, .int .u32 x12f7, .int .u8 x12f8, .int .u64 x12f9, .int .u64 x12f10, .slice x12A11 x12b11.length x12c11] 52)] :: [] :: L129 :: D :: C128 :: E0 :: E1 :: F) rfl rfl
                          replace hS := hS.front 7 (C := E1) (L' := [(b6, rowO [.slice B0 l0.length d0, .slice B1 l1.length d1] 44)] :: [(b14, rowO [.int .u8 x12f0, .int .u64 x12f1, .int .u64 x12f2, .int .u32 x12f3, .int .u16 x12f4, .int .u16 x12f5, .int .u64 x12f6, .int .u32 x12f7, .int .u8 x12f8, .int .u64 x12f9, .int .u64 x12f10, .slice x12A11 x12b11.length x12c11] 52)] :: [] :: L129 :: D :: C128 :: E0 :: F) rfl rfl
                          replace hS := hS.front 7 (C := E0) (L' := E1 :: [(b6, rowO [.slice B0 l0.length d0, .slice B1 l1.length d1] 44)] :: [(b14, rowO [.int .u8 x12f0, .int .u64 x12f1, .int .u64 x12f2, .int .u32 x12f3, .int .u16 x12f4, .int .u16 x12f5, .int .u64 x12f6, .int .u32 x12f7, .int .u8 x12f8, .int .u64 x12f9, .int .u64 x12f10, .slice x12A11 x12b11.length x12c11] 52)] :: [] :: L129 :: D :: C128 :: F) rfl rfl
                          replace hS := hS.front 7 (C := C128) (L' := E0 :: E1 :: [(b6, rowO [.slice B0 l0.length d0, .slice B1 l1.length d1] 44)] :: [(b14, rowO [.int .u8 x12f0, .int .u64 x12f1, .int .u64 x12f2, .int .u32 x12f3, .int .u16 x12f4, .int .u16 x12f5, .int .u64 x12f6, .int .u32 x12f7, .int .u8 x12f8, .int .u64 x12f9, .int .u64 x12f10, .slice x12A11 x12b11.length x12c11] 52)] :: [] :: L129 :: D :: F) rfl rfl
                          replace hS := hS.front 7 (C := D) (L' := C128 :: E0 :: E1 :: [(b6, rowO [.slice B0 l0.length d0, .slice B1 l1.length d1] 44)] :: [(b14, rowO [.int .u8 x12f0, .int .u64 x12f1, .int .u64 x12f2, .int .u32 x12f3, .int .u16 x12f4, .int .u16 x12f5, .int .u64 x12f6, .int .u32 x12f7, .int .u8 x12f8, .int .u64 x12f9, .int .u64 x12f10, .slice x12A11 x12b11.length x12c11] 52)] :: [] :: L129 :: F) rfl rfl
                          replace hS := hS.front 7 (C := L129) (L' := D :: C128 :: E0 :: E1 :: [(b6, rowO [.slice B0 l0.length d0, .slice B1 l1.length d1] 44)] :: [(b14, rowO [.int .u8 x12f0, .int .u64 x12f1, .int .u64 x12f2, .int .u32 x12f3, .int .u16 x12f4, .int .u16 x12f5, .int .u64 x12f6, .int .u32 x12f7, .int .u8 x12f8, .int .u64 x12f9, .int .u64 x12f10, .slice x12A11 x12b11.length x12c11] 52)] :: [] :: F) rfl rfl
                          replace hS := hS.front 7 (C := []) (L' := L129 :: D :: C128 :: E0 :: E1 :: [(b6, rowO [.slice B0 l0.length d0, .slice B1 l1.length d1] 44)] :: [(b14, rowO [.int .u8 x12f0, .int .u64 x12f1, .int .u64 x12f2, .int .u32 x12f3, .int .u16 x12f4, .int .u16 x12f5, .int .u64 x12f6, .int .u32 x12f7, .int .u8 x12f8, .int .u64 x12f9, .int .u64 x12f10, .slice x12A11 x12b11.length x12c11] 52)] :: F) rfl rfl
                          refine wp_loop_ghost (fun m a w => ∃ (i : Nat) (aq : Nat) (Ax : Option Addr) (cx : Nat) (Cx : Chunk), m = l0.length - i ∧ Has a 199 [(5, .pointer (some ⟨bb3, 0, none⟩)), (6, .int .i64 ((n : Nat) : Int)), (7, .slice (some ⟨b6, 0, none⟩) 2 2), (15, .func (.func 15) #[] #[.pointer (some ⟨b14, 0, none⟩)]), (16, .slice A131 ((us.filter (isA x12f3) ++ ps.filter (isA x12f3)).length) c132), (17, .int .i64 ((aq : Nat) : Int)), (18, .int .i64 ((0 : Nat) : Int)), (19, .slice Ax ((ok (fun x => !isA x12f3 x) l0 i).length) cx), (34, .slice (some ⟨b10, o11, none⟩) l.length c), (35, .int .i64 ((l.length : Nat) : Int)), (36, .int .i64 ((k : Nat) : Int)), (53, .int .i64 2), (54, .int .i64 ((0 : Nat) : Int)), (60, .slice B0 l0.length d0), (61, .int .i64 ((l0.length : Nat) : Int)), (62, .int .i64 ((i : Nat) : Int))] ∧ St w0 w (Cx :: L129 :: D :: C128 :: E0 :: E1 :: [(b6, rowO [.slice B0 l0.length d0, .slice B1 l1.length d1] 44)] :: [(b14, rowO [.int .u8 x12f0, .int .u64 x12f1, .int .u64 x12f2, .int .u32 x12f3, .int .u16 x12f4, .int .u16 x12f5, .int .u64 x12f6, .int .u32 x12f7, .int .u8 x12f8, .int .u64 x12f9, .int .u64 x12f10, .slice x12A11 x12b11.length x12c11] 52)] :: F) ∧ (i ≤ l0.length) ∧ (aq = 0 + (ok (isA x12f3) l0 i).length) ∧ (Own 37 11 (.slice Ax (ok (fun x => !isA x12f3 x) l0 i).length cx) (ok (fun x => !isA x12f3 x) l0 i).length (rows encMessage (ok (fun x => !isA x12f3 x) l0 i)) Cx)) (l0.length - 0)
                            ⟨0, 0, none, 0, ([]), rfl, (hA.sel [5, 6, 7, 15, 16, 17, 18, 19, 34, 35, 36, 53, 54, 60, 61, 62] rfl), hS, Nat.zero_le _, rfl, (Own.nil 37 11)⟩ ?_
                          clear hA hS; rintro m0 a w135 ⟨i, aq, Ax, cx, Cx, rfl, hA, hS, hi, hat, hX⟩
                          refine wp_seq ?_
                          refine wp_region_lit ?_
                          refine st_run tbOk 1 hA (e' := (63, .bool (decide (((i : Nat) : Int) < ((l0.length : Nat) : Int)))) :: _) rfl ?_; clear hA; intro a hA
                          refine wpList_nil ?_
                          refine xt_norm ?_
                          refine wp_seq ?_
                          by_cases hc136 : ((i : Nat) : Int) < ((l0.length : Nat) : Int)
                          · first
                            | (exfalso; omega)
                            | (replace hA := hA.rw 63 (v' := .bool true) rfl (vb_true hc136)
                               refine cd_cond_t hA rfl ?_
                               refine wp_skip ?_
                               refine xt_norm ?_
                               refine wp_seq ?_
                               refine wp_block ?_
                               refine wp_seq ?_
                               refine wp_region_lit ?_
                               obtain ⟨b137, o138, rfl⟩ := hT0.isSome (k := i) (by omega)
                               refine st_val hA rfl rfl (by decide) (rn_indexAddr tbOk hA i (o138 + (i * 11)) rfl rfl rfl rfl rfl rfl (by rfl) (by omega) (by first | rfl | simp [Nat.mul_one, Nat.zero_add] | omega)) ?_; clear hA; intro a hA
                               obtain ⟨x139, hx139⟩ := get_ex (l := l0) (k := i) (by omega)
                               obtain ⟨x139f0, x139f1, x139f2, x139f3, x139f4, x139f5, x139f6, x139f7, x139f8, x139f9, x139A10, x139c10, x139b10⟩ := x139
                               have hd140 := (fun x hx => hm0 x hx D) _ (List.mem_of_getElem? hx139)
                               refine st_val hA rfl rfl (by decide) (rn_loadA tbOk hA ([.int .u64 x139f0, .int .u64 x139f1, .int .u32 x139f2, .int .u16 x139f3, .int .u16 x139f4, .int .u64 x139f5, .int .u32 x139f6, .int .u8 x139f7, .int .u64 x139f8, .int .u64 x139f9, .slice x139A10 x139b10.length x139c10]) rfl rfl rfl rfl (by rfl) ((hT0.rd (hS.own_ 4 rfl)).elem (k := i) encMessage_ok hx139)) ?_; clear hA; intro a hA
                               refine st_alloc tbOk hA hS [.int .u64 0, .int .u64 0, .int .u32 0, .int .u16 0, .int .u16 0, .int .u64 0, .int .u32 0, .int .u8 0, .int .u64 0, .int .u64 0, .slice none 0 0] rfl rfl rfl rfl rfl (by decide) ?_; clear hA hS; intro b141 w142 a hS hA
                               refine st_store tbOk hA hS [.int .u64 x139f0, .int .u64 x139f1, .int .u32 x139f2, .int .u16 x139f3, .int .u16 x139f4, .int .u64 x139f5, .int .u32 x139f6, .int .u8 x139f7, .int .u64 x139f8, .int .u64 x139f9, .slice x139A10 x139b10.length x139c10] [.int .u64 x139f0, .int .u64 x139f1, .int .u32 x139f2, .int .u16 x139f3, .int .u16 x139f4, .int .u64 x139f5, .int .u32 x139f6, .int .u8 x139f7, .int .u64 x139f8, .int .u64 x139f9, .slice x139A10 x139b10.length x139c10] rfl rfl rfl rfl rfl rfl (by simp [Value.oneCell']) (Nat.le_of_ble_eq_true rfl) rfl rfl rfl ?_; clear hS; intro w143 hS
                               refine wpList_nil ?_
                               replace hA := hA.sel [5, 6, 7, 15, 16, 17, 18, 19, 21, 34, 35, 36, 53, 54, 60, 61, 62] (e' := [(5, .pointer (some ⟨bb3, 0, none⟩)), (6, .int .i64 ((n : Nat) : Int)), (7, .slice (some ⟨b6, 0, none⟩) 2 2), (15, .func (.func 15) #[] #[.pointer (some ⟨b14, 0, none⟩)]), (16, .slice A131 ((us.filter (isA x12f3) ++ ps.filter (isA x12f3)).length) c132), (17, .int .i64 ((aq : Nat) : Int)), (18, .int .i64 ((0 : Nat) : Int)), (19, .slice Ax ((ok (fun x => !isA x12f3 x) l0 i).length) cx), (21, .pointer (some ⟨b141, 0, none⟩)), (34, .slice (some ⟨b10, o11, none⟩) l.length c), (35, .int .i64 ((l.length : Nat) : Int)), (36, .int .i64 ((k : Nat) : Int)), (53, .int .i64 2), (54, .int .i64 ((0 : Nat) : Int)), (60, .slice (some ⟨b137, o138, none⟩) l0.length d0), (61, .int .i64 ((l0.length : Nat) : Int)), (62, .int .i64 ((i : Nat) : Int))]) rfl
                               refine xt_norm ?_
                               refine wp_seq ?_
                               refine wp_seq ?_
                               refine wp_region_lit ?_
                               have hol9 := ok_le (isA x12f3) l0 i; have hol8 := ok_le (fun x => !isA x12f3 x) l0 i
                               have hil9 := (List.getElem?_eq_some_iff.1 hx139).1
                               rcases Bool.eq_false_or_eq_true (isA x12f3 (x139f0, x139f1, x139f2, x139f3, x139f4, x139f5, x139f6, x139f7, x139f8, x139f9, x139A10, x139c10, x139b10)) with hpy | hpn
                               · refine st_run tbOk 1 hA (e' := (66, .func (.func 15) #[] #[.pointer (some ⟨b14, 0, none⟩)]) :: _) rfl ?_; clear hA; intro a hA
                                 refine st_val hA rfl rfl (by decide) (rn_loadA tbOk hA [.int .u64 x139f0, .int .u64 x139f1, .int .u32 x139f2, .int .u16 x139f3, .int .u16 x139f4, .int .u64 x139f5, .int .u32 x139f6, .int .u8 x139f7, .int .u64 x139f8, .int .u64 x139f9, .slice x139A10 x139b10.length x139c10] rfl rfl rfl rfl rfl (cells_row (hS.heapAt 0 rfl) rfl)) ?_; clear hA; intro a hA
                                 refine st_call hA rfl rfl rfl rfl isfn15 rfl rfl (by decide) (isc15 (fun w8 h8 => Rd.old h8 ((Own.full (T := 52) (size := 12) (g := b14) (m := 1) (xs := rows encAct [(x12f0, x12f1, x12f2, x12f3, x12f4, x12f5, x12f6, x12f7, x12f8, x12f9, x12f10, x12A11, x12c11, x12b11)]) rfl (by decide)).rd (hS.own_ 8 rfl))) (x139f0, x139f1, x139f2, x139f3, x139f4, x139f5, x139f6, x139f7, x139f8, x139f9, x139A10, x139c10, x139b10)) ?_
                                 clear hA; rintro v w144 a ⟨rfl, hS'⟩ hA; replace hS : St w0 w144 ([(b141, rowO [.int .u64 x139f0, .int .u64 x139f1, .int .u32 x139f2, .int .u16 x139f3, .int .u16 x139f4, .int .u64 x139f5, .int .u32 x139f6, .int .u8 x139f7, .int .u64 x139f8, .int .u64 x139f9, .slice x139A10 x139b10.length x139c10] 37)] :: Cx :: L129 :: D :: C128 :: E0 :: E1 :: [(b6, rowO [.slice (some ⟨b137, o138, none⟩) l0.length d0, .slice B1 l1.length d1] 44)] :: [(b14, rowO [.int .u8 x12f0, .int .u64 x12f1, .int .u64 x12f2, .int .u32 x12f3, .int .u16 x12f4, .int .u16 x12f5, .int .u64 x12f6, .int .u32 x12f7, .int .u8 x12f8, .int .u64 x12f9, .int .u64 x12f10, .slice x12A11 x12b11.length x12c11] 52)] :: F) := hS.trans hS'
                                 replace hA := hA.rw 68 (v' := .bool true) rfl (congrArg Value.bool hpy)
                                 refine st_run tbOk 1 hA (e' := (69, .bool false) :: _) rfl ?_; clear hA; intro a hA
                                 refine wpList_nil ?_
                                 replace hA := hA.sel [5, 6, 7, 15, 16, 17, 18, 19, 21, 34, 35, 36, 53, 54, 60, 61, 62, 69] (e' := [(5, .pointer (some ⟨bb3, 0, none⟩)), (6, .int .i64 ((n : Nat) : Int)), (7, .slice (some ⟨b6, 0, none⟩) 2 2), (15, .func (.func 15) #[] #[.pointer (some ⟨b14, 0, none⟩)]), (16, .slice A131 ((us.filter (isA x12f3) ++ ps.filter (isA x12f3)).length) c132), (17, .int .i64 ((aq : Nat) : Int)), (18, .int .i64 ((0 : Nat) : Int)), (19, .slice Ax ((ok (fun x => !isA x12f3 x) l0 i).length) cx), (21, .pointer (some ⟨b141, 0, none⟩)), (34, .slice (some ⟨b10, o11, none⟩) l.length c), (35, .int .i64 ((l.length : Nat) : Int)), (36, .int .i64 ((k : Nat) : Int)), (53, .int .i64 2), (54, .int .i64 ((0 : Nat) : Int)), (60, .slice (some ⟨b137, o138, none⟩) l0.length d0), (61, .int .i64 ((l0.length : Nat) : Int)), (62, .int .i64 ((i : Nat) : Int)), (69, .bool false)]) rfl
                                 refine xt_norm ?_
                                 refine cd_cond_f hA rfl ?_
                                 refine wp_skip ?_
                                 refine xt_norm ?_
                                 refine wp_seq ?_
                                 refine wp_seq ?_
                                 have hfa := flt_at (p := (isA x12f3)) hx139 hpy; have hfl := flt_lt (p := (isA x12f3)) hx139 hpy
                                 have hoy : (l0.filter (isA x12f3) ++ l1.filter (isA x12f3))[aq]? = some (x139f0, x139f1, x139f2, x139f3, x139f4, x139f5, x139f6, x139f7, x139f8, x139f9, x139A10, x139c10, x139b10) := by rw [hat, Nat.zero_add, List.getElem?_append_left hfl]; exact hfa
                                 obtain ⟨b145, o146, rfl⟩ := hO128.isSome (k := aq) (by omega)
                                 obtain ⟨x147, hx147⟩ := get_ex (l := (us.filter (isA x12f3) ++ ps.filter (isA x12f3))) (k := aq) (by omega)
                                 obtain ⟨x147f0, x147f1, x147f2, x147f3, x147f4, x147f5, x147f6, x147f7, x147f8, x147f9, x147A10, x147c10, x147b10⟩ := x147
                                 have hd148 := (dd_app (dd_flt hdu) (dd_flt hdp)) _ (List.mem_of_getElem? hx147)
                                 have hsm := map_at hout hx147 hoy; simp only [mst, mdat, Prod.mk.injEq] at hsm
                                 refine wp_draw (fun w' => St w0 w' ([(b141, rowO [.int .u64 x139f0, .int .u64 x139f1, .int .u32 x139f2, .int .u16 x139f3, .int .u16 x139f4, .int .u64 x139f5, .int .u32 x139f6, .int .u8 x139f7, .int .u64 x139f8, .int .u64 x139f9, .slice x139A10 x139b10.length x139c10] 37)] :: Cx :: L129 :: D :: C128 :: E0 :: E1 :: [(b6, rowO [.slice (some ⟨b137, o138, none⟩) l0.length d0, .slice B1 l1.length d1] 44)] :: [(b14, rowO [.int .u8 x12f0, .int .u64 x12f1, .int .u64 x12f2, .int .u32 x12f3, .int .u16 x12f4, .int .u16 x12f5, .int .u64 x12f6, .int .u32 x12f7, .int .u8 x12f8, .int .u64 x12f9, .int .u64 x12f10, .slice x12A11 x12b11.length x12c11] 52)] :: F)) [] [(0, true), (1, true), (2, true), (3, true), (4, true), (5, true), (6, true), (7, true), (8, true), (9, true), (10, false), (11, true), (12, true)] mixed (by kernel_rfl) (by rintro c a w ⟨_, _, h, _⟩; cases h) (by rfl) (by kernel_rfl) ?_
                                 replace hS := hS.drew
                                 refine dr_run tbOk 5 hA hS (e' := (78, .bool (decide (((aq : Nat) : Int) ≥ (((us.filter (isA x12f3) ++ ps.filter (isA x12f3)).length : Nat) : Int)))) :: (77, .bool (decide (((aq : Nat) : Int) ≥ (((us.filter (isA x12f3) ++ ps.filter (isA x12f3)).length : Nat) : Int)))) :: (76, .int .i64 (((us.filter (isA x12f3) ++ ps.filter (isA x12f3)).length : Nat) : Int)) :: (75, .slice (some ⟨b145, o146, none⟩) ((us.filter (isA x12f3) ++ ps.filter (isA x12f3)).length) c132) :: (74, .int .i64 ((aq : Nat) : Int)) :: _) rfl ?_; clear hA; intro a hA
                                 by_cases hc149 : ((aq : Nat) : Int) ≥ (((us.filter (isA x12f3) ++ ps.filter (isA x12f3)).length : Nat) : Int)
                                 · first
                                   | (exfalso; omega)
                                   | (replace hA := hA.rw 77 (v' := .bool true) rfl (vb_true hc149)
                                      replace hA := hA.rw 78 (v' := .bool true) rfl (vb_true hc149)
                                      refine dr_run tbOk 5 hA hS (e' := (83, undef) :: (82, undef) :: (81, undef) :: (80, undef) :: (79, undef) :: _) rfl ?_; clear hA; intro a hA
                                      refine dr_b (o := _) rfl ?_
                                      refine st_no hA rfl rfl (by decide) ?_; clear hA; intro a hA
                                      refine dr_nil (.inr hS) ?_
                                      refine dr_run tbOk 2 hA hS (e' := (86, .bool true) :: (85, undef) :: _) rfl ?_; clear hA; intro a hA
                                      refine dr_end ?_
                                      replace hA := hA.sel [5, 6, 7, 15, 16, 17, 18, 19, 34, 35, 36, 53, 54, 60, 61, 62, 86] (e' := [(5, .pointer (some ⟨bb3, 0, none⟩)), (6, .int .i64 ((n : Nat) : Int)), (7, .slice (some ⟨b6, 0, none⟩) 2 2), (15, .func (.func 15) #[] #[.pointer (some ⟨b14, 0, none⟩)]), (16, .slice (some ⟨b145, o146, none⟩) ((us.filter (isA x12f3) ++ ps.filter (isA x12f3)).length) c132), (17, .int .i64 ((aq : Nat) : Int)), (18, .int .i64 ((0 : Nat) : Int)), (19, .slice Ax ((ok (fun x => !isA x12f3 x) l0 i).length) cx), (34, .slice (some ⟨b10, o11, none⟩) l.length c), (35, .int .i64 ((l.length : Nat) : Int)), (36, .int .i64 ((k : Nat) : Int)), (53, .int .i64 2), (54, .int .i64 ((0 : Nat) : Int)), (60, .slice (some ⟨b137, o138, none⟩) l0.length d0), (61, .int .i64 ((l0.length : Nat) : Int)), (62, .int .i64 ((i : Nat) : Int)), (86, .bool true)]) rfl
                                      refine xt_norm ?_
                                      refine cd_cond_t hA rfl ?_
                                      refine wp_seq ?_
                                      refine wp_region_lit ?_
                                      refine st_run tbOk 1 hA (e' := (4, .bool false) :: _) rfl ?_; clear hA; intro a hA
                                      refine wpList_nil ?_
                                      replace hA := hA.sel [4] (e' := [(4, .bool false)]) rfl
                                      refine xt_norm ?_
                                      refine wp_ret (xt_ret (xb_ret (xt_ret (xt_ret (xb_ret (xt_ret (xb_ret (xt_ret (xt_ret (xb_ret (xt_ret (xb_ret (xt_ret (xb_ret (xt_ret (xt_ret (xb_ret (xt_ret ?_))))))))))))))))))
                                      refine ret1 (fn := Tryd.f6) hA rfl rfl ?_
                                      exfalso; omega)
                                 · first
                                   | (exfalso; omega)
                                   | (replace hA := hA.rw 77 (v' := .bool false) rfl (vb_false hc149)
                                      replace hA := hA.rw 78 (v' := .bool false) rfl (vb_false hc149)
                                      refine dr_run tbOk 2 hA hS (e' := (80, .int .i64 ((aq : Nat) : Int)) :: (79, .slice (some ⟨b145, o146, none⟩) ((us.filter (isA x12f3) ++ ps.filter (isA x12f3)).length) c132) :: _) rfl ?_; clear hA; intro a hA
                                      refine dr_y hA rfl rfl rfl (by decide) hS (fun w' hS' => rn_indexAddr tbOk hA aq (o146 + (aq * 11)) rfl rfl rfl rfl rfl rfl (by rfl) (by omega) (by first | rfl | simp [Nat.mul_one, Nat.zero_add] | omega)) ?_; clear hA; intro a hA
                                      refine dr_y hA rfl rfl rfl (by decide) hS (fun w' hS' => rn_loadA tbOk hA ([.int .u64 x147f0, .int .u64 x147f1, .int .u32 x147f2, .int .u16 x147f3, .int .u16 x147f4, .int .u64 x147f5, .int .u32 x147f6, .int .u8 x147f7, .int .u64 x147f8, .int .u64 x147f9, .slice x147A10 x147b10.length x147c10]) rfl rfl rfl rfl (by rfl) ((hO128.rd (hS'.own_ 4 rfl)).elem (k := aq) encMessage_ok hx147)) ?_; clear hA; intro a hA
                                      refine dr_y hA rfl rfl rfl (by decide) hS (fun w' hS' => rn_loadA tbOk hA [.int .u64 x139f0, .int .u64 x139f1, .int .u32 x139f2, .int .u16 x139f3, .int .u16 x139f4, .int .u64 x139f5, .int .u32 x139f6, .int .u8 x139f7, .int .u64 x139f8, .int .u64 x139f9, .slice x139A10 x139b10.length x139c10] rfl rfl rfl rfl rfl (cells_row (hS'.heapAt 0 rfl) rfl)) ?_; clear hA; intro a hA
                                      refine dr_b (o := _) rfl ?_
                                      refine st_call0 hA rfl rfl rfl isfn14 rfl rfl (by decide) (same04_14 hS x147f0 x147f1 x147f2 x147f3 x147f4 x147f5 x147f6 x147f7 x147f8 x147f9 x139f0 x139f1 x139f2 x139f3 x139f4 x139f5 x139f6 x139f7 x139f8 x139f9 (bs := x147b10) (cs := x139b10) (fun w' h => (hd148 _ (h.only 3 rfl))) (fun w' h => (hd140 _ (h.only 3 rfl)))) ?_
                                      clear hA hS; rintro v w150 a ⟨rfl, hS⟩ hA
                                      replace hA := hA.rw 84 (v' := .bool true) rfl (congrArg Value.bool (by rw [decide_eq_true_eq]; obtain ⟨q0, q1, q2, q3, q4, q5, q6, q7, q8, q9, qb⟩ := hsm; exact ⟨q0, q1, q2, q3, q4, ⟨q5, q6, q7, q8⟩, q9, qb⟩))
                                      refine dr_nil (.inr hS) ?_
                                      refine dr_run tbOk 2 hA hS (e' := (86, .bool false) :: (85, .bool false) :: _) rfl ?_; clear hA; intro a hA
                                      refine dr_end ?_
                                      replace hA := hA.sel [5, 6, 7, 15, 16, 17, 18, 19, 34, 35, 36, 53, 54, 60, 61, 62, 86] (e' := [(5, .pointer (some ⟨bb3, 0, none⟩)), (6, .int .i64 ((n : Nat) : Int)), (7, .slice (some ⟨b6, 0, none⟩) 2 2), (15, .func (.func 15) #[] #[.pointer (some ⟨b14, 0, none⟩)]), (16, .slice (some ⟨b145, o146, none⟩) ((us.filter (isA x12f3) ++ ps.filter (isA x12f3)).length) c132), (17, .int .i64 ((aq : Nat) : Int)), (18, .int .i64 ((0 : Nat) : Int)), (19, .slice Ax ((ok (fun x => !isA x12f3 x) l0 i).length) cx), (34, .slice (some ⟨b10, o11, none⟩) l.length c), (35, .int .i64 ((l.length : Nat) : Int)), (36, .int .i64 ((k : Nat) : Int)), (53, .int .i64 2), (54, .int .i64 ((0 : Nat) : Int)), (60, .slice (some ⟨b137, o138, none⟩) l0.length d0), (61, .int .i64 ((l0.length : Nat) : Int)), (62, .int .i64 ((i : Nat) : Int)), (86, .bool false)]) rfl
                                      refine xt_norm ?_
                                      refine cd_cond_f hA rfl ?_
                                      refine wp_skip ?_
                                      refine xt_norm ?_
                                      refine wp_region_lit ?_
                                      refine st_run tbOk 2 hA (e' := (88, .int .i64 (IntKind.i64.wrap (((aq : Nat) : Int) + 1))) :: (87, .int .i64 ((aq : Nat) : Int)) :: _) rfl ?_; clear hA; intro a hA
                                      replace hA := hA.rw 88 (v' := .int .i64 ((aq + 1 : Nat) : Int)) rfl (wr64 (by omega) (by omega) (by omega))
                                      refine st_run tbOk 1 hA (e' := (17, .int .i64 ((aq + 1 : Nat) : Int)) :: _) rfl ?_; clear hA; intro a hA
                                      refine wpList_nil ?_
                                      replace hA := hA.sel [5, 6, 7, 15, 16, 17, 18, 19, 34, 35, 36, 53, 54, 60, 61, 62] (e' := [(5, .pointer (some ⟨bb3, 0, none⟩)), (6, .int .i64 ((n : Nat) : Int)), (7, .slice (some ⟨b6, 0, none⟩) 2 2), (15, .func (.func 15) #[] #[.pointer (some ⟨b14, 0, none⟩)]), (16, .slice (some ⟨b145, o146, none⟩) ((us.filter (isA x12f3) ++ ps.filter (isA x12f3)).length) c132), (17, .int .i64 ((aq + 1 : Nat) : Int)), (18, .int .i64 ((0 : Nat) : Int)), (19, .slice Ax ((ok (fun x => !isA x12f3 x) l0 i).length) cx), (34, .slice (some ⟨b10, o11, none⟩) l.length c), (35, .int .i64 ((l.length : Nat) : Int)), (36, .int .i64 ((k : Nat) : Int)), (53, .int .i64 2), (54, .int .i64 ((0 : Nat) : Int)), (60, .slice (some ⟨b137, o138, none⟩) l0.length d0), (61, .int .i64 ((l0.length : Nat) : Int)), (62, .int .i64 ((i : Nat) : Int))]) rfl
                                      refine xb_norm ?_
                                      refine xt_norm ?_
                                      refine wp_region_lit ?_
                                      refine st_run tbOk 1 hA (e' := (89, .int .i64 (IntKind.i64.wrap (((i : Nat) : Int) + 1))) :: _) rfl ?_; clear hA; intro a hA
                                      replace hA := hA.rw 89 (v' := .int .i64 ((i + 1 : Nat) : Int)) rfl (wr64 (by omega) (by omega) (by omega))
                                      refine st_run tbOk 1 hA (e' := (62, .int .i64 ((i + 1 : Nat) : Int)) :: _) rfl ?_; clear hA; intro a hA
                                      refine wpList_nil ?_
                                      replace hA := hA.sel [5, 6, 7, 15, 16, 17, 18, 19, 34, 35, 36, 53, 54, 60, 61, 62] (e' := [(5, .pointer (some ⟨bb3, 0, none⟩)), (6, .int .i64 ((n : Nat) : Int)), (7, .slice (some ⟨b6, 0, none⟩) 2 2), (15, .func (.func 15) #[] #[.pointer (some ⟨b14, 0, none⟩)]), (16, .slice (some ⟨b145, o146, none⟩) ((us.filter (isA x12f3) ++ ps.filter (isA x12f3)).length) c132), (17, .int .i64 ((aq + 1 : Nat) : Int)), (18, .int .i64 ((0 : Nat) : Int)), (19, .slice Ax ((ok (fun x => !isA x12f3 x) l0 i).length) cx), (34, .slice (some ⟨b10, o11, none⟩) l.length c), (35, .int .i64 ((l.length : Nat) : Int)), (36, .int .i64 ((k : Nat) : Int)), (53, .int .i64 2), (54, .int .i64 ((0 : Nat) : Int)), (60, .slice (some ⟨b137, o138, none⟩) l0.length d0), (61, .int .i64 ((l0.length : Nat) : Int)), (62, .int .i64 ((i + 1 : Nat) : Int))]) rfl
                                      have hxs : ok (fun x => !isA x12f3 x) l0 (i + 1) = ok (fun x => !isA x12f3 x) l0 i := (ok_gone hx139 hpy).symm
                                      replace hA := hA.rw 19 (v' := .slice Ax ((ok (fun x => !isA x12f3 x) l0 (i + 1)).length) cx) rfl (by rw [hxs])
                                      replace hS := hS.drop1
                                      replace hS := hS.front 7 (C := [(b14, rowO [.int .u8 x12f0, .int .u64 x12f1, .int .u64 x12f2, .int .u32 x12f3, .int .u16 x12f4, .int .u16 x12f5, .int .u64 x12f6, .int .u32 x12f7, .int .u8 x12f8, .int .u64 x12f9, .int .u64 x12f10, .slice x12A11 x12b11.length x12c11] 52)]) (L' := Cx :: L129 :: D :: C128 :: E0 :: E1 :: [(b6, rowO [.slice (some ⟨b137, o138, none⟩) l0.length d0, .slice B1 l1.length d1] 44)] :: F) rfl rfl
                                      replace hS := hS.front 7 (C := [(b6, rowO [.slice (some ⟨b137, o138, none⟩) l0.length d0, .slice B1 l1.length d1] 44)]) (L' := [(b14, rowO [.int .u8 x12f0, .int .u64 x12f1, .int .u64 x12f2, .int .u32 x12f3, .int .u16 x12f4, .int .u16 x12f5, .int .u64 x12f6, .int .u32 x12f7, .int .u8 x12f8, .int .u64 x12f9, .int .u64 x12f10, .slice x12A11 x12b11.length x12c11] 52)] :: Cx :: L129 :: D :: C128 :: E0 :: E1 :: F) rfl rfl
                                      replace hS := hS.front 7 (C := E1) (L' := [(b6, rowO [.slice (some ⟨b137, o138, none⟩) l0.length d0, .slice B1 l1.length d1] 44)] :: [(b14, rowO [.int .u8 x12f0, .int .u64 x12f1, .int .u64 x12f2, .int .u32 x12f3, .int .u16 x12f4, .int .u16 x12f5, .int .u64 x12f6, .int .u32 x12f7, .int .u8 x12f8, .int .u64 x12f9, .int .u64 x12f10, .slice x12A11 x12b11.length x12c11] 52)] :: Cx :: L129 :: D :: C128 :: E0 :: F) rfl rfl
                                      replace hS := hS.front 7 (C := E0) (L' := E1 :: [(b6, rowO [.slice (some ⟨b137, o138, none⟩) l0.length d0, .slice B1 l1.length d1] 44)] :: [(b14, rowO [.int .u8 x12f0, .int .u64 x12f1, .int .u64 x12f2, .int .u32 x12f3, .int .u16 x12f4, .int .u16 x12f5, .int .u64 x12f6, .int .u32 x12f7, .int .u8 x12f8, .int .u64 x12f9, .int .u64 x12f10, .slice x12A11 x12b11.length x12c11] 52)] :: Cx :: L129 :: D :: C128 :: F) rfl rfl
                                      replace hS := hS.front 7 (C := C128) (L' := E0 :: E1 :: [(b6, rowO [.slice (some ⟨b137, o138, none⟩) l0.length d0, .slice B1 l1.length d1] 44)] :: [(b14, rowO [.int .u8 x12f0, .int .u64 x12f1, .int .u64 x12f2, .int .u32 x12f3, .int .u16 x12f4, .int .u16 x12f5, .int .u64 x12f6, .int .u32 x12f7, .int .u8 x12f8, .int .u64 x12f9, .int .u64 x12f10, .slice x12A11 x12b11.length x12c11] 52)] :: Cx :: L129 :: D :: F) rfl rfl
                                      replace hS := hS.front 7 (C := D) (L' := C128 :: E0 :: E1 :: [(b6, rowO [.slice (some ⟨b137, o138, none⟩) l0.length d0, .slice B1 l1.length d1] 44)] :: [(b14, rowO [.int .u8 x12f0, .int .u64 x12f1, .int .u64 x12f2, .int .u32 x12f3, .int .u16 x12f4, .int .u16 x12f5, .int .u64 x12f6, .int .u32 x12f7, .int .u8 x12f8, .int .u64 x12f9, .int .u64 x12f10, .slice x12A11 x12b11.length x12c11] 52)] :: Cx :: L129 :: F) rfl rfl
                                      replace hS := hS.front 7 (C := L129) (L' := D :: C128 :: E0 :: E1 :: [(b6, rowO [.slice (some ⟨b137, o138, none⟩) l0.length d0, .slice B1 l1.length d1] 44)] :: [(b14, rowO [.int .u8 x12f0, .int .u64 x12f1, .int .u64 x12f2, .int .u32 x12f3, .int .u16 x12f4, .int .u16 x12f5, .int .u64 x12f6, .int .u32 x12f7, .int .u8 x12f8, .int .u64 x12f9, .int .u64 x12f10, .slice x12A11 x12b11.length x12c11] 52)] :: Cx :: F) rfl rfl
                                      replace hS := hS.front 7 (C := Cx) (L' := L129 :: D :: C128 :: E0 :: E1 :: [(b6, rowO [.slice (some ⟨b137, o138, none⟩) l0.length d0, .slice B1 l1.length d1] 44)] :: [(b14, rowO [.int .u8 x12f0, .int .u64 x12f1, .int .u64 x12f2, .int .u32 x12f3, .int .u16 x12f4, .int .u16 x12f5, .int .u64 x12f6, .int .u32 x12f7, .int .u8 x12f8, .int .u64 x12f9, .int .u64 x12f10, .slice x12A11 x12b11.length x12c11] 52)] :: F) rfl rfl
                                      exact lp_next _ (by omega) ⟨(i + 1), (aq + 1), Ax, cx, Cx, rfl, (hA.sel [5, 6, 7, 15, 16, 17, 18, 19, 34, 35, 36, 53, 54, 60, 61, 62] rfl), hS, by omega, (by rw [ok_len (p := (isA x12f3)) hx139 hpy]; omega), (by rw [hxs]; exact hX)⟩)
                               · refine st_run tbOk 1 hA (e' := (66, .func (.func 15) #[] #[.pointer (some ⟨b14, 0, none⟩)]) :: _) rfl ?_; clear hA; intro a hA
                                 refine st_val hA rfl rfl (by decide) (rn_loadA tbOk hA [.int .u64 x139f0, .int .u64 x139f1, .int .u32 x139f2, .int .u16 x139f3, .int .u16 x139f4, .int .u64 x139f5, .int .u32 x139f6, .int .u8 x139f7, .int .u64 x139f8, .int .u64 x139f9, .slice x139A10 x139b10.length x139c10] rfl rfl rfl rfl rfl (cells_row (hS.heapAt 0 rfl) rfl)) ?_; clear hA; intro a hA
                                 refine st_call hA rfl rfl rfl rfl isfn15 rfl rfl (by decide) (isc15 (fun w8 h8 => Rd.old h8 ((Own.full (T := 52) (size := 12) (g := b14) (m := 1) (xs := rows encAct [(x12f0, x12f1, x12f2, x12f3, x12f4, x12f5, x12f6, x12f7, x12f8, x12f9, x12f10, x12A11, x12c11, x12b11)]) rfl (by decide)).rd (hS.own_ 8 rfl))) (x139f0, x139f1, x139f2, x139f3, x139f4, x139f5, x139f6, x139f7, x139f8, x139f9, x139A10, x139c10, x139b10)) ?_
                                 clear hA; rintro v w151 a ⟨rfl, hS'⟩ hA; replace hS : St w0 w151 ([(b141, rowO [.int .u64 x139f0, .int .u64 x139f1, .int .u32 x139f2, .int .u16 x139f3, .int .u16 x139f4, .int .u64 x139f5, .int .u32 x139f6, .int .u8 x139f7, .int .u64 x139f8, .int .u64 x139f9, .slice x139A10 x139b10.length x139c10] 37)] :: Cx :: L129 :: D :: C128 :: E0 :: E1 :: [(b6, rowO [.slice (some ⟨b137, o138, none⟩) l0.length d0, .slice B1 l1.length d1] 44)] :: [(b14, rowO [.int .u8 x12f0, .int .u64 x12f1, .int .u64 x12f2, .int .u32 x12f3, .int .u16 x12f4, .int .u16 x12f5, .int .u64 x12f6, .int .u32 x12f7, .int .u8 x12f8, .int .u64 x12f9, .int .u64 x12f10, .slice x12A11 x12b11.length x12c11] 52)] :: F) := hS.trans hS'
                                 replace hA := hA.rw 68 (v' := .bool false) rfl (congrArg Value.bool hpn)
                                 refine st_run tbOk 1 hA (e' := (69, .bool true) :: _) rfl ?_; clear hA; intro a hA
                                 refine wpList_nil ?_
                                 replace hA := hA.sel [5, 6, 7, 15, 16, 17, 18, 19, 21, 34, 35, 36, 53, 54, 60, 61, 62, 69] (e' := [(5, .pointer (some ⟨bb3, 0, none⟩)), (6, .int .i64 ((n : Nat) : Int)), (7, .slice (some ⟨b6, 0, none⟩) 2 2), (15, .func (.func 15) #[] #[.pointer (some ⟨b14, 0, none⟩)]), (16, .slice A131 ((us.filter (isA x12f3) ++ ps.filter (isA x12f3)).length) c132), (17, .int .i64 ((aq : Nat) : Int)), (18, .int .i64 ((0 : Nat) : Int)), (19, .slice Ax ((ok (fun x => !isA x12f3 x) l0 i).length) cx), (21, .pointer (some ⟨b141, 0, none⟩)), (34, .slice (some ⟨b10, o11, none⟩) l.length c), (35, .int .i64 ((l.length : Nat) : Int)), (36, .int .i64 ((k : Nat) : Int)), (53, .int .i64 2), (54, .int .i64 ((0 : Nat) : Int)), (60, .slice (some ⟨b137, o138, none⟩) l0.length d0), (61, .int .i64 ((l0.length : Nat) : Int)), (62, .int .i64 ((i : Nat) : Int)), (69, .bool true)]) rfl
                                 refine xt_norm ?_
                                 refine cd_cond_t hA rfl ?_
                                 refine wp_seq ?_
                                 refine wp_region_lit ?_
                                 refine st_run tbOk 1 hA (e' := (70, .slice Ax ((ok (fun x => !isA x12f3 x) l0 i).length) cx) :: _) rfl ?_; clear hA; intro a hA
                                 refine st_val hA rfl rfl (by decide) (rn_loadA tbOk hA [.int .u64 x139f0, .int .u64 x139f1, .int .u32 x139f2, .int .u16 x139f3, .int .u16 x139f4, .int .u64 x139f5, .int .u32 x139f6, .int .u8 x139f7, .int .u64 x139f8, .int .u64 x139f9, .slice x139A10 x139b10.length x139c10] rfl rfl rfl rfl rfl (cells_row (hS.heapAt 0 rfl) rfl)) ?_; clear hA; intro a hA
                                 refine st_buildSlice tbOk hA hS [.int .u64 x139f0, .int .u64 x139f1, .int .u32 x139f2, .int .u16 x139f3, .int .u16 x139f4, .int .u64 x139f5, .int .u32 x139f6, .int .u8 x139f7, .int .u64 x139f8, .int .u64 x139f9, .slice x139A10 x139b10.length x139c10] rfl rfl rfl rfl rfl (by decide) (by kernel_rfl) rfl rfl (by decide) ?_; clear hA hS; intro b152 w153 a hS hA
                                 replace hS := hS.front 2 (C := Cx) (L' := [(b152, rowO [.int .u64 x139f0, .int .u64 x139f1, .int .u32 x139f2, .int .u16 x139f3, .int .u16 x139f4, .int .u64 x139f5, .int .u32 x139f6, .int .u8 x139f7, .int .u64 x139f8, .int .u64 x139f9, .slice x139A10 x139b10.length x139c10] 37)] :: [(b141, rowO [.int .u64 x139f0, .int .u64 x139f1, .int .u32 x139f2, .int .u16 x139f3, .int .u16 x139f4, .int .u64 x139f5, .int .u32 x139f6, .int .u8 x139f7, .int .u64 x139f8, .int .u64 x139f9, .slice x139A10 x139b10.length x139c10] 37)] :: L129 :: D :: C128 :: E0 :: E1 :: [(b6, rowO [.slice (some ⟨b137, o138, none⟩) l0.length d0, .slice B1 l1.length d1] 44)] :: [(b14, rowO [.int .u8 x12f0, .int .u64 x12f1, .int .u64 x12f2, .int .u32 x12f3, .int .u16 x12f4, .int .u16 x12f5, .int .u64 x12f6, .int .u32 x12f7, .int .u8 x12f8, .int .u64 x12f9, .int .u64 x12f10, .slice x12A11 x12b11.length x12c11] 52)] :: F) rfl rfl
                                 refine st_append tbOk hA (m := (ok (fun x => !isA x12f3 x) l0 i).length) (q := 1) (xs := rows encMessage (ok (fun x => !isA x12f3 x) l0 i)) (news := rows encMessage ([(x139f0, x139f1, x139f2, x139f3, x139f4, x139f5, x139f6, x139f7, x139f8, x139f9, x139A10, x139c10, x139b10)] : List (Int × Int × Int × Int × Int × Int × Int × Int × Int × Int × Option Addr × Nat × List UInt8))) rfl rfl rfl rfl rfl rfl rfl rfl (by decide) hX hS (((Own.full (T := 37) (size := 11) (g := b152) (m := 1) rfl (by decide)).rd (hS.own_ 1 rfl)).x) (rows_one encMessage_ok _) (maxLen_le (by first | omega | (simp; omega))) (by show ((ok (fun x => !isA x12f3 x) l0 i).length + 1) * 80 ≤ 140737488355328; first | omega | (simp; omega)) rfl rfl (by decide) ?_
                                 clear hA hS; intro v154 w155 C156 a hO156 hS hA
                                 replace hO156 := Own.app (l := ok (fun x => !isA x12f3 x) l0 i) (l2 := ([(x139f0, x139f1, x139f2, x139f3, x139f4, x139f5, x139f6, x139f7, x139f8, x139f9, x139A10, x139c10, x139b10)] : List (Int × Int × Int × Int × Int × Int × Int × Int × Int × Int × Option Addr × Nat × List UInt8))) hO156
                                 obtain ⟨A157, c158, rfl, hmc158, hxc158⟩ := hO156.open'
                                 refine st_run tbOk 1 hA (e' := (19, .slice A157 (((ok (fun x => !isA x12f3 x) l0 i) ++ ([(x139f0, x139f1, x139f2, x139f3, x139f4, x139f5, x139f6, x139f7, x139f8, x139f9, x139A10, x139c10, x139b10)] : List (Int × Int × Int × Int × Int × Int × Int × Int × Int × Int × Option Addr × Nat × List UInt8))).length) c158) :: _) rfl ?_; clear hA; intro a hA
                                 refine wpList_nil ?_
                                 replace hA := hA.sel [5, 6, 7, 15, 16, 17, 18, 19, 34, 35, 36, 53, 54, 60, 61, 62] (e' := [(5, .pointer (some ⟨bb3, 0, none⟩)), (6, .int .i64 ((n : Nat) : Int)), (7, .slice (some ⟨b6, 0, none⟩) 2 2), (15, .func (.func 15) #[] #[.pointer (some ⟨b14, 0, none⟩)]), (16, .slice A131 ((us.filter (isA x12f3) ++ ps.filter (isA x12f3)).length) c132), (17, .int .i64 ((aq : Nat) : Int)), (18, .int .i64 ((0 : Nat) : Int)), (19, .slice A157 (((ok (fun x => !isA x12f3 x) l0 i) ++ ([(x139f0, x139f1, x139f2, x139f3, x139f4, x139f5, x139f6, x139f7, x139f8, x139f9, x139A10, x139c10, x139b10)] : List (Int × Int × Int × Int × Int × Int × Int × Int × Int × Int × Option Addr × Nat × List UInt8))).length) c158), (34, .slice (some ⟨b10, o11, none⟩) l.length c), (35, .int .i64 ((l.length : Nat) : Int)), (36, .int .i64 ((k : Nat) : Int)), (53, .int .i64 2), (54, .int .i64 ((0 : Nat) : Int)), (60, .slice (some ⟨b137, o138, none⟩) l0.length d0), (61, .int .i64 ((l0.length : Nat) : Int)), (62, .int .i64 ((i : Nat) : Int))]) rfl
                                 refine xt_norm ?_
                                 refine wp_exit ?_
                                 refine xt_exit ?_
                                 refine cd_exit_eq ?_
                                 refine xt_norm ?_
                                 refine wp_region_lit ?_
                                 refine st_run tbOk 1 hA (e' := (89, .int .i64 (IntKind.i64.wrap (((i : Nat) : Int) + 1))) :: _) rfl ?_; clear hA; intro a hA
                                 replace hA := hA.rw 89 (v' := .int .i64 ((i + 1 : Nat) : Int)) rfl (wr64 (by omega) (by omega) (by omega))
                                 refine st_run tbOk 1 hA (e' := (62, .int .i64 ((i + 1 : Nat) : Int)) :: _) rfl ?_; clear hA; intro a hA
                                 refine wpList_nil ?_
                                 replace hA := hA.sel [5, 6, 7, 15, 16, 17, 18, 19, 34, 35, 36, 53, 54, 60, 61, 62] (e' := [(5, .pointer (some ⟨bb3, 0, none⟩)), (6, .int .i64 ((n : Nat) : Int)), (7, .slice (some ⟨b6, 0, none⟩) 2 2), (15, .func (.func 15) #[] #[.pointer (some ⟨b14, 0, none⟩)]), (16, .slice A131 ((us.filter (isA x12f3) ++ ps.filter (isA x12f3)).length) c132), (17, .int .i64 ((aq : Nat) : Int)), (18, .int .i64 ((0 : Nat) : Int)), (19, .slice A157 (((ok (fun x => !isA x12f3 x) l0 i) ++ ([(x139f0, x139f1, x139f2, x139f3, x139f4, x139f5, x139f6, x139f7, x139f8, x139f9, x139A10, x139c10, x139b10)] : List (Int × Int × Int × Int × Int × Int × Int × Int × Int × Int × Option Addr × Nat × List UInt8))).length) c158), (34, .slice (some ⟨b10, o11, none⟩) l.length c), (35, .int .i64 ((l.length : Nat) : Int)), (36, .int .i64 ((k : Nat) : Int)), (53, .int .i64 2), (54, .int .i64 ((0 : Nat) : Int)), (60, .slice (some ⟨b137, o138, none⟩) l0.length d0), (61, .int .i64 ((l0.length : Nat) : Int)), (62, .int .i64 ((i + 1 : Nat) : Int))]) rfl
                                 have hxs : ok (fun x => !isA x12f3 x) l0 (i + 1) = (ok (fun x => !isA x12f3 x) l0 i) ++ ([(x139f0, x139f1, x139f2, x139f3, x139f4, x139f5, x139f6, x139f7, x139f8, x139f9, x139A10, x139c10, x139b10)] : List (Int × Int × Int × Int × Int × Int × Int × Int × Int × Int × Option Addr × Nat × List UInt8)) := (ok_stay hx139 hpn).symm
                                 replace hA := hA.rw 19 (v' := .slice A157 ((ok (fun x => !isA x12f3 x) l0 (i + 1)).length) c158) rfl (by rw [hxs])
                                 replace hS := hS.front 2 (C := [(b141, rowO [.int .u64 x139f0, .int .u64 x139f1, .int .u32 x139f2, .int .u16 x139f3, .int .u16 x139f4, .int .u64 x139f5, .int .u32 x139f6, .int .u8 x139f7, .int .u64 x139f8, .int .u64 x139f9, .slice x139A10 x139b10.length x139c10] 37)]) (L' := C156 :: [(b152, rowO [.int .u64 x139f0, .int .u64 x139f1, .int .u32 x139f2, .int .u16 x139f3, .int .u16 x139f4, .int .u64 x139f5, .int .u32 x139f6, .int .u8 x139f7, .int .u64 x139f8, .int .u64 x139f9, .slice x139A10 x139b10.length x139c10] 37)] :: L129 :: D :: C128 :: E0 :: E1 :: [(b6, rowO [.slice (some ⟨b137, o138, none⟩) l0.length d0, .slice B1 l1.length d1] 44)] :: [(b14, rowO [.int .u8 x12f0, .int .u64 x12f1, .int .u64 x12f2, .int .u32 x12f3, .int .u16 x12f4, .int .u16 x12f5, .int .u64 x12f6, .int .u32 x12f7, .int .u8 x12f8, .int .u64 x12f9, .int .u64 x12f10, .slice x12A11 x12b11.length x12c11] 52)] :: F) rfl rfl
                                 replace hS := hS.drop1
                                 replace hS := hS.front 1 (C := [(b152, rowO [.int .u64 x139f0, .int .u64 x139f1, .int .u32 x139f2, .int .u16 x139f3, .int .u16 x139f4, .int .u64 x139f5, .int .u32 x139f6, .int .u8 x139f7, .int .u64 x139f8, .int .u64 x139f9, .slice x139A10 x139b10.length x139c10] 37)]) (L' := C156 :: L129 :: D :: C128 :: E0 :: E1 :: [(b6, rowO [.slice (some ⟨b137, o138, none⟩) l0.length d0, .slice B1 l1.length d1] 44)] :: [(b14, rowO [.int .u8 x12f0, .int .u64 x12f1, .int .u64 x12f2, .int .u32 x12f3, .int .u16 x12f4, .int .u16 x12f5, .int .u64 x12f6, .int .u32 x12f7, .int .u8 x12f8, .int .u64 x12f9, .int .u64 x12f10, .slice x12A11 x12b11.length x12c11] 52)] :: F) rfl rfl
                                 replace hS := hS.drop1
                                 replace hS := hS.front 7 (C := [(b14, rowO [.int .u8 x12f0, .int .u64 x12f1, .int .u64 x12f2, .int .u32 x12f3, .int .u16 x12f4, .int .u16 x12f5, .int .u64 x12f6, .int .u32 x12f7, .int .u8 x12f8, .int .u64 x12f9, .int .u64 x12f10, .slice x12A11 x12b11.length x12c11] 52)]) (L' := C156 :: L129 :: D :: C128 :: E0 :: E1 :: [(b6, rowO [.slice (some ⟨b137, o138, none⟩) l0.length d0, .slice B1 l1.length d1] 44)] :: F) rfl rfl
                                 replace hS := hS.front 7 (C := [(b6, rowO [.slice (some ⟨b137, o138, none⟩) l0.length d0, .slice B1 l1.length d1] 44)]) (L' := [(b14, rowO [.int .u8 x12f0, .int .u64 x12f1, .int .u64 x12f2, .int .u32 x12f3, .int .u16 x12f4, .int .u16 x12f5, .int .u64 x12f6, .int .u32 x12f7, .int .u8 x12f8, .int .u64 x12f9, .int .u64 x12f10, .slice x12A11 x12b11.length x12c11] 52)] :: C156 :: L129 :: D :: C128 :: E0 :: E1 :: F) rfl rfl
                                 replace hS := hS.front 7 (C := E1) (L' := [(b6, rowO [.slice (some ⟨b137, o138, none⟩) l0.length d0, .slice B1 l1.length d1] 44)] :: [(b14, rowO [.int .u8 x12f0, .int .u64 x12f1, .int .u64 x12f2, .int .u32 x12f3, .int .u16 x12f4, .int .u16 x12f5, .int .u64 x12f6, .int .u32 x12f7, .int .u8 x12f8, .int .u64 x12f9, .int .u64 x12f10, .slice x12A11 x12b11.length x12c11] 52)] :: C156 :: L129 :: D :: C128 :: E0 :: F) rfl rfl
                                 replace hS := hS.front 7 (C := E0) (L' := E1 :: [(b6, rowO [.slice (some ⟨b137, o138, none⟩) l0.length d0, .slice B1 l1.length d1] 44)] :: [(b14, rowO [.int .u8 x12f0, .int .u64 x12f1, .int .u64 x12f2, .int .u32 x12f3, .int .u16 x12f4, .int .u16 x12f5, .int .u64 x12f6, .int .u32 x12f7, .int .u8 x12f8, .int .u64 x12f9, .int .u64 x12f10, .slice x12A11 x12b11.length x12c11] 52)] :: C156 :: L129 :: D :: C128 :: F) rfl rfl
                                 replace hS := hS.front 7 (C := C128) (L' := E0 :: E1 :: [(b6, rowO [.slice (some ⟨b137, o138, none⟩) l0.length d0, .slice B1 l1.length d1] 44)] :: [(b14, rowO [.int .u8 x12f0, .int .u64 x12f1, .int .u64 x12f2, .int .u32 x12f3, .int .u16 x12f4, .int .u16 x12f5, .int .u64 x12f6, .int .u32 x12f7, .int .u8 x12f8, .int .u64 x12f9, .int .u64 x12f10, .slice x12A11 x12b11.length x12c11] 52)] :: C156 :: L129 :: D :: F) rfl rfl
                                 replace hS := hS.front 7 (C := D) (L' := C128 :: E0 :: E1 :: [(b6, rowO [.slice (some ⟨b137, o138, none⟩) l0.length d0, .slice B1 l1.length d1] 44)] :: [(b14, rowO [.int .u8 x12f0, .int .u64 x12f1, .int .u64 x12f2, .int .u32 x12f3, .int .u16 x12f4, .int .u16 x12f5, .int .u64 x12f6, .int .u32 x12f7, .int .u8 x12f8, .int .u64 x12f9, .int .u64 x12f10, .slice x12A11 x12b11.length x12c11] 52)] :: C156 :: L129 :: F) rfl rfl
                                 replace hS := hS.front 7 (C := L129) (L' := D :: C128 :: E0 :: E1 :: [(b6, rowO [.slice (some ⟨b137, o138, none⟩) l0.length d0, .slice B1 l1.length d1] 44)] :: [(b14, rowO [.int .u8 x12f0, .int .u64 x12f1, .int .u64 x12f2, .int .u32 x12f3, .int .u16 x12f4, .int .u16 x12f5, .int .u64 x12f6, .int .u32 x12f7, .int .u8 x12f8, .int .u64 x12f9, .int .u64 x12f10, .slice x12A11 x12b11.length x12c11] 52)] :: C156 :: F) rfl rfl
                                 replace hS := hS.front 7 (C := C156) (L' := L129 :: D :: C128 :: E0 :: E1 :: [(b6, rowO [.slice (some ⟨b137, o138, none⟩) l0.length d0, .slice B1 l1.length d1] 44)] :: [(b14, rowO [.int .u8 x12f0, .int .u64 x12f1, .int .u64 x12f2, .int .u32 x12f3, .int .u16 x12f4, .int .u16 x12f5, .int .u64 x12f6, .int .u32 x12f7, .int .u8 x12f8, .int .u64 x12f9, .int .u64 x12f10, .slice x12A11 x12b11.length x12c11] 52)] :: F) rfl rfl
                                 exact lp_next _ (by omega) ⟨(i + 1), aq, A157, c158, C156, rfl, (hA.sel [5, 6, 7, 15, 16, 17, 18, 19, 34, 35, 36, 53, 54, 60, 61, 62] rfl), hS, by omega, (by rw [← ok_no (p := (isA x12f3)) hx139 hpn]; exact hat), (by rw [hxs]; exact hO156)⟩)
                          · first
                            | (exfalso; omega)
                            | (replace hA := hA.rw 63 (v' := .bool false) rfl (vb_false hc136)
                               refine cd_cond_f hA rfl ?_
                               refine wp_exit ?_
                               refine xt_exit ?_
                               refine xt_exit ?_
                               refine cd_exit_eq ?_
                               refine xt_norm ?_
                               refine wp_region_lit ?_
                               have hil : i = l0.length := by omega
                               have hxo : ok (fun x => !isA x12f3 x) l0 i = (l0.filter (fun x => !isA x12f3 x)) := by rw [hil, ok_all]
                               rw [hxo] at hX
                               replace hA := hA.rw 19 (v' := .slice Ax ((l0.filter (fun x => !isA x12f3 x)).length) cx) rfl (by rw [hxo])
                               have hat2 : aq = 0 + (l0.filter (isA x12f3)).length := by rw [hat, hil, ok_all]
                               refine st_run tbOk 3 hA (e' := (92, .slice Ax ((l0.filter (fun x => !isA x12f3 x)).length) cx) :: (91, .int .i64 ((0 : Nat) : Int)) :: (90, .slice (some ⟨b6, 0, none⟩) 2 2) :: _) rfl ?_; clear hA; intro a hA
                               refine st_val hA rfl rfl (by decide) (rn_indexAddr tbOk hA 0 0 rfl rfl rfl rfl rfl rfl (by rfl) (by omega) (by first | rfl | simp [Nat.mul_one, Nat.zero_add] | omega)) ?_; clear hA; intro a hA
                               replace hS := hS.front 6 (C := [(b6, rowO [.slice B0 l0.length d0, .slice B1 l1.length d1] 44)]) (L' := Cx :: L129 :: D :: C128 :: E0 :: E1 :: [(b14, rowO [.int .u8 x12f0, .int .u64 x12f1, .int .u64 x12f2, .int .u32 x12f3, .int .u16 x12f4, .int .u16 x12f5, .int .u64 x12f6, .int .u32 x12f7, .int .u8 x12f8, .int .u64 x12f9, .int .u64 x12f10, .slice x12A11 x12b11.length x12c11] 52)] :: F) rfl rfl
                               refine st_store tbOk hA hS [.slice Ax ((l0.filter (fun x => !isA x12f3 x)).length) cx] [.slice Ax ((l0.filter (fun x => !isA x12f3 x)).length) cx, .slice B1 l1.length d1] rfl rfl rfl rfl rfl rfl (by intro u hu; rw [List.mem_singleton.1 hu]; rfl) (Nat.le_of_ble_eq_true rfl) rfl rfl rfl ?_; clear hS; intro w159 hS
                               refine wpList_nil ?_
                               replace hA := hA.sel [5, 6, 7, 15, 16, 17, 34, 35, 36, 53, 54] (e' := [(5, .pointer (some ⟨bb3, 0, none⟩)), (6, .int .i64 ((n : Nat) : Int)), (7, .slice (some ⟨b6, 0, none⟩) 2 2), (15, .func (.func 15) #[] #[.pointer (some ⟨b14, 0, none⟩)]), (16, .slice A131 ((us.filter (isA x12f3) ++ ps.filter (isA x12f3)).length) c132), (17, .int .i64 ((aq : Nat) : Int)), (34, .slice (some ⟨b10, o11, none⟩) l.length c), (35, .int .i64 ((l.length : Nat) : Int)), (36, .int .i64 ((k : Nat) : Int)), (53, .int .i64 2), (54, .int .i64 ((0 : Nat) : Int))]) rfl
                               refine xb_norm ?_
                               refine xt_norm ?_
                               refine wp_region_lit ?_
                               refine st_run tbOk 1 hA (e' := (94, .int .i64 (IntKind.i64.wrap (((0 : Nat) : Int) + 1))) :: _) rfl ?_; clear hA; intro a hA
                               replace hA := hA.rw 94 (v' := .int .i64 1) rfl (wr64 (by omega) (by omega) (by omega))
                               refine st_run tbOk 1 hA (e' := (54, .int .i64 1) :: _) rfl ?_; clear hA; intro a hA
                               refine wpList_nil ?_
                               replace hA := hA.sel [5, 6, 7, 15, 16, 17, 34, 35, 36, 53, 54] (e' := [(5, .pointer (some ⟨bb3, 0, none⟩)), (6, .int .i64 ((n : Nat) : Int)), (7, .slice (some ⟨b6, 0, none⟩) 2 2), (15, .func (.func 15) #[] #[.pointer (some ⟨b14, 0, none⟩)]), (16, .slice A131 ((us.filter (isA x12f3) ++ ps.filter (isA x12f3)).length) c132), (17, .int .i64 ((aq : Nat) : Int)), (34, .slice (some ⟨b10, o11, none⟩) l.length c), (35, .int .i64 ((l.length : Nat) : Int)), (36, .int .i64 ((k : Nat) : Int)), (53, .int .i64 2), (54, .int .i64 1)]) rfl
                               replace hS := hS.front 5 (C := E0) (L' := [(b6, rowO [.slice Ax ((l0.filter (fun x => !isA x12f3 x)).length) cx, .slice B1 l1.length d1] 44)] :: Cx :: L129 :: D :: C128 :: E1 :: [(b14, rowO [.int .u8 x12f0, .int .u64 x12f1, .int .u64 x12f2, .int .u32 x12f3, .int .u16 x12f4, .int .u16 x12f5, .int .u64 x12f6, .int .u32 x12f7, .int .u8 x12f8, .int .u64 x12f9, .int .u64 x12f10, .slice x12A11 x12b11.length x12c11] 52)] :: F) rfl rfl
                               replace hS := hS.drop1
                               replace hS := hS.front 6 (C := [(b14, rowO [.int .u8 x12f0, .int .u64 x12f1, .int .u64 x12f2, .int .u32 x12f3, .int .u16 x12f4, .int .u16 x12f5, .int .u64 x12f6, .int .u32 x12f7, .int .u8 x12f8, .int .u64 x12f9, .int .u64 x12f10, .slice x12A11 x12b11.length x12c11] 52)]) (L' := [(b6, rowO [.slice Ax ((l0.filter (fun x => !isA x12f3 x)).length) cx, .slice B1 l1.length d1] 44)] :: Cx :: L129 :: D :: C128 :: E1 :: F) rfl rfl
                               replace hS := hS.front 1 (C := [(b6, rowO [.slice Ax ((l0.filter (fun x => !isA x12f3 x)).length) cx, .slice B1 l1.length d1] 44)]) (L' := [(b14, rowO [.int .u8 x12f0, .int .u64 x12f1, .int .u64 x12f2, .int .u32 x12f3, .int .u16 x12f4, .int .u16 x12f5, .int .u64 x12f6, .int .u32 x12f7, .int .u8 x12f8, .int .u64 x12f9, .int .u64 x12f10, .slice x12A11 x12b11.length x12c11] 52)] :: Cx :: L129 :: D :: C128 :: E1 :: F) rfl rfl
                               replace hS := hS.front 6 (C := E1) (L' := [(b6, rowO [.slice Ax ((l0.filter (fun x => !isA x12f3 x)).length) cx, .slice B1 l1.length d1] 44)] :: [(b14, rowO [.int .u8 x12f0, .int .u64 x12f1, .int .u64 x12f2, .int .u32 x12f3, .int .u16 x12f4, .int .u16 x12f5, .int .u64 x12f6, .int .u32 x12f7, .int .u8 x12f8, .int .u64 x12f9, .int .u64 x12f10, .slice x12A11 x12b11.length x12c11] 52)] :: Cx :: L129 :: D :: C128 :: F) rfl rfl
                               replace hS := hS.front 3 (C := Cx) (L' := E1 :: [(b6, rowO [.slice Ax ((l0.filter (fun x => !isA x12f3 x)).length) cx, .slice B1 l1.length d1] 44)] :: [(b14, rowO [.int .u8 x12f0, .int .u64 x12f1, .int .u64 x12f2, .int .u32 x12f3, .int .u16 x12f4, .int .u16 x12f5, .int .u64 x12f6, .int .u32 x12f7, .int .u8 x12f8, .int .u64 x12f9, .int .u64 x12f10, .slice x12A11 x12b11.length x12c11] 52)] :: L129 :: D :: C128 :: F) rfl rfl
                               replace hS := hS.front 6 (C := C128) (L' := Cx :: E1 :: [(b6, rowO [.slice Ax ((l0.filter (fun x => !isA x12f3 x)).length) cx, .slice B1 l1.length d1] 44)] :: [(b14, rowO [.int .u8 x12f0, .int .u64 x12f1, .int .u64 x12f2, .int .u32 x12f3, .int .u16 x12f4, .int .u16 x12f5, .int .u64 x12f6, .int .u32 x12f7, .int .u8 x12f8, .int .u64 x12f9, .int .u64 x12f10, .slice x12A11 x12b11.length x12c11] 52)] :: L129 :: D :: F) rfl rfl
                               replace hS := hS.front 6 (C := D) (L' := C128 :: Cx :: E1 :: [(b6, rowO [.slice Ax ((l0.filter (fun x => !isA x12f3 x)).length) cx, .slice B1 l1.length d1] 44)] :: [(b14, rowO [.int .u8 x12f0, .int .u64 x12f1, .int .u64 x12f2, .int .u32 x12f3, .int .u16 x12f4, .int .u16 x12f5, .int .u64 x12f6, .int .u32 x12f7, .int .u8 x12f8, .int .u64 x12f9, .int .u64 x12f10, .slice x12A11 x12b11.length x12c11] 52)] :: L129 :: F) rfl rfl
                               replace hS := hS.front 6 (C := L129) (L' := D :: C128 :: Cx :: E1 :: [(b6, rowO [.slice Ax ((l0.filter (fun x => !isA x12f3 x)).length) cx, .slice B1 l1.length d1] 44)] :: [(b14, rowO [.int .u8 x12f0, .int .u64 x12f1, .int .u64 x12f2, .int .u32 x12f3, .int .u16 x12f4, .int .u16 x12f5, .int .u64 x12f6, .int .u32 x12f7, .int .u8 x12f8, .int .u64 x12f9, .int .u64 x12f10, .slice x12A11 x12b11.length x12c11] 52)] :: F) rfl rfl
                               exact lp_next _ (by decide) ⟨1, ((l0.filter (fun x => !isA x12f3 x))), (l1), aq, Ax, cx, Cx, B1, d1, E1, rfl, (hA.sel [5, 6, 7, 15, 16, 17, 34, 35, 36, 53, 54] rfl), hS, (by decide), .inr (.inl ⟨rfl, rfl, rfl, hat2⟩), hX, hT1, (gd_flt hl0), hm1⟩)
                        · refine st_run tbOk 2 hA (e' := (18, .int .i64 ((1 : Nat) : Int)) :: (56, .int .i64 ((1 : Nat) : Int)) :: _) rfl ?_; clear hA; intro a hA
                          refine wpList_nil ?_
                          replace hA := hA.sel [5, 6, 7, 15, 16, 17, 18, 34, 35, 36, 53, 54] (e' := [(5, .pointer (some ⟨bb3, 0, none⟩)), (6, .int .i64 ((n : Nat) : Int)), (7, .slice (some ⟨b6, 0, none⟩) 2 2), (15, .func (.func 15) #[] #[.pointer (some ⟨b14, 0, none⟩)]), (16, .slice A131 ((us.filter (isA x12f3) ++ ps.filter (isA x12f3)).length) c132), (17, .int .i64 ((aq : Nat) : Int)), (18, .int .i64 ((1 : Nat) : Int)), (34, .slice (some ⟨b10, o11, none⟩) l.length c), (35, .int .i64 ((l.length : Nat) : Int)), (36, .int .i64 ((k : Nat) : Int)), (53, .int .i64 2), (54, .int .i64 ((1 : Nat) : Int))]) rfl
                          refine xt_norm ?_
                          refine wp_seq ?_
                          refine wp_region_lit ?_
                          refine st_run tbOk 1 hA (e' := (19, .slice none 0 0) :: _) rfl ?_; clear hA; intro a hA
                          refine wpList_nil ?_
                          refine xt_norm ?_
                          refine wp_seq ?_
                          refine wp_seq ?_
                          refine wp_region_lit ?_
                          refine st_run tbOk 2 hA (e' := (58, .int .i64 ((1 : Nat) : Int)) :: (57, .slice (some ⟨b6, 0, none⟩) 2 2) :: _) rfl ?_; clear hA; intro a hA
                          refine st_val hA rfl rfl (by decide) (rn_indexAddr tbOk hA 1 1 rfl rfl rfl rfl rfl rfl (by rfl) (by omega) (by first | rfl | simp [Nat.mul_one, Nat.zero_add] | omega)) ?_; clear hA; intro a hA
                          refine st_val hA rfl rfl (by decide) (rn_load tbOk hA rfl rfl rfl rfl (cell_row (hS.heapAt 5 rfl) rfl)) ?_; clear hA; intro a hA
                          refine st_run tbOk 2 hA (e' := (62, .int .i64 0) :: (61, .int .i64 ((l1.length : Nat) : Int)) :: _) rfl ?_; clear hA; intro a hA
                          refine wpList_nil ?_
                          replace hA := hA.sel [5, 6, 7, 15, 16, 17, 18, 19, 34, 35, 36, 53, 54, 60, 61, 62] (e' := [(5, .pointer (some ⟨bb3, 0, none⟩)), (6, .int .i64 ((n : Nat) : Int)), (7, .slice (some ⟨b6, 0, none⟩) 2 2), (15, .func (.func 15) #[] #[.pointer (some ⟨b14, 0, none⟩)]), (16, .slice A131 ((us.filter (isA x12f3) ++ ps.filter (isA x12f3)).length) c132), (17, .int .i64 ((aq : Nat) : Int)), (18, .int .i64 ((1 : Nat) : Int)), (19, .slice none 0 0), (34, .slice (some ⟨b10, o11, none⟩) l.length c), (35, .int .i64 ((l.length : Nat) : Int)), (36, .int .i64 ((k : Nat) : Int)), (53, .int .i64 2), (54, .int .i64 ((1 : Nat) : Int)), (60, .slice B1 l1.length d1), (61, .int .i64 ((l1.length : Nat) : Int)), (62, .int .i64 0)]) rfl
                          refine xt_norm ?_
                          refine wp_block ?_
                          replace hS := hS.nil
                          replace hS := hS.front 7 (C := [(b14, rowO [.int .u8 x12f0, .int .u64 x12f1, .int .u64 x12f2, .int .u32 x12f3, .int .u16 x12f4, .int .u16 x12f5, .int .u64 x12f6, .int .u32 x12f7, .int .u8 x12f8, .int .u64 x12f9, .int .u64 x12f10, .slice x12A11 x12b11.length x12c11] 52)]) (L' := [] :: L129 :: D :: C128 :: E0 :: E1 :: [(b6, rowO [.slice B0 ((l0.filter (fun x => !isA x12f3 x)).length) d0, .slice B1 l1.length d1] 44)] :: F) rfl rfl
                          replace hS := hS.front 7 (C := [(b6, rowO [.slice B0 ((l0.filter (fun x => !isA x12f3 x)).length) d0, .slice B1 l1.length d1] 44)]) (L' := [(b14, rowO [.int .u8 x12f0, .int .u64 x12f1, .int .u64 x12f2, .int .u32 x12f3, .int .u16 x12f4, .int .u16 x12f5, .int .u64 x12f6, .int .u32 x12f7, .int .u8 x12f8, .int .u64 x12f9, .int .u64 x12f10, .slice x12A11 x12b11.length x12c11] 52)] :: [] :: L129 :: D :: C128 :: E0 :: E1 :: F) rfl rfl
                          replace hS := hS.front 7 (C := E1) (L' := [(b6, rowO [.slice B0 ((l0.filter (fun x => !isA x12f3 x)).length) d0, .slice B1 l1.length d1] 44)] :: [(b14, rowO [.int .u8 x12f0, .int .u64 x12f1, .int .u64 x12f2, .int .u32 x12f3, .int .u16 x12f4, .int .u16 x12f5, .int .u64 x12f6, .int .u32 x12f7, .int .u8 x12f8, .int .u64 x12f9, .int .u64 x12f10, .slice x12A11 x12b11.length x12c11] 52)] :: [] :: L129 :: D :: C128 :: E0 :: F) rfl rfl
                          replace hS := hS.front 7 (C := E0) (L' := E1 :: [(b6, rowO [.slice B0 ((l0.filter (fun x => !isA x12f3 x)).length) d0, .slice B1 l1.length d1] 44)] :: [(b14, rowO [.int .u8 x12f0, .int .u64 x12f1, .int .u64 x12f2, .int .u32 x12f3, .int .u16 x12f4, .int .u16 x12f5, .int .u64 x12f6, .int .u32 x12f7, .int .u8 x12f8, .int .u64 x12f9, .int .u64 x12f10, .slice x12A11 x12b11.length x12c11] 52)] :: [] :: L129 :: D :: C128 :: F) rfl rfl
                          replace hS := hS.front 7 (C := C128) (L' := E0 :: E1 :: [(b6, rowO [.slice B0 ((l0.filter (fun x => !isA x12f3 x)).length) d0, .slice B1 l1.length d1] 44)] :: [(b14, rowO [.int .u8 x12f0, .int .u64 x12f1, .int .u64 x12f2, .int .u32 x12f3, .int .u16 x12f4, .int .u16 x12f5, .int .u64 x12f6, .int .u32 x12f7, .int .u8 x12f8, .int .u64 x12f9, .int .u64 x12f10, .slice x12A11 x12b11.length x12c11] 52)] :: [] :: L129 :: D :: F) rfl rfl
                          replace hS := hS.front 7 (C := D) (L' := C128 :: E0 :: E1 :: [(b6, rowO [.slice B0 ((l0.filter (fun x => !isA x12f3 x)).length) d0, .slice B1 l1.length d1] 44)] :: [(b14, rowO [.int .u8 x12f0, .int .u64 x12f1, .int .u64 x12f2, .int .u32 x12f3, .int .u16 x12f4, .int .u16 x12f5, .int .u64 x12f6, .int .u32 x12f7, .int .u8 x12f8, .int .u64 x12f9, .int .u64 x12f10, .slice x12A11 x12b11.length x12c11] 52)] :: [] :: L129 :: F) rfl rfl
                          replace hS := hS.front 7 (C := L129) (L' := D :: C128 :: E0 :: E1 :: [(b6, rowO [.slice B0 ((l0.filter (fun x => !isA x12f3 x)).length) d0, .slice B1 l1.length d1] 44)] :: [(b14, rowO [.int .u8 x12f0, .int .u64 x12f1, .int .u64 x12f2, .int .u32 x12f3, .int .u16 x12f4, .int .u16 x12f5, .int .u64 x12f6, .int .u32 x12f7, .int .u8 x12f8, .int .u64 x12f9, .int .u64 x12f10, .slice x12A11 x12b11.length x12c11] 52)] :: [] :: F) rfl rfl
                          replace hS := hS.front 7 (C := []) (L' := L129 :: D :: C128 :: E0 :: E1 :: [(b6, rowO [.slice B0 ((l0.filter (fun x => !isA x12f3 x)).length) d0, .slice B1 l1.length d1] 44)] :: [(b14, rowO [.int .u8 x12f0, .int .u64 x12f1, .int .u64 x12f2, .int .u32 x12f3, .int .u16 x12f4, .int .u16 x12f5, .int .u64 x12f6, .int .u32 x12f7, .int .u8 x12f8, .int .u64 x12f9, .int .u64 x12f10, .slice x12A11 x12b11.length x12c11] 52)] :: F) rfl rfl
                          refine wp_loop_ghost (fun m a w => ∃ (i : Nat) (aq : Nat) (Ax : Option Addr) (cx : Nat) (Cx : Chunk), m = l1.length - i ∧ Has a 199 [(5, .pointer (some ⟨bb3, 0, none⟩)), (6, .int .i64 ((n : Nat) : Int)), (7, .slice (some ⟨b6, 0, none⟩) 2 2), (15, .func (.func 15) #[] #[.pointer (some ⟨b14, 0, none⟩)]), (16, .slice A131 ((us.filter (isA x12f3) ++ ps.filter (isA x12f3)).length) c132), (17, .int .i64 ((aq : Nat) : Int)), (18, .int .i64 ((1 : Nat) : Int)), (19, .slice Ax ((ok (fun x => !isA x12f3 x) l1 i).length) cx), (34, .slice (some ⟨b10, o11, none⟩) l.length c), (35, .int .i64 ((l.length : Nat) : Int)), (36, .int .i64 ((k : Nat) : Int)), (53, .int .i64 2), (54, .int .i64 ((1 : Nat) : Int)), (60, .slice B1 l1.length d1), (61, .int .i64 ((l1.length : Nat) : Int)), (62, .int .i64 ((i : Nat) : Int))] ∧ St w0 w (Cx :: L129 :: D :: C128 :: E0 :: E1 :: [(b6, rowO [.slice B0 ((l0.filter (fun x => !isA x12f3 x)).length) d0, .slice B1 l1.length d1] 44)] :: [(b14, rowO [.int .u8 x12f0, .int .u64 x12f1, .int .u64 x12f2, .int .u32 x12f3, .int .u16 x12f4, .int .u16 x12f5, .int .u64 x12f6, .int .u32 x12f7, .int .u8 x12f8, .int .u64 x12f9, .int .u64 x12f10, .slice x12A11 x12b11.length x12c11] 52)] :: F) ∧ (i ≤ l1.length) ∧ (aq = 0 + (l0.filter (isA x12f3)).length + (ok (isA x12f3) l1 i).length) ∧ (Own 37 11 (.slice Ax (ok (fun x => !isA x12f3 x) l1 i).length cx) (ok (fun x => !isA x12f3 x) l1 i).length (rows encMessage (ok (fun x => !isA x12f3 x) l1 i)) Cx)) (l1.length - 0)
                            ⟨0, aq, none, 0, ([]), rfl, (hA.sel [5, 6, 7, 15, 16, 17, 18, 19, 34, 35, 36, 53, 54, 60, 61, 62] rfl), hS, Nat.zero_le _, haq, (Own.nil 37 11)⟩ ?_
                          clear hA hS; rintro m0 a w160 ⟨i, aq, Ax, cx, Cx, rfl, hA, hS, hi, hat, hX⟩
                          refine wp_seq ?_
                          refine wp_region_lit ?_
                          refine st_run tbOk 1 hA (e' := (63, .bool (decide (((i : Nat) : Int) < ((l1.length : Nat) : Int)))) :: _) rfl ?_; clear hA; intro a hA
                          refine wpList_nil ?_
                          refine xt_norm ?_
                          refine wp_seq ?_
                          by_cases hc161 : ((i : Nat) : Int) < ((l1.length : Nat) : Int)
                          · first
                            | (exfalso; omega)
                            | (replace hA := hA.rw 63 (v' := .bool true) rfl (vb_true hc161)
                               refine cd_cond_t hA rfl ?_
                               refine wp_skip ?_
                               refine xt_norm ?_
                               refine wp_seq ?_
                               refine wp_block ?_
                               refine wp_seq ?_
                               refine wp_region_lit ?_
                               obtain ⟨b162, o163, rfl⟩ := hT1.isSome (k := i) (by omega)
                               refine st_val hA rfl rfl (by decide) (rn_indexAddr tbOk hA i (o163 + (i * 11)) rfl rfl rfl rfl rfl rfl (by rfl) (by omega) (by first | rfl | simp [Nat.mul_one, Nat.zero_add] | omega)) ?_; clear hA; intro a hA
                               obtain ⟨x164, hx164⟩ := get_ex (l := l1) (k := i) (by omega)
                               obtain ⟨x164f0, x164f1, x164f2, x164f3, x164f4, x164f5, x164f6, x164f7, x164f8, x164f9, x164A10, x164c10, x164b10⟩ := x164
                               have hd165 := (fun x hx => hm1 x hx D) _ (List.mem_of_getElem? hx164)
                               refine st_val hA rfl rfl (by decide) (rn_loadA tbOk hA ([.int .u64 x164f0, .int .u64 x164f1, .int .u32 x164f2, .int .u16 x164f3, .int .u16 x164f4, .int .u64 x164f5, .int .u32 x164f6, .int .u8 x164f7, .int .u64 x164f8, .int .u64 x164f9, .slice x164A10 x164b10.length x164c10]) rfl rfl rfl rfl (by rfl) ((hT1.rd (hS.own_ 5 rfl)).elem (k := i) encMessage_ok hx164)) ?_; clear hA; intro a hA
                               refine st_alloc tbOk hA hS [.int .u64 0, .int .u64 0, .int .u32 0, .int .u16 0, .int .u16 0, .int .u64 0, .int .u32 0, .int .u8 0, .int .u64 0, .int .u64 0, .slice none 0 0] rfl rfl rfl rfl rfl (by decide) ?_; clear hA hS; intro b166 w167 a hS hA
                               refine st_store tbOk hA hS [.int .u64 x164f0, .int .u64 x164f1, .int .u32 x164f2, .int .u16 x164f3, .int .u16 x164f4, .int .u64 x164f5, .int .u32 x164f6, .int .u8 x164f7, .int .u64 x164f8, .int .u64 x164f9, .slice x164A10 x164b10.length x164c10] [.int .u64 x164f0, .int .u64 x164f1, .int .u32 x164f2, .int .u16 x164f3, .int .u16 x164f4, .int .u64 x164f5, .int .u32 x164f6, .int .u8 x164f7, .int .u64 x164f8, .int .u64 x164f9, .slice x164A10 x164b10.length x164c10] rfl rfl rfl rfl rfl rfl (by simp [Value.oneCell']) (Nat.le_of_ble_eq_true rfl) rfl rfl rfl ?_; clear hS; intro w168 hS
                               refine wpList_nil ?_
                               replace hA := hA.sel [5, 6, 7, 15, 16, 17, 18, 19, 21, 34, 35, 36, 53, 54, 60, 61, 62] (e' := [(5, .pointer (some ⟨bb3, 0, none⟩)), (6, .int .i64 ((n : Nat) : Int)), (7, .slice (some ⟨b6, 0, none⟩) 2 2), (15, .func (.func 15) #[] #[.pointer (some ⟨b14, 0, none⟩)]), (16, .slice A131 ((us.filter (isA x12f3) ++ ps.filter (isA x12f3)).length) c132), (17, .int .i64 ((aq : Nat) : Int)), (18, .int .i64 ((1 : Nat) : Int)), (19, .slice Ax ((ok (fun x => !isA x12f3 x) l1 i).length) cx), (21, .pointer (some ⟨b166, 0, none⟩)), (34, .slice (some ⟨b10, o11, none⟩) l.length c), (35, .int .i64 ((l.length : Nat) : Int)), (36, .int .i64 ((k : Nat) : Int)), (53, .int .i64 2), (54, .int .i64 ((1 : Nat) : Int)), (60, .slice (some ⟨b162, o163, none⟩) l1.length d1), (61, .int .i64 ((l1.length : Nat) : Int)), (62, .int .i64 ((i : Nat) : Int))]) rfl
                               refine xt_norm ?_
                               refine wp_seq ?_
                               refine wp_seq ?_
                               refine wp_region_lit ?_
                               have hol9 := ok_le (isA x12f3) l1 i; have hol8 := ok_le (fun x => !isA x12f3 x) l1 i
                               have hil9 := (List.getElem?_eq_some_iff.1 hx164).1
                               rcases Bool.eq_false_or_eq_true (isA x12f3 (x164f0, x164f1, x164f2, x164f3, x164f4, x164f5, x164f6, x164f7, x164f8, x164f9, x164A10, x164c10, x164b10)) with hpy | hpn
                               · refine st_run tbOk 1 hA (e' := (66, .func (.func 15) #[] #[.pointer (some ⟨b14, 0, none⟩)]) :: _) rfl ?_; clear hA; intro a hA
                                 refine st_val hA rfl rfl (by decide) (rn_loadA tbOk hA [.int .u64 x164f0, .int .u64 x164f1, .int .u32 x164f2, .int .u16 x164f3, .int .u16 x164f4, .int .u64 x164f5, .int .u32 x164f6, .int .u8 x164f7, .int .u64 x164f8, .int .u64 x164f9, .slice x164A10 x164b10.length x164c10] rfl rfl rfl rfl rfl (cells_row (hS.heapAt 0 rfl) rfl)) ?_; clear hA; intro a hA
                                 refine st_call hA rfl rfl rfl rfl isfn15 rfl rfl (by decide) (isc15 (fun w8 h8 => Rd.old h8 ((Own.full (T := 52) (size := 12) (g := b14) (m := 1) (xs := rows encAct [(x12f0, x12f1, x12f2, x12f3, x12f4, x12f5, x12f6, x12f7, x12f8, x12f9, x12f10, x12A11, x12c11, x12b11)]) rfl (by decide)).rd (hS.own_ 8 rfl))) (x164f0, x164f1, x164f2, x164f3, x164f4, x164f5, x164f6, x164f7, x164f8, x164f9, x164A10, x164c10, x164b10)) ?_
                                 clear hA; rintro v w169 a ⟨rfl, hS'⟩ hA; replace hS : St w0 w169 ([(b166, rowO [.int .u64 x164f0, .int .u64 x164f1, .int .u32 x164f2, .int .u16 x164f3, .int .u16 x164f4, .int .u64 x164f5, .int .u32 x164f6, .int .u8 x164f7, .int .u64 x164f8, .int .u64 x164f9, .slice x164A10 x164b10.length x164c10] 37)] :: Cx :: L129 :: D :: C128 :: E0 :: E1 :: [(b6, rowO [.slice B0 ((l0.filter (fun x => !isA x12f3 x)).length) d0, .slice (some ⟨b162, o163, none⟩) l1.length d1] 44)] :: [(b14, rowO [.int .u8 x12f0, .int .u64 x12f1, .int .u64 x12f2, .int .u32 x12f3, .int .u16 x12f4, .int .u16 x12f5, .int .u64 x12f6, .int .u32 x12f7, .int .u8 x12f8, .int .u64 x12f9, .int .u64 x12f10, .slice x12A11 x12b11.length x12c11] 52)] :: F) := hS.trans hS'
                                 replace hA := hA.rw 68 (v' := .bool true) rfl (congrArg Value.bool hpy)
                                 refine st_run tbOk 1 hA (e' := (69, .bool false) :: _) rfl ?_; clear hA; intro a hA
                                 refine wpList_nil ?_
                                 replace hA := hA.sel [5, 6, 7, 15, 16, 17, 18, 19, 21, 34, 35, 36, 53, 54, 60, 61, 62, 69] (e' := [(5, .pointer (some ⟨bb3, 0, none⟩)), (6, .int .i64 ((n : Nat) : Int)), (7, .slice (some ⟨b6, 0, none⟩) 2 2), (15, .func (.func 15) #[] #[.pointer (some ⟨b14, 0, none⟩)]), (16, .slice A131 ((us.filter (isA x12f3) ++ ps.filter (isA x12f3)).length) c132), (17, .int .i64 ((aq : Nat) : Int)), (18, .int .i64 ((1 : Nat) : Int)), (19, .slice Ax ((ok (fun x => !isA x12f3 x) l1 i).length) cx), (21, .pointer (some ⟨b166, 0, none⟩)), (34, .slice (some ⟨b10, o11, none⟩) l.length c), (35, .int .i64 ((l.length : Nat) : Int)), (36, .int .i64 ((k : Nat) : Int)), (53, .int .i64 2), (54, .int .i64 ((1 : Nat) : Int)), (60, .slice (some ⟨b162, o163, none⟩) l1.length d1), (61, .int .i64 ((l1.length : Nat) : Int)), (62, .int .i64 ((i : Nat) : Int)), (69, .bool false)]) rfl
                                 refine xt_norm ?_
                                 refine cd_cond_f hA rfl ?_
                                 refine wp_skip ?_
                                 refine xt_norm ?_
                                 refine wp_seq ?_
                                 refine wp_seq ?_
                                 have hfa := flt_at (p := (isA x12f3)) hx164 hpy; have hfl := flt_lt (p := (isA x12f3)) hx164 hpy
                                 have hoy : (l0.filter (isA x12f3) ++ l1.filter (isA x12f3))[aq]? = some (x164f0, x164f1, x164f2, x164f3, x164f4, x164f5, x164f6, x164f7, x164f8, x164f9, x164A10, x164c10, x164b10) := by rw [hat, Nat.zero_add, List.getElem?_append_right (Nat.le_add_right _ _), Nat.add_sub_cancel_left]; exact hfa
                                 obtain ⟨b170, o171, rfl⟩ := hO128.isSome (k := aq) (by omega)
                                 obtain ⟨x172, hx172⟩ := get_ex (l := (us.filter (isA x12f3) ++ ps.filter (isA x12f3))) (k := aq) (by omega)
                                 obtain ⟨x172f0, x172f1, x172f2, x172f3, x172f4, x172f5, x172f6, x172f7, x172f8, x172f9, x172A10, x172c10, x172b10⟩ := x172
                                 have hd173 := (dd_app (dd_flt hdu) (dd_flt hdp)) _ (List.mem_of_getElem? hx172)
                                 have hsm := map_at hout hx172 hoy; simp only [mst, mdat, Prod.mk.injEq] at hsm
                                 refine wp_draw (fun w' => St w0 w' ([(b166, rowO [.int .u64 x164f0, .int .u64 x164f1, .int .u32 x164f2, .int .u16 x164f3, .int .u16 x164f4, .int .u64 x164f5, .int .u32 x164f6, .int .u8 x164f7, .int .u64 x164f8, .int .u64 x164f9, .slice x164A10 x164b10.length x164c10] 37)] :: Cx :: L129 :: D :: C128 :: E0 :: E1 :: [(b6, rowO [.slice B0 ((l0.filter (fun x => !isA x12f3 x)).length) d0, .slice (some ⟨b162, o163, none⟩) l1.length d1] 44)] :: [(b14, rowO [.int .u8 x12f0, .int .u64 x12f1, .int .u64 x12f2, .int .u32 x12f3, .int .u16 x12f4, .int .u16 x12f5, .int .u64 x12f6, .int .u32 x12f7, .int .u8 x12f8, .int .u64 x12f9, .int .u64 x12f10, .slice x12A11 x12b11.length x12c11] 52)] :: F)) [] [(0, true), (1, true), (2, true), (3, true), (4, true), (5, true), (6, true), (7, true), (8, true), (9, true), (10, false), (11, true), (12, true)] mixed (by kernel_rfl) (by rintro c a w ⟨_, _, h, _⟩; cases h) (by rfl) (by kernel_rfl) ?_
                                 replace hS := hS.drew
                                 refine dr_run tbOk 5 hA hS (e' := (78, .bool (decide (((aq : Nat) : Int) ≥ (((us.filter (isA x12f3) ++ ps.filter (isA x12f3)).length : Nat) : Int)))) :: (77, .bool (decide (((aq : Nat) : Int) ≥ (((us.filter (isA x12f3) ++ ps.filter (isA x12f3)).length : Nat) : Int)))) :: (76, .int .i64 (((us.filter (isA x12f3) ++ ps.filter (isA x12f3)).length : Nat) : Int)) :: (75, .slice (some ⟨b170, o171, none⟩) ((us.filter (isA x12f3) ++ ps.filter (isA x12f3)).length) c132) :: (74, .int .i64 ((aq : Nat) : Int)) :: _) rfl ?_; clear hA; intro a hA
                                 by_cases hc174 : ((aq : Nat) : Int) ≥ (((us.filter (isA x12f3) ++ ps.filter (isA x12f3)).length : Nat) : Int)
                                 · first
                                   | (exfalso; omega)
                                   | (replace hA := hA.rw 77 (v' := .bool true) rfl (vb_true hc174)
                                      replace hA := hA.rw 78 (v' := .bool true) rfl (vb_true hc174)
                                      refine dr_run tbOk 5 hA hS (e' := (83, undef) :: (82, undef) :: (81, undef) :: (80, undef) :: (79, undef) :: _) rfl ?_; clear hA; intro a hA
                                      refine dr_b (o := _) rfl ?_
                                      refine st_no hA rfl rfl (by decide) ?_; clear hA; intro a hA
                                      refine dr_nil (.inr hS) ?_
                                      refine dr_run tbOk 2 hA hS (e' := (86, .bool true) :: (85, undef) :: _) rfl ?_; clear hA; intro a hA
                                      refine dr_end ?_
                                      replace hA := hA.sel [5, 6, 7, 15, 16, 17, 18, 19, 34, 35, 36, 53, 54, 60, 61, 62, 86] (e' := [(5, .pointer (some ⟨bb3, 0, none⟩)), (6, .int .i64 ((n : Nat) : Int)), (7, .slice (some ⟨b6, 0, none⟩) 2 2), (15, .func (.func 15) #[] #[.pointer (some ⟨b14, 0, none⟩)]), (16, .slice (some ⟨b170, o171, none⟩) ((us.filter (isA x12f3) ++ ps.filter (isA x12f3)).length) c132), (17, .int .i64 ((aq : Nat) : Int)), (18, .int .i64 ((1 : Nat) : Int)), (19, .slice Ax ((ok (fun x => !isA x12f3 x) l1 i).length) cx), (34, .slice (some ⟨b10, o11, none⟩) l.length c), (35, .int .i64 ((l.length : Nat) : Int)), (36, .int .i64 ((k : Nat) : Int)), (53, .int .i64 2), (54, .int .i64 ((1 : Nat) : Int)), (60, .slice (some ⟨b162, o163, none⟩) l1.length d1), (61, .int .i64 ((l1.length : Nat) : Int)), (62, .int .i64 ((i : Nat) : Int)), (86, .bool true)]) rfl
                                      refine xt_norm ?_
                                      refine cd_cond_t hA rfl ?_
                                      refine wp_seq ?_
                                      refine wp_region_lit ?_
                                      refine st_run tbOk 1 hA (e' := (4, .bool false) :: _) rfl ?_; clear hA; intro a hA
                                      refine wpList_nil ?_
                                      replace hA := hA.sel [4] (e' := [(4, .bool false)]) rfl
                                      refine xt_norm ?_
                                      refine wp_ret (xt_ret (xb_ret (xt_ret (xt_ret (xb_ret (xt_ret (xb_ret (xt_ret (xt_ret (xb_ret (xt_ret (xb_ret (xt_ret (xb_ret (xt_ret (xt_ret (xb_ret (xt_ret ?_))))))))))))))))))
                                      refine ret1 (fn := Tryd.f6) hA rfl rfl ?_
                                      exfalso; omega)
                                 · first
                                   | (exfalso; omega)
                                   | (replace hA := hA.rw 77 (v' := .bool false) rfl (vb_false hc174)
                                      replace hA := hA.rw 78 (v' := .bool false) rfl (vb_false hc174)
                                      refine dr_run tbOk 2 hA hS (e' := (80, .int .i64 ((aq : Nat) : Int)) :: (79, .slice (some ⟨b170, o171, none⟩) ((us.filter (isA x12f3) ++ ps.filter (isA x12f3)).length) c132) :: _) rfl ?_; clear hA; intro a hA
                                      refine dr_y hA rfl rfl rfl (by decide) hS (fun w' hS' => rn_indexAddr tbOk hA aq (o171 + (aq * 11)) rfl rfl rfl rfl rfl rfl (by rfl) (by omega) (by first | rfl | simp [Nat.mul_one, Nat.zero_add] | omega)) ?_; clear hA; intro a hA
                                      refine dr_y hA rfl rfl rfl (by decide) hS (fun w' hS' => rn_loadA tbOk hA ([.int .u64 x172f0, .int .u64 x172f1, .int .u32 x172f2, .int .u16 x172f3, .int .u16 x172f4, .int .u64 x172f5, .int .u32 x172f6, .int .u8 x172f7, .int .u64 x172f8, .int .u64 x172f9, .slice x172A10 x172b10.length x172c10]) rfl rfl rfl rfl (by rfl) ((hO128.rd (hS'.own_ 4 rfl)).elem (k := aq) encMessage_ok hx172)) ?_; clear hA; intro a hA
                                      refine dr_y hA rfl rfl rfl (by decide) hS (fun w' hS' => rn_loadA tbOk hA [.int .u64 x164f0, .int .u64 x164f1, .int .u32 x164f2, .int .u16 x164f3, .int .u16 x164f4, .int .u64 x164f5, .int .u32 x164f6, .int .u8 x164f7, .int .u64 x164f8, .int .u64 x164f9, .slice x164A10 x164b10.length x164c10] rfl rfl rfl rfl rfl (cells_row (hS'.heapAt 0 rfl) rfl)) ?_; clear hA; intro a hA
                                      refine dr_b (o := _) rfl ?_
                                      refine st_call0 hA rfl rfl rfl isfn14 rfl rfl (by decide) (same04_14 hS x172f0 x172f1 x172f2 x172f3 x172f4 x172f5 x172f6 x172f7 x172f8 x172f9 x164f0 x164f1 x164f2 x164f3 x164f4 x164f5 x164f6 x164f7 x164f8 x164f9 (bs := x172b10) (cs := x164b10) (fun w' h => (hd173 _ (h.only 3 rfl))) (fun w' h => (hd165 _ (h.only 3 rfl)))) ?_
                                      clear hA hS; rintro v w175 a ⟨rfl, hS⟩ hA
                                      replace hA := hA.rw 84 (v' := .bool true) rfl (congrArg Value.bool (by rw [decide_eq_true_eq]; obtain ⟨q0, q1, q2, q3, q4, q5, q6, q7, q8, q9, qb⟩ := hsm; exact ⟨q0, q1, q2, q3, q4, ⟨q5, q6, q7, q8⟩, q9, qb⟩))
                                      refine dr_nil (.inr hS) ?_
                                      refine dr_run tbOk 2 hA hS (e' := (86, .bool false) :: (85, .bool false) :: _) rfl ?_; clear hA; intro a hA
                                      refine dr_end ?_
                                      replace hA := hA.sel [5, 6, 7, 15, 16, 17, 18, 19, 34, 35, 36, 53, 54, 60, 61, 62, 86] (e' := [(5, .pointer (some ⟨bb3, 0, none⟩)), (6, .int .i64 ((n : Nat) : Int)), (7, .slice (some ⟨b6, 0, none⟩) 2 2), (15, .func (.func 15) #[] #[.pointer (some ⟨b14, 0, none⟩)]), (16, .slice (some ⟨b170, o171, none⟩) ((us.filter (isA x12f3) ++ ps.filter (isA x12f3)).length) c132), (17, .int .i64 ((aq : Nat) : Int)), (18, .int .i64 ((1 : Nat) : Int)), (19, .slice Ax ((ok (fun x => !isA x12f3 x) l1 i).length) cx), (34, .slice (some ⟨b10, o11, none⟩) l.length c), (35, .int .i64 ((l.length : Nat) : Int)), (36, .int .i64 ((k : Nat) : Int)), (53, .int .i64 2), (54, .int .i64 ((1 : Nat) : Int)), (60, .slice (some ⟨b162, o163, none⟩) l1.length d1), (61, .int .i64 ((l1.length : Nat) : Int)), (62, .int .i64 ((i : Nat) : Int)), (86, .bool false)]) rfl
                                      refine xt_norm ?_
                                      refine cd_cond_f hA rfl ?_
                                      refine wp_skip ?_
                                      refine xt_norm ?_
                                      refine wp_region_lit ?_
                                      refine st_run tbOk 2 hA (e' := (88, .int .i64 (IntKind.i64.wrap (((aq : Nat) : Int) + 1))) :: (87, .int .i64 ((aq : Nat) : Int)) :: _) rfl ?_; clear hA; intro a hA
                                      replace hA := hA.rw 88 (v' := .int .i64 ((aq + 1 : Nat) : Int)) rfl (wr64 (by omega) (by omega) (by omega))
                                      refine st_run tbOk 1 hA (e' := (17, .int .i64 ((aq + 1 : Nat) : Int)) :: _) rfl ?_; clear hA; intro a hA
                                      refine wpList_nil ?_
                                      replace hA := hA.sel [5, 6, 7, 15, 16, 17, 18, 19, 34, 35, 36, 53, 54, 60, 61, 62] (e' := [(5, .pointer (some ⟨bb3, 0, none⟩)), (6, .int .i64 ((n : Nat) : Int)), (7, .slice (some ⟨b6, 0, none⟩) 2 2), (15, .func (.func 15) #[] #[.pointer (some ⟨b14, 0, none⟩)]), (16, .slice (some ⟨b170, o171, none⟩) ((us.filter (isA x12f3) ++ ps.filter (isA x12f3)).length) c132), (17, .int .i64 ((aq + 1 : Nat) : Int)), (18, .int .i64 ((1 : Nat) : Int)), (19, .slice Ax ((ok (fun x => !isA x12f3 x) l1 i).length) cx), (34, .slice (some ⟨b10, o11, none⟩) l.length c), (35, .int .i64 ((l.length : Nat) : Int)), (36, .int .i64 ((k : Nat) : Int)), (53, .int .i64 2), (54, .int .i64 ((1 : Nat) : Int)), (60, .slice (some ⟨b162, o163, none⟩) l1.length d1), (61, .int .i64 ((l1.length : Nat) : Int)), (62, .int .i64 ((i : Nat) : Int))]) rfl
                                      refine xb_norm ?_
                                      refine xt_norm ?_
                                      refine wp_region_lit ?_
                                      refine st_run tbOk 1 hA (e' := (89, .int .i64 (IntKind.i64.wrap (((i : Nat) : Int) + 1))) :: _) rfl ?_; clear hA; intro a hA
                                      replace hA := hA.rw 89 (v' := .int .i64 ((i + 1 : Nat) : Int)) rfl (wr64 (by omega) (by omega) (by omega))
                                      refine st_run tbOk 1 hA (e' := (62, .int .i64 ((i + 1 : Nat) : Int)) :: _) rfl ?_; clear hA; intro a hA
                                      refine wpList_nil ?_
                                      replace hA := hA.sel [5, 6, 7, 15, 16, 17, 18, 19, 34, 35, 36, 53, 54, 60, 61, 62] (e' := [(5, .pointer (some ⟨bb3, 0, none⟩)), (6, .int .i64 ((n : Nat) : Int)), (7, .slice (some ⟨b6, 0, none⟩) 2 2), (15, .func (.func 15) #[] #[.pointer (some ⟨b14, 0, none⟩)]), (16, .slice (some ⟨b170, o171, none⟩) ((us.filter (isA x12f3) ++ ps.filter (isA x12f3)).length) c132), (17, .int .i64 ((aq + 1 : Nat) : Int)), (18, .int .i64 ((1 : Nat) : Int)), (19, .slice Ax ((ok (fun x => !isA x12f3 x) l1 i).length) cx), (34, .slice (some ⟨b10, o11, none⟩) l.length c), (35, .int .i64 ((l.length : Nat) : Int)), (36, .int .i64 ((k : Nat) : Int)), (53, .int .i64 2), (54, .int .i64 ((1 : Nat) : Int)), (60, .slice (some ⟨b162, o163, none⟩) l1.length d1), (61, .int .i64 ((l1.length : Nat) : Int)), (62, .int .i64 ((i + 1 : Nat) : Int))]) rfl
                                      have hxs : ok (fun x => !isA x12f3 x) l1 (i + 1) = ok (fun x => !isA x12f3 x) l1 i := (ok_gone hx164 hpy).symm
                                      replace hA := hA.rw 19 (v' := .slice Ax ((ok (fun x => !isA x12f3 x) l1 (i + 1)).length) cx) rfl (by rw [hxs])
                                      replace hS := hS.drop1
                                      replace hS := hS.front 7 (C := [(b14, rowO [.int .u8 x12f0, .int .u64 x12f1, .int .u64 x12f2, .int .u32 x12f3, .int .u16 x12f4, .int .u16 x12f5, .int .u64 x12f6, .int .u32 x12f7, .int .u8 x12f8, .int .u64 x12f9, .int .u64 x12f10, .slice x12A11 x12b11.length x12c11] 52)]) (L' := Cx :: L129 :: D :: C128 :: E0 :: E1 :: [(b6, rowO [.slice B0 ((l0.filter (fun x => !isA x12f3 x)).length) d0, .slice (some ⟨b162, o163, none⟩) l1.length d1] 44)] :: F) rfl rfl
                                      replace hS := hS.front 7 (C := [(b6, rowO [.slice B0 ((l0.filter (fun x => !isA x12f3 x)).length) d0, .slice (some ⟨b162, o163, none⟩) l1.length d1] 44)]) (L' := [(b14, rowO [.int .u8 x12f0, .int .u64 x12f1, .int .u64 x12f2, .int .u32 x12f3, .int .u16 x12f4, .int .u16 x12f5, .int .u64 x12f6, .int .u32 x12f7, .int .u8 x12f8, .int .u64 x12f9, .int .u64 x12f10, .slice x12A11 x12b11.length x12c11] 52)] :: Cx :: L129 :: D :: C128 :: E0 :: E1 :: F) rfl rfl
                                      replace hS := hS.front 7 (C := E1) (L' := [(b6, rowO [.slice B0 ((l0.filter (fun x => !isA x12f3 x)).length) d0, .slice (some ⟨b162, o163, none⟩) l1.length d1] 44)] :: [(b14, rowO [.int .u8 x12f0, .int .u64 x12f1, .int .u64 x12f2, .int .u32 x12f3, .int .u16 x12f4, .int .u16 x12f5, .int .u64 x12f6, .int .u32 x12f7, .int .u8 x12f8, .int .u64 x12f9, .int .u64 x12f10, .slice x12A11 x12b11.length x12c11] 52)] :: Cx :: L129 :: D :: C128 :: E0 :: F) rfl rfl
                                      replace hS := hS.front 7 (C := E0) (L' := E1 :: [(b6, rowO [.slice B0 ((l0.filter (fun x => !isA x12f3 x)).length) d0, .slice (some ⟨b162, o163, none⟩) l1.length d1] 44)] :: [(b14, rowO [.int .u8 x12f0, .int .u64 x12f1, .int .u64 x12f2, .int .u32 x12f3, .int .u16 x12f4, .int .u16 x12f5, .int .u64 x12f6, .int .u32 x12f7, .int .u8 x12f8, .int .u64 x12f9, .int .u64 x12f10, .slice x12A11 x12b11.length x12c11] 52)] :: Cx :: L129 :: D :: C128 :: F) rfl rfl
                                      replace hS := hS.front 7 (C := C128) (L' := E0 :: E1 :: [(b6, rowO [.slice B0 ((l0.filter (fun x => !isA x12f3 x)).length) d0, .slice (some ⟨b162, o163, none⟩) l1.length d1] 44)] :: [(b14, rowO [.int .u8 x12f0, .int .u64 x12f1, .int .u64 x12f2, .int .u32 x12f3, .int .u16 x12f4, .int .u16 x12f5, .int .u64 x12f6, .int .u32 x12f7, .int .u8 x12f8, .int .u64 x12f9, .int .u64 x12f10, .slice x12A11 x12b11.length x12c11] 52)] :: Cx :: L129 :: D :: F) rfl rfl
                                      replace hS := hS.front 7 (C := D) (L' := C128 :: E0 :: E1 :: [(b6, rowO [.slice B0 ((l0.filter (fun x => !isA x12f3 x)).length) d0, .slice (some ⟨b162, o163, none⟩) l1.length d1] 44)] :: [(b14, rowO [.int .u8 x12f0, .int .u64 x12f1, .int .u64 x12f2, .int .u32 x12f3, .int .u16 x12f4, .int .u16 x12f5, .int .u64 x12f6, .int .u32 x12f7, .int .u8 x12f8, .int .u64 x12f9, .int .u64 x12f10, .slice x12A11 x12b11.length x12c11] 52)] :: Cx :: L129 :: F) rfl rfl
                                      replace hS := hS.front 7 (C := L129) (L' := D :: C128 :: E0 :: E1 :: [(b6, rowO [.slice B0 ((l0.filter (fun x => !isA x12f3 x)).length) d0, .slice (some ⟨b162, o163, none⟩) l1.length d1] 44)] :: [(b14, rowO [.int .u8 x12f0, .int .u64 x12f1, .int .u64 x12f2, .int .u32 x12f3, .int .u16 x12f4, .int .u16 x12f5, .int .u64 x12f6, .int .u32 x12f7, .int .u8 x12f8, .int .u64 x12f9, .int .u64 x12f10, .slice x12A11 x12b11.length x12c11] 52)] :: Cx :: F) rfl rfl
                                      replace hS := hS.front 7 (C := Cx) (L' := L129 :: D :: C128 :: E0 :: E1 :: [(b6, rowO [.slice B0 ((l0.filter (fun x => !isA x12f3 x)).length) d0, .slice (some ⟨b162, o163, none⟩) l1.length d1] 44)] :: [(b14, rowO [.int .u8 x12f0, .int .u64 x12f1, .int .u64 x12f2, .int .u32 x12f3, .int .u16 x12f4, .int .u16 x12f5, .int .u64 x12f6, .int .u32 x12f7, .int .u8 x12f8, .int .u64 x12f9, .int .u64 x12f10, .slice x12A11 x12b11.length x12c11] 52)] :: F) rfl rfl
                                      exact lp_next _ (by omega) ⟨(i + 1), (aq + 1), Ax, cx, Cx, rfl, (hA.sel [5, 6, 7, 15, 16, 17, 18, 19, 34, 35, 36, 53, 54, 60, 61, 62] rfl), hS, by omega, (by rw [ok_len (p := (isA x12f3)) hx164 hpy]; omega), (by rw [hxs]; exact hX)⟩)
                               · refine st_run tbOk 1 hA (e' := (66, .func (.func 15) #[] #[.pointer (some ⟨b14, 0, none⟩)]) :: _) rfl ?_; clear hA; intro a hA
                                 refine st_val hA rfl rfl (by decide) (rn_loadA tbOk hA [.int .u64 x164f0, .int .u64 x164f1, .int .u32 x164f2, .int .u16 x164f3, .int .u16 x164f4, .int .u64 x164f5, .int .u32 x164f6, .int .u8 x164f7, .int .u64 x164f8, .int .u64 x164f9, .slice x164A10 x164b10.length x164c10] rfl rfl rfl rfl rfl (cells_row (hS.heapAt 0 rfl) rfl)) ?_; clear hA; intro a hA
                                 refine st_call hA rfl rfl rfl rfl isfn15 rfl rfl (by decide) (isc15 (fun w8 h8 => Rd.old h8 ((Own.full (T := 52) (size := 12) (g := b14) (m := 1) (xs := rows encAct [(x12f0, x12f1, x12f2, x12f3, x12f4, x12f5, x12f6, x12f7, x12f8, x12f9, x12f10, x12A11, x12c11, x12b11)]) rfl (by decide)).rd (hS.own_ 8 rfl))) (x164f0, x164f1, x164f2, x164f3, x164f4, x164f5, x164f6, x164f7, x164f8, x164f9, x164A10, x164c10, x164b10)) ?_
                                 clear hA; rintro v w176 a ⟨rfl, hS'⟩ hA; replace hS : St w0 w176 ([(b166, rowO [.int .u64 x164f0, .int .u64 x164f1, .int .u32 x164f2, .int .u16 x164f3, .int .u16 x164f4, .int .u64 x164f5, .int .u32 x164f6, .int .u8 x164f7, .int .u64 x164f8, .int .u64 x164f9, .slice x164A10 x164b10.length x164c10] 37)] :: Cx :: L129 :: D :: C128 :: E0 :: E1 :: [(b6, rowO [.slice B0 ((l0.filter (fun x => !isA x12f3 x)).length) d0, .slice (some ⟨b162, o163, none⟩) l1.length d1] 44)] :: [(b14, rowO [.int .u8 x12f0, .int .u64 x12f1, .int .u64 x12f2, .int .u32 x12f3, .int .u16 x12f4, .int .u16 x12f5, .int .u64 x12f6, .int .u32 x12f7, .int .u8 x12f8, .int .u64 x12f9, .int .u64 x12f10, .slice x12A11 x12b11.length x12c11] 52)] :: F) := hS.trans hS'
                                 replace hA := hA.rw 68 (v' := .bool false) rfl (congrArg Value.bool hpn)
                                 refine st_run tbOk 1 hA (e' := (69, .bool true) :: _) rfl ?_; clear hA; intro a hA
                                 refine wpList_nil ?_
                                 replace hA := hA.sel [5, 6, 7, 15, 16, 17, 18, 19, 21, 34, 35, 36, 53, 54, 60, 61, 62, 69] (e' := [(5, .pointer (some ⟨bb3, 0, none⟩)), (6, .int .i64 ((n : Nat) : Int)), (7, .slice (some ⟨b6, 0, none⟩) 2 2), (15, .func (.func 15) #[] #[.pointer (some ⟨b14, 0, none⟩)]), (16, .slice A131 ((us.filter (isA x12f3) ++ ps.filter (isA x12f3)).length) c132), (17, .int .i64 ((aq : Nat) : Int)), (18, .int .i64 ((1 : Nat) : Int)), (19, .slice Ax ((ok (fun x => !isA x12f3 x) l1 i).length) cx), (21, .pointer (some ⟨b166, 0, none⟩)), (34, .slice (some ⟨b10, o11, none⟩) l.length c), (35, .int .i64 ((l.length : Nat) : Int)), (36, .int .i64 ((k : Nat) : Int)), (53, .int .i64 2), (54, .int .i64 ((1 : Nat) : Int)), (60, .slice (some ⟨b162, o163, none⟩) l1.length d1), (61, .int .i64 ((l1.length : Nat) : Int)), (62, .int .i64 ((i : Nat) : Int)), (69, .bool true)]) rfl
                                 refine xt_norm ?_
                                 refine cd_cond_t hA rfl ?_
                                 refine wp_seq ?_
                                 refine wp_region_lit ?_
                                 refine st_run tbOk 1 hA (e' := (70, .slice Ax ((ok (fun x => !isA x12f3 x) l1 i).length) cx) :: _) rfl ?_; clear hA; intro a hA
                                 refine st_val hA rfl rfl (by decide) (rn_loadA tbOk hA [.int .u64 x164f0, .int .u64 x164f1, .int .u32 x164f2, .int .u16 x164f3, .int .u16 x164f4, .int .u64 x164f5, .int .u32 x164f6, .int .u8 x164f7, .int .u64 x164f8, .int .u64 x164f9, .slice x164A10 x164b10.length x164c10] rfl rfl rfl rfl rfl (cells_row (hS.heapAt 0 rfl) rfl)) ?_; clear hA; intro a hA
                                 refine st_buildSlice tbOk hA hS [.int .u64 x164f0, .int .u64 x164f1, .int .u32 x164f2, .int .u16 x164f3, .int .u16 x164f4, .int .u64 x164f5, .int .u32 x164f6, .int .u8 x164f7, .int .u64 x164f8, .int .u64 x164f9, .slice x164A10 x164b10.length x164c10] rfl rfl rfl rfl rfl (by decide) (by kernel_rfl) rfl rfl (by decide) ?_; clear hA hS; intro b177 w178 a hS hA
                                 replace hS := hS.front 2 (C := Cx) (L' := [(b177, rowO [.int .u64 x164f0, .int .u64 x164f1, .int .u32 x164f2, .int .u16 x164f3, .int .u16 x164f4, .int .u64 x164f5, .int .u32 x164f6, .int .u8 x164f7, .int .u64 x164f8, .int .u64 x164f9, .slice x164A10 x164b10.length x164c10] 37)] :: [(b166, rowO [.int .u64 x164f0, .int .u64 x164f1, .int .u32 x164f2, .int .u16 x164f3, .int .u16 x164f4, .int .u64 x164f5, .int .u32 x164f6, .int .u8 x164f7, .int .u64 x164f8, .int .u64 x164f9, .slice x164A10 x164b10.length x164c10] 37)] :: L129 :: D :: C128 :: E0 :: E1 :: [(b6, rowO [.slice B0 ((l0.filter (fun x => !isA x12f3 x)).length) d0, .slice (some ⟨b162, o163, none⟩) l1.length d1] 44)] :: [(b14, rowO [.int .u8 x12f0, .int .u64 x12f1, .int .u64 x12f2, .int .u32 x12f3, .int .u16 x12f4, .int .u16 x12f5, .int .u64 x12f6, .int .u32 x12f7, .int .u8 x12f8, .int .u64 x12f9, .int .u64 x12f10, .slice x12A11 x12b11.length x12c11] 52)] :: F) rfl rfl
                                 refine st_append tbOk hA (m := (ok (fun x => !isA x12f3 x) l1 i).length) (q := 1) (xs := rows encMessage (ok (fun x => !isA x12f3 x) l1 i)) (news := rows encMessage ([(x164f0, x164f1, x164f2, x164f3, x164f4, x164f5, x164f6, x164f7, x164f8, x164f9, x164A10, x164c10, x164b10)] : List (Int × Int × Int × Int × Int × Int × Int × Int × Int × Int × Option Addr × Nat × List UInt8))) rfl rfl rfl rfl rfl rfl rfl rfl (by decide) hX hS (((Own.full (T := 37) (size := 11) (g := b177) (m := 1) rfl (by decide)).rd (hS.own_ 1 rfl)).x) (rows_one encMessage_ok _) (maxLen_le (by first | omega | (simp; omega))) (by show ((ok (fun x => !isA x12f3 x) l1 i).length + 1) * 80 ≤ 140737488355328; first | omega | (simp; omega)) rfl rfl (by decide) ?_
                                 clear hA hS; intro v179 w180 C181 a hO181 hS hA
                                 replace hO181 := Own.app (l := ok (fun x => !isA x12f3 x) l1 i) (l2 := ([(x164f0, x164f1, x164f2, x164f3, x164f4, x164f5, x164f6, x164f7, x164f8, x164f9, x164A10, x164c10, x164b10)] : List (Int × Int × Int × Int × Int × Int × Int × Int × Int × Int × Option Addr × Nat × List UInt8))) hO181
                                 obtain ⟨A182, c183, rfl, hmc183, hxc183⟩ := hO181.open'
                                 refine st_run tbOk 1 hA (e' := (19, .slice A182 (((ok (fun x => !isA x12f3 x) l1 i) ++ ([(x164f0, x164f1, x164f2, x164f3, x164f4, x164f5, x164f6, x164f7, x164f8, x164f9, x164A10, x164c10, x164b10)] : List (Int × Int × Int × Int × Int × Int × Int × Int × Int × Int × Option Addr × Nat × List UInt8))).length) c183) :: _) rfl ?_; clear hA; intro a hA
                                 refine wpList_nil ?_
                                 replace hA := hA.sel [5, 6, 7, 15, 16, 17, 18, 19, 34, 35, 36, 53, 54, 60, 61, 62] (e' := [(5, .pointer (some ⟨bb3, 0, none⟩)), (6, .int .i64 ((n : Nat) : Int)), (7, .slice (some ⟨b6, 0, none⟩) 2 2), (15, .func (.func 15) #[] #[.pointer (some ⟨b14, 0, none⟩)]), (16, .slice A131 ((us.filter (isA x12f3) ++ ps.filter (isA x12f3)).length) c132), (17, .int .i64 ((aq : Nat) : Int)), (18, .int .i64 ((1 : Nat) : Int)), (19, .slice A182 (((ok (fun x => !isA x12f3 x) l1 i) ++ ([(x164f0, x164f1, x164f2, x164f3, x164f4, x164f5, x164f6, x164f7, x164f8, x164f9, x164A10, x164c10, x164b10)] : List (Int × Int × Int × Int × Int × Int × Int × Int × Int × Int × Option Addr × Nat × List UInt8))).length) c183), (34, .slice (some ⟨b10, o11, none⟩) l.length c), (35, .int .i64 ((l.length : Nat) : Int)), (36, .int .i64 ((k : Nat) : Int)), (53, .int .i64 2), (54, .int .i64 ((1 : Nat) : Int)), (60, .slice (some ⟨b162, o163, none⟩) l1.length d1), (61, .int .i64 ((l1.length : Nat) : Int)), (62, .int .i64 ((i : Nat) : Int))]) rfl
                                 refine xt_norm ?_
                                 refine wp_exit ?_
                                 refine xt_exit ?_
                                 refine cd_exit_eq ?_
                                 refine xt_norm ?_
                                 refine wp_region_lit ?_
                                 refine st_run tbOk 1 hA (e' := (89, .int .i64 (IntKind.i64.wrap (((i : Nat) : Int) + 1))) :: _) rfl ?_; clear hA; intro a hA
                                 replace hA := hA.rw 89 (v' := .int .i64 ((i + 1 : Nat) : Int)) rfl (wr64 (by omega) (by omega) (by omega))
                                 refine st_run tbOk 1 hA (e' := (62, .int .i64 ((i + 1 : Nat) : Int)) :: _) rfl ?_; clear hA; intro a hA
                                 refine wpList_nil ?_
                                 replace hA := hA.sel [5, 6, 7, 15, 16, 17, 18, 19, 34, 35, 36, 53, 54, 60, 61, 62] (e' := [(5, .pointer (some ⟨bb3, 0, none⟩)), (6, .int .i64 ((n : Nat) : Int)), (7, .slice (some ⟨b6, 0, none⟩) 2 2), (15, .func (.func 15) #[] #[.pointer (some ⟨b14, 0, none⟩)]), (16, .slice A131 ((us.filter (isA x12f3) ++ ps.filter (isA x12f3)).length) c132), (17, .int .i64 ((aq : Nat) : Int)), (18, .int .i64 ((1 : Nat) : Int)), (19, .slice A182 (((ok (fun x => !isA x12f3 x) l1 i) ++ ([(x164f0, x164f1, x164f2, x164f3, x164f4, x164f5, x164f6, x164f7, x164f8, x164f9, x164A10, x164c10, x164b10)] : List (Int × Int × Int × Int × Int × Int × Int × Int × Int × Int × Option Addr × Nat × List UInt8))).length) c183), (34, .slice (some ⟨b10, o11, none⟩) l.length c), (35, .int .i64 ((l.length : Nat) : Int)), (36, .int .i64 ((k : Nat) : Int)), (53, .int .i64 2), (54, .int .i64 ((1 : Nat) : Int)), (60, .slice (some ⟨b162, o163, none⟩) l1.length d1), (61, .int .i64 ((l1.length : Nat) : Int)), (62, .int .i64 ((i + 1 : Nat) : Int))]) rfl
                                 have hxs : ok (fun x => !isA x12f3 x) l1 (i + 1) = (ok (fun x => !isA x12f3 x) l1 i) ++ ([(x164f0, x164f1, x164f2, x164f3, x164f4, x164f5, x164f6, x164f7, x164f8, x164f9, x164A10, x164c10, x164b10)] : List (Int × Int × Int × Int × Int × Int × Int × Int × Int × Int × Option Addr × Nat × List UInt8)) := (ok_stay hx164 hpn).symm
                                 replace hA := hA.rw 19 (v' := .slice A182 ((ok (fun x => !isA x12f3 x) l1 (i + 1)).length) c183) rfl (by rw [hxs])
                                 replace hS := hS.front 2 (C := [(b166, rowO [.int .u64 x164f0, .int .u64 x164f1, .int .u32 x164f2, .int .u16 x164f3, .int .u16 x164f4, .int .u64 x164f5, .int .u32 x164f6, .int .u8 x164f7, .int .u64 x164f8, .int .u64 x164f9, .slice x164A10 x164b10.length x164c10] 37)]) (L' := C181 :: [(b177, rowO [.int .u64 x164f0, .int .u64 x164f1, .int .u32 x164f2, .int .u16 x164f3, .int .u16 x164f4, .int .u64 x164f5, .int .u32 x164f6, .int .u8 x164f7, .int .u64 x164f8, .int .u64 x164f9, .slice x164A10 x164b10.length x164c10] 37)] :: L129 :: D :: C128 :: E0 :: E1 :: [(b6, rowO [.slice B0 ((l0.filter (fun x => !isA x12f3 x)).length) d0, .slice (some ⟨b162, o163, none⟩) l1.length d1] 44)] :: [(b14, rowO [.int .u8 x12f0, .int .u64 x12f1, .int .u64 x12f2, .int .u32 x12f3, .int .u16 x12f4, .int .u16 x12f5, .int .u64 x12f6, .int .u32 x12f7, .int .u8 x12f8, .int .u64 x12f9, .int .u64 x12f10, .slice x12A11 x12b11.length x12c11] 52)] :: F) rfl rfl
                                 replace hS := hS.drop1
                                 replace hS := hS.front 1 (C := [(b177, rowO [.int .u64 x164f0, .int .u64 x164f1, .int .u32 x164f2, .int .u16 x164f3, .int .u16 x164f4, .int .u64 x164f5, .int .u32 x164f6, .int .u8 x164f7, .int .u64 x164f8, .int .u64 x164f9, .slice x164A10 x164b10.length x164c10] 37)]) (L' := C181 :: L129 :: D :: C128 :: E0 :: E1 :: [(b6, rowO [.slice B0 ((l0.filter (fun x => !isA x12f3 x)).length) d0, .slice (some ⟨b162, o163, none⟩) l1.length d1] 44)] :: [(b14, rowO [.int .u8 x12f0, .int .u64 x12f1, .int .u64 x12f2, .int .u32 x12f3, .int .u16 x12f4, .int .u16 x12f5, .int .u64 x12f6, .int .u32 x12f7, .int .u8 x12f8, .int .u64 x12f9, .int .u64 x12f10, .slice x12A11 x12b11.length x12c11] 52)] :: F) rfl rfl
                                 replace hS := hS.drop1
                                 replace hS := hS.front 7 (C := [(b14, rowO [.int .u8 x12f0, .int .u64 x12f1, .int .u64 x12f2, .int .u32 x12f3, .int .u16 x12f4, .int .u16 x12f5, .int .u64 x12f6, .int .u32 x12f7, .int .u8 x12f8, .int .u64 x12f9, .int .u64 x12f10, .slice x12A11 x12b11.length x12c11] 52)]) (L' := C181 :: L129 :: D :: C128 :: E0 :: E1 :: [(b6, rowO [.slice B0 ((l0.filter (fun x => !isA x12f3 x)).length) d0, .slice (some ⟨b162, o163, none⟩) l1.length d1] 44)] :: F) rfl rfl
                                 replace hS := hS.front 7 (C := [(b6, rowO [.slice B0 ((l0.filter (fun x => !isA x12f3 x)).length) d0, .slice (some ⟨b162, o163, none⟩) l1.length d1] 44)]) (L' := [(b14, rowO [.int .u8 x12f0, .int .u64 x12f1, .int .u64 x12f2, .int .u32 x12f3, .int .u16 x12f4, .int .u16 x12f5, .int .u64 x12f6, .int .u32 x12f7, .int .u8 x12f8, .int .u64 x12f9, .int .u64 x12f10, .slice x12A11 x12b11.length x12c11] 52)] :: C181 :: L129 :: D :: C128 :: E0 :: E1 :: F) rfl rfl
                                 replace hS := hS.front 7 (C := E1) (L' := [(b6, rowO [.slice B0 ((l0.filter (fun x => !isA x12f3 x)).length) d0, .slice (some ⟨b162, o163, none⟩) l1.length d1] 44)] :: [(b14, rowO [.int .u8 x12f0, .int .u64 x12f1, .int .u64 x12f2, .int .u32 x12f3, .int .u16 x12f4, .int .u16 x12f5, .int .u64 x12f6, .int .u32 x12f7, .int .u8 x12f8, .int .u64 x12f9, .int .u64 x12f10, .slice x12A11 x12b11.length x12c11] 52)] :: C181 :: L129 :: D :: C128 :: E0 :: F) rfl rfl
                                 replace hS := hS.front 7 (C := E0) (L' := E1 :: [(b6, rowO [.slice B0 ((l0.filter (fun x => !isA x12f3 x)).length) d0, .slice (some ⟨b162, o163, none⟩) l1.length d1] 44)] :: [(b14, rowO [.int .u8 x12f0, .int .u64 x12f1, .int .u64 x12f2, .int .u32 x12f3, .int .u16 x12f4, .int .u16 x12f5, .int .u64 x12f6, .int .u32 x12f7, .int .u8 x12f8, .int .u64 x12f9, .int .u64 x12f10, .slice x12A11 x12b11.length x12c11] 52)] :: C181 :: L129 :: D :: C128 :: F) rfl rfl
                                 replace hS := hS.front 7 (C := C128) (L' := E0 :: E1 :: [(b6, rowO [.slice B0 ((l0.filter (fun x => !isA x12f3 x)).length) d0, .slice (some ⟨b162, o163, none⟩) l1.length d1] 44)] :: [(b14, rowO [.int .u8 x12f0, .int .u64 x12f1, .int .u64 x12f2, .int .u32 x12f3, .int .u16 x12f4, .int .u16 x12f5, .int .u64 x12f6, .int .u32 x12f7, .int .u8 x12f8, .int .u64 x12f9, .int .u64 x12f10, .slice x12A11 x12b11.length x12c11] 52)] :: C181 :: L129 :: D :: F) rfl rfl
                                 replace hS := hS.front 7 (C := D) (L' := C128 :: E0 :: E1 :: [(b6, rowO [.slice B0 ((l0.filter (fun x => !isA x12f3 x)).length) d0, .slice (some ⟨b162, o163, none⟩) l1.length d1] 44)] :: [(b14, rowO [.int .u8 x12f0, .int .u64 x12f1, .int .u64 x12f2, .int .u32 x12f3, .int .u16 x12f4, .int .u16 x12f5, .int .u64 x12f6, .int .u32 x12f7, .int .u8 x12f8, .int .u64 x12f9, .int .u64 x12f10, .slice x12A11 x12b11.length x12c11] 52)] :: C181 :: L129 :: F) rfl rfl
                                 replace hS := hS.front 7 (C := L129) (L' := D :: C128 :: E0 :: E1 :: [(b6, rowO [.slice B0 ((l0.filter (fun x => !isA x12f3 x)).length) d0, .slice (some ⟨b162, o163, none⟩) l1.length d1] 44)] :: [(b14, rowO [.int .u8 x12f0, .int .u64 x12f1, .int .u64 x12f2, .int .u32 x12f3, .int .u16 x12f4, .int .u16 x12f5, .int .u64 x12f6, .int .u32 x12f7, .int .u8 x12f8, .int .u64 x12f9, .int .u64 x12f10, .slice x12A11 x12b11.length x12c11] 52)] :: C181 :: F) rfl rfl
                                 replace hS := hS.front 7 (C := C181) (L' := L129 :: D :: C128 :: E0 :: E1 :: [(b6, rowO [.slice B0 ((l0.filter (fun x => !isA x12f3 x)).length) d0, .slice (some ⟨b162, o163, none⟩) l1.length d1] 44)] :: [(b14, rowO [.int .u8 x12f0, .int .u64 x12f1, .int .u64 x12f2, .int .u32 x12f3, .int .u16 x12f4, .int .u16 x12f5, .int .u64 x12f6, .int .u32 x12f7, .int .u8 x12f8, .int .u64 x12f9, .int .u64 x12f10, .slice x12A11 x12b11.length x12c11] 52)] :: F) rfl rfl
                                 exact lp_next _ (by omega) ⟨(i + 1), aq, A182, c183, C181, rfl, (hA.sel [5, 6, 7, 15, 16, 17, 18, 19, 34, 35, 36, 53, 54, 60, 61, 62] rfl), hS, by omega, (by rw [← ok_no (p := (isA x12f3)) hx164 hpn]; exact hat), (by rw [hxs]; exact hO181)⟩)
                          · first
                            | (exfalso; omega)
                            | (replace hA := hA.rw 63 (v' := .bool false) rfl (vb_false hc161)
                               refine cd_cond_f hA rfl ?_
                               refine wp_exit ?_
                               refine xt_exit ?_
                               refine xt_exit ?_
                               refine cd_exit_eq ?_
                               refine xt_norm ?_
                               refine wp_region_lit ?_
                               have hil : i = l1.length := by omega
                               have hxo : ok (fun x => !isA x12f3 x) l1 i = (l1.filter (fun x => !isA x12f3 x)) := by rw [hil, ok_all]
                               rw [hxo] at hX
                               replace hA := hA.rw 19 (v' := .slice Ax ((l1.filter (fun x => !isA x12f3 x)).length) cx) rfl (by rw [hxo])
                               have hat2 : aq = 0 + (l0.filter (isA x12f3)).length + (l1.filter (isA x12f3)).length := by rw [hat, hil, ok_all]
                               refine st_run tbOk 3 hA (e' := (92, .slice Ax ((l1.filter (fun x => !isA x12f3 x)).length) cx) :: (91, .int .i64 ((1 : Nat) : Int)) :: (90, .slice (some ⟨b6, 0, none⟩) 2 2) :: _) rfl ?_; clear hA; intro a hA
                               refine st_val hA rfl rfl (by decide) (rn_indexAddr tbOk hA 1 1 rfl rfl rfl rfl rfl rfl (by rfl) (by omega) (by first | rfl | simp [Nat.mul_one, Nat.zero_add] | omega)) ?_; clear hA; intro a hA
                               replace hS := hS.front 6 (C := [(b6, rowO [.slice B0 ((l0.filter (fun x => !isA x12f3 x)).length) d0, .slice B1 l1.length d1] 44)]) (L' := Cx :: L129 :: D :: C128 :: E0 :: E1 :: [(b14, rowO [.int .u8 x12f0, .int .u64 x12f1, .int .u64 x12f2, .int .u32 x12f3, .int .u16 x12f4, .int .u16 x12f5, .int .u64 x12f6, .int .u32 x12f7, .int .u8 x12f8, .int .u64 x12f9, .int .u64 x12f10, .slice x12A11 x12b11.length x12c11] 52)] :: F) rfl rfl
                               refine st_store tbOk hA hS [.slice Ax ((l1.filter (fun x => !isA x12f3 x)).length) cx] [.slice B0 ((l0.filter (fun x => !isA x12f3 x)).length) d0, .slice Ax ((l1.filter (fun x => !isA x12f3 x)).length) cx] rfl rfl rfl rfl rfl rfl (by intro u hu; rw [List.mem_singleton.1 hu]; rfl) (Nat.le_of_ble_eq_true rfl) rfl rfl rfl ?_; clear hS; intro w184 hS
                               refine wpList_nil ?_
                               replace hA := hA.sel [5, 6, 7, 15, 16, 17, 34, 35, 36, 53, 54] (e' := [(5, .pointer (some ⟨bb3, 0, none⟩)), (6, .int .i64 ((n : Nat) : Int)), (7, .slice (some ⟨b6, 0, none⟩) 2 2), (15, .func (.func 15) #[] #[.pointer (some ⟨b14, 0, none⟩)]), (16, .slice A131 ((us.filter (isA x12f3) ++ ps.filter (isA x12f3)).length) c132), (17, .int .i64 ((aq : Nat) : Int)), (34, .slice (some ⟨b10, o11, none⟩) l.length c), (35, .int .i64 ((l.length : Nat) : Int)), (36, .int .i64 ((k : Nat) : Int)), (53, .int .i64 2), (54, .int .i64 ((1 : Nat) : Int))]) rfl
                               refine xb_norm ?_
                               refine xt_norm ?_
                               refine wp_region_lit ?_
                               refine st_run tbOk 1 hA (e' := (94, .int .i64 (IntKind.i64.wrap (((1 : Nat) : Int) + 1))) :: _) rfl ?_; clear hA; intro a hA
                               replace hA := hA.rw 94 (v' := .int .i64 2) rfl (wr64 (by omega) (by omega) (by omega))
                               refine st_run tbOk 1 hA (e' := (54, .int .i64 2) :: _) rfl ?_; clear hA; intro a hA
                               refine wpList_nil ?_
                               replace hA := hA.sel [5, 6, 7, 15, 16, 17, 34, 35, 36, 53, 54] (e' := [(5, .pointer (some ⟨bb3, 0, none⟩)), (6, .int .i64 ((n : Nat) : Int)), (7, .slice (some ⟨b6, 0, none⟩) 2 2), (15, .func (.func 15) #[] #[.pointer (some ⟨b14, 0, none⟩)]), (16, .slice A131 ((us.filter (isA x12f3) ++ ps.filter (isA x12f3)).length) c132), (17, .int .i64 ((aq : Nat) : Int)), (34, .slice (some ⟨b10, o11, none⟩) l.length c), (35, .int .i64 ((l.length : Nat) : Int)), (36, .int .i64 ((k : Nat) : Int)), (53, .int .i64 2), (54, .int .i64 2)]) rfl
                               replace hS := hS.front 6 (C := E1) (L' := [(b6, rowO [.slice B0 ((l0.filter (fun x => !isA x12f3 x)).length) d0, .slice Ax ((l1.filter (fun x => !isA x12f3 x)).length) cx] 44)] :: Cx :: L129 :: D :: C128 :: E0 :: [(b14, rowO [.int .u8 x12f0, .int .u64 x12f1, .int .u64 x12f2, .int .u32 x12f3, .int .u16 x12f4, .int .u16 x12f5, .int .u64 x12f6, .int .u32 x12f7, .int .u8 x12f8, .int .u64 x12f9, .int .u64 x12f10, .slice x12A11 x12b11.length x12c11] 52)] :: F) rfl rfl
                               replace hS := hS.drop1
                               replace hS := hS.front 6 (C := [(b14, rowO [.int .u8 x12f0, .int .u64 x12f1, .int .u64 x12f2, .int .u32 x12f3, .int .u16 x12f4, .int .u16 x12f5, .int .u64 x12f6, .int .u32 x12f7, .int .u8 x12f8, .int .u64 x12f9, .int .u64 x12f10, .slice x12A11 x12b11.length x12c11] 52)]) (L' := [(b6, rowO [.slice B0 ((l0.filter (fun x => !isA x12f3 x)).length) d0, .slice Ax ((l1.filter (fun x => !isA x12f3 x)).length) cx] 44)] :: Cx :: L129 :: D :: C128 :: E0 :: F) rfl rfl
                               replace hS := hS.front 1 (C := [(b6, rowO [.slice B0 ((l0.filter (fun x => !isA x12f3 x)).length) d0, .slice Ax ((l1.filter (fun x => !isA x12f3 x)).length) cx] 44)]) (L' := [(b14, rowO [.int .u8 x12f0, .int .u64 x12f1, .int .u64 x12f2, .int .u32 x12f3, .int .u16 x12f4, .int .u16 x12f5, .int .u64 x12f6, .int .u32 x12f7, .int .u8 x12f8, .int .u64 x12f9, .int .u64 x12f10, .slice x12A11 x12b11.length x12c11] 52)] :: Cx :: L129 :: D :: C128 :: E0 :: F) rfl rfl
                               replace hS := hS.front 2 (C := Cx) (L' := [(b6, rowO [.slice B0 ((l0.filter (fun x => !isA x12f3 x)).length) d0, .slice Ax ((l1.filter (fun x => !isA x12f3 x)).length) cx] 44)] :: [(b14, rowO [.int .u8 x12f0, .int .u64 x12f1, .int .u64 x12f2, .int .u32 x12f3, .int .u16 x12f4, .int .u16 x12f5, .int .u64 x12f6, .int .u32 x12f7, .int .u8 x12f8, .int .u64 x12f9, .int .u64 x12f10, .slice x12A11 x12b11.length x12c11] 52)] :: L129 :: D :: C128 :: E0 :: F) rfl rfl
                               replace hS := hS.front 6 (C := E0) (L' := Cx :: [(b6, rowO [.slice B0 ((l0.filter (fun x => !isA x12f3 x)).length) d0, .slice Ax ((l1.filter (fun x => !isA x12f3 x)).length) cx] 44)] :: [(b14, rowO [.int .u8 x12f0, .int .u64 x12f1, .int .u64 x12f2, .int .u32 x12f3, .int .u16 x12f4, .int .u16 x12f5, .int .u64 x12f6, .int .u32 x12f7, .int .u8 x12f8, .int .u64 x12f9, .int .u64 x12f10, .slice x12A11 x12b11.length x12c11] 52)] :: L129 :: D :: C128 :: F) rfl rfl
                               replace hS := hS.front 6 (C := C128) (L' := E0 :: Cx :: [(b6, rowO [.slice B0 ((l0.filter (fun x => !isA x12f3 x)).length) d0, .slice Ax ((l1.filter (fun x => !isA x12f3 x)).length) cx] 44)] :: [(b14, rowO [.int .u8 x12f0, .int .u64 x12f1, .int .u64 x12f2, .int .u32 x12f3, .int .u16 x12f4, .int .u16 x12f5, .int .u64 x12f6, .int .u32 x12f7, .int .u8 x12f8, .int .u64 x12f9, .int .u64 x12f10, .slice x12A11 x12b11.length x12c11] 52)] :: L129 :: D :: F) rfl rfl
                               replace hS := hS.front 6 (C := D) (L' := C128 :: E0 :: Cx :: [(b6, rowO [.slice B0 ((l0.filter (fun x => !isA x12f3 x)).length) d0, .slice Ax ((l1.filter (fun x => !isA x12f3 x)).length) cx] 44)] :: [(b14, rowO [.int .u8 x12f0, .int .u64 x12f1, .int .u64 x12f2, .int .u32 x12f3, .int .u16 x12f4, .int .u16 x12f5, .int .u64 x12f6, .int .u32 x12f7, .int .u8 x12f8, .int .u64 x12f9, .int .u64 x12f10, .slice x12A11 x12b11.length x12c11] 52)] :: L129 :: F) rfl rfl
                               replace hS := hS.front 6 (C := L129) (L' := D :: C128 :: E0 :: Cx :: [(b6, rowO [.slice B0 ((l0.filter (fun x => !isA x12f3 x)).length) d0, .slice Ax ((l1.filter (fun x => !isA x12f3 x)).length) cx] 44)] :: [(b14, rowO [.int .u8 x12f0, .int .u64 x12f1, .int .u64 x12f2, .int .u32 x12f3, .int .u16 x12f4, .int .u16 x12f5, .int .u64 x12f6, .int .u32 x12f7, .int .u8 x12f8, .int .u64 x12f9, .int .u64 x12f10, .slice x12A11 x12b11.length x12c11] 52)] :: F) rfl rfl
                               exact lp_next _ (by decide) ⟨2, ((l0.filter (fun x => !isA x12f3 x))), ((l1.filter (fun x => !isA x12f3 x))), aq, B0, d0, E0, Ax, cx, Cx, rfl, (hA.sel [5, 6, 7, 15, 16, 17, 34, 35, 36, 53, 54] rfl), hS, (by decide), .inr (.inr ⟨rfl, rfl, rfl, hat2⟩), hT0, hX, hm0, (gd_flt hl1)⟩)
                        · exfalso; omega)
                   · first
                     | (exfalso; omega)
                     | (replace hA := hA.rw 55 (v' := .bool false) rfl (vb_false hc134)
                        refine cd_cond_f hA rfl ?_
                        refine wp_exit ?_
                        refine xt_exit ?_
                        refine xt_exit ?_
                        refine cd_exit_eq ?_
                        refine xt_norm ?_
                        refine wp_seq ?_
                        refine wp_region_lit ?_
                        have hj2 : j = 2 := by omega
                        rcases hst with ⟨h9, _⟩ | ⟨h9, _⟩ | ⟨_, rfl, rfl, haq⟩
                        · exfalso; omega
                        · exfalso; omega
                        · refine st_run tbOk 4 hA (e' := (98, .bool (((aq : Nat) : Int) != (((us.filter (isA x12f3) ++ ps.filter (isA x12f3)).length : Nat) : Int))) :: (97, .int .i64 (((us.filter (isA x12f3) ++ ps.filter (isA x12f3)).length : Nat) : Int)) :: (96, .slice A131 ((us.filter (isA x12f3) ++ ps.filter (isA x12f3)).length) c132) :: (95, .int .i64 ((aq : Nat) : Int)) :: _) rfl ?_; clear hA; intro a hA
                          refine wpList_nil ?_
                          replace hA := hA.sel [5, 6, 7, 34, 35, 36, 98] (e' := [(5, .pointer (some ⟨bb3, 0, none⟩)), (6, .int .i64 ((n : Nat) : Int)), (7, .slice (some ⟨b6, 0, none⟩) 2 2), (34, .slice (some ⟨b10, o11, none⟩) l.length c), (35, .int .i64 ((l.length : Nat) : Int)), (36, .int .i64 ((k : Nat) : Int)), (98, .bool (((aq : Nat) : Int) != (((us.filter (isA x12f3) ++ ps.filter (isA x12f3)).length : Nat) : Int)))]) rfl
                          refine xt_norm ?_
                          by_cases hc185 : ((aq : Nat) : Int) = (((us.filter (isA x12f3) ++ ps.filter (isA x12f3)).length : Nat) : Int)
                          · first
                            | (exfalso; omega)
                            | (replace hA := hA.rw 98 (v' := .bool false) rfl (vb_ne_f hc185)
                               refine cd_cond_f hA rfl ?_
                               refine wp_skip ?_
                               refine xb_norm ?_
                               refine xt_norm ?_
                               refine wp_seq ?_
                               refine wp_region_lit ?_
                               refine st_run tbOk 1 hA (e' := (180, .pointer (some ⟨bb3, 0, none⟩)) :: _) rfl ?_; clear hA; intro a hA
                               refine st_call0 hA rfl rfl rfl isfn16 rfl rfl (by decide) (len16 hS hM130) ?_; clear hA hS; rintro _ w186 a ⟨L187, hM188, rfl, hS⟩ hA
                               refine st_run tbOk 5 hA (e' := (23, .int .i64 (((ps.filter (fun x => !isA x12f3 x)).length : Nat) : Int)) :: (22, .int .i64 (((us.filter (fun x => !isA x12f3 x)).length : Nat) : Int)) :: (183, .int .i64 (((ps.filter (fun x => !isA x12f3 x)).length : Nat) : Int)) :: (182, .int .i64 (((us.filter (fun x => !isA x12f3 x)).length : Nat) : Int)) :: (179, .tuple #[.int .i64 (((us.filter (fun x => !isA x12f3 x)).length : Nat) : Int), .int .i64 (((ps.filter (fun x => !isA x12f3 x)).length : Nat) : Int)]) :: _) rfl ?_; clear hA; intro a hA
                               refine wpList_nil ?_
                               replace hA := hA.sel [5, 6, 7, 22, 23, 34, 35, 36] (e' := [(5, .pointer (some ⟨bb3, 0, none⟩)), (6, .int .i64 ((n : Nat) : Int)), (7, .slice (some ⟨b6, 0, none⟩) 2 2), (22, .int .i64 (((us.filter (fun x => !isA x12f3 x)).length : Nat) : Int)), (23, .int .i64 (((ps.filter (fun x => !isA x12f3 x)).length : Nat) : Int)), (34, .slice (some ⟨b10, o11, none⟩) l.length c), (35, .int .i64 ((l.length : Nat) : Int)), (36, .int .i64 ((k : Nat) : Int))]) rfl
                               refine xt_norm ?_
                               refine wp_seq ?_
                               refine wp_region_lit ?_
                               have hq0 : (us.filter (fun x => !isA x12f3 x)).length = (l0.filter (fun x => !isA x12f3 x)).length := len_of (flt_no he0); have hq1 : (ps.filter (fun x => !isA x12f3 x)).length = (l1.filter (fun x => !isA x12f3 x)).length := len_of (flt_no he1)
                               refine st_run tbOk 2 hA (e' := (185, .slice (some ⟨b6, 0, none⟩) 2 2) :: (184, .int .i64 (((us.filter (fun x => !isA x12f3 x)).length : Nat) : Int)) :: _) rfl ?_; clear hA; intro a hA
                               refine st_val hA rfl rfl (by decide) (rn_indexAddr tbOk hA 0 0 rfl rfl rfl rfl rfl rfl (by rfl) (by omega) (by first | rfl | simp [Nat.mul_one, Nat.zero_add] | omega)) ?_; clear hA; intro a hA
                               refine st_val hA rfl rfl (by decide) (rn_load tbOk hA rfl rfl rfl rfl (cell_row (hS.heapAt 5 rfl) rfl)) ?_; clear hA; intro a hA
                               refine st_run tbOk 3 hA (e' := (190, .bool ((((us.filter (fun x => !isA x12f3 x)).length : Nat) : Int) != (((l0.filter (fun x => !isA x12f3 x)).length : Nat) : Int))) :: (189, .bool ((((us.filter (fun x => !isA x12f3 x)).length : Nat) : Int) != (((l0.filter (fun x => !isA x12f3 x)).length : Nat) : Int))) :: (188, .int .i64 (((l0.filter (fun x => !isA x12f3 x)).length : Nat) : Int)) :: _) rfl ?_; clear hA; intro a hA
                               have hc189 : (((us.filter (fun x => !isA x12f3 x)).length : Nat) : Int) = (((l0.filter (fun x => !isA x12f3 x)).length : Nat) : Int) := by omega
                               replace hA := hA.rw 189 (v' := .bool false) rfl (vb_ne_f hc189)
                               replace hA := hA.rw 190 (v' := .bool false) rfl (vb_ne_f hc189)
                               refine st_run tbOk 2 hA (e' := (192, .slice (some ⟨b6, 0, none⟩) 2 2) :: (191, .int .i64 (((ps.filter (fun x => !isA x12f3 x)).length : Nat) : Int)) :: _) rfl ?_; clear hA; intro a hA
                               refine st_val hA rfl rfl (by decide) (rn_indexAddr tbOk hA 1 1 rfl rfl rfl rfl rfl rfl (by rfl) (by omega) (by first | rfl | simp [Nat.mul_one, Nat.zero_add] | omega)) ?_; clear hA; intro a hA
                               refine st_val hA rfl rfl (by decide) (rn_load tbOk hA rfl rfl rfl rfl (cell_row (hS.heapAt 5 rfl) rfl)) ?_; clear hA; intro a hA
                               refine st_run tbOk 3 hA (e' := (197, .bool ((((ps.filter (fun x => !isA x12f3 x)).length : Nat) : Int) != (((l1.filter (fun x => !isA x12f3 x)).length : Nat) : Int))) :: (196, .bool ((((ps.filter (fun x => !isA x12f3 x)).length : Nat) : Int) != (((l1.filter (fun x => !isA x12f3 x)).length : Nat) : Int))) :: (195, .int .i64 (((l1.filter (fun x => !isA x12f3 x)).length : Nat) : Int)) :: _) rfl ?_; clear hA; intro a hA
                               refine wpList_nil ?_
                               replace hA := hA.sel [5, 6, 7, 34, 35, 36, 197] (e' := [(5, .pointer (some ⟨bb3, 0, none⟩)), (6, .int .i64 ((n : Nat) : Int)), (7, .slice (some ⟨b6, 0, none⟩) 2 2), (34, .slice (some ⟨b10, o11, none⟩) l.length c), (35, .int .i64 ((l.length : Nat) : Int)), (36, .int .i64 ((k : Nat) : Int)), (197, .bool ((((ps.filter (fun x => !isA x12f3 x)).length : Nat) : Int) != (((l1.filter (fun x => !isA x12f3 x)).length : Nat) : Int)))]) rfl
                               refine xt_norm ?_
                               have hc190 : (((ps.filter (fun x => !isA x12f3 x)).length : Nat) : Int) = (((l1.filter (fun x => !isA x12f3 x)).length : Nat) : Int) := by omega
                               replace hA := hA.rw 197 (v' := .bool false) rfl (vb_ne_f hc190)
                               refine cd_cond_f hA rfl ?_
                               refine wp_skip ?_
                               refine xb_norm ?_
                               refine xt_norm ?_
                               refine wp_region_lit ?_
                               refine st_run tbOk 1 hA (e' := (198, .int .i64 (IntKind.i64.wrap (((k : Nat) : Int) + 1))) :: _) rfl ?_; clear hA; intro a hA
                               replace hA := hA.rw 198 (v' := .int .i64 ((k + 1 : Nat) : Int)) rfl (wr64 (by omega) (by omega) (by omega))
                               refine st_run tbOk 1 hA (e' := (36, .int .i64 ((k + 1 : Nat) : Int)) :: _) rfl ?_; clear hA; intro a hA
                               refine wpList_nil ?_
                               replace hA := hA.sel [5, 6, 7, 34, 35, 36] (e' := [(5, .pointer (some ⟨bb3, 0, none⟩)), (6, .int .i64 ((n : Nat) : Int)), (7, .slice (some ⟨b6, 0, none⟩) 2 2), (34, .slice (some ⟨b10, o11, none⟩) l.length c), (35, .int .i64 ((l.length : Nat) : Int)), (36, .int .i64 ((k + 1 : Nat) : Int))]) rfl
                               replace hS := hS.front 6 (C := [(b14, rowO [.int .u8 x12f0, .int .u64 x12f1, .int .u64 x12f2, .int .u32 x12f3, .int .u16 x12f4, .int .u16 x12f5, .int .u64 x12f6, .int .u32 x12f7, .int .u8 x12f8, .int .u64 x12f9, .int .u64 x12f10, .slice x12A11 x12b11.length x12c11] 52)]) (L' := L187 :: D :: C128 :: E0 :: E1 :: [(b6, rowO [.slice B0 ((l0.filter (fun x => !isA x12f3 x)).length) d0, .slice B1 ((l1.filter (fun x => !isA x12f3 x)).length) d1] 44)] :: F) rfl rfl
                               replace hS := hS.drop1
                               replace hS := hS.front 2 (C := C128) (L' := L187 :: D :: E0 :: E1 :: [(b6, rowO [.slice B0 ((l0.filter (fun x => !isA x12f3 x)).length) d0, .slice B1 ((l1.filter (fun x => !isA x12f3 x)).length) d1] 44)] :: F) rfl rfl
                               replace hS := hS.drop1
                               replace hS := hS.front 4 (C := [(b6, rowO [.slice B0 ((l0.filter (fun x => !isA x12f3 x)).length) d0, .slice B1 ((l1.filter (fun x => !isA x12f3 x)).length) d1] 44)]) (L' := L187 :: D :: E0 :: E1 :: F) rfl rfl
                               replace hS := hS.front 4 (C := E1) (L' := [(b6, rowO [.slice B0 ((l0.filter (fun x => !isA x12f3 x)).length) d0, .slice B1 ((l1.filter (fun x => !isA x12f3 x)).length) d1] 44)] :: L187 :: D :: E0 :: F) rfl rfl
                               replace hS := hS.front 4 (C := E0) (L' := E1 :: [(b6, rowO [.slice B0 ((l0.filter (fun x => !isA x12f3 x)).length) d0, .slice B1 ((l1.filter (fun x => !isA x12f3 x)).length) d1] 44)] :: L187 :: D :: F) rfl rfl
                               replace hS := hS.front 4 (C := D) (L' := E0 :: E1 :: [(b6, rowO [.slice B0 ((l0.filter (fun x => !isA x12f3 x)).length) d0, .slice B1 ((l1.filter (fun x => !isA x12f3 x)).length) d1] 44)] :: L187 :: F) rfl rfl
                               replace hS := hS.front 4 (C := L187) (L' := D :: E0 :: E1 :: [(b6, rowO [.slice B0 ((l0.filter (fun x => !isA x12f3 x)).length) d0, .slice B1 ((l1.filter (fun x => !isA x12f3 x)).length) d1] 44)] :: F) rfl rfl
                               exact lp_next _ (by omega) ⟨(k + 1), (us.filter (fun x => !isA x12f3 x)), (ps.filter (fun x => !isA x12f3 x)), ((l0.filter (fun x => !isA x12f3 x))), ((l1.filter (fun x => !isA x12f3 x))), L187, D, B0, d0, E0, B1, d1, E1, rfl, (hA.sel [5, 6, 7, 34, 35, 36] rfl), hS, by omega, hM188, hT0, hT1, (dd_flt hdu), (dd_flt hdp), hm0, hm1, (flt_no he0), (flt_no he1), (by omega), (by omega)⟩)
                          · first
                            | (exfalso; omega)
                            | (replace hA := hA.rw 98 (v' := .bool true) rfl (vb_ne_t hc185)
                               refine cd_cond_t hA rfl ?_
                               refine wp_seq ?_
                               refine wp_region_lit ?_
                               refine st_run tbOk 1 hA (e' := (4, .bool false) :: _) rfl ?_; clear hA; intro a hA
                               refine wpList_nil ?_
                               replace hA := hA.sel [4] (e' := [(4, .bool false)]) rfl
                               refine xt_norm ?_
                               refine wp_ret (xb_ret (xt_ret (xb_ret (xt_ret (xt_ret (xb_ret (xt_ret ?_)))))))
                               refine ret1 (fn := Tryd.f6) hA rfl rfl ?_
                               exfalso; omega)))))
  · first
    | (exfalso; omega)
    | (replace hA := hA.rw 37 (v' := .bool false) rfl (vb_false hc9)
       refine cd_cond_f hA rfl ?_
       refine wp_exit ?_
       refine xt_exit ?_
       refine xt_exit ?_
       refine cd_exit_eq ?_
       refine xt_norm ?_
       refine wp_seq ?_
       refine wp_region_lit ?_
       refine st_run tbOk 1 hA (e' := (4, .bool true) :: _) rfl ?_; clear hA; intro a hA
       refine wpList_nil ?_
       replace hA := hA.sel [4] (e' := [(4, .bool true)]) rfl
       refine xt_norm ?_
       refine wp_ret ?_
       refine ret1 (fn := Tryd.f6) hA rfl rfl ?_
       replace hS := hS.drop1
       replace hS := hS.drop1
       replace hS := hS.drop1
       replace hS := hS.drop1
       replace hS := hS.drop1
       exact ⟨rfl, hS⟩)
end Go.Proofs.YtjmnajcjbimbiaaDoor
