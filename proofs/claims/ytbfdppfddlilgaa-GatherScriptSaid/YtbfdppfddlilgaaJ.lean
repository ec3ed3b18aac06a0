import Derived.Test.YtbfdppfddlilgaaH
set_option linter.unusedVariables false
set_option linter.unusedSimpArgs false
set_option maxRecDepth 4000
namespace Go.Proofs.Ytbfdppfddlilgaa
open Go Go.SK
set_option maxHeartbeats 4000000 in
theorem add_new16_put9 {w0 w : World} {F : List Chunk} {L D : Chunk} {b : Nat} {vs : List GV} (hS : St w0 w (L :: D :: F)) (hM : GS w0 b vs L D) (fr to id : Int) (ix cn : Nat) {d : Value} {bs : List UInt8} (hd : RdSX w0 (D :: F) 1 d bs.length (rows encB bs)) (h1 : ix < cn) (h2 : cn ≤ 256) (h3 : bs.length ≤ 32768) (hno : ∀ (i : Nat) (z : GV), vs[i]? = some z → ¬ vkey fr to id z) (hl : vs.length = 16) (hany : ((List.replicate cn false).set ix true).any (fun y => y == false) = true) :
    Ret Try.prog 9 #[.pointer (some ⟨b, 0, none⟩), .agg #[.int .i64 fr, .int .i64 to, .int .u64 id, .int .i64 ((ix : Nat) : Int), .int .i64 ((cn : Nat) : Int), d]] w (fun v w' => ∃ L' E, GS w0 b (vs.drop 1 ++ [(fr, to, id, (List.replicate cn false).set ix true, (List.replicate cn []).set ix bs)]) L' (E ++ D) ∧ v = .tuple #[.slice none 0 0, .bool false] ∧ St w0 w' (L' :: (E ++ D) :: F)) := by
  obtain ⟨ps, v, C, R, hO, rfl, hR, hI, hdd, rfl⟩ := hM
  obtain ⟨A, c, rfl, hmc, hcx⟩ := hO.open'
  replace hS : St w0 w ([(b, rowO [.slice A ps.length c] 33)] :: C :: R :: D :: F) := hS.split3
  obtain ⟨B, d', rfl, hmd, hdx⟩ := (hd _ (hS.tail 3 rfl)).open'
  rw [List.length_map] at hl
  refine enter (vs := [.pointer (some ⟨b, 0, none⟩), .agg #[.int .i64 fr, .int .i64 to, .int .u64 id, .int .i64 ((ix : Nat) : Int), .int .i64 ((cn : Nat) : Int), .slice B bs.length d']]) 137 Try.func9 rfl rfl (by simp) ?_; intro a hA
  refine wp_seq ?_
  refine wp_region_lit ?_
  refine st_box hA hS [.int .i64 fr, .int .i64 to, .int .u64 id, .int .i64 ((ix : Nat) : Int), .int .i64 ((cn : Nat) : Int), .slice B bs.length d'] rfl rfl rfl rfl rfl (by decide) ?_; clear hA hS; intro b1 w2 a hS hA
  refine st_run tbOk 2 hA (e' := (5, .bool false) :: (4, .slice none 0 0) :: _) rfl ?_; clear hA; intro a hA
  refine wpList_nil ?_
  replace hA := hA.sel [0, 3] (e' := [(0, .pointer (some ⟨b, 0, none⟩)), (3, .pointer (some ⟨b1, 0, none⟩))]) rfl
  refine xt_norm ?_
  refine wp_seq ?_
  refine wp_seq ?_
  refine wp_region_lit ?_
  refine st_val hA rfl rfl (by decide) (rn_loadA tbOk hA [.int .i64 fr, .int .i64 to, .int .u64 id, .int .i64 ((ix : Nat) : Int), .int .i64 ((cn : Nat) : Int), .slice B bs.length d'] rfl rfl rfl rfl rfl (cells_row (hS.heapAt 0 rfl) rfl)) ?_; clear hA; intro a hA
  refine st_call0 hA rfl rfl rfl isfn12 rfl rfl (by decide) (may12 hS fr to id ((ix : Nat) : Int) ((cn : Nat) : Int) B d' bs) ?_
  clear hA hS; rintro v w3 a ⟨rfl, hS⟩ hA
  have hc4 : 1 ≤ ((cn : Nat) : Int) ∧ ((cn : Nat) : Int) ≤ 256 ∧ 0 ≤ ((ix : Nat) : Int) ∧ ((ix : Nat) : Int) < ((cn : Nat) : Int) ∧ bs.length ≤ 32768 := by omega
  replace hA := hA.rw 11 (v' := .bool true) rfl (vb_true hc4)
  refine st_run tbOk 1 hA (e' := (12, .bool false) :: _) rfl ?_; clear hA; intro a hA
  refine wpList_nil ?_
  replace hA := hA.sel [0, 3, 12] (e' := [(0, .pointer (some ⟨b, 0, none⟩)), (3, .pointer (some ⟨b1, 0, none⟩)), (12, .bool false)]) rfl
  refine xt_norm ?_
  refine cd_cond_f hA rfl ?_
  refine wp_skip ?_
  refine xt_norm ?_
  refine wp_seq ?_
  refine wp_region_lit ?_
  refine st_run tbOk 1 hA (e' := (13, .pointer (some ⟨b, 0, none⟩)) :: _) rfl ?_; clear hA; intro a hA
  refine st_val hA rfl rfl (by decide) (rn_loadA tbOk hA [.int .i64 fr, .int .i64 to, .int .u64 id, .int .i64 ((ix : Nat) : Int), .int .i64 ((cn : Nat) : Int), .slice B bs.length d'] rfl rfl rfl rfl rfl (cells_row (hS.heapAt 0 rfl) rfl)) ?_; clear hA; intro a hA
  replace hS := hS.front 2 (C := C) (L' := [(b1, rowO [.int .i64 fr, .int .i64 to, .int .u64 id, .int .i64 ((ix : Nat) : Int), .int .i64 ((cn : Nat) : Int), .slice B bs.length d'] 38)] :: [(b, rowO [.slice A ps.length c] 33)] :: R :: D :: F) rfl rfl
  replace hS := hS.front 2 (C := [(b, rowO [.slice A ps.length c] 33)]) (L' := C :: [(b1, rowO [.int .i64 fr, .int .i64 to, .int .u64 id, .int .i64 ((ix : Nat) : Int), .int .i64 ((cn : Nat) : Int), .slice B bs.length d'] 38)] :: R :: D :: F) rfl rfl
  refine st_call0 hA rfl rfl rfl isfn14 rfl rfl (by decide) (find14 hS hO fr to id _ _ _) ?_
  clear hA hS; rintro v w5 a ⟨rfl, hS⟩ hA
  have hix := idx_none (p := fun x => gkey fr to id x) (l := ps) (fun i y hy => gkey_no (k := ps.length) (fun i z _ hz => hno i z hz) i y (List.getElem?_eq_some_iff.1 hy).1 hy)
  replace hA := hA.rw 15 (v' := .int .i64 (-1)) rfl (vint hix)
  replace hS := hS.front 4 (C := D) (L' := [(b, rowO [.slice A ps.length c] 33)] :: C :: [(b1, rowO [.int .i64 fr, .int .i64 to, .int .u64 id, .int .i64 ((ix : Nat) : Int), .int .i64 ((cn : Nat) : Int), .slice B bs.length d'] 38)] :: R :: F) rfl rfl
  replace hS := hS.front 4 (C := R) (L' := D :: [(b, rowO [.slice A ps.length c] 33)] :: C :: [(b1, rowO [.int .i64 fr, .int .i64 to, .int .u64 id, .int .i64 ((ix : Nat) : Int), .int .i64 ((cn : Nat) : Int), .slice B bs.length d'] 38)] :: F) rfl rfl
  replace hS := hS.front 4 (C := [(b1, rowO [.int .i64 fr, .int .i64 to, .int .u64 id, .int .i64 ((ix : Nat) : Int), .int .i64 ((cn : Nat) : Int), .slice B bs.length d'] 38)]) (L' := R :: D :: [(b, rowO [.slice A ps.length c] 33)] :: C :: F) rfl rfl
  replace hS := hS.front 4 (C := C) (L' := [(b1, rowO [.int .i64 fr, .int .i64 to, .int .u64 id, .int .i64 ((ix : Nat) : Int), .int .i64 ((cn : Nat) : Int), .slice B bs.length d'] 38)] :: R :: D :: [(b, rowO [.slice A ps.length c] 33)] :: F) rfl rfl
  replace hS := hS.front 4 (C := [(b, rowO [.slice A ps.length c] 33)]) (L' := C :: [(b1, rowO [.int .i64 fr, .int .i64 to, .int .u64 id, .int .i64 ((ix : Nat) : Int), .int .i64 ((cn : Nat) : Int), .slice B bs.length d'] 38)] :: R :: D :: F) rfl rfl
  refine st_run tbOk 1 hA (e' := (6, .int .i64 (-1)) :: _) rfl ?_; clear hA; intro a hA
  refine wpList_nil ?_
  replace hA := hA.sel [0, 3, 6] (e' := [(0, .pointer (some ⟨b, 0, none⟩)), (3, .pointer (some ⟨b1, 0, none⟩)), (6, .int .i64 (-1))]) rfl
  refine xt_norm ?_
  refine wp_seq ?_
  refine wp_seq ?_
  refine wp_region_lit ?_
  refine st_run tbOk 2 hA (e' := (17, .bool true) :: (16, .int .i64 (-1)) :: _) rfl ?_; clear hA; intro a hA
  refine wpList_nil ?_
  replace hA := hA.sel [0, 3, 6, 17] (e' := [(0, .pointer (some ⟨b, 0, none⟩)), (3, .pointer (some ⟨b1, 0, none⟩)), (6, .int .i64 (-1)), (17, .bool true)]) rfl
  refine xt_norm ?_
  refine cd_cond_t hA rfl ?_
  refine wp_seq ?_
  refine wp_seq ?_
  refine wp_region_lit ?_
  refine st_run tbOk 3 hA (e' := (20, .pointer (some ⟨b, 0, none⟩)) :: (19, .pointer (some ⟨b, 0, none⟩)) :: (18, .pointer (some ⟨b, 0, none⟩)) :: _) rfl ?_; clear hA; intro a hA
  refine st_val hA rfl rfl (by decide) (rn_load tbOk hA rfl rfl rfl rfl (cell_row (hS.heapAt 0 rfl) rfl)) ?_; clear hA; intro a hA
  refine st_run tbOk 2 hA (e' := (23, .bool (((ps.length : Nat) : Int) == 16)) :: (22, .int .i64 ((ps.length : Nat) : Int)) :: _) rfl ?_; clear hA; intro a hA
  refine wpList_nil ?_
  replace hA := hA.sel [0, 3, 23] (e' := [(0, .pointer (some ⟨b, 0, none⟩)), (3, .pointer (some ⟨b1, 0, none⟩)), (23, .bool (((ps.length : Nat) : Int) == 16))]) rfl
  refine xt_norm ?_
  have hc6 : ((ps.length : Nat) : Int) = 16 := by omega
  replace hA := hA.rw 23 (v' := .bool true) rfl (vb_eq_t hc6)
  refine cd_cond_t hA rfl ?_
  refine wp_region_lit ?_
  refine st_run tbOk 4 hA (e' := (27, .pointer (some ⟨b, 0, none⟩)) :: (26, .pointer (some ⟨b, 0, none⟩)) :: (25, .pointer (some ⟨b, 0, none⟩)) :: (24, .pointer (some ⟨b, 0, none⟩)) :: _) rfl ?_; clear hA; intro a hA
  refine st_val hA rfl rfl (by decide) (rn_load tbOk hA rfl rfl rfl rfl (cell_row (hS.heapAt 0 rfl) rfl)) ?_; clear hA; intro a hA
  replace hS := hS.front 1 (C := C) (L' := [(b, rowO [.slice A ps.length c] 33)] :: [(b1, rowO [.int .i64 fr, .int .i64 to, .int .u64 id, .int .i64 ((ix : Nat) : Int), .int .i64 ((cn : Nat) : Int), .slice B bs.length d'] 38)] :: R :: D :: F) rfl rfl
  refine st_call0 hA rfl rfl rfl isfn15 rfl rfl (by decide) (delete15 hS (l := ps) hO 0 (1) (by omega) (by omega)) ?_
  clear hA hS; rintro v7 w8 a ⟨C9, hO9, hS⟩ hA
  obtain ⟨A10, c11, rfl, hmc11, hxc11⟩ := hO9.open'
  have hl : ps.take 0 ++ ps.drop (1) = (ps.drop 1) := rfl
  rw [hl] at hO9; rw [hl] at hA
  replace hS := hS.front 4 (C := D) (L' := C9 :: [(b, rowO [.slice A ps.length c] 33)] :: [(b1, rowO [.int .i64 fr, .int .i64 to, .int .u64 id, .int .i64 ((ix : Nat) : Int), .int .i64 ((cn : Nat) : Int), .slice B bs.length d'] 38)] :: R :: F) rfl rfl
  replace hS := hS.front 4 (C := R) (L' := D :: C9 :: [(b, rowO [.slice A ps.length c] 33)] :: [(b1, rowO [.int .i64 fr, .int .i64 to, .int .u64 id, .int .i64 ((ix : Nat) : Int), .int .i64 ((cn : Nat) : Int), .slice B bs.length d'] 38)] :: F) rfl rfl
  replace hS := hS.front 4 (C := [(b1, rowO [.int .i64 fr, .int .i64 to, .int .u64 id, .int .i64 ((ix : Nat) : Int), .int .i64 ((cn : Nat) : Int), .slice B bs.length d'] 38)]) (L' := R :: D :: C9 :: [(b, rowO [.slice A ps.length c] 33)] :: F) rfl rfl
  replace hS := hS.front 4 (C := [(b, rowO [.slice A ps.length c] 33)]) (L' := [(b1, rowO [.int .i64 fr, .int .i64 to, .int .u64 id, .int .i64 ((ix : Nat) : Int), .int .i64 ((cn : Nat) : Int), .slice B bs.length d'] 38)] :: R :: D :: C9 :: F) rfl rfl
  replace hS := hS.front 4 (C := C9) (L' := [(b, rowO [.slice A ps.length c] 33)] :: [(b1, rowO [.int .i64 fr, .int .i64 to, .int .u64 id, .int .i64 ((ix : Nat) : Int), .int .i64 ((cn : Nat) : Int), .slice B bs.length d'] 38)] :: R :: D :: F) rfl rfl
  refine st_run tbOk 2 hA (e' := (31, .pointer (some ⟨b, 0, none⟩)) :: (30, .pointer (some ⟨b, 0, none⟩)) :: _) rfl ?_; clear hA; intro a hA
  replace hS := hS.front 1 (C := [(b, rowO [.slice A ps.length c] 33)]) (L' := C9 :: [(b1, rowO [.int .i64 fr, .int .i64 to, .int .u64 id, .int .i64 ((ix : Nat) : Int), .int .i64 ((cn : Nat) : Int), .slice B bs.length d'] 38)] :: R :: D :: F) rfl rfl
  refine st_store tbOk hA hS [.slice A10 ((ps.drop 1).length) c11] [.slice A10 ((ps.drop 1).length) c11] rfl rfl rfl rfl rfl rfl (by intro u hu; rw [List.mem_singleton.1 hu]; rfl) (Nat.le_of_ble_eq_true rfl) rfl rfl rfl ?_; clear hS; intro w12 hS
  refine wpList_nil ?_
  replace hA := hA.sel [0, 3] (e' := [(0, .pointer (some ⟨b, 0, none⟩)), (3, .pointer (some ⟨b1, 0, none⟩))]) rfl
  refine xt_norm ?_
  refine wp_seq ?_
  refine wp_region_lit ?_
  replace hS := hS.front 3 (C := R) (L' := [(b, rowO [.slice A10 ((ps.drop 1).length) c11] 33)] :: C9 :: [(b1, rowO [.int .i64 fr, .int .i64 to, .int .u64 id, .int .i64 ((ix : Nat) : Int), .int .i64 ((cn : Nat) : Int), .slice B bs.length d'] 38)] :: D :: F) rfl rfl
  obtain ⟨R9, Q, rfl, hR9, hQ⟩ := PO.cut (l := ps.take 1) (m := ps.drop 1) (by rw [List.take_append_drop]; exact hR)
  replace hS := hS.split
  replace hS := hS.drop1
  replace hS := hS.front 4 (C := D) (L' := Q :: [(b, rowO [.slice A10 ((ps.drop 1).length) c11] 33)] :: C9 :: [(b1, rowO [.int .i64 fr, .int .i64 to, .int .u64 id, .int .i64 ((ix : Nat) : Int), .int .i64 ((cn : Nat) : Int), .slice B bs.length d'] 38)] :: F) rfl rfl
  replace hS := hS.front 4 (C := [(b1, rowO [.int .i64 fr, .int .i64 to, .int .u64 id, .int .i64 ((ix : Nat) : Int), .int .i64 ((cn : Nat) : Int), .slice B bs.length d'] 38)]) (L' := D :: Q :: [(b, rowO [.slice A10 ((ps.drop 1).length) c11] 33)] :: C9 :: F) rfl rfl
  replace hS := hS.front 4 (C := C9) (L' := [(b1, rowO [.int .i64 fr, .int .i64 to, .int .u64 id, .int .i64 ((ix : Nat) : Int), .int .i64 ((cn : Nat) : Int), .slice B bs.length d'] 38)] :: D :: Q :: [(b, rowO [.slice A10 ((ps.drop 1).length) c11] 33)] :: F) rfl rfl
  replace hS := hS.front 4 (C := [(b, rowO [.slice A10 ((ps.drop 1).length) c11] 33)]) (L' := C9 :: [(b1, rowO [.int .i64 fr, .int .i64 to, .int .u64 id, .int .i64 ((ix : Nat) : Int), .int .i64 ((cn : Nat) : Int), .slice B bs.length d'] 38)] :: D :: Q :: F) rfl rfl
  replace hS := hS.front 4 (C := Q) (L' := [(b, rowO [.slice A10 ((ps.drop 1).length) c11] 33)] :: C9 :: [(b1, rowO [.int .i64 fr, .int .i64 to, .int .u64 id, .int .i64 ((ix : Nat) : Int), .int .i64 ((cn : Nat) : Int), .slice B bs.length d'] 38)] :: D :: F) rfl rfl
  refine st_run tbOk 3 hA (e' := (34, .pointer (some ⟨b, 0, none⟩)) :: (33, .pointer (some ⟨b, 0, none⟩)) :: (32, .pointer (some ⟨b, 0, none⟩)) :: _) rfl ?_; clear hA; intro a hA
  refine st_val hA rfl rfl (by decide) (rn_load tbOk hA rfl rfl rfl rfl (cell_row (hS.heapAt 1 rfl) rfl)) ?_; clear hA; intro a hA
  refine st_run tbOk 2 hA (e' := (6, .int .i64 (((ps.drop 1).length : Nat) : Int)) :: (36, .int .i64 (((ps.drop 1).length : Nat) : Int)) :: _) rfl ?_; clear hA; intro a hA
  refine wpList_nil ?_
  replace hA := hA.sel [0, 3, 6] (e' := [(0, .pointer (some ⟨b, 0, none⟩)), (3, .pointer (some ⟨b1, 0, none⟩)), (6, .int .i64 (((ps.drop 1).length : Nat) : Int))]) rfl
  refine xt_norm ?_
  replace hS := hS.front 2 (C := C9) (L' := Q :: [(b, rowO [.slice A10 ((ps.drop 1).length) c11] 33)] :: [(b1, rowO [.int .i64 fr, .int .i64 to, .int .u64 id, .int .i64 ((ix : Nat) : Int), .int .i64 ((cn : Nat) : Int), .slice B bs.length d'] 38)] :: D :: F) rfl rfl
  refine wp_drawN (fun w' => St w0 w' (Q :: [(b, rowO [.slice A10 ((ps.drop 1).length) c11] 33)] :: [(b1, rowO [.int .i64 fr, .int .i64 to, .int .u64 id, .int .i64 ((ix : Nat) : Int), .int .i64 ((cn : Nat) : Int), .slice B bs.length d'] 38)] :: D :: F)) [22] [(0, true), (1, true), (2, true), (3, true), (4, true), (5, true), (6, true), (7, true), (8, true), (9, true), (10, true), (11, true), (12, true), (14, true), (15, true)] 13 (.L [(16, false), (17, true), (18, false), (19, false), (20, true), (21, true), (22, false)]) 16 (.L [(13, false), (17, true), (18, false), (19, false), (20, true), (21, true), (22, false)]) mixed (by kernel_rfl) (by rintro c a w ⟨_, _, h, _⟩; cases h) (by rfl) (by kernel_rfl) ?_
  replace hS := hS.drew
  refine dr_run tbOk 4 hA (hS.tail 1 rfl) (e' := (40, .pointer (some ⟨b, 0, none⟩)) :: (39, .pointer (some ⟨b, 0, none⟩)) :: (38, .pointer (some ⟨b, 0, none⟩)) :: (37, .pointer (some ⟨b, 0, none⟩)) :: _) rfl ?_; clear hA; intro a hA
  refine dr_y hA rfl rfl rfl (by decide) (hS.tail 1 rfl) (fun w' hS' => rn_load tbOk hA rfl rfl rfl rfl (cell_row (hS'.heapAt 1 rfl) rfl)) ?_; clear hA; intro a hA
  refine dr_run tbOk 1 hA (hS.tail 1 rfl) (e' := (42, .pointer (some ⟨b1, 0, none⟩)) :: _) rfl ?_; clear hA; intro a hA
  refine dr_y hA rfl rfl rfl (by decide) (hS.tail 1 rfl) (fun w' hS' => rn_load tbOk hA rfl rfl rfl rfl (cell_row (hS'.heapAt 2 rfl) rfl)) ?_; clear hA; intro a hA
  refine dr_run tbOk 1 hA (hS.tail 1 rfl) (e' := (44, .pointer (some ⟨b1, 1, none⟩)) :: _) rfl ?_; clear hA; intro a hA
  refine dr_y hA rfl rfl rfl (by decide) (hS.tail 1 rfl) (fun w' hS' => rn_load tbOk hA rfl rfl rfl rfl (cell_row (hS'.heapAt 2 rfl) rfl)) ?_; clear hA; intro a hA
  refine dr_run tbOk 1 hA (hS.tail 1 rfl) (e' := (46, .pointer (some ⟨b1, 2, none⟩)) :: _) rfl ?_; clear hA; intro a hA
  refine dr_y hA rfl rfl rfl (by decide) (hS.tail 1 rfl) (fun w' hS' => rn_load tbOk hA rfl rfl rfl rfl (cell_row (hS'.heapAt 2 rfl) rfl)) ?_; clear hA; intro a hA
  refine dr_run tbOk 1 hA (hS.tail 1 rfl) (e' := (48, .pointer (some ⟨b1, 4, none⟩)) :: _) rfl ?_; clear hA; intro a hA
  refine dr_y hA rfl rfl rfl (by decide) (hS.tail 1 rfl) (fun w' hS' => rn_load tbOk hA rfl rfl rfl rfl (cell_row (hS'.heapAt 2 rfl) rfl)) ?_; clear hA; intro a hA
  refine dr_run tbOk 1 hA (hS.tail 1 rfl) (e' := (51, .pointer (some ⟨b1, 4, none⟩)) :: _) rfl ?_; clear hA; intro a hA
  refine dr_y hA rfl rfl rfl (by decide) (hS.tail 1 rfl) (fun w' hS' => rn_load tbOk hA rfl rfl rfl rfl (cell_row (hS'.heapAt 2 rfl) rfl)) ?_; clear hA; intro a hA
  refine dr_fork ?_ ?_
  · refine dr_b (o := _) rfl ?_
    refine st_makeSlice tbOk hA hS cn encBo_ok (by decide) false rfl rfl rfl rfl rfl rfl rfl rfl (by show 1 * cn ≤ 281474976710656; omega) (by omega) rfl rfl (by decide) ?_; clear hA hS; intro b13 w14 a hS hA
    obtain ⟨C15, hO15, hS⟩ : ∃ Cq9, Own 4 1 (.slice (some ⟨b13, 0, none⟩) cn cn) cn (rows encBo (List.replicate cn false)) Cq9 ∧ St w0 w14 (Cq9 :: C9 :: Q :: [(b, rowO [.slice A10 ((ps.drop 1).length) c11] 33)] :: [(b1, rowO [.int .i64 fr, .int .i64 to, .int .u64 id, .int .i64 ((ix : Nat) : Int), .int .i64 ((cn : Nat) : Int), .slice B bs.length d'] 38)] :: D :: F) := ⟨_, Own.full (by rw [rows_length encBo_ok, List.length_replicate]) (by show cn ≤ 9223372036854775807; omega), hS⟩
    generalize (some (⟨b13, 0, none⟩ : Addr)) = A16 at hO15 hA
    refine dr_nil (.inr (hS.tail 2 rfl)) ?_
    refine dr_subL ?_
    refine dr_b (o := _) rfl ?_
    refine st_makeSlice tbOk hA hS cn encPacket_ok (by decide) (0, 0, 0, 0, 0, none, 0, ([] : List UInt8)) rfl rfl rfl rfl rfl rfl rfl rfl (by show 64 * cn ≤ 281474976710656; omega) (by omega) rfl rfl (by decide) ?_; clear hA hS; intro b17 w18 a hS hA
    obtain ⟨C19, hO19, hS⟩ : ∃ Cq9, Own 38 6 (.slice (some ⟨b17, 0, none⟩) cn cn) cn (rows encPacket (List.replicate cn (0, 0, 0, 0, 0, none, 0, ([] : List UInt8)))) Cq9 ∧ St w0 w18 (Cq9 :: C15 :: C9 :: Q :: [(b, rowO [.slice A10 ((ps.drop 1).length) c11] 33)] :: [(b1, rowO [.int .i64 fr, .int .i64 to, .int .u64 id, .int .i64 ((ix : Nat) : Int), .int .i64 ((cn : Nat) : Int), .slice B bs.length d'] 38)] :: D :: F) := ⟨_, Own.full (by rw [rows_length encPacket_ok, List.length_replicate]) (by show cn ≤ 9223372036854775807; omega), hS⟩
    generalize (some (⟨b17, 0, none⟩ : Addr)) = A20 at hO19 hA
    refine dr_nil (.inr (hS.tail 3 rfl)) ?_
    replace hA := hA.rw 50 (v' := .slice A16 ((List.replicate cn false).length) cn) rfl (by rw [List.length_replicate])
    replace hA := hA.rw 53 (v' := .slice A20 ((List.replicate cn ((0, 0, 0, 0, 0, none, 0, ([] : List UInt8)) : Pkt)).length) cn) rfl (by rw [List.length_replicate])
    refine dr_y hA rfl rfl rfl (by decide) (hS.tail 3 rfl) (fun w' hS' => rn_build tbOk hA rfl rfl rfl rfl rfl rfl rfl) ?_; clear hA; intro a hA
    refine dr_b (o := _) rfl ?_
    refine st_buildSlice tbOk hA hS [.int .i64 fr, .int .i64 to, .int .u64 id, .slice A16 ((List.replicate cn false).length) cn, .slice A20 ((List.replicate cn ((0, 0, 0, 0, 0, none, 0, ([] : List UInt8)) : Pkt)).length) cn] rfl rfl rfl rfl rfl (by decide) (by kernel_rfl) rfl rfl (by decide) ?_; clear hA hS; intro b21 w22 a hS hA
    refine dr_nil (.inr (hS.tail 4 rfl)) ?_
    refine dr_b (o := _) rfl ?_
    replace hS := hS.front 3 (C := C9) (L' := [(b21, rowO [.int .i64 fr, .int .i64 to, .int .u64 id, .slice A16 ((List.replicate cn false).length) cn, .slice A20 ((List.replicate cn ((0, 0, 0, 0, 0, none, 0, ([] : List UInt8)) : Pkt)).length) cn] 55)] :: C19 :: C15 :: Q :: [(b, rowO [.slice A10 ((ps.drop 1).length) c11] 33)] :: [(b1, rowO [.int .i64 fr, .int .i64 to, .int .u64 id, .int .i64 ((ix : Nat) : Int), .int .i64 ((cn : Nat) : Int), .slice B bs.length d'] 38)] :: D :: F) rfl rfl
    refine st_append tbOk hA (m := (ps.drop 1).length) (q := 1) (xs := rows encPart (ps.drop 1)) (news := rows encPart ([(fr, to, id, A16, cn, (List.replicate cn false), A20, cn, (List.replicate cn ((0, 0, 0, 0, 0, none, 0, ([] : List UInt8)) : Pkt)))] : List (Int × Int × Int × Option Addr × Nat × List Bool × Option Addr × Nat × List Pkt))) rfl rfl rfl rfl rfl rfl rfl rfl (by decide) hO9 hS (((Own.full (T := 55) (size := 5) (g := b21) (m := 1) rfl (by decide)).rd (hS.own_ 1 rfl)).x) (rows_one encPart_ok _) (maxLen_le (by first | omega | (simp; omega))) (by show ((ps.drop 1).length + 1) * 72 ≤ 140737488355328; first | omega | (simp; omega)) rfl rfl (by decide) ?_
    clear hA hS; intro v23 w24 C25 a hO25 hS hA
    replace hO25 := Own.app (l := (ps.drop 1)) (l2 := ([(fr, to, id, A16, cn, (List.replicate cn false), A20, cn, (List.replicate cn ((0, 0, 0, 0, 0, none, 0, ([] : List UInt8)) : Pkt)))] : List (Int × Int × Int × Option Addr × Nat × List Bool × Option Addr × Nat × List Pkt))) hO25
    obtain ⟨A26, c27, rfl, hmc27, hxc27⟩ := hO25.open'
    refine dr_nil (.inr (hS.tail 4 rfl)) ?_
    refine dr_run tbOk 2 hA (hS.tail 4 rfl) (e' := (58, .pointer (some ⟨b, 0, none⟩)) :: (57, .pointer (some ⟨b, 0, none⟩)) :: _) rfl ?_; clear hA; intro a hA
    refine dr_b (o := _) rfl ?_
    replace hS := hS.front 5 (C := [(b, rowO [.slice A10 ((ps.drop 1).length) c11] 33)]) (L' := C25 :: [(b21, rowO [.int .i64 fr, .int .i64 to, .int .u64 id, .slice A16 ((List.replicate cn false).length) cn, .slice A20 ((List.replicate cn ((0, 0, 0, 0, 0, none, 0, ([] : List UInt8)) : Pkt)).length) cn] 55)] :: C19 :: C15 :: Q :: [(b1, rowO [.int .i64 fr, .int .i64 to, .int .u64 id, .int .i64 ((ix : Nat) : Int), .int .i64 ((cn : Nat) : Int), .slice B bs.length d'] 38)] :: D :: F) rfl rfl
    refine st_store tbOk hA hS [.slice A26 (((ps.drop 1) ++ ([(fr, to, id, A16, cn, (List.replicate cn false), A20, cn, (List.replicate cn ((0, 0, 0, 0, 0, none, 0, ([] : List UInt8)) : Pkt)))] : List (Int × Int × Int × Option Addr × Nat × List Bool × Option Addr × Nat × List Pkt))).length) c27] [.slice A26 (((ps.drop 1) ++ ([(fr, to, id, A16, cn, (List.replicate cn false), A20, cn, (List.replicate cn ((0, 0, 0, 0, 0, none, 0, ([] : List UInt8)) : Pkt)))] : List (Int × Int × Int × Option Addr × Nat × List Bool × Option Addr × Nat × List Pkt))).length) c27] rfl rfl rfl rfl rfl rfl (by intro u hu; rw [List.mem_singleton.1 hu]; rfl) (Nat.le_of_ble_eq_true rfl) rfl rfl rfl ?_; clear hS; intro w28 hS
    refine dr_nil (.inl (by decide)) ?_
    refine dr_end ?_
    replace hA := hA.sel [0, 3, 6] (e' := [(0, .pointer (some ⟨b, 0, none⟩)), (3, .pointer (some ⟨b1, 0, none⟩)), (6, .int .i64 (((ps.drop 1).length : Nat) : Int))]) rfl
    refine xt_norm ?_
    refine wp_seq ?_
    refine wp_region_lit ?_
    obtain ⟨k, hk⟩ : ∃ k, k = (ps.drop 1).length := ⟨_, rfl⟩
    replace hA := hA.rw 6 (v' := .int .i64 ((k : Nat) : Int)) rfl (by rw [hk])
    have hdl9 : (ps.drop 1).length = ps.length - 1 := List.length_drop
    obtain ⟨qs, hqs⟩ : ∃ qs, qs = (ps.drop 1) ++ ([(fr, to, id, A16, cn, (List.replicate cn false), A20, cn, (List.replicate cn ((0, 0, 0, 0, 0, none, 0, ([] : List UInt8)) : Pkt)))] : List (Int × Int × Int × Option Addr × Nat × List Bool × Option Addr × Nat × List Pkt)) := ⟨_, rfl⟩
    rw [← hqs] at hO25 hS
    have hx : qs[k]? = some (fr, to, id, A16, cn, (List.replicate cn false), A20, cn, (List.replicate cn ((0, 0, 0, 0, 0, none, 0, ([] : List UInt8)) : Pkt))) := by rw [hqs, hk]; simp
    have hkl : k < qs.length := (List.getElem?_eq_some_iff.1 hx).1
    have hPI : PI (fr, to, id, A16, cn, (List.replicate cn false), A20, cn, (List.replicate cn ((0, 0, 0, 0, 0, none, 0, ([] : List UInt8)) : Pkt))) := PI.fresh (by omega) (by omega)
    have hR1 : PO (qs.take k) Q := by rw [hqs, hk, List.take_left]; exact hQ
    have hR2 : PO (qs.drop (k + 1)) [] := by rw [hqs, List.drop_eq_nil_of_le (by rw [hk, List.length_append]; exact Nat.le_refl _)]; exact rfl
    have hpk2 : ∀ y ∈ (List.replicate cn ((0, 0, 0, 0, 0, none, 0, ([] : List UInt8)) : Pkt)), encPacket_dd w0 D y := fun y hy => by rw [List.eq_of_mem_replicate hy]; exact DD.nil
    have hI2 : ∀ y ∈ qs, PI y := by rw [hqs]; exact snoc_all (drop_all 1 hI) hPI
    have hdd2 : ∀ z ∈ qs, ∀ y ∈ ppk z, encPacket_dd w0 D y := by rw [hqs]; exact snoc_all (x := (fr, to, id, A16, cn, (List.replicate cn false), A20, cn, (List.replicate cn ((0, 0, 0, 0, 0, none, 0, ([] : List UInt8)) : Pkt)))) (drop_all 1 hdd) hpk2
    have hhl9 : (List.replicate cn false).length = cn := List.length_replicate
    have hpl9 : (List.replicate cn ((0, 0, 0, 0, 0, none, 0, ([] : List UInt8)) : Pkt)).length = cn := List.length_replicate
    have hF : (List.replicate cn false)[ix]? = some false := by rw [List.getElem?_replicate, if_pos (by omega)]
    have hOhN : Own 4 1 (.slice A16 (List.replicate cn false).length cn) (List.replicate cn false).length (rows encBo (List.replicate cn false)) C15 := by rw [List.length_replicate]; exact hO15
    have hOpN : Own 38 6 (.slice A20 (List.replicate cn ((0, 0, 0, 0, 0, none, 0, ([] : List UInt8)) : Pkt)).length cn) (List.replicate cn ((0, 0, 0, 0, 0, none, 0, ([] : List UInt8)) : Pkt)).length (rows encPacket (List.replicate cn ((0, 0, 0, 0, 0, none, 0, ([] : List UInt8)) : Pkt))) C19 := by rw [List.length_replicate]; exact hO19
    replace hS := hS.nil
    replace hS := hS.front 8 (C := D) (L' := [] :: [(b, rowO [.slice A26 qs.length c27] 33)] :: C25 :: [(b21, rowO [.int .i64 fr, .int .i64 to, .int .u64 id, .slice A16 ((List.replicate cn false).length) cn, .slice A20 ((List.replicate cn ((0, 0, 0, 0, 0, none, 0, ([] : List UInt8)) : Pkt)).length) cn] 55)] :: C19 :: C15 :: Q :: [(b1, rowO [.int .i64 fr, .int .i64 to, .int .u64 id, .int .i64 ((ix : Nat) : Int), .int .i64 ((cn : Nat) : Int), .slice B bs.length d'] 38)] :: F) rfl rfl
    replace hS := hS.front 8 (C := [(b1, rowO [.int .i64 fr, .int .i64 to, .int .u64 id, .int .i64 ((ix : Nat) : Int), .int .i64 ((cn : Nat) : Int), .slice B bs.length d'] 38)]) (L' := D :: [] :: [(b, rowO [.slice A26 qs.length c27] 33)] :: C25 :: [(b21, rowO [.int .i64 fr, .int .i64 to, .int .u64 id, .slice A16 ((List.replicate cn false).length) cn, .slice A20 ((List.replicate cn ((0, 0, 0, 0, 0, none, 0, ([] : List UInt8)) : Pkt)).length) cn] 55)] :: C19 :: C15 :: Q :: F) rfl rfl
    replace hS := hS.front 8 (C := Q) (L' := [(b1, rowO [.int .i64 fr, .int .i64 to, .int .u64 id, .int .i64 ((ix : Nat) : Int), .int .i64 ((cn : Nat) : Int), .slice B bs.length d'] 38)] :: D :: [] :: [(b, rowO [.slice A26 qs.length c27] 33)] :: C25 :: [(b21, rowO [.int .i64 fr, .int .i64 to, .int .u64 id, .slice A16 ((List.replicate cn false).length) cn, .slice A20 ((List.replicate cn ((0, 0, 0, 0, 0, none, 0, ([] : List UInt8)) : Pkt)).length) cn] 55)] :: C19 :: C15 :: F) rfl rfl
    replace hS := hS.front 8 (C := C15) (L' := Q :: [(b1, rowO [.int .i64 fr, .int .i64 to, .int .u64 id, .int .i64 ((ix : Nat) : Int), .int .i64 ((cn : Nat) : Int), .slice B bs.length d'] 38)] :: D :: [] :: [(b, rowO [.slice A26 qs.length c27] 33)] :: C25 :: [(b21, rowO [.int .i64 fr, .int .i64 to, .int .u64 id, .slice A16 ((List.replicate cn false).length) cn, .slice A20 ((List.replicate cn ((0, 0, 0, 0, 0, none, 0, ([] : List UInt8)) : Pkt)).length) cn] 55)] :: C19 :: F) rfl rfl
    replace hS := hS.front 8 (C := C19) (L' := C15 :: Q :: [(b1, rowO [.int .i64 fr, .int .i64 to, .int .u64 id, .int .i64 ((ix : Nat) : Int), .int .i64 ((cn : Nat) : Int), .slice B bs.length d'] 38)] :: D :: [] :: [(b, rowO [.slice A26 qs.length c27] 33)] :: C25 :: [(b21, rowO [.int .i64 fr, .int .i64 to, .int .u64 id, .slice A16 ((List.replicate cn false).length) cn, .slice A20 ((List.replicate cn ((0, 0, 0, 0, 0, none, 0, ([] : List UInt8)) : Pkt)).length) cn] 55)] :: F) rfl rfl
    replace hS := hS.front 8 (C := [(b21, rowO [.int .i64 fr, .int .i64 to, .int .u64 id, .slice A16 ((List.replicate cn false).length) cn, .slice A20 ((List.replicate cn ((0, 0, 0, 0, 0, none, 0, ([] : List UInt8)) : Pkt)).length) cn] 55)]) (L' := C19 :: C15 :: Q :: [(b1, rowO [.int .i64 fr, .int .i64 to, .int .u64 id, .int .i64 ((ix : Nat) : Int), .int .i64 ((cn : Nat) : Int), .slice B bs.length d'] 38)] :: D :: [] :: [(b, rowO [.slice A26 qs.length c27] 33)] :: C25 :: F) rfl rfl
    replace hS := hS.front 8 (C := C25) (L' := [(b21, rowO [.int .i64 fr, .int .i64 to, .int .u64 id, .slice A16 ((List.replicate cn false).length) cn, .slice A20 ((List.replicate cn ((0, 0, 0, 0, 0, none, 0, ([] : List UInt8)) : Pkt)).length) cn] 55)] :: C19 :: C15 :: Q :: [(b1, rowO [.int .i64 fr, .int .i64 to, .int .u64 id, .int .i64 ((ix : Nat) : Int), .int .i64 ((cn : Nat) : Int), .slice B bs.length d'] 38)] :: D :: [] :: [(b, rowO [.slice A26 qs.length c27] 33)] :: F) rfl rfl
    replace hS := hS.front 8 (C := [(b, rowO [.slice A26 qs.length c27] 33)]) (L' := C25 :: [(b21, rowO [.int .i64 fr, .int .i64 to, .int .u64 id, .slice A16 ((List.replicate cn false).length) cn, .slice A20 ((List.replicate cn ((0, 0, 0, 0, 0, none, 0, ([] : List UInt8)) : Pkt)).length) cn] 55)] :: C19 :: C15 :: Q :: [(b1, rowO [.int .i64 fr, .int .i64 to, .int .u64 id, .int .i64 ((ix : Nat) : Int), .int .i64 ((cn : Nat) : Int), .slice B bs.length d'] 38)] :: D :: [] :: F) rfl rfl
    replace hS := hS.front 8 (C := []) (L' := [(b, rowO [.slice A26 qs.length c27] 33)] :: C25 :: [(b21, rowO [.int .i64 fr, .int .i64 to, .int .u64 id, .slice A16 ((List.replicate cn false).length) cn, .slice A20 ((List.replicate cn ((0, 0, 0, 0, 0, none, 0, ([] : List UInt8)) : Pkt)).length) cn] 55)] :: C19 :: C15 :: Q :: [(b1, rowO [.int .i64 fr, .int .i64 to, .int .u64 id, .int .i64 ((ix : Nat) : Int), .int .i64 ((cn : Nat) : Int), .slice B bs.length d'] 38)] :: D :: F) rfl rfl
    refine st_run tbOk 3 hA (e' := (61, .pointer (some ⟨b, 0, none⟩)) :: (60, .pointer (some ⟨b, 0, none⟩)) :: (59, .pointer (some ⟨b, 0, none⟩)) :: _) rfl ?_; clear hA; intro a hA
    refine st_val hA rfl rfl (by decide) (rn_load tbOk hA rfl rfl rfl rfl (cell_row (hS.heapAt 1 rfl) rfl)) ?_; clear hA; intro a hA
    refine st_run tbOk 1 hA (e' := (63, .int .i64 ((k : Nat) : Int)) :: _) rfl ?_; clear hA; intro a hA
    obtain ⟨b29, o30, rfl⟩ := hO25.isSome (k := k) (by omega)
    refine st_val hA rfl rfl (by decide) (rn_indexAddr tbOk hA k (o30 + (k * 5)) rfl rfl rfl rfl rfl rfl (by rfl) (by omega) (by first | rfl | simp [Nat.mul_one, Nat.zero_add] | omega)) ?_; clear hA; intro a hA
    refine st_run tbOk 1 hA (e' := (7, .pointer (some ⟨b29, o30 + (k * 5), none⟩)) :: _) rfl ?_; clear hA; intro a hA
    refine wpList_nil ?_
    replace hA := hA.sel [0, 3, 6, 7] (e' := [(0, .pointer (some ⟨b, 0, none⟩)), (3, .pointer (some ⟨b1, 0, none⟩)), (6, .int .i64 ((k : Nat) : Int)), (7, .pointer (some ⟨b29, o30 + (k * 5), none⟩))]) rfl
    refine xt_norm ?_
    refine wp_seq ?_
    refine wp_seq ?_
    obtain ⟨b31, o32, rfl⟩ := hOhN.isSome (k := ix) (by omega)
    refine wp_draw (fun w' => St w0 w' ([] :: [(b, rowO [.slice (some ⟨b29, o30, none⟩) qs.length c27] 33)] :: C25 :: [(b21, rowO [.int .i64 fr, .int .i64 to, .int .u64 id, .slice (some ⟨b31, o32, none⟩) ((List.replicate cn false).length) cn, .slice A20 ((List.replicate cn ((0, 0, 0, 0, 0, none, 0, ([] : List UInt8)) : Pkt)).length) cn] 55)] :: C19 :: C15 :: Q :: [(b1, rowO [.int .i64 fr, .int .i64 to, .int .u64 id, .int .i64 ((ix : Nat) : Int), .int .i64 ((cn : Nat) : Int), .slice B bs.length d'] 38)] :: D :: F)) [] [(0, true), (1, true), (2, true), (3, true), (4, true), (5, true), (6, true), (7, true), (8, true), (9, true), (10, true), (11, true), (12, true), (13, true), (14, true), (15, true), (16, true), (17, true)] mixed (by kernel_rfl) (by rintro c a w ⟨_, _, h, _⟩; cases h) (by rfl) (by kernel_rfl) ?_
    replace hS := hS.drew
    refine dr_run tbOk 3 hA hS (e' := (67, .pointer (some ⟨b29, o30 + (k * 5) + 3, none⟩)) :: (66, .pointer (some ⟨b29, o30 + (k * 5), none⟩)) :: (65, .pointer (some ⟨b29, o30 + (k * 5), none⟩)) :: _) rfl ?_; clear hA; intro a hA
    refine dr_y hA rfl rfl rfl (by decide) hS (fun w' hS' => rn_load tbOk hA rfl rfl rfl rfl ((hO25.rd (hS'.own_ 2 rfl)).elemf (k := k) encPart_ok hx (j := 3) rfl)) ?_; clear hA; intro a hA
    refine dr_run tbOk 2 hA hS (e' := (70, .pointer (some ⟨b1, 4, none⟩)) :: (69, .int .i64 (((List.replicate cn false).length : Nat) : Int)) :: _) rfl ?_; clear hA; intro a hA
    refine dr_y hA rfl rfl rfl (by decide) hS (fun w' hS' => rn_load tbOk hA rfl rfl rfl rfl (cell_row (hS'.heapAt 7 rfl) rfl)) ?_; clear hA; intro a hA
    refine dr_run tbOk 2 hA hS (e' := (73, .bool ((((List.replicate cn false).length : Nat) : Int) != ((cn : Nat) : Int))) :: (72, .bool ((((List.replicate cn false).length : Nat) : Int) != ((cn : Nat) : Int))) :: _) rfl ?_; clear hA; intro a hA
    have hc33 : (((List.replicate cn false).length : Nat) : Int) = ((cn : Nat) : Int) := by omega
    replace hA := hA.rw 72 (v' := .bool false) rfl (vb_ne_f hc33)
    replace hA := hA.rw 73 (v' := .bool false) rfl (vb_ne_f hc33)
    refine dr_run tbOk 3 hA hS (e' := (76, .pointer (some ⟨b29, o30 + (k * 5) + 3, none⟩)) :: (75, .pointer (some ⟨b29, o30 + (k * 5), none⟩)) :: (74, .pointer (some ⟨b29, o30 + (k * 5), none⟩)) :: _) rfl ?_; clear hA; intro a hA
    refine dr_y hA rfl rfl rfl (by decide) hS (fun w' hS' => rn_load tbOk hA rfl rfl rfl rfl ((hO25.rd (hS'.own_ 2 rfl)).elemf (k := k) encPart_ok hx (j := 3) rfl)) ?_; clear hA; intro a hA
    refine dr_run tbOk 1 hA hS (e' := (78, .pointer (some ⟨b1, 3, none⟩)) :: _) rfl ?_; clear hA; intro a hA
    refine dr_y hA rfl rfl rfl (by decide) hS (fun w' hS' => rn_load tbOk hA rfl rfl rfl rfl (cell_row (hS'.heapAt 7 rfl) rfl)) ?_; clear hA; intro a hA
    replace hA := hA.rw 77 (v' := .slice (some ⟨b31, o32, none⟩) ((List.replicate cn false).length) cn) rfl rfl
    refine dr_y hA rfl rfl rfl (by decide) hS (fun w' hS' => rn_indexAddr tbOk hA ix (o32 + ix) rfl rfl rfl rfl rfl rfl (by rfl) (by omega) (by first | rfl | simp [Nat.mul_one, Nat.zero_add] | omega)) ?_; clear hA; intro a hA
    refine dr_y hA rfl rfl rfl (by decide) hS (fun w' hS' => rn_load tbOk hA rfl rfl rfl rfl ((hOhN.rd (hS'.own_ 5 rfl)).elem0 (k := ix) encBo_ok hF rfl)) ?_; clear hA; intro a hA
    refine dr_run tbOk 1 hA hS (e' := (82, .bool false) :: _) rfl ?_; clear hA; intro a hA
    refine dr_end ?_
    replace hA := hA.sel [0, 3, 6, 7, 82] (e' := [(0, .pointer (some ⟨b, 0, none⟩)), (3, .pointer (some ⟨b1, 0, none⟩)), (6, .int .i64 ((k : Nat) : Int)), (7, .pointer (some ⟨b29, o30 + (k * 5), none⟩)), (82, .bool false)]) rfl
    refine xt_norm ?_
    refine cd_cond_f hA rfl ?_
    refine wp_skip ?_
    refine xt_norm ?_
    refine wp_seq ?_
    replace hS := hS.front 5 (C := C15) (L' := [] :: [(b, rowO [.slice (some ⟨b29, o30, none⟩) qs.length c27] 33)] :: C25 :: [(b21, rowO [.int .i64 fr, .int .i64 to, .int .u64 id, .slice (some ⟨b31, o32, none⟩) ((List.replicate cn false).length) cn, .slice A20 ((List.replicate cn ((0, 0, 0, 0, 0, none, 0, ([] : List UInt8)) : Pkt)).length) cn] 55)] :: C19 :: Q :: [(b1, rowO [.int .i64 fr, .int .i64 to, .int .u64 id, .int .i64 ((ix : Nat) : Int), .int .i64 ((cn : Nat) : Int), .slice B bs.length d'] 38)] :: D :: F) rfl rfl
    refine wp_draw (fun w' => St w0 w' ([] :: [(b, rowO [.slice (some ⟨b29, o30, none⟩) qs.length c27] 33)] :: C25 :: [(b21, rowO [.int .i64 fr, .int .i64 to, .int .u64 id, .slice (some ⟨b31, o32, none⟩) ((List.replicate cn false).length) cn, .slice A20 ((List.replicate cn ((0, 0, 0, 0, 0, none, 0, ([] : List UInt8)) : Pkt)).length) cn] 55)] :: C19 :: Q :: [(b1, rowO [.int .i64 fr, .int .i64 to, .int .u64 id, .int .i64 ((ix : Nat) : Int), .int .i64 ((cn : Nat) : Int), .slice B bs.length d'] 38)] :: D :: F)) [7] [(0, true), (1, true), (2, true), (3, true), (4, true), (5, true), (6, true), (7, false)] mixed (by kernel_rfl) (by rintro c a w ⟨_, _, h, _⟩; cases h) (by rfl) (by kernel_rfl) ?_
    replace hS := hS.drew
    refine dr_run tbOk 3 hA (hS.tail 1 rfl) (e' := (85, .pointer (some ⟨b29, o30 + (k * 5) + 3, none⟩)) :: (84, .pointer (some ⟨b29, o30 + (k * 5), none⟩)) :: (83, .pointer (some ⟨b29, o30 + (k * 5), none⟩)) :: _) rfl ?_; clear hA; intro a hA
    refine dr_y hA rfl rfl rfl (by decide) (hS.tail 1 rfl) (fun w' hS' => rn_load tbOk hA rfl rfl rfl rfl ((hO25.rd (hS'.own_ 2 rfl)).elemf (k := k) encPart_ok hx (j := 3) rfl)) ?_; clear hA; intro a hA
    refine dr_run tbOk 1 hA (hS.tail 1 rfl) (e' := (87, .pointer (some ⟨b1, 3, none⟩)) :: _) rfl ?_; clear hA; intro a hA
    refine dr_y hA rfl rfl rfl (by decide) (hS.tail 1 rfl) (fun w' hS' => rn_load tbOk hA rfl rfl rfl rfl (cell_row (hS'.heapAt 6 rfl) rfl)) ?_; clear hA; intro a hA
    replace hA := hA.rw 86 (v' := .slice (some ⟨b31, o32, none⟩) ((List.replicate cn false).length) cn) rfl rfl
    refine dr_y hA rfl rfl rfl (by decide) (hS.tail 1 rfl) (fun w' hS' => rn_indexAddr tbOk hA ix (o32 + ix) rfl rfl rfl rfl rfl rfl (by rfl) (by omega) (by first | rfl | simp [Nat.mul_one, Nat.zero_add] | omega)) ?_; clear hA; intro a hA
    refine dr_b (o := _) rfl ?_
    refine st_store_own tbOk hA hOhN hS (ix) (o32 + ix) [.bool true] (rows encBo ((List.replicate cn false).set ix true)) rfl rfl rfl rfl (by rfl) rfl rfl (by intro u hu; rw [List.mem_singleton.1 hu]; rfl) (by simp only [rows_length encBo_ok, rows_length encPacket_ok, List.length_cons, List.length_nil]; omega) (by have := rows_set encBo_ok (x := true) (l := (List.replicate cn false)) (k := ix) (by omega); rw [Nat.mul_one] at this; exact this) rfl rfl ?_; clear hS; intro w34 C35 hO35 hS
    refine dr_nil (.inl (by decide)) ?_
    refine dr_end ?_
    replace hA := hA.sel [0, 3, 6, 7] (e' := [(0, .pointer (some ⟨b, 0, none⟩)), (3, .pointer (some ⟨b1, 0, none⟩)), (6, .int .i64 ((k : Nat) : Int)), (7, .pointer (some ⟨b29, o30 + (k * 5), none⟩))]) rfl
    refine xt_norm ?_
    refine wp_seq ?_
    obtain ⟨b36, o37, rfl⟩ := hOpN.isSome (k := ix) (by omega)
    replace hS := hS.front 5 (C := C19) (L' := C35 :: [] :: [(b, rowO [.slice (some ⟨b29, o30, none⟩) qs.length c27] 33)] :: C25 :: [(b21, rowO [.int .i64 fr, .int .i64 to, .int .u64 id, .slice (some ⟨b31, o32, none⟩) ((List.replicate cn false).length) cn, .slice (some ⟨b36, o37, none⟩) ((List.replicate cn ((0, 0, 0, 0, 0, none, 0, ([] : List UInt8)) : Pkt)).length) cn] 55)] :: Q :: [(b1, rowO [.int .i64 fr, .int .i64 to, .int .u64 id, .int .i64 ((ix : Nat) : Int), .int .i64 ((cn : Nat) : Int), .slice B bs.length d'] 38)] :: D :: F) rfl rfl
    refine wp_draw (fun w' => St w0 w' (C35 :: [] :: [(b, rowO [.slice (some ⟨b29, o30, none⟩) qs.length c27] 33)] :: C25 :: [(b21, rowO [.int .i64 fr, .int .i64 to, .int .u64 id, .slice (some ⟨b31, o32, none⟩) ((List.replicate cn false).length) cn, .slice (some ⟨b36, o37, none⟩) ((List.replicate cn ((0, 0, 0, 0, 0, none, 0, ([] : List UInt8)) : Pkt)).length) cn] 55)] :: Q :: [(b1, rowO [.int .i64 fr, .int .i64 to, .int .u64 id, .int .i64 ((ix : Nat) : Int), .int .i64 ((cn : Nat) : Int), .slice B bs.length d'] 38)] :: D :: F)) [21] [(0, true), (1, true), (2, true), (3, true), (4, true), (5, true), (6, true), (7, true), (8, true), (9, true), (10, true), (11, true), (12, true), (13, true), (14, true), (15, true), (16, true), (17, true), (18, false), (19, true), (20, true), (21, false)] mixed (by kernel_rfl) (by rintro c a w ⟨_, _, h, _⟩; cases h) (by rfl) (by kernel_rfl) ?_
    replace hS := hS.drew
    refine dr_run tbOk 3 hA (hS.tail 1 rfl) (e' := (92, .pointer (some ⟨b29, o30 + (k * 5) + 4, none⟩)) :: (91, .pointer (some ⟨b29, o30 + (k * 5), none⟩)) :: (90, .pointer (some ⟨b29, o30 + (k * 5), none⟩)) :: _) rfl ?_; clear hA; intro a hA
    refine dr_y hA rfl rfl rfl (by decide) (hS.tail 1 rfl) (fun w' hS' => rn_load tbOk hA rfl rfl rfl rfl ((hO25.rd (hS'.own_ 3 rfl)).elemf (k := k) encPart_ok hx (j := 4) rfl)) ?_; clear hA; intro a hA
    refine dr_run tbOk 1 hA (hS.tail 1 rfl) (e' := (94, .pointer (some ⟨b1, 3, none⟩)) :: _) rfl ?_; clear hA; intro a hA
    refine dr_y hA rfl rfl rfl (by decide) (hS.tail 1 rfl) (fun w' hS' => rn_load tbOk hA rfl rfl rfl rfl (cell_row (hS'.heapAt 6 rfl) rfl)) ?_; clear hA; intro a hA
    refine dr_run tbOk 1 hA (hS.tail 1 rfl) (e' := (96, .pointer (some ⟨b1, 0, none⟩)) :: _) rfl ?_; clear hA; intro a hA
    refine dr_y hA rfl rfl rfl (by decide) (hS.tail 1 rfl) (fun w' hS' => rn_load tbOk hA rfl rfl rfl rfl (cell_row (hS'.heapAt 6 rfl) rfl)) ?_; clear hA; intro a hA
    refine dr_run tbOk 1 hA (hS.tail 1 rfl) (e' := (98, .pointer (some ⟨b1, 1, none⟩)) :: _) rfl ?_; clear hA; intro a hA
    refine dr_y hA rfl rfl rfl (by decide) (hS.tail 1 rfl) (fun w' hS' => rn_load tbOk hA rfl rfl rfl rfl (cell_row (hS'.heapAt 6 rfl) rfl)) ?_; clear hA; intro a hA
    refine dr_run tbOk 1 hA (hS.tail 1 rfl) (e' := (100, .pointer (some ⟨b1, 2, none⟩)) :: _) rfl ?_; clear hA; intro a hA
    refine dr_y hA rfl rfl rfl (by decide) (hS.tail 1 rfl) (fun w' hS' => rn_load tbOk hA rfl rfl rfl rfl (cell_row (hS'.heapAt 6 rfl) rfl)) ?_; clear hA; intro a hA
    refine dr_run tbOk 1 hA (hS.tail 1 rfl) (e' := (102, .pointer (some ⟨b1, 3, none⟩)) :: _) rfl ?_; clear hA; intro a hA
    refine dr_y hA rfl rfl rfl (by decide) (hS.tail 1 rfl) (fun w' hS' => rn_load tbOk hA rfl rfl rfl rfl (cell_row (hS'.heapAt 6 rfl) rfl)) ?_; clear hA; intro a hA
    refine dr_run tbOk 1 hA (hS.tail 1 rfl) (e' := (104, .pointer (some ⟨b1, 4, none⟩)) :: _) rfl ?_; clear hA; intro a hA
    refine dr_y hA rfl rfl rfl (by decide) (hS.tail 1 rfl) (fun w' hS' => rn_load tbOk hA rfl rfl rfl rfl (cell_row (hS'.heapAt 6 rfl) rfl)) ?_; clear hA; intro a hA
    refine dr_run tbOk 1 hA (hS.tail 1 rfl) (e' := (106, .pointer (some ⟨b1, 5, none⟩)) :: _) rfl ?_; clear hA; intro a hA
    refine dr_y hA rfl rfl rfl (by decide) (hS.tail 1 rfl) (fun w' hS' => rn_load tbOk hA rfl rfl rfl rfl (cell_row (hS'.heapAt 6 rfl) rfl)) ?_; clear hA; intro a hA
    refine dr_b (o := _) rfl ?_
    refine st_call0 hA rfl rfl rfl isfn16 rfl rfl (by decide) (clonex16 hS (l := bs) (fun w' h => (hd _ (h.tail 8 rfl))) (by first | omega | (simp; omega))) ?_
    clear hA hS; rintro _ w41 a ⟨A38, c39, C40, hOC40, rfl, hS⟩ hA
    refine dr_nil (.inr (hS.tail 2 rfl)) ?_
    refine dr_y hA rfl rfl rfl (by decide) (hS.tail 2 rfl) (fun w' hS' => rn_build tbOk hA rfl rfl rfl rfl rfl rfl rfl) ?_; clear hA; intro a hA
    replace hA := hA.rw 93 (v' := .slice (some ⟨b36, o37, none⟩) ((List.replicate cn ((0, 0, 0, 0, 0, none, 0, ([] : List UInt8)) : Pkt)).length) cn) rfl rfl
    refine dr_y hA rfl rfl rfl (by decide) (hS.tail 2 rfl) (fun w' hS' => rn_indexAddr tbOk hA ix (o37 + (ix * 6)) rfl rfl rfl rfl rfl rfl (by rfl) (by omega) (by first | rfl | simp [Nat.mul_one, Nat.zero_add] | omega)) ?_; clear hA; intro a hA
    refine dr_b (o := _) rfl ?_
    replace hS := hS.front 1 (C := C19) (L' := C40 :: C35 :: [] :: [(b, rowO [.slice (some ⟨b29, o30, none⟩) qs.length c27] 33)] :: C25 :: [(b21, rowO [.int .i64 fr, .int .i64 to, .int .u64 id, .slice (some ⟨b31, o32, none⟩) ((List.replicate cn false).length) cn, .slice (some ⟨b36, o37, none⟩) ((List.replicate cn ((0, 0, 0, 0, 0, none, 0, ([] : List UInt8)) : Pkt)).length) cn] 55)] :: Q :: [(b1, rowO [.int .i64 fr, .int .i64 to, .int .u64 id, .int .i64 ((ix : Nat) : Int), .int .i64 ((cn : Nat) : Int), .slice B bs.length d'] 38)] :: D :: F) rfl rfl
    refine st_store_own tbOk hA hOpN hS ((ix * 6)) (o37 + (ix * 6)) [.int .i64 fr, .int .i64 to, .int .u64 id, .int .i64 ((ix : Nat) : Int), .int .i64 ((cn : Nat) : Int), .slice A38 bs.length c39] (rows encPacket ((List.replicate cn ((0, 0, 0, 0, 0, none, 0, ([] : List UInt8)) : Pkt)).set ix (fr, to, id, ((ix : Nat) : Int), ((cn : Nat) : Int), A38, c39, bs))) rfl rfl rfl rfl (by rfl) rfl rfl (by exact encPacket_ok.one (fr, to, id, ((ix : Nat) : Int), ((cn : Nat) : Int), A38, c39, bs)) (by simp only [rows_length encBo_ok, rows_length encPacket_ok, List.length_cons, List.length_nil]; omega) (rows_set encPacket_ok (x := (fr, to, id, ((ix : Nat) : Int), ((cn : Nat) : Int), A38, c39, bs)) (l := (List.replicate cn ((0, 0, 0, 0, 0, none, 0, ([] : List UInt8)) : Pkt))) (k := ix) (by omega)) rfl rfl ?_; clear hS; intro w42 C43 hO43 hS
    refine dr_nil (.inl (by decide)) ?_
    refine dr_end ?_
    replace hA := hA.sel [0, 6, 7] (e' := [(0, .pointer (some ⟨b, 0, none⟩)), (6, .int .i64 ((k : Nat) : Int)), (7, .pointer (some ⟨b29, o30 + (k * 5), none⟩))]) rfl
    refine xt_norm ?_
    refine wp_seq ?_
    refine wp_seq ?_
    refine wp_region_lit ?_
    refine st_run tbOk 3 hA (e' := (113, .pointer (some ⟨b29, o30 + (k * 5) + 3, none⟩)) :: (112, .pointer (some ⟨b29, o30 + (k * 5), none⟩)) :: (111, .pointer (some ⟨b29, o30 + (k * 5), none⟩)) :: _) rfl ?_; clear hA; intro a hA
    refine st_val hA rfl rfl (by decide) (rn_load tbOk hA rfl rfl rfl rfl ((hO25.rd (hS.own_ 5 rfl)).elemf (k := k) encPart_ok hx (j := 3) rfl)) ?_; clear hA; intro a hA
    have hOh2 : Own 4 1 (.slice (some ⟨b31, o32, none⟩) ((List.replicate cn false).set ix true).length cn) ((List.replicate cn false).set ix true).length (rows encBo ((List.replicate cn false).set ix true)) C35 := by rw [List.length_set]; exact hO35
    replace hA := hA.rw 114 (v' := .slice (some ⟨b31, o32, none⟩) (((List.replicate cn false).set ix true).length) cn) rfl (by rw [List.length_set])
    refine st_call0 hA rfl rfl rfl isfn17 rfl rfl (by decide) (containsb17 hS (l := (List.replicate cn false).set ix true) (RdS.own hOh2 2 rfl)) ?_
    clear hA hS; rintro v w44 a ⟨rfl, hS⟩ hA
    replace hA := hA.rw 115 (v' := .bool true) rfl (congrArg Value.bool hany)
    refine wpList_nil ?_
    replace hA := hA.sel [0, 6, 7, 115] (e' := [(0, .pointer (some ⟨b, 0, none⟩)), (6, .int .i64 ((k : Nat) : Int)), (7, .pointer (some ⟨b29, o30 + (k * 5), none⟩)), (115, .bool true)]) rfl
    refine xt_norm ?_
    refine cd_cond_t hA rfl ?_
    refine wp_seq ?_
    refine wp_region_lit ?_
    refine st_run tbOk 2 hA (e' := (5, .bool false) :: (4, .slice none 0 0) :: _) rfl ?_; clear hA; intro a hA
    refine wpList_nil ?_
    replace hA := hA.sel [4, 5] (e' := [(4, .slice none 0 0), (5, .bool false)]) rfl
    refine xt_norm ?_
    refine wp_ret (xt_ret ?_)
    refine ret2 (fn := Try.f9) hA rfl rfl rfl ?_
    have hOp2 : Own 38 6 (.slice (some ⟨b36, o37, none⟩) ((List.replicate cn ((0, 0, 0, 0, 0, none, 0, ([] : List UInt8)) : Pkt)).set ix (fr, to, id, ((ix : Nat) : Int), ((cn : Nat) : Int), A38, c39, bs)).length cn) ((List.replicate cn ((0, 0, 0, 0, 0, none, 0, ([] : List UInt8)) : Pkt)).set ix (fr, to, id, ((ix : Nat) : Int), ((cn : Nat) : Int), A38, c39, bs)).length (rows encPacket ((List.replicate cn ((0, 0, 0, 0, 0, none, 0, ([] : List UInt8)) : Pkt)).set ix (fr, to, id, ((ix : Nat) : Int), ((cn : Nat) : Int), A38, c39, bs))) C43 := by rw [List.length_set]; exact hO43
    replace hS := hS.front 9 (C := D) (L' := C43 :: C40 :: C35 :: [] :: [(b, rowO [.slice (some ⟨b29, o30, none⟩) qs.length c27] 33)] :: C25 :: [(b21, rowO [.int .i64 fr, .int .i64 to, .int .u64 id, .slice (some ⟨b31, o32, none⟩) ((List.replicate cn false).length) cn, .slice (some ⟨b36, o37, none⟩) ((List.replicate cn ((0, 0, 0, 0, 0, none, 0, ([] : List UInt8)) : Pkt)).length) cn] 55)] :: Q :: [(b1, rowO [.int .i64 fr, .int .i64 to, .int .u64 id, .int .i64 ((ix : Nat) : Int), .int .i64 ((cn : Nat) : Int), .slice B bs.length d'] 38)] :: F) rfl rfl
    replace hS := hS.front 2 (C := C40) (L' := D :: C43 :: C35 :: [] :: [(b, rowO [.slice (some ⟨b29, o30, none⟩) qs.length c27] 33)] :: C25 :: [(b21, rowO [.int .i64 fr, .int .i64 to, .int .u64 id, .slice (some ⟨b31, o32, none⟩) ((List.replicate cn false).length) cn, .slice (some ⟨b36, o37, none⟩) ((List.replicate cn ((0, 0, 0, 0, 0, none, 0, ([] : List UInt8)) : Pkt)).length) cn] 55)] :: Q :: [(b1, rowO [.int .i64 fr, .int .i64 to, .int .u64 id, .int .i64 ((ix : Nat) : Int), .int .i64 ((cn : Nat) : Int), .slice B bs.length d'] 38)] :: F) rfl rfl
    replace hS := hS.join
    have hdE := (DD.new (w0 := w0) hOC40).right (E := D)
    have hPI2 : PI (fr, to, id, (some ⟨b31, o32, none⟩), cn, (List.replicate cn false).set ix true, (some ⟨b36, o37, none⟩), cn, (List.replicate cn ((0, 0, 0, 0, 0, none, 0, ([] : List UInt8)) : Pkt)).set ix (fr, to, id, ((ix : Nat) : Int), ((cn : Nat) : Int), A38, c39, bs)) := hPI.put (by omega) (by omega) (by omega) _ _
    have hpd : ∀ y ∈ (List.replicate cn ((0, 0, 0, 0, 0, none, 0, ([] : List UInt8)) : Pkt)).set ix (fr, to, id, ((ix : Nat) : Int), ((cn : Nat) : Int), A38, c39, bs), encPacket_dd w0 (C40 ++ D) y := fun y hy => (List.mem_or_eq_of_mem_set hy).elim (fun hy => encPacket_left (hpk2 y hy)) (fun e => by rw [e]; exact hdE)
    replace hS := hS.front 6 (C := [(b21, rowO [.int .i64 fr, .int .i64 to, .int .u64 id, .slice (some ⟨b31, o32, none⟩) ((List.replicate cn false).length) cn, .slice (some ⟨b36, o37, none⟩) ((List.replicate cn ((0, 0, 0, 0, 0, none, 0, ([] : List UInt8)) : Pkt)).length) cn] 55)]) (L' := (C40 ++ D) :: C43 :: C35 :: [] :: [(b, rowO [.slice (some ⟨b29, o30, none⟩) qs.length c27] 33)] :: C25 :: Q :: [(b1, rowO [.int .i64 fr, .int .i64 to, .int .u64 id, .int .i64 ((ix : Nat) : Int), .int .i64 ((cn : Nat) : Int), .slice B bs.length d'] 38)] :: F) rfl rfl
    replace hS := hS.drop1
    replace hS := hS.front 7 (C := [(b1, rowO [.int .i64 fr, .int .i64 to, .int .u64 id, .int .i64 ((ix : Nat) : Int), .int .i64 ((cn : Nat) : Int), .slice B bs.length d'] 38)]) (L' := (C40 ++ D) :: C43 :: C35 :: [] :: [(b, rowO [.slice (some ⟨b29, o30, none⟩) qs.length c27] 33)] :: C25 :: Q :: F) rfl rfl
    replace hS := hS.drop1
    replace hS := hS.front 3 (C := []) (L' := (C40 ++ D) :: C43 :: C35 :: [(b, rowO [.slice (some ⟨b29, o30, none⟩) qs.length c27] 33)] :: C25 :: Q :: F) rfl rfl
    replace hS := hS.front 2 (C := C43) (L' := [] :: (C40 ++ D) :: C35 :: [(b, rowO [.slice (some ⟨b29, o30, none⟩) qs.length c27] 33)] :: C25 :: Q :: F) rfl rfl
    replace hS := hS.front 3 (C := C35) (L' := C43 :: [] :: (C40 ++ D) :: [(b, rowO [.slice (some ⟨b29, o30, none⟩) qs.length c27] 33)] :: C25 :: Q :: F) rfl rfl
    replace hS := hS.front 6 (C := Q) (L' := C35 :: C43 :: [] :: (C40 ++ D) :: [(b, rowO [.slice (some ⟨b29, o30, none⟩) qs.length c27] 33)] :: C25 :: F) rfl rfl
    replace hS := hS.front 6 (C := C25) (L' := Q :: C35 :: C43 :: [] :: (C40 ++ D) :: [(b, rowO [.slice (some ⟨b29, o30, none⟩) qs.length c27] 33)] :: F) rfl rfl
    replace hS := hS.front 6 (C := [(b, rowO [.slice (some ⟨b29, o30, none⟩) qs.length c27] 33)]) (L' := C25 :: Q :: C35 :: C43 :: [] :: (C40 ++ D) :: F) rfl rfl
    replace hS := hS.front 5 (C := []) (L' := [(b, rowO [.slice (some ⟨b29, o30, none⟩) qs.length c27] 33)] :: C25 :: Q :: C35 :: C43 :: (C40 ++ D) :: F) rfl rfl
    replace hS := hS.front 5 (C := C43) (L' := [] :: [(b, rowO [.slice (some ⟨b29, o30, none⟩) qs.length c27] 33)] :: C25 :: Q :: C35 :: (C40 ++ D) :: F) rfl rfl
    replace hS := hS.join
    replace hS := hS.front 4 (C := C35) (L' := (C43 ++ []) :: [(b, rowO [.slice (some ⟨b29, o30, none⟩) qs.length c27] 33)] :: C25 :: Q :: (C40 ++ D) :: F) rfl rfl
    replace hS := hS.join
    replace hS := hS.front 3 (C := Q) (L' := (C35 ++ (C43 ++ [])) :: [(b, rowO [.slice (some ⟨b29, o30, none⟩) qs.length c27] 33)] :: C25 :: (C40 ++ D) :: F) rfl rfl
    replace hS := hS.join
    replace hS := hS.front 2 (C := C25) (L' := (Q ++ (C35 ++ (C43 ++ []))) :: [(b, rowO [.slice (some ⟨b29, o30, none⟩) qs.length c27] 33)] :: (C40 ++ D) :: F) rfl rfl
    replace hS := hS.front 2 (C := [(b, rowO [.slice (some ⟨b29, o30, none⟩) qs.length c27] 33)]) (L' := C25 :: (Q ++ (C35 ++ (C43 ++ []))) :: (C40 ++ D) :: F) rfl rfl
    replace hS := hS.join3
    have hOO : Own 55 5 (.slice (some ⟨b29, o30, none⟩) (qs).length c27) ((qs).set k (fr, to, id, (some ⟨b31, o32, none⟩), cn, (List.replicate cn false).set ix true, (some ⟨b36, o37, none⟩), cn, (List.replicate cn ((0, 0, 0, 0, 0, none, 0, ([] : List UInt8)) : Pkt)).set ix (fr, to, id, ((ix : Nat) : Int), ((cn : Nat) : Int), A38, c39, bs))).length (rows encPart ((qs).set k (fr, to, id, (some ⟨b31, o32, none⟩), cn, (List.replicate cn false).set ix true, (some ⟨b36, o37, none⟩), cn, (List.replicate cn ((0, 0, 0, 0, 0, none, 0, ([] : List UInt8)) : Pkt)).set ix (fr, to, id, ((ix : Nat) : Int), ((cn : Nat) : Int), A38, c39, bs)))) C25 := by rw [List.length_set, rows_same hx (by simp [encPart])]; exact hO25
    have hmp : ((qs).set k (fr, to, id, (some ⟨b31, o32, none⟩), cn, (List.replicate cn false).set ix true, (some ⟨b36, o37, none⟩), cn, (List.replicate cn ((0, 0, 0, 0, 0, none, 0, ([] : List UInt8)) : Pkt)).set ix (fr, to, id, ((ix : Nat) : Int), ((cn : Nat) : Int), A38, c39, bs))).map gv = (ps.map gv).drop 1 ++ [(fr, to, id, (List.replicate cn false).set ix true, (List.replicate cn []).set ix bs)] := by rw [List.map_set]; rw [hqs, new_set hk, show gv (fr, to, id, (some ⟨b31, o32, none⟩), cn, (List.replicate cn false).set ix true, (some ⟨b36, o37, none⟩), cn, (List.replicate cn ((0, 0, 0, 0, 0, none, 0, ([] : List UInt8)) : Pkt)).set ix (fr, to, id, ((ix : Nat) : Int), ((cn : Nat) : Int), A38, c39, bs)) = (fr, to, id, (List.replicate cn false).set ix true, (List.replicate cn []).set ix bs) from by simp only [gv, phas, ppk, List.map_set, List.map_replicate]; rfl, List.map_drop]
    exact ⟨_, C40, ⟨_, _, _, _, hOO, rfl, PO.put (y := (fr, to, id, (some ⟨b31, o32, none⟩), cn, (List.replicate cn false).set ix true, (some ⟨b36, o37, none⟩), cn, (List.replicate cn ((0, 0, 0, 0, 0, none, 0, ([] : List UInt8)) : Pkt)).set ix (fr, to, id, ((ix : Nat) : Int), ((cn : Nat) : Int), A38, c39, bs))) hR1 hOh2 hOp2 hR2 hkl, set_all hI2 hPI2, part_dd (k := k) (x := (fr, to, id, (some ⟨b31, o32, none⟩), cn, (List.replicate cn false).set ix true, (some ⟨b36, o37, none⟩), cn, (List.replicate cn ((0, 0, 0, 0, 0, none, 0, ([] : List UInt8)) : Pkt)).set ix (fr, to, id, ((ix : Nat) : Int), ((cn : Nat) : Int), A38, c39, bs))) hdd2 rfl hpk2 hdE, hmp⟩, rfl, hS⟩
  · refine dr_b (o := _) rfl ?_
    refine st_makeSlice tbOk hA hS cn encPacket_ok (by decide) (0, 0, 0, 0, 0, none, 0, ([] : List UInt8)) rfl rfl rfl rfl rfl rfl rfl rfl (by show 64 * cn ≤ 281474976710656; omega) (by omega) rfl rfl (by decide) ?_; clear hA hS; intro b45 w46 a hS hA
    obtain ⟨C47, hO47, hS⟩ : ∃ Cq9, Own 38 6 (.slice (some ⟨b45, 0, none⟩) cn cn) cn (rows encPacket (List.replicate cn (0, 0, 0, 0, 0, none, 0, ([] : List UInt8)))) Cq9 ∧ St w0 w46 (Cq9 :: C9 :: Q :: [(b, rowO [.slice A10 ((ps.drop 1).length) c11] 33)] :: [(b1, rowO [.int .i64 fr, .int .i64 to, .int .u64 id, .int .i64 ((ix : Nat) : Int), .int .i64 ((cn : Nat) : Int), .slice B bs.length d'] 38)] :: D :: F) := ⟨_, Own.full (by rw [rows_length encPacket_ok, List.length_replicate]) (by show cn ≤ 9223372036854775807; omega), hS⟩
    generalize (some (⟨b45, 0, none⟩ : Addr)) = A48 at hO47 hA
    refine dr_nil (.inr (hS.tail 2 rfl)) ?_
    refine dr_subL ?_
    refine dr_b (o := _) rfl ?_
    refine st_makeSlice tbOk hA hS cn encBo_ok (by decide) false rfl rfl rfl rfl rfl rfl rfl rfl (by show 1 * cn ≤ 281474976710656; omega) (by omega) rfl rfl (by decide) ?_; clear hA hS; intro b49 w50 a hS hA
    obtain ⟨C51, hO51, hS⟩ : ∃ Cq9, Own 4 1 (.slice (some ⟨b49, 0, none⟩) cn cn) cn (rows encBo (List.replicate cn false)) Cq9 ∧ St w0 w50 (Cq9 :: C47 :: C9 :: Q :: [(b, rowO [.slice A10 ((ps.drop 1).length) c11] 33)] :: [(b1, rowO [.int .i64 fr, .int .i64 to, .int .u64 id, .int .i64 ((ix : Nat) : Int), .int .i64 ((cn : Nat) : Int), .slice B bs.length d'] 38)] :: D :: F) := ⟨_, Own.full (by rw [rows_length encBo_ok, List.length_replicate]) (by show cn ≤ 9223372036854775807; omega), hS⟩
    generalize (some (⟨b49, 0, none⟩ : Addr)) = A52 at hO51 hA
    refine dr_nil (.inr (hS.tail 3 rfl)) ?_
    replace hA := hA.rw 50 (v' := .slice A52 ((List.replicate cn false).length) cn) rfl (by rw [List.length_replicate])
    replace hA := hA.rw 53 (v' := .slice A48 ((List.replicate cn ((0, 0, 0, 0, 0, none, 0, ([] : List UInt8)) : Pkt)).length) cn) rfl (by rw [List.length_replicate])
    refine dr_y hA rfl rfl rfl (by decide) (hS.tail 3 rfl) (fun w' hS' => rn_build tbOk hA rfl rfl rfl rfl rfl rfl rfl) ?_; clear hA; intro a hA
    refine dr_b (o := _) rfl ?_
    refine st_buildSlice tbOk hA hS [.int .i64 fr, .int .i64 to, .int .u64 id, .slice A52 ((List.replicate cn false).length) cn, .slice A48 ((List.replicate cn ((0, 0, 0, 0, 0, none, 0, ([] : List UInt8)) : Pkt)).length) cn] rfl rfl rfl rfl rfl (by decide) (by kernel_rfl) rfl rfl (by decide) ?_; clear hA hS; intro b53 w54 a hS hA
    refine dr_nil (.inr (hS.tail 4 rfl)) ?_
    refine dr_b (o := _) rfl ?_
    replace hS := hS.front 3 (C := C9) (L' := [(b53, rowO [.int .i64 fr, .int .i64 to, .int .u64 id, .slice A52 ((List.replicate cn false).length) cn, .slice A48 ((List.replicate cn ((0, 0, 0, 0, 0, none, 0, ([] : List UInt8)) : Pkt)).length) cn] 55)] :: C51 :: C47 :: Q :: [(b, rowO [.slice A10 ((ps.drop 1).length) c11] 33)] :: [(b1, rowO [.int .i64 fr, .int .i64 to, .int .u64 id, .int .i64 ((ix : Nat) : Int), .int .i64 ((cn : Nat) : Int), .slice B bs.length d'] 38)] :: D :: F) rfl rfl
    refine st_append tbOk hA (m := (ps.drop 1).length) (q := 1) (xs := rows encPart (ps.drop 1)) (news := rows encPart ([(fr, to, id, A52, cn, (List.replicate cn false), A48, cn, (List.replicate cn ((0, 0, 0, 0, 0, none, 0, ([] : List UInt8)) : Pkt)))] : List (Int × Int × Int × Option Addr × Nat × List Bool × Option Addr × Nat × List Pkt))) rfl rfl rfl rfl rfl rfl rfl rfl (by decide) hO9 hS (((Own.full (T := 55) (size := 5) (g := b53) (m := 1) rfl (by decide)).rd (hS.own_ 1 rfl)).x) (rows_one encPart_ok _) (maxLen_le (by first | omega | (simp; omega))) (by show ((ps.drop 1).length + 1) * 72 ≤ 140737488355328; first | omega | (simp; omega)) rfl rfl (by decide) ?_
    clear hA hS; intro v55 w56 C57 a hO57 hS hA
    replace hO57 := Own.app (l := (ps.drop 1)) (l2 := ([(fr, to, id, A52, cn, (List.replicate cn false), A48, cn, (List.replicate cn ((0, 0, 0, 0, 0, none, 0, ([] : List UInt8)) : Pkt)))] : List (Int × Int × Int × Option Addr × Nat × List Bool × Option Addr × Nat × List Pkt))) hO57
    obtain ⟨A58, c59, rfl, hmc59, hxc59⟩ := hO57.open'
    refine dr_nil (.inr (hS.tail 4 rfl)) ?_
    refine dr_run tbOk 2 hA (hS.tail 4 rfl) (e' := (58, .pointer (some ⟨b, 0, none⟩)) :: (57, .pointer (some ⟨b, 0, none⟩)) :: _) rfl ?_; clear hA; intro a hA
    refine dr_b (o := _) rfl ?_
    replace hS := hS.front 5 (C := [(b, rowO [.slice A10 ((ps.drop 1).length) c11] 33)]) (L' := C57 :: [(b53, rowO [.int .i64 fr, .int .i64 to, .int .u64 id, .slice A52 ((List.replicate cn false).length) cn, .slice A48 ((List.replicate cn ((0, 0, 0, 0, 0, none, 0, ([] : List UInt8)) : Pkt)).length) cn] 55)] :: C51 :: C47 :: Q :: [(b1, rowO [.int .i64 fr, .int .i64 to, .int .u64 id, .int .i64 ((ix : Nat) : Int), .int .i64 ((cn : Nat) : Int), .slice B bs.length d'] 38)] :: D :: F) rfl rfl
    refine st_store tbOk hA hS [.slice A58 (((ps.drop 1) ++ ([(fr, to, id, A52, cn, (List.replicate cn false), A48, cn, (List.replicate cn ((0, 0, 0, 0, 0, none, 0, ([] : List UInt8)) : Pkt)))] : List (Int × Int × Int × Option Addr × Nat × List Bool × Option Addr × Nat × List Pkt))).length) c59] [.slice A58 (((ps.drop 1) ++ ([(fr, to, id, A52, cn, (List.replicate cn false), A48, cn, (List.replicate cn ((0, 0, 0, 0, 0, none, 0, ([] : List UInt8)) : Pkt)))] : List (Int × Int × Int × Option Addr × Nat × List Bool × Option Addr × Nat × List Pkt))).length) c59] rfl rfl rfl rfl rfl rfl (by intro u hu; rw [List.mem_singleton.1 hu]; rfl) (Nat.le_of_ble_eq_true rfl) rfl rfl rfl ?_; clear hS; intro w60 hS
    refine dr_nil (.inl (by decide)) ?_
    refine dr_end ?_
    replace hA := hA.sel [0, 3, 6] (e' := [(0, .pointer (some ⟨b, 0, none⟩)), (3, .pointer (some ⟨b1, 0, none⟩)), (6, .int .i64 (((ps.drop 1).length : Nat) : Int))]) rfl
    refine xt_norm ?_
    refine wp_seq ?_
    refine wp_region_lit ?_
    obtain ⟨k, hk⟩ : ∃ k, k = (ps.drop 1).length := ⟨_, rfl⟩
    replace hA := hA.rw 6 (v' := .int .i64 ((k : Nat) : Int)) rfl (by rw [hk])
    have hdl9 : (ps.drop 1).length = ps.length - 1 := List.length_drop
    obtain ⟨qs, hqs⟩ : ∃ qs, qs = (ps.drop 1) ++ ([(fr, to, id, A52, cn, (List.replicate cn false), A48, cn, (List.replicate cn ((0, 0, 0, 0, 0, none, 0, ([] : List UInt8)) : Pkt)))] : List (Int × Int × Int × Option Addr × Nat × List Bool × Option Addr × Nat × List Pkt)) := ⟨_, rfl⟩
    rw [← hqs] at hO57 hS
    have hx : qs[k]? = some (fr, to, id, A52, cn, (List.replicate cn false), A48, cn, (List.replicate cn ((0, 0, 0, 0, 0, none, 0, ([] : List UInt8)) : Pkt))) := by rw [hqs, hk]; simp
    have hkl : k < qs.length := (List.getElem?_eq_some_iff.1 hx).1
    have hPI : PI (fr, to, id, A52, cn, (List.replicate cn false), A48, cn, (List.replicate cn ((0, 0, 0, 0, 0, none, 0, ([] : List UInt8)) : Pkt))) := PI.fresh (by omega) (by omega)
    have hR1 : PO (qs.take k) Q := by rw [hqs, hk, List.take_left]; exact hQ
    have hR2 : PO (qs.drop (k + 1)) [] := by rw [hqs, List.drop_eq_nil_of_le (by rw [hk, List.length_append]; exact Nat.le_refl _)]; exact rfl
    have hpk2 : ∀ y ∈ (List.replicate cn ((0, 0, 0, 0, 0, none, 0, ([] : List UInt8)) : Pkt)), encPacket_dd w0 D y := fun y hy => by rw [List.eq_of_mem_replicate hy]; exact DD.nil
    have hI2 : ∀ y ∈ qs, PI y := by rw [hqs]; exact snoc_all (drop_all 1 hI) hPI
    have hdd2 : ∀ z ∈ qs, ∀ y ∈ ppk z, encPacket_dd w0 D y := by rw [hqs]; exact snoc_all (x := (fr, to, id, A52, cn, (List.replicate cn false), A48, cn, (List.replicate cn ((0, 0, 0, 0, 0, none, 0, ([] : List UInt8)) : Pkt)))) (drop_all 1 hdd) hpk2
    have hhl9 : (List.replicate cn false).length = cn := List.length_replicate
    have hpl9 : (List.replicate cn ((0, 0, 0, 0, 0, none, 0, ([] : List UInt8)) : Pkt)).length = cn := List.length_replicate
    have hF : (List.replicate cn false)[ix]? = some false := by rw [List.getElem?_replicate, if_pos (by omega)]
    have hOhN : Own 4 1 (.slice A52 (List.replicate cn false).length cn) (List.replicate cn false).length (rows encBo (List.replicate cn false)) C51 := by rw [List.length_replicate]; exact hO51
    have hOpN : Own 38 6 (.slice A48 (List.replicate cn ((0, 0, 0, 0, 0, none, 0, ([] : List UInt8)) : Pkt)).length cn) (List.replicate cn ((0, 0, 0, 0, 0, none, 0, ([] : List UInt8)) : Pkt)).length (rows encPacket (List.replicate cn ((0, 0, 0, 0, 0, none, 0, ([] : List UInt8)) : Pkt))) C47 := by rw [List.length_replicate]; exact hO47
    replace hS := hS.nil
    replace hS := hS.front 8 (C := D) (L' := [] :: [(b, rowO [.slice A58 qs.length c59] 33)] :: C57 :: [(b53, rowO [.int .i64 fr, .int .i64 to, .int .u64 id, .slice A52 ((List.replicate cn false).length) cn, .slice A48 ((List.replicate cn ((0, 0, 0, 0, 0, none, 0, ([] : List UInt8)) : Pkt)).length) cn] 55)] :: C51 :: C47 :: Q :: [(b1, rowO [.int .i64 fr, .int .i64 to, .int .u64 id, .int .i64 ((ix : Nat) : Int), .int .i64 ((cn : Nat) : Int), .slice B bs.length d'] 38)] :: F) rfl rfl
    replace hS := hS.front 8 (C := [(b1, rowO [.int .i64 fr, .int .i64 to, .int .u64 id, .int .i64 ((ix : Nat) : Int), .int .i64 ((cn : Nat) : Int), .slice B bs.length d'] 38)]) (L' := D :: [] :: [(b, rowO [.slice A58 qs.length c59] 33)] :: C57 :: [(b53, rowO [.int .i64 fr, .int .i64 to, .int .u64 id, .slice A52 ((List.replicate cn false).length) cn, .slice A48 ((List.replicate cn ((0, 0, 0, 0, 0, none, 0, ([] : List UInt8)) : Pkt)).length) cn] 55)] :: C51 :: C47 :: Q :: F) rfl rfl
    replace hS := hS.front 8 (C := Q) (L' := [(b1, rowO [.int .i64 fr, .int .i64 to, .int .u64 id, .int .i64 ((ix : Nat) : Int), .int .i64 ((cn : Nat) : Int), .slice B bs.length d'] 38)] :: D :: [] :: [(b, rowO [.slice A58 qs.length c59] 33)] :: C57 :: [(b53, rowO [.int .i64 fr, .int .i64 to, .int .u64 id, .slice A52 ((List.replicate cn false).length) cn, .slice A48 ((List.replicate cn ((0, 0, 0, 0, 0, none, 0, ([] : List UInt8)) : Pkt)).length) cn] 55)] :: C51 :: C47 :: F) rfl rfl
    replace hS := hS.front 8 (C := C47) (L' := Q :: [(b1, rowO [.int .i64 fr, .int .i64 to, .int .u64 id, .int .i64 ((ix : Nat) : Int), .int .i64 ((cn : Nat) : Int), .slice B bs.length d'] 38)] :: D :: [] :: [(b, rowO [.slice A58 qs.length c59] 33)] :: C57 :: [(b53, rowO [.int .i64 fr, .int .i64 to, .int .u64 id, .slice A52 ((List.replicate cn false).length) cn, .slice A48 ((List.replicate cn ((0, 0, 0, 0, 0, none, 0, ([] : List UInt8)) : Pkt)).length) cn] 55)] :: C51 :: F) rfl rfl
    replace hS := hS.front 8 (C := C51) (L' := C47 :: Q :: [(b1, rowO [.int .i64 fr, .int .i64 to, .int .u64 id, .int .i64 ((ix : Nat) : Int), .int .i64 ((cn : Nat) : Int), .slice B bs.length d'] 38)] :: D :: [] :: [(b, rowO [.slice A58 qs.length c59] 33)] :: C57 :: [(b53, rowO [.int .i64 fr, .int .i64 to, .int .u64 id, .slice A52 ((List.replicate cn false).length) cn, .slice A48 ((List.replicate cn ((0, 0, 0, 0, 0, none, 0, ([] : List UInt8)) : Pkt)).length) cn] 55)] :: F) rfl rfl
    replace hS := hS.front 8 (C := [(b53, rowO [.int .i64 fr, .int .i64 to, .int .u64 id, .slice A52 ((List.replicate cn false).length) cn, .slice A48 ((List.replicate cn ((0, 0, 0, 0, 0, none, 0, ([] : List UInt8)) : Pkt)).length) cn] 55)]) (L' := C51 :: C47 :: Q :: [(b1, rowO [.int .i64 fr, .int .i64 to, .int .u64 id, .int .i64 ((ix : Nat) : Int), .int .i64 ((cn : Nat) : Int), .slice B bs.length d'] 38)] :: D :: [] :: [(b, rowO [.slice A58 qs.length c59] 33)] :: C57 :: F) rfl rfl
    replace hS := hS.front 8 (C := C57) (L' := [(b53, rowO [.int .i64 fr, .int .i64 to, .int .u64 id, .slice A52 ((List.replicate cn false).length) cn, .slice A48 ((List.replicate cn ((0, 0, 0, 0, 0, none, 0, ([] : List UInt8)) : Pkt)).length) cn] 55)] :: C51 :: C47 :: Q :: [(b1, rowO [.int .i64 fr, .int .i64 to, .int .u64 id, .int .i64 ((ix : Nat) : Int), .int .i64 ((cn : Nat) : Int), .slice B bs.length d'] 38)] :: D :: [] :: [(b, rowO [.slice A58 qs.length c59] 33)] :: F) rfl rfl
    replace hS := hS.front 8 (C := [(b, rowO [.slice A58 qs.length c59] 33)]) (L' := C57 :: [(b53, rowO [.int .i64 fr, .int .i64 to, .int .u64 id, .slice A52 ((List.replicate cn false).length) cn, .slice A48 ((List.replicate cn ((0, 0, 0, 0, 0, none, 0, ([] : List UInt8)) : Pkt)).length) cn] 55)] :: C51 :: C47 :: Q :: [(b1, rowO [.int .i64 fr, .int .i64 to, .int .u64 id, .int .i64 ((ix : Nat) : Int), .int .i64 ((cn : Nat) : Int), .slice B bs.length d'] 38)] :: D :: [] :: F) rfl rfl
    replace hS := hS.front 8 (C := []) (L' := [(b, rowO [.slice A58 qs.length c59] 33)] :: C57 :: [(b53, rowO [.int .i64 fr, .int .i64 to, .int .u64 id, .slice A52 ((List.replicate cn false).length) cn, .slice A48 ((List.replicate cn ((0, 0, 0, 0, 0, none, 0, ([] : List UInt8)) : Pkt)).length) cn] 55)] :: C51 :: C47 :: Q :: [(b1, rowO [.int .i64 fr, .int .i64 to, .int .u64 id, .int .i64 ((ix : Nat) : Int), .int .i64 ((cn : Nat) : Int), .slice B bs.length d'] 38)] :: D :: F) rfl rfl
    refine st_run tbOk 3 hA (e' := (61, .pointer (some ⟨b, 0, none⟩)) :: (60, .pointer (some ⟨b, 0, none⟩)) :: (59, .pointer (some ⟨b, 0, none⟩)) :: _) rfl ?_; clear hA; intro a hA
    refine st_val hA rfl rfl (by decide) (rn_load tbOk hA rfl rfl rfl rfl (cell_row (hS.heapAt 1 rfl) rfl)) ?_; clear hA; intro a hA
    refine st_run tbOk 1 hA (e' := (63, .int .i64 ((k : Nat) : Int)) :: _) rfl ?_; clear hA; intro a hA
    obtain ⟨b61, o62, rfl⟩ := hO57.isSome (k := k) (by omega)
    refine st_val hA rfl rfl (by decide) (rn_indexAddr tbOk hA k (o62 + (k * 5)) rfl rfl rfl rfl rfl rfl (by rfl) (by omega) (by first | rfl | simp [Nat.mul_one, Nat.zero_add] | omega)) ?_; clear hA; intro a hA
    refine st_run tbOk 1 hA (e' := (7, .pointer (some ⟨b61, o62 + (k * 5), none⟩)) :: _) rfl ?_; clear hA; intro a hA
    refine wpList_nil ?_
    replace hA := hA.sel [0, 3, 6, 7] (e' := [(0, .pointer (some ⟨b, 0, none⟩)), (3, .pointer (some ⟨b1, 0, none⟩)), (6, .int .i64 ((k : Nat) : Int)), (7, .pointer (some ⟨b61, o62 + (k * 5), none⟩))]) rfl
    refine xt_norm ?_
    refine wp_seq ?_
    refine wp_seq ?_
    obtain ⟨b63, o64, rfl⟩ := hOhN.isSome (k := ix) (by omega)
    refine wp_draw (fun w' => St w0 w' ([] :: [(b, rowO [.slice (some ⟨b61, o62, none⟩) qs.length c59] 33)] :: C57 :: [(b53, rowO [.int .i64 fr, .int .i64 to, .int .u64 id, .slice (some ⟨b63, o64, none⟩) ((List.replicate cn false).length) cn, .slice A48 ((List.replicate cn ((0, 0, 0, 0, 0, none, 0, ([] : List UInt8)) : Pkt)).length) cn] 55)] :: C51 :: C47 :: Q :: [(b1, rowO [.int .i64 fr, .int .i64 to, .int .u64 id, .int .i64 ((ix : Nat) : Int), .int .i64 ((cn : Nat) : Int), .slice B bs.length d'] 38)] :: D :: F)) [] [(0, true), (1, true), (2, true), (3, true), (4, true), (5, true), (6, true), (7, true), (8, true), (9, true), (10, true), (11, true), (12, true), (13, true), (14, true), (15, true), (16, true), (17, true)] mixed (by kernel_rfl) (by rintro c a w ⟨_, _, h, _⟩; cases h) (by rfl) (by kernel_rfl) ?_
    replace hS := hS.drew
    refine dr_run tbOk 3 hA hS (e' := (67, .pointer (some ⟨b61, o62 + (k * 5) + 3, none⟩)) :: (66, .pointer (some ⟨b61, o62 + (k * 5), none⟩)) :: (65, .pointer (some ⟨b61, o62 + (k * 5), none⟩)) :: _) rfl ?_; clear hA; intro a hA
    refine dr_y hA rfl rfl rfl (by decide) hS (fun w' hS' => rn_load tbOk hA rfl rfl rfl rfl ((hO57.rd (hS'.own_ 2 rfl)).elemf (k := k) encPart_ok hx (j := 3) rfl)) ?_; clear hA; intro a hA
    refine dr_run tbOk 2 hA hS (e' := (70, .pointer (some ⟨b1, 4, none⟩)) :: (69, .int .i64 (((List.replicate cn false).length : Nat) : Int)) :: _) rfl ?_; clear hA; intro a hA
    refine dr_y hA rfl rfl rfl (by decide) hS (fun w' hS' => rn_load tbOk hA rfl rfl rfl rfl (cell_row (hS'.heapAt 7 rfl) rfl)) ?_; clear hA; intro a hA
    refine dr_run tbOk 2 hA hS (e' := (73, .bool ((((List.replicate cn false).length : Nat) : Int) != ((cn : Nat) : Int))) :: (72, .bool ((((List.replicate cn false).length : Nat) : Int) != ((cn : Nat) : Int))) :: _) rfl ?_; clear hA; intro a hA
    have hc65 : (((List.replicate cn false).length : Nat) : Int) = ((cn : Nat) : Int) := by omega
    replace hA := hA.rw 72 (v' := .bool false) rfl (vb_ne_f hc65)
    replace hA := hA.rw 73 (v' := .bool false) rfl (vb_ne_f hc65)
    refine dr_run tbOk 3 hA hS (e' := (76, .pointer (some ⟨b61, o62 + (k * 5) + 3, none⟩)) :: (75, .pointer (some ⟨b61, o62 + (k * 5), none⟩)) :: (74, .pointer (some ⟨b61, o62 + (k * 5), none⟩)) :: _) rfl ?_; clear hA; intro a hA
    refine dr_y hA rfl rfl rfl (by decide) hS (fun w' hS' => rn_load tbOk hA rfl rfl rfl rfl ((hO57.rd (hS'.own_ 2 rfl)).elemf (k := k) encPart_ok hx (j := 3) rfl)) ?_; clear hA; intro a hA
    refine dr_run tbOk 1 hA hS (e' := (78, .pointer (some ⟨b1, 3, none⟩)) :: _) rfl ?_; clear hA; intro a hA
    refine dr_y hA rfl rfl rfl (by decide) hS (fun w' hS' => rn_load tbOk hA rfl rfl rfl rfl (cell_row (hS'.heapAt 7 rfl) rfl)) ?_; clear hA; intro a hA
    replace hA := hA.rw 77 (v' := .slice (some ⟨b63, o64, none⟩) ((List.replicate cn false).length) cn) rfl rfl
    refine dr_y hA rfl rfl rfl (by decide) hS (fun w' hS' => rn_indexAddr tbOk hA ix (o64 + ix) rfl rfl rfl rfl rfl rfl (by rfl) (by omega) (by first | rfl | simp [Nat.mul_one, Nat.zero_add] | omega)) ?_; clear hA; intro a hA
    refine dr_y hA rfl rfl rfl (by decide) hS (fun w' hS' => rn_load tbOk hA rfl rfl rfl rfl ((hOhN.rd (hS'.own_ 4 rfl)).elem0 (k := ix) encBo_ok hF rfl)) ?_; clear hA; intro a hA
    refine dr_run tbOk 1 hA hS (e' := (82, .bool false) :: _) rfl ?_; clear hA; intro a hA
    refine dr_end ?_
    replace hA := hA.sel [0, 3, 6, 7, 82] (e' := [(0, .pointer (some ⟨b, 0, none⟩)), (3, .pointer (some ⟨b1, 0, none⟩)), (6, .int .i64 ((k : Nat) : Int)), (7, .pointer (some ⟨b61, o62 + (k * 5), none⟩)), (82, .bool false)]) rfl
    refine xt_norm ?_
    refine cd_cond_f hA rfl ?_
    refine wp_skip ?_
    refine xt_norm ?_
    refine wp_seq ?_
    replace hS := hS.front 4 (C := C51) (L' := [] :: [(b, rowO [.slice (some ⟨b61, o62, none⟩) qs.length c59] 33)] :: C57 :: [(b53, rowO [.int .i64 fr, .int .i64 to, .int .u64 id, .slice (some ⟨b63, o64, none⟩) ((List.replicate cn false).length) cn, .slice A48 ((List.replicate cn ((0, 0, 0, 0, 0, none, 0, ([] : List UInt8)) : Pkt)).length) cn] 55)] :: C47 :: Q :: [(b1, rowO [.int .i64 fr, .int .i64 to, .int .u64 id, .int .i64 ((ix : Nat) : Int), .int .i64 ((cn : Nat) : Int), .slice B bs.length d'] 38)] :: D :: F) rfl rfl
    refine wp_draw (fun w' => St w0 w' ([] :: [(b, rowO [.slice (some ⟨b61, o62, none⟩) qs.length c59] 33)] :: C57 :: [(b53, rowO [.int .i64 fr, .int .i64 to, .int .u64 id, .slice (some ⟨b63, o64, none⟩) ((List.replicate cn false).length) cn, .slice A48 ((List.replicate cn ((0, 0, 0, 0, 0, none, 0, ([] : List UInt8)) : Pkt)).length) cn] 55)] :: C47 :: Q :: [(b1, rowO [.int .i64 fr, .int .i64 to, .int .u64 id, .int .i64 ((ix : Nat) : Int), .int .i64 ((cn : Nat) : Int), .slice B bs.length d'] 38)] :: D :: F)) [7] [(0, true), (1, true), (2, true), (3, true), (4, true), (5, true), (6, true), (7, false)] mixed (by kernel_rfl) (by rintro c a w ⟨_, _, h, _⟩; cases h) (by rfl) (by kernel_rfl) ?_
    replace hS := hS.drew
    refine dr_run tbOk 3 hA (hS.tail 1 rfl) (e' := (85, .pointer (some ⟨b61, o62 + (k * 5) + 3, none⟩)) :: (84, .pointer (some ⟨b61, o62 + (k * 5), none⟩)) :: (83, .pointer (some ⟨b61, o62 + (k * 5), none⟩)) :: _) rfl ?_; clear hA; intro a hA
    refine dr_y hA rfl rfl rfl (by decide) (hS.tail 1 rfl) (fun w' hS' => rn_load tbOk hA rfl rfl rfl rfl ((hO57.rd (hS'.own_ 2 rfl)).elemf (k := k) encPart_ok hx (j := 3) rfl)) ?_; clear hA; intro a hA
    refine dr_run tbOk 1 hA (hS.tail 1 rfl) (e' := (87, .pointer (some ⟨b1, 3, none⟩)) :: _) rfl ?_; clear hA; intro a hA
    refine dr_y hA rfl rfl rfl (by decide) (hS.tail 1 rfl) (fun w' hS' => rn_load tbOk hA rfl rfl rfl rfl (cell_row (hS'.heapAt 6 rfl) rfl)) ?_; clear hA; intro a hA
    replace hA := hA.rw 86 (v' := .slice (some ⟨b63, o64, none⟩) ((List.replicate cn false).length) cn) rfl rfl
    refine dr_y hA rfl rfl rfl (by decide) (hS.tail 1 rfl) (fun w' hS' => rn_indexAddr tbOk hA ix (o64 + ix) rfl rfl rfl rfl rfl rfl (by rfl) (by omega) (by first | rfl | simp [Nat.mul_one, Nat.zero_add] | omega)) ?_; clear hA; intro a hA
    refine dr_b (o := _) rfl ?_
    refine st_store_own tbOk hA hOhN hS (ix) (o64 + ix) [.bool true] (rows encBo ((List.replicate cn false).set ix true)) rfl rfl rfl rfl (by rfl) rfl rfl (by intro u hu; rw [List.mem_singleton.1 hu]; rfl) (by simp only [rows_length encBo_ok, rows_length encPacket_ok, List.length_cons, List.length_nil]; omega) (by have := rows_set encBo_ok (x := true) (l := (List.replicate cn false)) (k := ix) (by omega); rw [Nat.mul_one] at this; exact this) rfl rfl ?_; clear hS; intro w66 C67 hO67 hS
    refine dr_nil (.inl (by decide)) ?_
    refine dr_end ?_
    replace hA := hA.sel [0, 3, 6, 7] (e' := [(0, .pointer (some ⟨b, 0, none⟩)), (3, .pointer (some ⟨b1, 0, none⟩)), (6, .int .i64 ((k : Nat) : Int)), (7, .pointer (some ⟨b61, o62 + (k * 5), none⟩))]) rfl
    refine xt_norm ?_
    refine wp_seq ?_
    obtain ⟨b68, o69, rfl⟩ := hOpN.isSome (k := ix) (by omega)
    replace hS := hS.front 5 (C := C47) (L' := C67 :: [] :: [(b, rowO [.slice (some ⟨b61, o62, none⟩) qs.length c59] 33)] :: C57 :: [(b53, rowO [.int .i64 fr, .int .i64 to, .int .u64 id, .slice (some ⟨b63, o64, none⟩) ((List.replicate cn false).length) cn, .slice (some ⟨b68, o69, none⟩) ((List.replicate cn ((0, 0, 0, 0, 0, none, 0, ([] : List UInt8)) : Pkt)).length) cn] 55)] :: Q :: [(b1, rowO [.int .i64 fr, .int .i64 to, .int .u64 id, .int .i64 ((ix : Nat) : Int), .int .i64 ((cn : Nat) : Int), .slice B bs.length d'] 38)] :: D :: F) rfl rfl
    refine wp_draw (fun w' => St w0 w' (C67 :: [] :: [(b, rowO [.slice (some ⟨b61, o62, none⟩) qs.length c59] 33)] :: C57 :: [(b53, rowO [.int .i64 fr, .int .i64 to, .int .u64 id, .slice (some ⟨b63, o64, none⟩) ((List.replicate cn false).length) cn, .slice (some ⟨b68, o69, none⟩) ((List.replicate cn ((0, 0, 0, 0, 0, none, 0, ([] : List UInt8)) : Pkt)).length) cn] 55)] :: Q :: [(b1, rowO [.int .i64 fr, .int .i64 to, .int .u64 id, .int .i64 ((ix : Nat) : Int), .int .i64 ((cn : Nat) : Int), .slice B bs.length d'] 38)] :: D :: F)) [21] [(0, true), (1, true), (2, true), (3, true), (4, true), (5, true), (6, true), (7, true), (8, true), (9, true), (10, true), (11, true), (12, true), (13, true), (14, true), (15, true), (16, true), (17, true), (18, false), (19, true), (20, true), (21, false)] mixed (by kernel_rfl) (by rintro c a w ⟨_, _, h, _⟩; cases h) (by rfl) (by kernel_rfl) ?_
    replace hS := hS.drew
    refine dr_run tbOk 3 hA (hS.tail 1 rfl) (e' := (92, .pointer (some ⟨b61, o62 + (k * 5) + 4, none⟩)) :: (91, .pointer (some ⟨b61, o62 + (k * 5), none⟩)) :: (90, .pointer (some ⟨b61, o62 + (k * 5), none⟩)) :: _) rfl ?_; clear hA; intro a hA
    refine dr_y hA rfl rfl rfl (by decide) (hS.tail 1 rfl) (fun w' hS' => rn_load tbOk hA rfl rfl rfl rfl ((hO57.rd (hS'.own_ 3 rfl)).elemf (k := k) encPart_ok hx (j := 4) rfl)) ?_; clear hA; intro a hA
    refine dr_run tbOk 1 hA (hS.tail 1 rfl) (e' := (94, .pointer (some ⟨b1, 3, none⟩)) :: _) rfl ?_; clear hA; intro a hA
    refine dr_y hA rfl rfl rfl (by decide) (hS.tail 1 rfl) (fun w' hS' => rn_load tbOk hA rfl rfl rfl rfl (cell_row (hS'.heapAt 6 rfl) rfl)) ?_; clear hA; intro a hA
    refine dr_run tbOk 1 hA (hS.tail 1 rfl) (e' := (96, .pointer (some ⟨b1, 0, none⟩)) :: _) rfl ?_; clear hA; intro a hA
    refine dr_y hA rfl rfl rfl (by decide) (hS.tail 1 rfl) (fun w' hS' => rn_load tbOk hA rfl rfl rfl rfl (cell_row (hS'.heapAt 6 rfl) rfl)) ?_; clear hA; intro a hA
    refine dr_run tbOk 1 hA (hS.tail 1 rfl) (e' := (98, .pointer (some ⟨b1, 1, none⟩)) :: _) rfl ?_; clear hA; intro a hA
    refine dr_y hA rfl rfl rfl (by decide) (hS.tail 1 rfl) (fun w' hS' => rn_load tbOk hA rfl rfl rfl rfl (cell_row (hS'.heapAt 6 rfl) rfl)) ?_; clear hA; intro a hA
    refine dr_run tbOk 1 hA (hS.tail 1 rfl) (e' := (100, .pointer (some ⟨b1, 2, none⟩)) :: _) rfl ?_; clear hA; intro a hA
    refine dr_y hA rfl rfl rfl (by decide) (hS.tail 1 rfl) (fun w' hS' => rn_load tbOk hA rfl rfl rfl rfl (cell_row (hS'.heapAt 6 rfl) rfl)) ?_; clear hA; intro a hA
    refine dr_run tbOk 1 hA (hS.tail 1 rfl) (e' := (102, .pointer (some ⟨b1, 3, none⟩)) :: _) rfl ?_; clear hA; intro a hA
    refine dr_y hA rfl rfl rfl (by decide) (hS.tail 1 rfl) (fun w' hS' => rn_load tbOk hA rfl rfl rfl rfl (cell_row (hS'.heapAt 6 rfl) rfl)) ?_; clear hA; intro a hA
    refine dr_run tbOk 1 hA (hS.tail 1 rfl) (e' := (104, .pointer (some ⟨b1, 4, none⟩)) :: _) rfl ?_; clear hA; intro a hA
    refine dr_y hA rfl rfl rfl (by decide) (hS.tail 1 rfl) (fun w' hS' => rn_load tbOk hA rfl rfl rfl rfl (cell_row (hS'.heapAt 6 rfl) rfl)) ?_; clear hA; intro a hA
    refine dr_run tbOk 1 hA (hS.tail 1 rfl) (e' := (106, .pointer (some ⟨b1, 5, none⟩)) :: _) rfl ?_; clear hA; intro a hA
    refine dr_y hA rfl rfl rfl (by decide) (hS.tail 1 rfl) (fun w' hS' => rn_load tbOk hA rfl rfl rfl rfl (cell_row (hS'.heapAt 6 rfl) rfl)) ?_; clear hA; intro a hA
    refine dr_b (o := _) rfl ?_
    refine st_call0 hA rfl rfl rfl isfn16 rfl rfl (by decide) (clonex16 hS (l := bs) (fun w' h => (hd _ (h.tail 8 rfl))) (by first | omega | (simp; omega))) ?_
    clear hA hS; rintro _ w73 a ⟨A70, c71, C72, hOC72, rfl, hS⟩ hA
    refine dr_nil (.inr (hS.tail 2 rfl)) ?_
    refine dr_y hA rfl rfl rfl (by decide) (hS.tail 2 rfl) (fun w' hS' => rn_build tbOk hA rfl rfl rfl rfl rfl rfl rfl) ?_; clear hA; intro a hA
    replace hA := hA.rw 93 (v' := .slice (some ⟨b68, o69, none⟩) ((List.replicate cn ((0, 0, 0, 0, 0, none, 0, ([] : List UInt8)) : Pkt)).length) cn) rfl rfl
    refine dr_y hA rfl rfl rfl (by decide) (hS.tail 2 rfl) (fun w' hS' => rn_indexAddr tbOk hA ix (o69 + (ix * 6)) rfl rfl rfl rfl rfl rfl (by rfl) (by omega) (by first | rfl | simp [Nat.mul_one, Nat.zero_add] | omega)) ?_; clear hA; intro a hA
    refine dr_b (o := _) rfl ?_
    replace hS := hS.front 1 (C := C47) (L' := C72 :: C67 :: [] :: [(b, rowO [.slice (some ⟨b61, o62, none⟩) qs.length c59] 33)] :: C57 :: [(b53, rowO [.int .i64 fr, .int .i64 to, .int .u64 id, .slice (some ⟨b63, o64, none⟩) ((List.replicate cn false).length) cn, .slice (some ⟨b68, o69, none⟩) ((List.replicate cn ((0, 0, 0, 0, 0, none, 0, ([] : List UInt8)) : Pkt)).length) cn] 55)] :: Q :: [(b1, rowO [.int .i64 fr, .int .i64 to, .int .u64 id, .int .i64 ((ix : Nat) : Int), .int .i64 ((cn : Nat) : Int), .slice B bs.length d'] 38)] :: D :: F) rfl rfl
    refine st_store_own tbOk hA hOpN hS ((ix * 6)) (o69 + (ix * 6)) [.int .i64 fr, .int .i64 to, .int .u64 id, .int .i64 ((ix : Nat) : Int), .int .i64 ((cn : Nat) : Int), .slice A70 bs.length c71] (rows encPacket ((List.replicate cn ((0, 0, 0, 0, 0, none, 0, ([] : List UInt8)) : Pkt)).set ix (fr, to, id, ((ix : Nat) : Int), ((cn : Nat) : Int), A70, c71, bs))) rfl rfl rfl rfl (by rfl) rfl rfl (by exact encPacket_ok.one (fr, to, id, ((ix : Nat) : Int), ((cn : Nat) : Int), A70, c71, bs)) (by simp only [rows_length encBo_ok, rows_length encPacket_ok, List.length_cons, List.length_nil]; omega) (rows_set encPacket_ok (x := (fr, to, id, ((ix : Nat) : Int), ((cn : Nat) : Int), A70, c71, bs)) (l := (List.replicate cn ((0, 0, 0, 0, 0, none, 0, ([] : List UInt8)) : Pkt))) (k := ix) (by omega)) rfl rfl ?_; clear hS; intro w74 C75 hO75 hS
    refine dr_nil (.inl (by decide)) ?_
    refine dr_end ?_
    replace hA := hA.sel [0, 6, 7] (e' := [(0, .pointer (some ⟨b, 0, none⟩)), (6, .int .i64 ((k : Nat) : Int)), (7, .pointer (some ⟨b61, o62 + (k * 5), none⟩))]) rfl
    refine xt_norm ?_
    refine wp_seq ?_
    refine wp_seq ?_
    refine wp_region_lit ?_
    refine st_run tbOk 3 hA (e' := (113, .pointer (some ⟨b61, o62 + (k * 5) + 3, none⟩)) :: (112, .pointer (some ⟨b61, o62 + (k * 5), none⟩)) :: (111, .pointer (some ⟨b61, o62 + (k * 5), none⟩)) :: _) rfl ?_; clear hA; intro a hA
    refine st_val hA rfl rfl (by decide) (rn_load tbOk hA rfl rfl rfl rfl ((hO57.rd (hS.own_ 5 rfl)).elemf (k := k) encPart_ok hx (j := 3) rfl)) ?_; clear hA; intro a hA
    have hOh2 : Own 4 1 (.slice (some ⟨b63, o64, none⟩) ((List.replicate cn false).set ix true).length cn) ((List.replicate cn false).set ix true).length (rows encBo ((List.replicate cn false).set ix true)) C67 := by rw [List.length_set]; exact hO67
    replace hA := hA.rw 114 (v' := .slice (some ⟨b63, o64, none⟩) (((List.replicate cn false).set ix true).length) cn) rfl (by rw [List.length_set])
    refine st_call0 hA rfl rfl rfl isfn17 rfl rfl (by decide) (containsb17 hS (l := (List.replicate cn false).set ix true) (RdS.own hOh2 2 rfl)) ?_
    clear hA hS; rintro v w76 a ⟨rfl, hS⟩ hA
    replace hA := hA.rw 115 (v' := .bool true) rfl (congrArg Value.bool hany)
    refine wpList_nil ?_
    replace hA := hA.sel [0, 6, 7, 115] (e' := [(0, .pointer (some ⟨b, 0, none⟩)), (6, .int .i64 ((k : Nat) : Int)), (7, .pointer (some ⟨b61, o62 + (k * 5), none⟩)), (115, .bool true)]) rfl
    refine xt_norm ?_
    refine cd_cond_t hA rfl ?_
    refine wp_seq ?_
    refine wp_region_lit ?_
    refine st_run tbOk 2 hA (e' := (5, .bool false) :: (4, .slice none 0 0) :: _) rfl ?_; clear hA; intro a hA
    refine wpList_nil ?_
    replace hA := hA.sel [4, 5] (e' := [(4, .slice none 0 0), (5, .bool false)]) rfl
    refine xt_norm ?_
    refine wp_ret (xt_ret ?_)
    refine ret2 (fn := Try.f9) hA rfl rfl rfl ?_
    have hOp2 : Own 38 6 (.slice (some ⟨b68, o69, none⟩) ((List.replicate cn ((0, 0, 0, 0, 0, none, 0, ([] : List UInt8)) : Pkt)).set ix (fr, to, id, ((ix : Nat) : Int), ((cn : Nat) : Int), A70, c71, bs)).length cn) ((List.replicate cn ((0, 0, 0, 0, 0, none, 0, ([] : List UInt8)) : Pkt)).set ix (fr, to, id, ((ix : Nat) : Int), ((cn : Nat) : Int), A70, c71, bs)).length (rows encPacket ((List.replicate cn ((0, 0, 0, 0, 0, none, 0, ([] : List UInt8)) : Pkt)).set ix (fr, to, id, ((ix : Nat) : Int), ((cn : Nat) : Int), A70, c71, bs))) C75 := by rw [List.length_set]; exact hO75
    replace hS := hS.front 9 (C := D) (L' := C75 :: C72 :: C67 :: [] :: [(b, rowO [.slice (some ⟨b61, o62, none⟩) qs.length c59] 33)] :: C57 :: [(b53, rowO [.int .i64 fr, .int .i64 to, .int .u64 id, .slice (some ⟨b63, o64, none⟩) ((List.replicate cn false).length) cn, .slice (some ⟨b68, o69, none⟩) ((List.replicate cn ((0, 0, 0, 0, 0, none, 0, ([] : List UInt8)) : Pkt)).length) cn] 55)] :: Q :: [(b1, rowO [.int .i64 fr, .int .i64 to, .int .u64 id, .int .i64 ((ix : Nat) : Int), .int .i64 ((cn : Nat) : Int), .slice B bs.length d'] 38)] :: F) rfl rfl
    replace hS := hS.front 2 (C := C72) (L' := D :: C75 :: C67 :: [] :: [(b, rowO [.slice (some ⟨b61, o62, none⟩) qs.length c59] 33)] :: C57 :: [(b53, rowO [.int .i64 fr, .int .i64 to, .int .u64 id, .slice (some ⟨b63, o64, none⟩) ((List.replicate cn false).length) cn, .slice (some ⟨b68, o69, none⟩) ((List.replicate cn ((0, 0, 0, 0, 0, none, 0, ([] : List UInt8)) : Pkt)).length) cn] 55)] :: Q :: [(b1, rowO [.int .i64 fr, .int .i64 to, .int .u64 id, .int .i64 ((ix : Nat) : Int), .int .i64 ((cn : Nat) : Int), .slice B bs.length d'] 38)] :: F) rfl rfl
    replace hS := hS.join
    have hdE := (DD.new (w0 := w0) hOC72).right (E := D)
    have hPI2 : PI (fr, to, id, (some ⟨b63, o64, none⟩), cn, (List.replicate cn false).set ix true, (some ⟨b68, o69, none⟩), cn, (List.replicate cn ((0, 0, 0, 0, 0, none, 0, ([] : List UInt8)) : Pkt)).set ix (fr, to, id, ((ix : Nat) : Int), ((cn : Nat) : Int), A70, c71, bs)) := hPI.put (by omega) (by omega) (by omega) _ _
    have hpd : ∀ y ∈ (List.replicate cn ((0, 0, 0, 0, 0, none, 0, ([] : List UInt8)) : Pkt)).set ix (fr, to, id, ((ix : Nat) : Int), ((cn : Nat) : Int), A70, c71, bs), encPacket_dd w0 (C72 ++ D) y := fun y hy => (List.mem_or_eq_of_mem_set hy).elim (fun hy => encPacket_left (hpk2 y hy)) (fun e => by rw [e]; exact hdE)
    replace hS := hS.front 6 (C := [(b53, rowO [.int .i64 fr, .int .i64 to, .int .u64 id, .slice (some ⟨b63, o64, none⟩) ((List.replicate cn false).length) cn, .slice (some ⟨b68, o69, none⟩) ((List.replicate cn ((0, 0, 0, 0, 0, none, 0, ([] : List UInt8)) : Pkt)).length) cn] 55)]) (L' := (C72 ++ D) :: C75 :: C67 :: [] :: [(b, rowO [.slice (some ⟨b61, o62, none⟩) qs.length c59] 33)] :: C57 :: Q :: [(b1, rowO [.int .i64 fr, .int .i64 to, .int .u64 id, .int .i64 ((ix : Nat) : Int), .int .i64 ((cn : Nat) : Int), .slice B bs.length d'] 38)] :: F) rfl rfl
    replace hS := hS.drop1
    replace hS := hS.front 7 (C := [(b1, rowO [.int .i64 fr, .int .i64 to, .int .u64 id, .int .i64 ((ix : Nat) : Int), .int .i64 ((cn : Nat) : Int), .slice B bs.length d'] 38)]) (L' := (C72 ++ D) :: C75 :: C67 :: [] :: [(b, rowO [.slice (some ⟨b61, o62, none⟩) qs.length c59] 33)] :: C57 :: Q :: F) rfl rfl
    replace hS := hS.drop1
    replace hS := hS.front 3 (C := []) (L' := (C72 ++ D) :: C75 :: C67 :: [(b, rowO [.slice (some ⟨b61, o62, none⟩) qs.length c59] 33)] :: C57 :: Q :: F) rfl rfl
    replace hS := hS.front 2 (C := C75) (L' := [] :: (C72 ++ D) :: C67 :: [(b, rowO [.slice (some ⟨b61, o62, none⟩) qs.length c59] 33)] :: C57 :: Q :: F) rfl rfl
    replace hS := hS.front 3 (C := C67) (L' := C75 :: [] :: (C72 ++ D) :: [(b, rowO [.slice (some ⟨b61, o62, none⟩) qs.length c59] 33)] :: C57 :: Q :: F) rfl rfl
    replace hS := hS.front 6 (C := Q) (L' := C67 :: C75 :: [] :: (C72 ++ D) :: [(b, rowO [.slice (some ⟨b61, o62, none⟩) qs.length c59] 33)] :: C57 :: F) rfl rfl
    replace hS := hS.front 6 (C := C57) (L' := Q :: C67 :: C75 :: [] :: (C72 ++ D) :: [(b, rowO [.slice (some ⟨b61, o62, none⟩) qs.length c59] 33)] :: F) rfl rfl
    replace hS := hS.front 6 (C := [(b, rowO [.slice (some ⟨b61, o62, none⟩) qs.length c59] 33)]) (L' := C57 :: Q :: C67 :: C75 :: [] :: (C72 ++ D) :: F) rfl rfl
    replace hS := hS.front 5 (C := []) (L' := [(b, rowO [.slice (some ⟨b61, o62, none⟩) qs.length c59] 33)] :: C57 :: Q :: C67 :: C75 :: (C72 ++ D) :: F) rfl rfl
    replace hS := hS.front 5 (C := C75) (L' := [] :: [(b, rowO [.slice (some ⟨b61, o62, none⟩) qs.length c59] 33)] :: C57 :: Q :: C67 :: (C72 ++ D) :: F) rfl rfl
    replace hS := hS.join
    replace hS := hS.front 4 (C := C67) (L' := (C75 ++ []) :: [(b, rowO [.slice (some ⟨b61, o62, none⟩) qs.length c59] 33)] :: C57 :: Q :: (C72 ++ D) :: F) rfl rfl
    replace hS := hS.join
    replace hS := hS.front 3 (C := Q) (L' := (C67 ++ (C75 ++ [])) :: [(b, rowO [.slice (some ⟨b61, o62, none⟩) qs.length c59] 33)] :: C57 :: (C72 ++ D) :: F) rfl rfl
    replace hS := hS.join
    replace hS := hS.front 2 (C := C57) (L' := (Q ++ (C67 ++ (C75 ++ []))) :: [(b, rowO [.slice (some ⟨b61, o62, none⟩) qs.length c59] 33)] :: (C72 ++ D) :: F) rfl rfl
    replace hS := hS.front 2 (C := [(b, rowO [.slice (some ⟨b61, o62, none⟩) qs.length c59] 33)]) (L' := C57 :: (Q ++ (C67 ++ (C75 ++ []))) :: (C72 ++ D) :: F) rfl rfl
    replace hS := hS.join3
    have hOO : Own 55 5 (.slice (some ⟨b61, o62, none⟩) (qs).length c59) ((qs).set k (fr, to, id, (some ⟨b63, o64, none⟩), cn, (List.replicate cn false).set ix true, (some ⟨b68, o69, none⟩), cn, (List.replicate cn ((0, 0, 0, 0, 0, none, 0, ([] : List UInt8)) : Pkt)).set ix (fr, to, id, ((ix : Nat) : Int), ((cn : Nat) : Int), A70, c71, bs))).length (rows encPart ((qs).set k (fr, to, id, (some ⟨b63, o64, none⟩), cn, (List.replicate cn false).set ix true, (some ⟨b68, o69, none⟩), cn, (List.replicate cn ((0, 0, 0, 0, 0, none, 0, ([] : List UInt8)) : Pkt)).set ix (fr, to, id, ((ix : Nat) : Int), ((cn : Nat) : Int), A70, c71, bs)))) C57 := by rw [List.length_set, rows_same hx (by simp [encPart])]; exact hO57
    have hmp : ((qs).set k (fr, to, id, (some ⟨b63, o64, none⟩), cn, (List.replicate cn false).set ix true, (some ⟨b68, o69, none⟩), cn, (List.replicate cn ((0, 0, 0, 0, 0, none, 0, ([] : List UInt8)) : Pkt)).set ix (fr, to, id, ((ix : Nat) : Int), ((cn : Nat) : Int), A70, c71, bs))).map gv = (ps.map gv).drop 1 ++ [(fr, to, id, (List.replicate cn false).set ix true, (List.replicate cn []).set ix bs)] := by rw [List.map_set]; rw [hqs, new_set hk, show gv (fr, to, id, (some ⟨b63, o64, none⟩), cn, (List.replicate cn false).set ix true, (some ⟨b68, o69, none⟩), cn, (List.replicate cn ((0, 0, 0, 0, 0, none, 0, ([] : List UInt8)) : Pkt)).set ix (fr, to, id, ((ix : Nat) : Int), ((cn : Nat) : Int), A70, c71, bs)) = (fr, to, id, (List.replicate cn false).set ix true, (List.replicate cn []).set ix bs) from by simp only [gv, phas, ppk, List.map_set, List.map_replicate]; rfl, List.map_drop]
    exact ⟨_, C72, ⟨_, _, _, _, hOO, rfl, PO.put (y := (fr, to, id, (some ⟨b63, o64, none⟩), cn, (List.replicate cn false).set ix true, (some ⟨b68, o69, none⟩), cn, (List.replicate cn ((0, 0, 0, 0, 0, none, 0, ([] : List UInt8)) : Pkt)).set ix (fr, to, id, ((ix : Nat) : Int), ((cn : Nat) : Int), A70, c71, bs))) hR1 hOh2 hOp2 hR2 hkl, set_all hI2 hPI2, part_dd (k := k) (x := (fr, to, id, (some ⟨b63, o64, none⟩), cn, (List.replicate cn false).set ix true, (some ⟨b68, o69, none⟩), cn, (List.replicate cn ((0, 0, 0, 0, 0, none, 0, ([] : List UInt8)) : Pkt)).set ix (fr, to, id, ((ix : Nat) : Int), ((cn : Nat) : Int), A70, c71, bs))) hdd2 rfl hpk2 hdE, hmp⟩, rfl, hS⟩

set_option maxHeartbeats 4000000 in
theorem add_new16_full9 {w0 w : World} {F : List Chunk} {L D : Chunk} {b : Nat} {vs : List GV} (hS : St w0 w (L :: D :: F)) (hM : GS w0 b vs L D) (fr to id : Int) (ix cn : Nat) {d : Value} {bs : List UInt8} (hd : RdSX w0 (D :: F) 1 d bs.length (rows encB bs)) (h1 : ix < cn) (h2 : cn ≤ 256) (h3 : bs.length ≤ 32768) (hno : ∀ (i : Nat) (z : GV), vs[i]? = some z → ¬ vkey fr to id z) (hl : vs.length = 16) (hany : ((List.replicate cn false).set ix true).any (fun y => y == false) = false) :
    Ret Try.prog 9 #[.pointer (some ⟨b, 0, none⟩), .agg #[.int .i64 fr, .int .i64 to, .int .u64 id, .int .i64 ((ix : Nat) : Int), .int .i64 ((cn : Nat) : Int), d]] w (fun v w' => ∃ L' E C v1, GS w0 b (vs.drop 1) L' (E ++ D) ∧ Own 5 1 v1 (((List.replicate cn []).set ix bs).flatten).length (rows encB (((List.replicate cn []).set ix bs).flatten)) C ∧ v = .tuple #[v1, .bool true] ∧ St w0 w' (L' :: (E ++ D) :: C :: F)) := by
  obtain ⟨ps, v, C, R, hO, rfl, hR, hI, hdd, rfl⟩ := hM
  obtain ⟨A, c, rfl, hmc, hcx⟩ := hO.open'
  replace hS : St w0 w ([(b, rowO [.slice A ps.length c] 33)] :: C :: R :: D :: F) := hS.split3
  obtain ⟨B, d', rfl, hmd, hdx⟩ := (hd _ (hS.tail 3 rfl)).open'
  rw [List.length_map] at hl
  refine enter (vs := [.pointer (some ⟨b, 0, none⟩), .agg #[.int .i64 fr, .int .i64 to, .int .u64 id, .int .i64 ((ix : Nat) : Int), .int .i64 ((cn : Nat) : Int), .slice B bs.length d']]) 137 Try.func9 rfl rfl (by simp) ?_; intro a hA
  refine wp_seq ?_
  refine wp_region_lit ?_
  refine st_box hA hS [.int .i64 fr, .int .i64 to, .int .u64 id, .int .i64 ((ix : Nat) : Int), .int .i64 ((cn : Nat) : Int), .slice B bs.length d'] rfl rfl rfl rfl rfl (by decide) ?_; clear hA hS; intro b1 w2 a hS hA
  refine st_run tbOk 2 hA (e' := (5, .bool false) :: (4, .slice none 0 0) :: _) rfl ?_; clear hA; intro a hA
  refine wpList_nil ?_
  replace hA := hA.sel [0, 3] (e' := [(0, .pointer (some ⟨b, 0, none⟩)), (3, .pointer (some ⟨b1, 0, none⟩))]) rfl
  refine xt_norm ?_
  refine wp_seq ?_
  refine wp_seq ?_
  refine wp_region_lit ?_
  refine st_val hA rfl rfl (by decide) (rn_loadA tbOk hA [.int .i64 fr, .int .i64 to, .int .u64 id, .int .i64 ((ix : Nat) : Int), .int .i64 ((cn : Nat) : Int), .slice B bs.length d'] rfl rfl rfl rfl rfl (cells_row (hS.heapAt 0 rfl) rfl)) ?_; clear hA; intro a hA
  refine st_call0 hA rfl rfl rfl isfn12 rfl rfl (by decide) (may12 hS fr to id ((ix : Nat) : Int) ((cn : Nat) : Int) B d' bs) ?_
  clear hA hS; rintro v w3 a ⟨rfl, hS⟩ hA
  have hc4 : 1 ≤ ((cn : Nat) : Int) ∧ ((cn : Nat) : Int) ≤ 256 ∧ 0 ≤ ((ix : Nat) : Int) ∧ ((ix : Nat) : Int) < ((cn : Nat) : Int) ∧ bs.length ≤ 32768 := by omega
  replace hA := hA.rw 11 (v' := .bool true) rfl (vb_true hc4)
  refine st_run tbOk 1 hA (e' := (12, .bool false) :: _) rfl ?_; clear hA; intro a hA
  refine wpList_nil ?_
  replace hA := hA.sel [0, 3, 12] (e' := [(0, .pointer (some ⟨b, 0, none⟩)), (3, .pointer (some ⟨b1, 0, none⟩)), (12, .bool false)]) rfl
  refine xt_norm ?_
  refine cd_cond_f hA rfl ?_
  refine wp_skip ?_
  refine xt_norm ?_
  refine wp_seq ?_
  refine wp_region_lit ?_
  refine st_run tbOk 1 hA (e' := (13, .pointer (some ⟨b, 0, none⟩)) :: _) rfl ?_; clear hA; intro a hA
  refine st_val hA rfl rfl (by decide) (rn_loadA tbOk hA [.int .i64 fr, .int .i64 to, .int .u64 id, .int .i64 ((ix : Nat) : Int), .int .i64 ((cn : Nat) : Int), .slice B bs.length d'] rfl rfl rfl rfl rfl (cells_row (hS.heapAt 0 rfl) rfl)) ?_; clear hA; intro a hA
  replace hS := hS.front 2 (C := C) (L' := [(b1, rowO [.int .i64 fr, .int .i64 to, .int .u64 id, .int .i64 ((ix : Nat) : Int), .int .i64 ((cn : Nat) : Int), .slice B bs.length d'] 38)] :: [(b, rowO [.slice A ps.length c] 33)] :: R :: D :: F) rfl rfl
  replace hS := hS.front 2 (C := [(b, rowO [.slice A ps.length c] 33)]) (L' := C :: [(b1, rowO [.int .i64 fr, .int .i64 to, .int .u64 id, .int .i64 ((ix : Nat) : Int), .int .i64 ((cn : Nat) : Int), .slice B bs.length d'] 38)] :: R :: D :: F) rfl rfl
  refine st_call0 hA rfl rfl rfl isfn14 rfl rfl (by decide) (find14 hS hO fr to id _ _ _) ?_
  clear hA hS; rintro v w5 a ⟨rfl, hS⟩ hA
  have hix := idx_none (p := fun x => gkey fr to id x) (l := ps) (fun i y hy => gkey_no (k := ps.length) (fun i z _ hz => hno i z hz) i y (List.getElem?_eq_some_iff.1 hy).1 hy)
  replace hA := hA.rw 15 (v' := .int .i64 (-1)) rfl (vint hix)
  replace hS := hS.front 4 (C := D) (L' := [(b, rowO [.slice A ps.length c] 33)] :: C :: [(b1, rowO [.int .i64 fr, .int .i64 to, .int .u64 id, .int .i64 ((ix : Nat) : Int), .int .i64 ((cn : Nat) : Int), .slice B bs.length d'] 38)] :: R :: F) rfl rfl
  replace hS := hS.front 4 (C := R) (L' := D :: [(b, rowO [.slice A ps.length c] 33)] :: C :: [(b1, rowO [.int .i64 fr, .int .i64 to, .int .u64 id, .int .i64 ((ix : Nat) : Int), .int .i64 ((cn : Nat) : Int), .slice B bs.length d'] 38)] :: F) rfl rfl
  replace hS := hS.front 4 (C := [(b1, rowO [.int .i64 fr, .int .i64 to, .int .u64 id, .int .i64 ((ix : Nat) : Int), .int .i64 ((cn : Nat) : Int), .slice B bs.length d'] 38)]) (L' := R :: D :: [(b, rowO [.slice A ps.length c] 33)] :: C :: F) rfl rfl
  replace hS := hS.front 4 (C := C) (L' := [(b1, rowO [.int .i64 fr, .int .i64 to, .int .u64 id, .int .i64 ((ix : Nat) : Int), .int .i64 ((cn : Nat) : Int), .slice B bs.length d'] 38)] :: R :: D :: [(b, rowO [.slice A ps.length c] 33)] :: F) rfl rfl
  replace hS := hS.front 4 (C := [(b, rowO [.slice A ps.length c] 33)]) (L' := C :: [(b1, rowO [.int .i64 fr, .int .i64 to, .int .u64 id, .int .i64 ((ix : Nat) : Int), .int .i64 ((cn : Nat) : Int), .slice B bs.length d'] 38)] :: R :: D :: F) rfl rfl
  refine st_run tbOk 1 hA (e' := (6, .int .i64 (-1)) :: _) rfl ?_; clear hA; intro a hA
  refine wpList_nil ?_
  replace hA := hA.sel [0, 3, 6] (e' := [(0, .pointer (some ⟨b, 0, none⟩)), (3, .pointer (some ⟨b1, 0, none⟩)), (6, .int .i64 (-1))]) rfl
  refine xt_norm ?_
  refine wp_seq ?_
  refine wp_seq ?_
  refine wp_region_lit ?_
  refine st_run tbOk 2 hA (e' := (17, .bool true) :: (16, .int .i64 (-1)) :: _) rfl ?_; clear hA; intro a hA
  refine wpList_nil ?_
  replace hA := hA.sel [0, 3, 6, 17] (e' := [(0, .pointer (some ⟨b, 0, none⟩)), (3, .pointer (some ⟨b1, 0, none⟩)), (6, .int .i64 (-1)), (17, .bool true)]) rfl
  refine xt_norm ?_
  refine cd_cond_t hA rfl ?_
  refine wp_seq ?_
  refine wp_seq ?_
  refine wp_region_lit ?_
  refine st_run tbOk 3 hA (e' := (20, .pointer (some ⟨b, 0, none⟩)) :: (19, .pointer (some ⟨b, 0, none⟩)) :: (18, .pointer (some ⟨b, 0, none⟩)) :: _) rfl ?_; clear hA; intro a hA
  refine st_val hA rfl rfl (by decide) (rn_load tbOk hA rfl rfl rfl rfl (cell_row (hS.heapAt 0 rfl) rfl)) ?_; clear hA; intro a hA
  refine st_run tbOk 2 hA (e' := (23, .bool (((ps.length : Nat) : Int) == 16)) :: (22, .int .i64 ((ps.length : Nat) : Int)) :: _) rfl ?_; clear hA; intro a hA
  refine wpList_nil ?_
  replace hA := hA.sel [0, 3, 23] (e' := [(0, .pointer (some ⟨b, 0, none⟩)), (3, .pointer (some ⟨b1, 0, none⟩)), (23, .bool (((ps.length : Nat) : Int) == 16))]) rfl
  refine xt_norm ?_
  have hc6 : ((ps.length : Nat) : Int) = 16 := by omega
  replace hA := hA.rw 23 (v' := .bool true) rfl (vb_eq_t hc6)
  refine cd_cond_t hA rfl ?_
  refine wp_region_lit ?_
  refine st_run tbOk 4 hA (e' := (27, .pointer (some ⟨b, 0, none⟩)) :: (26, .pointer (some ⟨b, 0, none⟩)) :: (25, .pointer (some ⟨b, 0, none⟩)) :: (24, .pointer (some ⟨b, 0, none⟩)) :: _) rfl ?_; clear hA; intro a hA
  refine st_val hA rfl rfl (by decide) (rn_load tbOk hA rfl rfl rfl rfl (cell_row (hS.heapAt 0 rfl) rfl)) ?_; clear hA; intro a hA
  replace hS := hS.front 1 (C := C) (L' := [(b, rowO [.slice A ps.length c] 33)] :: [(b1, rowO [.int .i64 fr, .int .i64 to, .int .u64 id, .int .i64 ((ix : Nat) : Int), .int .i64 ((cn : Nat) : Int), .slice B bs.length d'] 38)] :: R :: D :: F) rfl rfl
  refine st_call0 hA rfl rfl rfl isfn15 rfl rfl (by decide) (delete15 hS (l := ps) hO 0 (1) (by omega) (by omega)) ?_
  clear hA hS; rintro v7 w8 a ⟨C9, hO9, hS⟩ hA
  obtain ⟨A10, c11, rfl, hmc11, hxc11⟩ := hO9.open'
  have hl : ps.take 0 ++ ps.drop (1) = (ps.drop 1) := rfl
  rw [hl] at hO9; rw [hl] at hA
  replace hS := hS.front 4 (C := D) (L' := C9 :: [(b, rowO [.slice A ps.length c] 33)] :: [(b1, rowO [.int .i64 fr, .int .i64 to, .int .u64 id, .int .i64 ((ix : Nat) : Int), .int .i64 ((cn : Nat) : Int), .slice B bs.length d'] 38)] :: R :: F) rfl rfl
  replace hS := hS.front 4 (C := R) (L' := D :: C9 :: [(b, rowO [.slice A ps.length c] 33)] :: [(b1, rowO [.int .i64 fr, .int .i64 to, .int .u64 id, .int .i64 ((ix : Nat) : Int), .int .i64 ((cn : Nat) : Int), .slice B bs.length d'] 38)] :: F) rfl rfl
  replace hS := hS.front 4 (C := [(b1, rowO [.int .i64 fr, .int .i64 to, .int .u64 id, .int .i64 ((ix : Nat) : Int), .int .i64 ((cn : Nat) : Int), .slice B bs.length d'] 38)]) (L' := R :: D :: C9 :: [(b, rowO [.slice A ps.length c] 33)] :: F) rfl rfl
  replace hS := hS.front 4 (C := [(b, rowO [.slice A ps.length c] 33)]) (L' := [(b1, rowO [.int .i64 fr, .int .i64 to, .int .u64 id, .int .i64 ((ix : Nat) : Int), .int .i64 ((cn : Nat) : Int), .slice B bs.length d'] 38)] :: R :: D :: C9 :: F) rfl rfl
  replace hS := hS.front 4 (C := C9) (L' := [(b, rowO [.slice A ps.length c] 33)] :: [(b1, rowO [.int .i64 fr, .int .i64 to, .int .u64 id, .int .i64 ((ix : Nat) : Int), .int .i64 ((cn : Nat) : Int), .slice B bs.length d'] 38)] :: R :: D :: F) rfl rfl
  refine st_run tbOk 2 hA (e' := (31, .pointer (some ⟨b, 0, none⟩)) :: (30, .pointer (some ⟨b, 0, none⟩)) :: _) rfl ?_; clear hA; intro a hA
  replace hS := hS.front 1 (C := [(b, rowO [.slice A ps.length c] 33)]) (L' := C9 :: [(b1, rowO [.int .i64 fr, .int .i64 to, .int .u64 id, .int .i64 ((ix : Nat) : Int), .int .i64 ((cn : Nat) : Int), .slice B bs.length d'] 38)] :: R :: D :: F) rfl rfl
  refine st_store tbOk hA hS [.slice A10 ((ps.drop 1).length) c11] [.slice A10 ((ps.drop 1).length) c11] rfl rfl rfl rfl rfl rfl (by intro u hu; rw [List.mem_singleton.1 hu]; rfl) (Nat.le_of_ble_eq_true rfl) rfl rfl rfl ?_; clear hS; intro w12 hS
  refine wpList_nil ?_
  replace hA := hA.sel [0, 3] (e' := [(0, .pointer (some ⟨b, 0, none⟩)), (3, .pointer (some ⟨b1, 0, none⟩))]) rfl
  refine xt_norm ?_
  refine wp_seq ?_
  refine wp_region_lit ?_
  replace hS := hS.front 3 (C := R) (L' := [(b, rowO [.slice A10 ((ps.drop 1).length) c11] 33)] :: C9 :: [(b1, rowO [.int .i64 fr, .int .i64 to, .int .u64 id, .int .i64 ((ix : Nat) : Int), .int .i64 ((cn : Nat) : Int), .slice B bs.length d'] 38)] :: D :: F) rfl rfl
  obtain ⟨R9, Q, rfl, hR9, hQ⟩ := PO.cut (l := ps.take 1) (m := ps.drop 1) (by rw [List.take_append_drop]; exact hR)
  replace hS := hS.split
  replace hS := hS.drop1
  replace hS := hS.front 4 (C := D) (L' := Q :: [(b, rowO [.slice A10 ((ps.drop 1).length) c11] 33)] :: C9 :: [(b1, rowO [.int .i64 fr, .int .i64 to, .int .u64 id, .int .i64 ((ix : Nat) : Int), .int .i64 ((cn : Nat) : Int), .slice B bs.length d'] 38)] :: F) rfl rfl
  replace hS := hS.front 4 (C := [(b1, rowO [.int .i64 fr, .int .i64 to, .int .u64 id, .int .i64 ((ix : Nat) : Int), .int .i64 ((cn : Nat) : Int), .slice B bs.length d'] 38)]) (L' := D :: Q :: [(b, rowO [.slice A10 ((ps.drop 1).length) c11] 33)] :: C9 :: F) rfl rfl
  replace hS := hS.front 4 (C := C9) (L' := [(b1, rowO [.int .i64 fr, .int .i64 to, .int .u64 id, .int .i64 ((ix : Nat) : Int), .int .i64 ((cn : Nat) : Int), .slice B bs.length d'] 38)] :: D :: Q :: [(b, rowO [.slice A10 ((ps.drop 1).length) c11] 33)] :: F) rfl rfl
  replace hS := hS.front 4 (C := [(b, rowO [.slice A10 ((ps.drop 1).length) c11] 33)]) (L' := C9 :: [(b1, rowO [.int .i64 fr, .int .i64 to, .int .u64 id, .int .i64 ((ix : Nat) : Int), .int .i64 ((cn : Nat) : Int), .slice B bs.length d'] 38)] :: D :: Q :: F) rfl rfl
  replace hS := hS.front 4 (C := Q) (L' := [(b, rowO [.slice A10 ((ps.drop 1).length) c11] 33)] :: C9 :: [(b1, rowO [.int .i64 fr, .int .i64 to, .int .u64 id, .int .i64 ((ix : Nat) : Int), .int .i64 ((cn : Nat) : Int), .slice B bs.length d'] 38)] :: D :: F) rfl rfl
  refine st_run tbOk 3 hA (e' := (34, .pointer (some ⟨b, 0, none⟩)) :: (33, .pointer (some ⟨b, 0, none⟩)) :: (32, .pointer (some ⟨b, 0, none⟩)) :: _) rfl ?_; clear hA; intro a hA
  refine st_val hA rfl rfl (by decide) (rn_load tbOk hA rfl rfl rfl rfl (cell_row (hS.heapAt 1 rfl) rfl)) ?_; clear hA; intro a hA
  refine st_run tbOk 2 hA (e' := (6, .int .i64 (((ps.drop 1).length : Nat) : Int)) :: (36, .int .i64 (((ps.drop 1).length : Nat) : Int)) :: _) rfl ?_; clear hA; intro a hA
  refine wpList_nil ?_
  replace hA := hA.sel [0, 3, 6] (e' := [(0, .pointer (some ⟨b, 0, none⟩)), (3, .pointer (some ⟨b1, 0, none⟩)), (6, .int .i64 (((ps.drop 1).length : Nat) : Int))]) rfl
  refine xt_norm ?_
  replace hS := hS.front 2 (C := C9) (L' := Q :: [(b, rowO [.slice A10 ((ps.drop 1).length) c11] 33)] :: [(b1, rowO [.int .i64 fr, .int .i64 to, .int .u64 id, .int .i64 ((ix : Nat) : Int), .int .i64 ((cn : Nat) : Int), .slice B bs.length d'] 38)] :: D :: F) rfl rfl
  refine wp_drawN (fun w' => St w0 w' (Q :: [(b, rowO [.slice A10 ((ps.drop 1).length) c11] 33)] :: [(b1, rowO [.int .i64 fr, .int .i64 to, .int .u64 id, .int .i64 ((ix : Nat) : Int), .int .i64 ((cn : Nat) : Int), .slice B bs.length d'] 38)] :: D :: F)) [22] [(0, true), (1, true), (2, true), (3, true), (4, true), (5, true), (6, true), (7, true), (8, true), (9, true), (10, true), (11, true), (12, true), (14, true), (15, true)] 13 (.L [(16, false), (17, true), (18, false), (19, false), (20, true), (21, true), (22, false)]) 16 (.L [(13, false), (17, true), (18, false), (19, false), (20, true), (21, true), (22, false)]) mixed (by kernel_rfl) (by rintro c a w ⟨_, _, h, _⟩; cases h) (by rfl) (by kernel_rfl) ?_
  replace hS := hS.drew
  refine dr_run tbOk 4 hA (hS.tail 1 rfl) (e' := (40, .pointer (some ⟨b, 0, none⟩)) :: (39, .pointer (some ⟨b, 0, none⟩)) :: (38, .pointer (some ⟨b, 0, none⟩)) :: (37, .pointer (some ⟨b, 0, none⟩)) :: _) rfl ?_; clear hA; intro a hA
  refine dr_y hA rfl rfl rfl (by decide) (hS.tail 1 rfl) (fun w' hS' => rn_load tbOk hA rfl rfl rfl rfl (cell_row (hS'.heapAt 1 rfl) rfl)) ?_; clear hA; intro a hA
  refine dr_run tbOk 1 hA (hS.tail 1 rfl) (e' := (42, .pointer (some ⟨b1, 0, none⟩)) :: _) rfl ?_; clear hA; intro a hA
  refine dr_y hA rfl rfl rfl (by decide) (hS.tail 1 rfl) (fun w' hS' => rn_load tbOk hA rfl rfl rfl rfl (cell_row (hS'.heapAt 2 rfl) rfl)) ?_; clear hA; intro a hA
  refine dr_run tbOk 1 hA (hS.tail 1 rfl) (e' := (44, .pointer (some ⟨b1, 1, none⟩)) :: _) rfl ?_; clear hA; intro a hA
  refine dr_y hA rfl rfl rfl (by decide) (hS.tail 1 rfl) (fun w' hS' => rn_load tbOk hA rfl rfl rfl rfl (cell_row (hS'.heapAt 2 rfl) rfl)) ?_; clear hA; intro a hA
  refine dr_run tbOk 1 hA (hS.tail 1 rfl) (e' := (46, .pointer (some ⟨b1, 2, none⟩)) :: _) rfl ?_; clear hA; intro a hA
  refine dr_y hA rfl rfl rfl (by decide) (hS.tail 1 rfl) (fun w' hS' => rn_load tbOk hA rfl rfl rfl rfl (cell_row (hS'.heapAt 2 rfl) rfl)) ?_; clear hA; intro a hA
  refine dr_run tbOk 1 hA (hS.tail 1 rfl) (e' := (48, .pointer (some ⟨b1, 4, none⟩)) :: _) rfl ?_; clear hA; intro a hA
  refine dr_y hA rfl rfl rfl (by decide) (hS.tail 1 rfl) (fun w' hS' => rn_load tbOk hA rfl rfl rfl rfl (cell_row (hS'.heapAt 2 rfl) rfl)) ?_; clear hA; intro a hA
  refine dr_run tbOk 1 hA (hS.tail 1 rfl) (e' := (51, .pointer (some ⟨b1, 4, none⟩)) :: _) rfl ?_; clear hA; intro a hA
  refine dr_y hA rfl rfl rfl (by decide) (hS.tail 1 rfl) (fun w' hS' => rn_load tbOk hA rfl rfl rfl rfl (cell_row (hS'.heapAt 2 rfl) rfl)) ?_; clear hA; intro a hA
  refine dr_fork ?_ ?_
  · refine dr_b (o := _) rfl ?_
    refine st_makeSlice tbOk hA hS cn encBo_ok (by decide) false rfl rfl rfl rfl rfl rfl rfl rfl (by show 1 * cn ≤ 281474976710656; omega) (by omega) rfl rfl (by decide) ?_; clear hA hS; intro b13 w14 a hS hA
    obtain ⟨C15, hO15, hS⟩ : ∃ Cq9, Own 4 1 (.slice (some ⟨b13, 0, none⟩) cn cn) cn (rows encBo (List.replicate cn false)) Cq9 ∧ St w0 w14 (Cq9 :: C9 :: Q :: [(b, rowO [.slice A10 ((ps.drop 1).length) c11] 33)] :: [(b1, rowO [.int .i64 fr, .int .i64 to, .int .u64 id, .int .i64 ((ix : Nat) : Int), .int .i64 ((cn : Nat) : Int), .slice B bs.length d'] 38)] :: D :: F) := ⟨_, Own.full (by rw [rows_length encBo_ok, List.length_replicate]) (by show cn ≤ 9223372036854775807; omega), hS⟩
    generalize (some (⟨b13, 0, none⟩ : Addr)) = A16 at hO15 hA
    refine dr_nil (.inr (hS.tail 2 rfl)) ?_
    refine dr_subL ?_
    refine dr_b (o := _) rfl ?_
    refine st_makeSlice tbOk hA hS cn encPacket_ok (by decide) (0, 0, 0, 0, 0, none, 0, ([] : List UInt8)) rfl rfl rfl rfl rfl rfl rfl rfl (by show 64 * cn ≤ 281474976710656; omega) (by omega) rfl rfl (by decide) ?_; clear hA hS; intro b17 w18 a hS hA
    obtain ⟨C19, hO19, hS⟩ : ∃ Cq9, Own 38 6 (.slice (some ⟨b17, 0, none⟩) cn cn) cn (rows encPacket (List.replicate cn (0, 0, 0, 0, 0, none, 0, ([] : List UInt8)))) Cq9 ∧ St w0 w18 (Cq9 :: C15 :: C9 :: Q :: [(b, rowO [.slice A10 ((ps.drop 1).length) c11] 33)] :: [(b1, rowO [.int .i64 fr, .int .i64 to, .int .u64 id, .int .i64 ((ix : Nat) : Int), .int .i64 ((cn : Nat) : Int), .slice B bs.length d'] 38)] :: D :: F) := ⟨_, Own.full (by rw [rows_length encPacket_ok, List.length_replicate]) (by show cn ≤ 9223372036854775807; omega), hS⟩
    generalize (some (⟨b17, 0, none⟩ : Addr)) = A20 at hO19 hA
    refine dr_nil (.inr (hS.tail 3 rfl)) ?_
    replace hA := hA.rw 50 (v' := .slice A16 ((List.replicate cn false).length) cn) rfl (by rw [List.length_replicate])
    replace hA := hA.rw 53 (v' := .slice A20 ((List.replicate cn ((0, 0, 0, 0, 0, none, 0, ([] : List UInt8)) : Pkt)).length) cn) rfl (by rw [List.length_replicate])
    refine dr_y hA rfl rfl rfl (by decide) (hS.tail 3 rfl) (fun w' hS' => rn_build tbOk hA rfl rfl rfl rfl rfl rfl rfl) ?_; clear hA; intro a hA
    refine dr_b (o := _) rfl ?_
    refine st_buildSlice tbOk hA hS [.int .i64 fr, .int .i64 to, .int .u64 id, .slice A16 ((List.replicate cn false).length) cn, .slice A20 ((List.replicate cn ((0, 0, 0, 0, 0, none, 0, ([] : List UInt8)) : Pkt)).length) cn] rfl rfl rfl rfl rfl (by decide) (by kernel_rfl) rfl rfl (by decide) ?_; clear hA hS; intro b21 w22 a hS hA
    refine dr_nil (.inr (hS.tail 4 rfl)) ?_
    refine dr_b (o := _) rfl ?_
    replace hS := hS.front 3 (C := C9) (L' := [(b21, rowO [.int .i64 fr, .int .i64 to, .int .u64 id, .slice A16 ((List.replicate cn false).length) cn, .slice A20 ((List.replicate cn ((0, 0, 0, 0, 0, none, 0, ([] : List UInt8)) : Pkt)).length) cn] 55)] :: C19 :: C15 :: Q :: [(b, rowO [.slice A10 ((ps.drop 1).length) c11] 33)] :: [(b1, rowO [.int .i64 fr, .int .i64 to, .int .u64 id, .int .i64 ((ix : Nat) : Int), .int .i64 ((cn : Nat) : Int), .slice B bs.length d'] 38)] :: D :: F) rfl rfl
    refine st_append tbOk hA (m := (ps.drop 1).length) (q := 1) (xs := rows encPart (ps.drop 1)) (news := rows encPart ([(fr, to, id, A16, cn, (List.replicate cn false), A20, cn, (List.replicate cn ((0, 0, 0, 0, 0, none, 0, ([] : List UInt8)) : Pkt)))] : List (Int × Int × Int × Option Addr × Nat × List Bool × Option Addr × Nat × List Pkt))) rfl rfl rfl rfl rfl rfl rfl rfl (by decide) hO9 hS (((Own.full (T := 55) (size := 5) (g := b21) (m := 1) rfl (by decide)).rd (hS.own_ 1 rfl)).x) (rows_one encPart_ok _) (maxLen_le (by first | omega | (simp; omega))) (by show ((ps.drop 1).length + 1) * 72 ≤ 140737488355328; first | omega | (simp; omega)) rfl rfl (by decide) ?_
    clear hA hS; intro v23 w24 C25 a hO25 hS hA
    replace hO25 := Own.app (l := (ps.drop 1)) (l2 := ([(fr, to, id, A16, cn, (List.replicate cn false), A20, cn, (List.replicate cn ((0, 0, 0, 0, 0, none, 0, ([] : List UInt8)) : Pkt)))] : List (Int × Int × Int × Option Addr × Nat × List Bool × Option Addr × Nat × List Pkt))) hO25
    obtain ⟨A26, c27, rfl, hmc27, hxc27⟩ := hO25.open'
    refine dr_nil (.inr (hS.tail 4 rfl)) ?_
    refine dr_run tbOk 2 hA (hS.tail 4 rfl) (e' := (58, .pointer (some ⟨b, 0, none⟩)) :: (57, .pointer (some ⟨b, 0, none⟩)) :: _) rfl ?_; clear hA; intro a hA
    refine dr_b (o := _) rfl ?_
    replace hS := hS.front 5 (C := [(b, rowO [.slice A10 ((ps.drop 1).length) c11] 33)]) (L' := C25 :: [(b21, rowO [.int .i64 fr, .int .i64 to, .int .u64 id, .slice A16 ((List.replicate cn false).length) cn, .slice A20 ((List.replicate cn ((0, 0, 0, 0, 0, none, 0, ([] : List UInt8)) : Pkt)).length) cn] 55)] :: C19 :: C15 :: Q :: [(b1, rowO [.int .i64 fr, .int .i64 to, .int .u64 id, .int .i64 ((ix : Nat) : Int), .int .i64 ((cn : Nat) : Int), .slice B bs.length d'] 38)] :: D :: F) rfl rfl
    refine st_store tbOk hA hS [.slice A26 (((ps.drop 1) ++ ([(fr, to, id, A16, cn, (List.replicate cn false), A20, cn, (List.replicate cn ((0, 0, 0, 0, 0, none, 0, ([] : List UInt8)) : Pkt)))] : List (Int × Int × Int × Option Addr × Nat × List Bool × Option Addr × Nat × List Pkt))).length) c27] [.slice A26 (((ps.drop 1) ++ ([(fr, to, id, A16, cn, (List.replicate cn false), A20, cn, (List.replicate cn ((0, 0, 0, 0, 0, none, 0, ([] : List UInt8)) : Pkt)))] : List (Int × Int × Int × Option Addr × Nat × List Bool × Option Addr × Nat × List Pkt))).length) c27] rfl rfl rfl rfl rfl rfl (by intro u hu; rw [List.mem_singleton.1 hu]; rfl) (Nat.le_of_ble_eq_true rfl) rfl rfl rfl ?_; clear hS; intro w28 hS
    refine dr_nil (.inl (by decide)) ?_
    refine dr_end ?_
    replace hA := hA.sel [0, 3, 6] (e' := [(0, .pointer (some ⟨b, 0, none⟩)), (3, .pointer (some ⟨b1, 0, none⟩)), (6, .int .i64 (((ps.drop 1).length : Nat) : Int))]) rfl
    refine xt_norm ?_
    refine wp_seq ?_
    refine wp_region_lit ?_
    obtain ⟨k, hk⟩ : ∃ k, k = (ps.drop 1).length := ⟨_, rfl⟩
    replace hA := hA.rw 6 (v' := .int .i64 ((k : Nat) : Int)) rfl (by rw [hk])
    have hdl9 : (ps.drop 1).length = ps.length - 1 := List.length_drop
    obtain ⟨qs, hqs⟩ : ∃ qs, qs = (ps.drop 1) ++ ([(fr, to, id, A16, cn, (List.replicate cn false), A20, cn, (List.replicate cn ((0, 0, 0, 0, 0, none, 0, ([] : List UInt8)) : Pkt)))] : List (Int × Int × Int × Option Addr × Nat × List Bool × Option Addr × Nat × List Pkt)) := ⟨_, rfl⟩
    rw [← hqs] at hO25 hS
    have hx : qs[k]? = some (fr, to, id, A16, cn, (List.replicate cn false), A20, cn, (List.replicate cn ((0, 0, 0, 0, 0, none, 0, ([] : List UInt8)) : Pkt))) := by rw [hqs, hk]; simp
    have hkl : k < qs.length := (List.getElem?_eq_some_iff.1 hx).1
    have hPI : PI (fr, to, id, A16, cn, (List.replicate cn false), A20, cn, (List.replicate cn ((0, 0, 0, 0, 0, none, 0, ([] : List UInt8)) : Pkt))) := PI.fresh (by omega) (by omega)
    have hR1 : PO (qs.take k) Q := by rw [hqs, hk, List.take_left]; exact hQ
    have hR2 : PO (qs.drop (k + 1)) [] := by rw [hqs, List.drop_eq_nil_of_le (by rw [hk, List.length_append]; exact Nat.le_refl _)]; exact rfl
    have hpk2 : ∀ y ∈ (List.replicate cn ((0, 0, 0, 0, 0, none, 0, ([] : List UInt8)) : Pkt)), encPacket_dd w0 D y := fun y hy => by rw [List.eq_of_mem_replicate hy]; exact DD.nil
    have hI2 : ∀ y ∈ qs, PI y := by rw [hqs]; exact snoc_all (drop_all 1 hI) hPI
    have hdd2 : ∀ z ∈ qs, ∀ y ∈ ppk z, encPacket_dd w0 D y := by rw [hqs]; exact snoc_all (x := (fr, to, id, A16, cn, (List.replicate cn false), A20, cn, (List.replicate cn ((0, 0, 0, 0, 0, none, 0, ([] : List UInt8)) : Pkt)))) (drop_all 1 hdd) hpk2
    have hhl9 : (List.replicate cn false).length = cn := List.length_replicate
    have hpl9 : (List.replicate cn ((0, 0, 0, 0, 0, none, 0, ([] : List UInt8)) : Pkt)).length = cn := List.length_replicate
    have hF : (List.replicate cn false)[ix]? = some false := by rw [List.getElem?_replicate, if_pos (by omega)]
    have hOhN : Own 4 1 (.slice A16 (List.replicate cn false).length cn) (List.replicate cn false).length (rows encBo (List.replicate cn false)) C15 := by rw [List.length_replicate]; exact hO15
    have hOpN : Own 38 6 (.slice A20 (List.replicate cn ((0, 0, 0, 0, 0, none, 0, ([] : List UInt8)) : Pkt)).length cn) (List.replicate cn ((0, 0, 0, 0, 0, none, 0, ([] : List UInt8)) : Pkt)).length (rows encPacket (List.replicate cn ((0, 0, 0, 0, 0, none, 0, ([] : List UInt8)) : Pkt))) C19 := by rw [List.length_replicate]; exact hO19
    replace hS := hS.nil
    replace hS := hS.front 8 (C := D) (L' := [] :: [(b, rowO [.slice A26 qs.length c27] 33)] :: C25 :: [(b21, rowO [.int .i64 fr, .int .i64 to, .int .u64 id, .slice A16 ((List.replicate cn false).length) cn, .slice A20 ((List.replicate cn ((0, 0, 0, 0, 0, none, 0, ([] : List UInt8)) : Pkt)).length) cn] 55)] :: C19 :: C15 :: Q :: [(b1, rowO [.int .i64 fr, .int .i64 to, .int .u64 id, .int .i64 ((ix : Nat) : Int), .int .i64 ((cn : Nat) : Int), .slice B bs.length d'] 38)] :: F) rfl rfl
    replace hS := hS.front 8 (C := [(b1, rowO [.int .i64 fr, .int .i64 to, .int .u64 id, .int .i64 ((ix : Nat) : Int), .int .i64 ((cn : Nat) : Int), .slice B bs.length d'] 38)]) (L' := D :: [] :: [(b, rowO [.slice A26 qs.length c27] 33)] :: C25 :: [(b21, rowO [.int .i64 fr, .int .i64 to, .int .u64 id, .slice A16 ((List.replicate cn false).length) cn, .slice A20 ((List.replicate cn ((0, 0, 0, 0, 0, none, 0, ([] : List UInt8)) : Pkt)).length) cn] 55)] :: C19 :: C15 :: Q :: F) rfl rfl
    replace hS := hS.front 8 (C := Q) (L' := [(b1, rowO [.int .i64 fr, .int .i64 to, .int .u64 id, .int .i64 ((ix : Nat) : Int), .int .i64 ((cn : Nat) : Int), .slice B bs.length d'] 38)] :: D :: [] :: [(b, rowO [.slice A26 qs.length c27] 33)] :: C25 :: [(b21, rowO [.int .i64 fr, .int .i64 to, .int .u64 id, .slice A16 ((List.replicate cn false).length) cn, .slice A20 ((List.replicate cn ((0, 0, 0, 0, 0, none, 0, ([] : List UInt8)) : Pkt)).length) cn] 55)] :: C19 :: C15 :: F) rfl rfl
    replace hS := hS.front 8 (C := C15) (L' := Q :: [(b1, rowO [.int .i64 fr, .int .i64 to, .int .u64 id, .int .i64 ((ix : Nat) : Int), .int .i64 ((cn : Nat) : Int), .slice B bs.length d'] 38)] :: D :: [] :: [(b, rowO [.slice A26 qs.length c27] 33)] :: C25 :: [(b21, rowO [.int .i64 fr, .int .i64 to, .int .u64 id, .slice A16 ((List.replicate cn false).length) cn, .slice A20 ((List.replicate cn ((0, 0, 0, 0, 0, none, 0, ([] : List UInt8)) : Pkt)).length) cn] 55)] :: C19 :: F) rfl rfl
    replace hS := hS.front 8 (C := C19) (L' := C15 :: Q :: [(b1, rowO [.int .i64 fr, .int .i64 to, .int .u64 id, .int .i64 ((ix : Nat) : Int), .int .i64 ((cn : Nat) : Int), .slice B bs.length d'] 38)] :: D :: [] :: [(b, rowO [.slice A26 qs.length c27] 33)] :: C25 :: [(b21, rowO [.int .i64 fr, .int .i64 to, .int .u64 id, .slice A16 ((List.replicate cn false).length) cn, .slice A20 ((List.replicate cn ((0, 0, 0, 0, 0, none, 0, ([] : List UInt8)) : Pkt)).length) cn] 55)] :: F) rfl rfl
    replace hS := hS.front 8 (C := [(b21, rowO [.int .i64 fr, .int .i64 to, .int .u64 id, .slice A16 ((List.replicate cn false).length) cn, .slice A20 ((List.replicate cn ((0, 0, 0, 0, 0, none, 0, ([] : List UInt8)) : Pkt)).length) cn] 55)]) (L' := C19 :: C15 :: Q :: [(b1, rowO [.int .i64 fr, .int .i64 to, .int .u64 id, .int .i64 ((ix : Nat) : Int), .int .i64 ((cn : Nat) : Int), .slice B bs.length d'] 38)] :: D :: [] :: [(b, rowO [.slice A26 qs.length c27] 33)] :: C25 :: F) rfl rfl
    replace hS := hS.front 8 (C := C25) (L' := [(b21, rowO [.int .i64 fr, .int .i64 to, .int .u64 id, .slice A16 ((List.replicate cn false).length) cn, .slice A20 ((List.replicate cn ((0, 0, 0, 0, 0, none, 0, ([] : List UInt8)) : Pkt)).length) cn] 55)] :: C19 :: C15 :: Q :: [(b1, rowO [.int .i64 fr, .int .i64 to, .int .u64 id, .int .i64 ((ix : Nat) : Int), .int .i64 ((cn : Nat) : Int), .slice B bs.length d'] 38)] :: D :: [] :: [(b, rowO [.slice A26 qs.length c27] 33)] :: F) rfl rfl
    replace hS := hS.front 8 (C := [(b, rowO [.slice A26 qs.length c27] 33)]) (L' := C25 :: [(b21, rowO [.int .i64 fr, .int .i64 to, .int .u64 id, .slice A16 ((List.replicate cn false).length) cn, .slice A20 ((List.replicate cn ((0, 0, 0, 0, 0, none, 0, ([] : List UInt8)) : Pkt)).length) cn] 55)] :: C19 :: C15 :: Q :: [(b1, rowO [.int .i64 fr, .int .i64 to, .int .u64 id, .int .i64 ((ix : Nat) : Int), .int .i64 ((cn : Nat) : Int), .slice B bs.length d'] 38)] :: D :: [] :: F) rfl rfl
    replace hS := hS.front 8 (C := []) (L' := [(b, rowO [.slice A26 qs.length c27] 33)] :: C25 :: [(b21, rowO [.int .i64 fr, .int .i64 to, .int .u64 id, .slice A16 ((List.replicate cn false).length) cn, .slice A20 ((List.replicate cn ((0, 0, 0, 0, 0, none, 0, ([] : List UInt8)) : Pkt)).length) cn] 55)] :: C19 :: C15 :: Q :: [(b1, rowO [.int .i64 fr, .int .i64 to, .int .u64 id, .int .i64 ((ix : Nat) : Int), .int .i64 ((cn : Nat) : Int), .slice B bs.length d'] 38)] :: D :: F) rfl rfl
    refine st_run tbOk 3 hA (e' := (61, .pointer (some ⟨b, 0, none⟩)) :: (60, .pointer (some ⟨b, 0, none⟩)) :: (59, .pointer (some ⟨b, 0, none⟩)) :: _) rfl ?_; clear hA; intro a hA
    refine st_val hA rfl rfl (by decide) (rn_load tbOk hA rfl rfl rfl rfl (cell_row (hS.heapAt 1 rfl) rfl)) ?_; clear hA; intro a hA
    refine st_run tbOk 1 hA (e' := (63, .int .i64 ((k : Nat) : Int)) :: _) rfl ?_; clear hA; intro a hA
    obtain ⟨b29, o30, rfl⟩ := hO25.isSome (k := k) (by omega)
    refine st_val hA rfl rfl (by decide) (rn_indexAddr tbOk hA k (o30 + (k * 5)) rfl rfl rfl rfl rfl rfl (by rfl) (by omega) (by first | rfl | simp [Nat.mul_one, Nat.zero_add] | omega)) ?_; clear hA; intro a hA
    refine st_run tbOk 1 hA (e' := (7, .pointer (some ⟨b29, o30 + (k * 5), none⟩)) :: _) rfl ?_; clear hA; intro a hA
    refine wpList_nil ?_
    replace hA := hA.sel [0, 3, 6, 7] (e' := [(0, .pointer (some ⟨b, 0, none⟩)), (3, .pointer (some ⟨b1, 0, none⟩)), (6, .int .i64 ((k : Nat) : Int)), (7, .pointer (some ⟨b29, o30 + (k * 5), none⟩))]) rfl
    refine xt_norm ?_
    refine wp_seq ?_
    refine wp_seq ?_
    obtain ⟨b31, o32, rfl⟩ := hOhN.isSome (k := ix) (by omega)
    refine wp_draw (fun w' => St w0 w' ([] :: [(b, rowO [.slice (some ⟨b29, o30, none⟩) qs.length c27] 33)] :: C25 :: [(b21, rowO [.int .i64 fr, .int .i64 to, .int .u64 id, .slice (some ⟨b31, o32, none⟩) ((List.replicate cn false).length) cn, .slice A20 ((List.replicate cn ((0, 0, 0, 0, 0, none, 0, ([] : List UInt8)) : Pkt)).length) cn] 55)] :: C19 :: C15 :: Q :: [(b1, rowO [.int .i64 fr, .int .i64 to, .int .u64 id, .int .i64 ((ix : Nat) : Int), .int .i64 ((cn : Nat) : Int), .slice B bs.length d'] 38)] :: D :: F)) [] [(0, true), (1, true), (2, true), (3, true), (4, true), (5, true), (6, true), (7, true), (8, true), (9, true), (10, true), (11, true), (12, true), (13, true), (14, true), (15, true), (16, true), (17, true)] mixed (by kernel_rfl) (by rintro c a w ⟨_, _, h, _⟩; cases h) (by rfl) (by kernel_rfl) ?_
    replace hS := hS.drew
    refine dr_run tbOk 3 hA hS (e' := (67, .pointer (some ⟨b29, o30 + (k * 5) + 3, none⟩)) :: (66, .pointer (some ⟨b29, o30 + (k * 5), none⟩)) :: (65, .pointer (some ⟨b29, o30 + (k * 5), none⟩)) :: _) rfl ?_; clear hA; intro a hA
    refine dr_y hA rfl rfl rfl (by decide) hS (fun w' hS' => rn_load tbOk hA rfl rfl rfl rfl ((hO25.rd (hS'.own_ 2 rfl)).elemf (k := k) encPart_ok hx (j := 3) rfl)) ?_; clear hA; intro a hA
    refine dr_run tbOk 2 hA hS (e' := (70, .pointer (some ⟨b1, 4, none⟩)) :: (69, .int .i64 (((List.replicate cn false).length : Nat) : Int)) :: _) rfl ?_; clear hA; intro a hA
    refine dr_y hA rfl rfl rfl (by decide) hS (fun w' hS' => rn_load tbOk hA rfl rfl rfl rfl (cell_row (hS'.heapAt 7 rfl) rfl)) ?_; clear hA; intro a hA
    refine dr_run tbOk 2 hA hS (e' := (73, .bool ((((List.replicate cn false).length : Nat) : Int) != ((cn : Nat) : Int))) :: (72, .bool ((((List.replicate cn false).length : Nat) : Int) != ((cn : Nat) : Int))) :: _) rfl ?_; clear hA; intro a hA
    have hc33 : (((List.replicate cn false).length : Nat) : Int) = ((cn : Nat) : Int) := by omega
    replace hA := hA.rw 72 (v' := .bool false) rfl (vb_ne_f hc33)
    replace hA := hA.rw 73 (v' := .bool false) rfl (vb_ne_f hc33)
    refine dr_run tbOk 3 hA hS (e' := (76, .pointer (some ⟨b29, o30 + (k * 5) + 3, none⟩)) :: (75, .pointer (some ⟨b29, o30 + (k * 5), none⟩)) :: (74, .pointer (some ⟨b29, o30 + (k * 5), none⟩)) :: _) rfl ?_; clear hA; intro a hA
    refine dr_y hA rfl rfl rfl (by decide) hS (fun w' hS' => rn_load tbOk hA rfl rfl rfl rfl ((hO25.rd (hS'.own_ 2 rfl)).elemf (k := k) encPart_ok hx (j := 3) rfl)) ?_; clear hA; intro a hA
    refine dr_run tbOk 1 hA hS (e' := (78, .pointer (some ⟨b1, 3, none⟩)) :: _) rfl ?_; clear hA; intro a hA
    refine dr_y hA rfl rfl rfl (by decide) hS (fun w' hS' => rn_load tbOk hA rfl rfl rfl rfl (cell_row (hS'.heapAt 7 rfl) rfl)) ?_; clear hA; intro a hA
    replace hA := hA.rw 77 (v' := .slice (some ⟨b31, o32, none⟩) ((List.replicate cn false).length) cn) rfl rfl
    refine dr_y hA rfl rfl rfl (by decide) hS (fun w' hS' => rn_indexAddr tbOk hA ix (o32 + ix) rfl rfl rfl rfl rfl rfl (by rfl) (by omega) (by first | rfl | simp [Nat.mul_one, Nat.zero_add] | omega)) ?_; clear hA; intro a hA
    refine dr_y hA rfl rfl rfl (by decide) hS (fun w' hS' => rn_load tbOk hA rfl rfl rfl rfl ((hOhN.rd (hS'.own_ 5 rfl)).elem0 (k := ix) encBo_ok hF rfl)) ?_; clear hA; intro a hA
    refine dr_run tbOk 1 hA hS (e' := (82, .bool false) :: _) rfl ?_; clear hA; intro a hA
    refine dr_end ?_
    replace hA := hA.sel [0, 3, 6, 7, 82] (e' := [(0, .pointer (some ⟨b, 0, none⟩)), (3, .pointer (some ⟨b1, 0, none⟩)), (6, .int .i64 ((k : Nat) : Int)), (7, .pointer (some ⟨b29, o30 + (k * 5), none⟩)), (82, .bool false)]) rfl
    refine xt_norm ?_
    refine cd_cond_f hA rfl ?_
    refine wp_skip ?_
    refine xt_norm ?_
    refine wp_seq ?_
    replace hS := hS.front 5 (C := C15) (L' := [] :: [(b, rowO [.slice (some ⟨b29, o30, none⟩) qs.length c27] 33)] :: C25 :: [(b21, rowO [.int .i64 fr, .int .i64 to, .int .u64 id, .slice (some ⟨b31, o32, none⟩) ((List.replicate cn false).length) cn, .slice A20 ((List.replicate cn ((0, 0, 0, 0, 0, none, 0, ([] : List UInt8)) : Pkt)).length) cn] 55)] :: C19 :: Q :: [(b1, rowO [.int .i64 fr, .int .i64 to, .int .u64 id, .int .i64 ((ix : Nat) : Int), .int .i64 ((cn : Nat) : Int), .slice B bs.length d'] 38)] :: D :: F) rfl rfl
    refine wp_draw (fun w' => St w0 w' ([] :: [(b, rowO [.slice (some ⟨b29, o30, none⟩) qs.length c27] 33)] :: C25 :: [(b21, rowO [.int .i64 fr, .int .i64 to, .int .u64 id, .slice (some ⟨b31, o32, none⟩) ((List.replicate cn false).length) cn, .slice A20 ((List.replicate cn ((0, 0, 0, 0, 0, none, 0, ([] : List UInt8)) : Pkt)).length) cn] 55)] :: C19 :: Q :: [(b1, rowO [.int .i64 fr, .int .i64 to, .int .u64 id, .int .i64 ((ix : Nat) : Int), .int .i64 ((cn : Nat) : Int), .slice B bs.length d'] 38)] :: D :: F)) [7] [(0, true), (1, true), (2, true), (3, true), (4, true), (5, true), (6, true), (7, false)] mixed (by kernel_rfl) (by rintro c a w ⟨_, _, h, _⟩; cases h) (by rfl) (by kernel_rfl) ?_
    replace hS := hS.drew
    refine dr_run tbOk 3 hA (hS.tail 1 rfl) (e' := (85, .pointer (some ⟨b29, o30 + (k * 5) + 3, none⟩)) :: (84, .pointer (some ⟨b29, o30 + (k * 5), none⟩)) :: (83, .pointer (some ⟨b29, o30 + (k * 5), none⟩)) :: _) rfl ?_; clear hA; intro a hA
    refine dr_y hA rfl rfl rfl (by decide) (hS.tail 1 rfl) (fun w' hS' => rn_load tbOk hA rfl rfl rfl rfl ((hO25.rd (hS'.own_ 2 rfl)).elemf (k := k) encPart_ok hx (j := 3) rfl)) ?_; clear hA; intro a hA
    refine dr_run tbOk 1 hA (hS.tail 1 rfl) (e' := (87, .pointer (some ⟨b1, 3, none⟩)) :: _) rfl ?_; clear hA; intro a hA
    refine dr_y hA rfl rfl rfl (by decide) (hS.tail 1 rfl) (fun w' hS' => rn_load tbOk hA rfl rfl rfl rfl (cell_row (hS'.heapAt 6 rfl) rfl)) ?_; clear hA; intro a hA
    replace hA := hA.rw 86 (v' := .slice (some ⟨b31, o32, none⟩) ((List.replicate cn false).length) cn) rfl rfl
    refine dr_y hA rfl rfl rfl (by decide) (hS.tail 1 rfl) (fun w' hS' => rn_indexAddr tbOk hA ix (o32 + ix) rfl rfl rfl rfl rfl rfl (by rfl) (by omega) (by first | rfl | simp [Nat.mul_one, Nat.zero_add] | omega)) ?_; clear hA; intro a hA
    refine dr_b (o := _) rfl ?_
    refine st_store_own tbOk hA hOhN hS (ix) (o32 + ix) [.bool true] (rows encBo ((List.replicate cn false).set ix true)) rfl rfl rfl rfl (by rfl) rfl rfl (by intro u hu; rw [List.mem_singleton.1 hu]; rfl) (by simp only [rows_length encBo_ok, rows_length encPacket_ok, List.length_cons, List.length_nil]; omega) (by have := rows_set encBo_ok (x := true) (l := (List.replicate cn false)) (k := ix) (by omega); rw [Nat.mul_one] at this; exact this) rfl rfl ?_; clear hS; intro w34 C35 hO35 hS
    refine dr_nil (.inl (by decide)) ?_
    refine dr_end ?_
    replace hA := hA.sel [0, 3, 6, 7] (e' := [(0, .pointer (some ⟨b, 0, none⟩)), (3, .pointer (some ⟨b1, 0, none⟩)), (6, .int .i64 ((k : Nat) : Int)), (7, .pointer (some ⟨b29, o30 + (k * 5), none⟩))]) rfl
    refine xt_norm ?_
    refine wp_seq ?_
    obtain ⟨b36, o37, rfl⟩ := hOpN.isSome (k := ix) (by omega)
    replace hS := hS.front 5 (C := C19) (L' := C35 :: [] :: [(b, rowO [.slice (some ⟨b29, o30, none⟩) qs.length c27] 33)] :: C25 :: [(b21, rowO [.int .i64 fr, .int .i64 to, .int .u64 id, .slice (some ⟨b31, o32, none⟩) ((List.replicate cn false).length) cn, .slice (some ⟨b36, o37, none⟩) ((List.replicate cn ((0, 0, 0, 0, 0, none, 0, ([] : List UInt8)) : Pkt)).length) cn] 55)] :: Q :: [(b1, rowO [.int .i64 fr, .int .i64 to, .int .u64 id, .int .i64 ((ix : Nat) : Int), .int .i64 ((cn : Nat) : Int), .slice B bs.length d'] 38)] :: D :: F) rfl rfl
    refine wp_draw (fun w' => St w0 w' (C35 :: [] :: [(b, rowO [.slice (some ⟨b29, o30, none⟩) qs.length c27] 33)] :: C25 :: [(b21, rowO [.int .i64 fr, .int .i64 to, .int .u64 id, .slice (some ⟨b31, o32, none⟩) ((List.replicate cn false).length) cn, .slice (some ⟨b36, o37, none⟩) ((List.replicate cn ((0, 0, 0, 0, 0, none, 0, ([] : List UInt8)) : Pkt)).length) cn] 55)] :: Q :: [(b1, rowO [.int .i64 fr, .int .i64 to, .int .u64 id, .int .i64 ((ix : Nat) : Int), .int .i64 ((cn : Nat) : Int), .slice B bs.length d'] 38)] :: D :: F)) [21] [(0, true), (1, true), (2, true), (3, true), (4, true), (5, true), (6, true), (7, true), (8, true), (9, true), (10, true), (11, true), (12, true), (13, true), (14, true), (15, true), (16, true), (17, true), (18, false), (19, true), (20, true), (21, false)] mixed (by kernel_rfl) (by rintro c a w ⟨_, _, h, _⟩; cases h) (by rfl) (by kernel_rfl) ?_
    replace hS := hS.drew
    refine dr_run tbOk 3 hA (hS.tail 1 rfl) (e' := (92, .pointer (some ⟨b29, o30 + (k * 5) + 4, none⟩)) :: (91, .pointer (some ⟨b29, o30 + (k * 5), none⟩)) :: (90, .pointer (some ⟨b29, o30 + (k * 5), none⟩)) :: _) rfl ?_; clear hA; intro a hA
    refine dr_y hA rfl rfl rfl (by decide) (hS.tail 1 rfl) (fun w' hS' => rn_load tbOk hA rfl rfl rfl rfl ((hO25.rd (hS'.own_ 3 rfl)).elemf (k := k) encPart_ok hx (j := 4) rfl)) ?_; clear hA; intro a hA
    refine dr_run tbOk 1 hA (hS.tail 1 rfl) (e' := (94, .pointer (some ⟨b1, 3, none⟩)) :: _) rfl ?_; clear hA; intro a hA
    refine dr_y hA rfl rfl rfl (by decide) (hS.tail 1 rfl) (fun w' hS' => rn_load tbOk hA rfl rfl rfl rfl (cell_row (hS'.heapAt 6 rfl) rfl)) ?_; clear hA; intro a hA
    refine dr_run tbOk 1 hA (hS.tail 1 rfl) (e' := (96, .pointer (some ⟨b1, 0, none⟩)) :: _) rfl ?_; clear hA; intro a hA
    refine dr_y hA rfl rfl rfl (by decide) (hS.tail 1 rfl) (fun w' hS' => rn_load tbOk hA rfl rfl rfl rfl (cell_row (hS'.heapAt 6 rfl) rfl)) ?_; clear hA; intro a hA
    refine dr_run tbOk 1 hA (hS.tail 1 rfl) (e' := (98, .pointer (some ⟨b1, 1, none⟩)) :: _) rfl ?_; clear hA; intro a hA
    refine dr_y hA rfl rfl rfl (by decide) (hS.tail 1 rfl) (fun w' hS' => rn_load tbOk hA rfl rfl rfl rfl (cell_row (hS'.heapAt 6 rfl) rfl)) ?_; clear hA; intro a hA
    refine dr_run tbOk 1 hA (hS.tail 1 rfl) (e' := (100, .pointer (some ⟨b1, 2, none⟩)) :: _) rfl ?_; clear hA; intro a hA
    refine dr_y hA rfl rfl rfl (by decide) (hS.tail 1 rfl) (fun w' hS' => rn_load tbOk hA rfl rfl rfl rfl (cell_row (hS'.heapAt 6 rfl) rfl)) ?_; clear hA; intro a hA
    refine dr_run tbOk 1 hA (hS.tail 1 rfl) (e' := (102, .pointer (some ⟨b1, 3, none⟩)) :: _) rfl ?_; clear hA; intro a hA
    refine dr_y hA rfl rfl rfl (by decide) (hS.tail 1 rfl) (fun w' hS' => rn_load tbOk hA rfl rfl rfl rfl (cell_row (hS'.heapAt 6 rfl) rfl)) ?_; clear hA; intro a hA
    refine dr_run tbOk 1 hA (hS.tail 1 rfl) (e' := (104, .pointer (some ⟨b1, 4, none⟩)) :: _) rfl ?_; clear hA; intro a hA
    refine dr_y hA rfl rfl rfl (by decide) (hS.tail 1 rfl) (fun w' hS' => rn_load tbOk hA rfl rfl rfl rfl (cell_row (hS'.heapAt 6 rfl) rfl)) ?_; clear hA; intro a hA
    refine dr_run tbOk 1 hA (hS.tail 1 rfl) (e' := (106, .pointer (some ⟨b1, 5, none⟩)) :: _) rfl ?_; clear hA; intro a hA
    refine dr_y hA rfl rfl rfl (by decide) (hS.tail 1 rfl) (fun w' hS' => rn_load tbOk hA rfl rfl rfl rfl (cell_row (hS'.heapAt 6 rfl) rfl)) ?_; clear hA; intro a hA
    refine dr_b (o := _) rfl ?_
    refine st_call0 hA rfl rfl rfl isfn16 rfl rfl (by decide) (clonex16 hS (l := bs) (fun w' h => (hd _ (h.tail 8 rfl))) (by first | omega | (simp; omega))) ?_
    clear hA hS; rintro _ w41 a ⟨A38, c39, C40, hOC40, rfl, hS⟩ hA
    refine dr_nil (.inr (hS.tail 2 rfl)) ?_
    refine dr_y hA rfl rfl rfl (by decide) (hS.tail 2 rfl) (fun w' hS' => rn_build tbOk hA rfl rfl rfl rfl rfl rfl rfl) ?_; clear hA; intro a hA
    replace hA := hA.rw 93 (v' := .slice (some ⟨b36, o37, none⟩) ((List.replicate cn ((0, 0, 0, 0, 0, none, 0, ([] : List UInt8)) : Pkt)).length) cn) rfl rfl
    refine dr_y hA rfl rfl rfl (by decide) (hS.tail 2 rfl) (fun w' hS' => rn_indexAddr tbOk hA ix (o37 + (ix * 6)) rfl rfl rfl rfl rfl rfl (by rfl) (by omega) (by first | rfl | simp [Nat.mul_one, Nat.zero_add] | omega)) ?_; clear hA; intro a hA
    refine dr_b (o := _) rfl ?_
    replace hS := hS.front 1 (C := C19) (L' := C40 :: C35 :: [] :: [(b, rowO [.slice (some ⟨b29, o30, none⟩) qs.length c27] 33)] :: C25 :: [(b21, rowO [.int .i64 fr, .int .i64 to, .int .u64 id, .slice (some ⟨b31, o32, none⟩) ((List.replicate cn false).length) cn, .slice (some ⟨b36, o37, none⟩) ((List.replicate cn ((0, 0, 0, 0, 0, none, 0, ([] : List UInt8)) : Pkt)).length) cn] 55)] :: Q :: [(b1, rowO [.int .i64 fr, .int .i64 to, .int .u64 id, .int .i64 ((ix : Nat) : Int), .int .i64 ((cn : Nat) : Int), .slice B bs.length d'] 38)] :: D :: F) rfl rfl
    refine st_store_own tbOk hA hOpN hS ((ix * 6)) (o37 + (ix * 6)) [.int .i64 fr, .int .i64 to, .int .u64 id, .int .i64 ((ix : Nat) : Int), .int .i64 ((cn : Nat) : Int), .slice A38 bs.length c39] (rows encPacket ((List.replicate cn ((0, 0, 0, 0, 0, none, 0, ([] : List UInt8)) : Pkt)).set ix (fr, to, id, ((ix : Nat) : Int), ((cn : Nat) : Int), A38, c39, bs))) rfl rfl rfl rfl (by rfl) rfl rfl (by exact encPacket_ok.one (fr, to, id, ((ix : Nat) : Int), ((cn : Nat) : Int), A38, c39, bs)) (by simp only [rows_length encBo_ok, rows_length encPacket_ok, List.length_cons, List.length_nil]; omega) (rows_set encPacket_ok (x := (fr, to, id, ((ix : Nat) : Int), ((cn : Nat) : Int), A38, c39, bs)) (l := (List.replicate cn ((0, 0, 0, 0, 0, none, 0, ([] : List UInt8)) : Pkt))) (k := ix) (by omega)) rfl rfl ?_; clear hS; intro w42 C43 hO43 hS
    refine dr_nil (.inl (by decide)) ?_
    refine dr_end ?_
    replace hA := hA.sel [0, 6, 7] (e' := [(0, .pointer (some ⟨b, 0, none⟩)), (6, .int .i64 ((k : Nat) : Int)), (7, .pointer (some ⟨b29, o30 + (k * 5), none⟩))]) rfl
    refine xt_norm ?_
    refine wp_seq ?_
    refine wp_seq ?_
    refine wp_region_lit ?_
    refine st_run tbOk 3 hA (e' := (113, .pointer (some ⟨b29, o30 + (k * 5) + 3, none⟩)) :: (112, .pointer (some ⟨b29, o30 + (k * 5), none⟩)) :: (111, .pointer (some ⟨b29, o30 + (k * 5), none⟩)) :: _) rfl ?_; clear hA; intro a hA
    refine st_val hA rfl rfl (by decide) (rn_load tbOk hA rfl rfl rfl rfl ((hO25.rd (hS.own_ 5 rfl)).elemf (k := k) encPart_ok hx (j := 3) rfl)) ?_; clear hA; intro a hA
    have hOh2 : Own 4 1 (.slice (some ⟨b31, o32, none⟩) ((List.replicate cn false).set ix true).length cn) ((List.replicate cn false).set ix true).length (rows encBo ((List.replicate cn false).set ix true)) C35 := by rw [List.length_set]; exact hO35
    replace hA := hA.rw 114 (v' := .slice (some ⟨b31, o32, none⟩) (((List.replicate cn false).set ix true).length) cn) rfl (by rw [List.length_set])
    refine st_call0 hA rfl rfl rfl isfn17 rfl rfl (by decide) (containsb17 hS (l := (List.replicate cn false).set ix true) (RdS.own hOh2 2 rfl)) ?_
    clear hA hS; rintro v w44 a ⟨rfl, hS⟩ hA
    replace hA := hA.rw 115 (v' := .bool false) rfl (congrArg Value.bool hany)
    refine wpList_nil ?_
    replace hA := hA.sel [0, 6, 7, 115] (e' := [(0, .pointer (some ⟨b, 0, none⟩)), (6, .int .i64 ((k : Nat) : Int)), (7, .pointer (some ⟨b29, o30 + (k * 5), none⟩)), (115, .bool false)]) rfl
    refine xt_norm ?_
    refine cd_cond_f hA rfl ?_
    refine wp_skip ?_
    refine xt_norm ?_
    refine wp_seq ?_
    refine wp_region_lit ?_
    refine st_run tbOk 3 hA (e' := (119, .pointer (some ⟨b29, o30 + (k * 5) + 4, none⟩)) :: (118, .pointer (some ⟨b29, o30 + (k * 5), none⟩)) :: (117, .pointer (some ⟨b29, o30 + (k * 5), none⟩)) :: _) rfl ?_; clear hA; intro a hA
    refine st_val hA rfl rfl (by decide) (rn_load tbOk hA rfl rfl rfl rfl ((hO25.rd (hS.own_ 5 rfl)).elemf (k := k) encPart_ok hx (j := 4) rfl)) ?_; clear hA; intro a hA
    have hOp2 : Own 38 6 (.slice (some ⟨b36, o37, none⟩) ((List.replicate cn ((0, 0, 0, 0, 0, none, 0, ([] : List UInt8)) : Pkt)).set ix (fr, to, id, ((ix : Nat) : Int), ((cn : Nat) : Int), A38, c39, bs)).length cn) ((List.replicate cn ((0, 0, 0, 0, 0, none, 0, ([] : List UInt8)) : Pkt)).set ix (fr, to, id, ((ix : Nat) : Int), ((cn : Nat) : Int), A38, c39, bs)).length (rows encPacket ((List.replicate cn ((0, 0, 0, 0, 0, none, 0, ([] : List UInt8)) : Pkt)).set ix (fr, to, id, ((ix : Nat) : Int), ((cn : Nat) : Int), A38, c39, bs))) C43 := by rw [List.length_set]; exact hO43
    replace hA := hA.rw 120 (v' := .slice (some ⟨b36, o37, none⟩) (((List.replicate cn ((0, 0, 0, 0, 0, none, 0, ([] : List UInt8)) : Pkt)).set ix (fr, to, id, ((ix : Nat) : Int), ((cn : Nat) : Int), A38, c39, bs)).length) cn) rfl (by rw [List.length_set])
    replace hS := hS.front 9 (C := D) (L' := C43 :: C40 :: C35 :: [] :: [(b, rowO [.slice (some ⟨b29, o30, none⟩) qs.length c27] 33)] :: C25 :: [(b21, rowO [.int .i64 fr, .int .i64 to, .int .u64 id, .slice (some ⟨b31, o32, none⟩) ((List.replicate cn false).length) cn, .slice (some ⟨b36, o37, none⟩) ((List.replicate cn ((0, 0, 0, 0, 0, none, 0, ([] : List UInt8)) : Pkt)).length) cn] 55)] :: Q :: [(b1, rowO [.int .i64 fr, .int .i64 to, .int .u64 id, .int .i64 ((ix : Nat) : Int), .int .i64 ((cn : Nat) : Int), .slice B bs.length d'] 38)] :: F) rfl rfl
    replace hS := hS.front 2 (C := C40) (L' := D :: C43 :: C35 :: [] :: [(b, rowO [.slice (some ⟨b29, o30, none⟩) qs.length c27] 33)] :: C25 :: [(b21, rowO [.int .i64 fr, .int .i64 to, .int .u64 id, .slice (some ⟨b31, o32, none⟩) ((List.replicate cn false).length) cn, .slice (some ⟨b36, o37, none⟩) ((List.replicate cn ((0, 0, 0, 0, 0, none, 0, ([] : List UInt8)) : Pkt)).length) cn] 55)] :: Q :: [(b1, rowO [.int .i64 fr, .int .i64 to, .int .u64 id, .int .i64 ((ix : Nat) : Int), .int .i64 ((cn : Nat) : Int), .slice B bs.length d'] 38)] :: F) rfl rfl
    replace hS := hS.join
    have hdE := (DD.new (w0 := w0) hOC40).right (E := D)
    have hPI2 : PI (fr, to, id, (some ⟨b31, o32, none⟩), cn, (List.replicate cn false).set ix true, (some ⟨b36, o37, none⟩), cn, (List.replicate cn ((0, 0, 0, 0, 0, none, 0, ([] : List UInt8)) : Pkt)).set ix (fr, to, id, ((ix : Nat) : Int), ((cn : Nat) : Int), A38, c39, bs)) := hPI.put (by omega) (by omega) (by omega) _ _
    have hpd : ∀ y ∈ (List.replicate cn ((0, 0, 0, 0, 0, none, 0, ([] : List UInt8)) : Pkt)).set ix (fr, to, id, ((ix : Nat) : Int), ((cn : Nat) : Int), A38, c39, bs), encPacket_dd w0 (C40 ++ D) y := fun y hy => (List.mem_or_eq_of_mem_set hy).elim (fun hy => encPacket_left (hpk2 y hy)) (fun e => by rw [e]; exact hdE)
    refine st_call0 hA rfl rfl rfl isfn18 rfl rfl (by decide) (join18 hS (ps := (List.replicate cn ((0, 0, 0, 0, 0, none, 0, ([] : List UInt8)) : Pkt)).set ix (fr, to, id, ((ix : Nat) : Int), ((cn : Nat) : Int), A38, c39, bs)) (RdS.own hOp2 1 rfl) hpd) ?_
    clear hA hS; rintro _ w45 a ⟨C47, v46, ou50, hO47, hjC47, hS⟩ hA
    obtain ⟨A48, c49, rfl, hmc49, hxc49⟩ := hO47.open'
    obtain ⟨-, rfl, rfl⟩ := hjC47.resolve_right (fun h => h.1 (hPI2.allfit hany))
    refine st_run tbOk 5 hA (e' := (9, .bool (decide (((((List.replicate cn ((0, 0, 0, 0, 0, none, 0, ([] : List UInt8)) : Pkt)).set ix (fr, to, id, ((ix : Nat) : Int), ((cn : Nat) : Int), A38, c39, bs)).length : Nat) : Int) > 0))) :: (8, .slice A48 ((cat ((List.replicate cn ((0, 0, 0, 0, 0, none, 0, ([] : List UInt8)) : Pkt)).set ix (fr, to, id, ((ix : Nat) : Int), ((cn : Nat) : Int), A38, c39, bs)) ((List.replicate cn ((0, 0, 0, 0, 0, none, 0, ([] : List UInt8)) : Pkt)).set ix (fr, to, id, ((ix : Nat) : Int), ((cn : Nat) : Int), A38, c39, bs)).length).length) c49) :: (123, .bool (decide (((((List.replicate cn ((0, 0, 0, 0, 0, none, 0, ([] : List UInt8)) : Pkt)).set ix (fr, to, id, ((ix : Nat) : Int), ((cn : Nat) : Int), A38, c39, bs)).length : Nat) : Int) > 0))) :: (122, .slice A48 ((cat ((List.replicate cn ((0, 0, 0, 0, 0, none, 0, ([] : List UInt8)) : Pkt)).set ix (fr, to, id, ((ix : Nat) : Int), ((cn : Nat) : Int), A38, c39, bs)) ((List.replicate cn ((0, 0, 0, 0, 0, none, 0, ([] : List UInt8)) : Pkt)).set ix (fr, to, id, ((ix : Nat) : Int), ((cn : Nat) : Int), A38, c39, bs)).length).length) c49) :: (116, .tuple #[.slice A48 ((cat ((List.replicate cn ((0, 0, 0, 0, 0, none, 0, ([] : List UInt8)) : Pkt)).set ix (fr, to, id, ((ix : Nat) : Int), ((cn : Nat) : Int), A38, c39, bs)) ((List.replicate cn ((0, 0, 0, 0, 0, none, 0, ([] : List UInt8)) : Pkt)).set ix (fr, to, id, ((ix : Nat) : Int), ((cn : Nat) : Int), A38, c39, bs)).length).length) c49, .bool (decide (((((List.replicate cn ((0, 0, 0, 0, 0, none, 0, ([] : List UInt8)) : Pkt)).set ix (fr, to, id, ((ix : Nat) : Int), ((cn : Nat) : Int), A38, c39, bs)).length : Nat) : Int) > 0))]) :: _) rfl ?_; clear hA; intro a hA
    refine wpList_nil ?_
    replace hA := hA.sel [0, 6, 8, 9] (e' := [(0, .pointer (some ⟨b, 0, none⟩)), (6, .int .i64 ((k : Nat) : Int)), (8, .slice A48 ((cat ((List.replicate cn ((0, 0, 0, 0, 0, none, 0, ([] : List UInt8)) : Pkt)).set ix (fr, to, id, ((ix : Nat) : Int), ((cn : Nat) : Int), A38, c39, bs)) ((List.replicate cn ((0, 0, 0, 0, 0, none, 0, ([] : List UInt8)) : Pkt)).set ix (fr, to, id, ((ix : Nat) : Int), ((cn : Nat) : Int), A38, c39, bs)).length).length) c49), (9, .bool (decide (((((List.replicate cn ((0, 0, 0, 0, 0, none, 0, ([] : List UInt8)) : Pkt)).set ix (fr, to, id, ((ix : Nat) : Int), ((cn : Nat) : Int), A38, c39, bs)).length : Nat) : Int) > 0)))]) rfl
    refine xt_norm ?_
    refine wp_seq ?_
    refine wp_region_lit ?_
    refine st_run tbOk 4 hA (e' := (127, .pointer (some ⟨b, 0, none⟩)) :: (126, .pointer (some ⟨b, 0, none⟩)) :: (125, .pointer (some ⟨b, 0, none⟩)) :: (124, .pointer (some ⟨b, 0, none⟩)) :: _) rfl ?_; clear hA; intro a hA
    refine st_val hA rfl rfl (by decide) (rn_load tbOk hA rfl rfl rfl rfl (cell_row (hS.heapAt 5 rfl) rfl)) ?_; clear hA; intro a hA
    refine st_run tbOk 3 hA (e' := (131, .int .i64 (IntKind.i64.wrap (((k : Nat) : Int) + 1))) :: (130, .int .i64 ((k : Nat) : Int)) :: (129, .int .i64 ((k : Nat) : Int)) :: _) rfl ?_; clear hA; intro a hA
    replace hA := hA.rw 131 (v' := .int .i64 ((k + 1 : Nat) : Int)) rfl (wr64 (by omega) (by omega) (by omega))
    replace hS := hS.front 6 (C := C25) (L' := C47 :: (C40 ++ D) :: C43 :: C35 :: [] :: [(b, rowO [.slice (some ⟨b29, o30, none⟩) qs.length c27] 33)] :: [(b21, rowO [.int .i64 fr, .int .i64 to, .int .u64 id, .slice (some ⟨b31, o32, none⟩) ((List.replicate cn false).length) cn, .slice (some ⟨b36, o37, none⟩) ((List.replicate cn ((0, 0, 0, 0, 0, none, 0, ([] : List UInt8)) : Pkt)).length) cn] 55)] :: Q :: [(b1, rowO [.int .i64 fr, .int .i64 to, .int .u64 id, .int .i64 ((ix : Nat) : Int), .int .i64 ((cn : Nat) : Int), .slice B bs.length d'] 38)] :: F) rfl rfl
    refine st_call0 hA rfl rfl rfl isfn15 rfl rfl (by decide) (delete15 hS (l := qs) hO25 k (k + 1) (by omega) (by first | omega | (simp; omega))) ?_
    clear hA hS; rintro v51 w52 a ⟨C53, hO53, hS⟩ hA
    obtain ⟨A54, c55, rfl, hmc55, hxc55⟩ := hO53.open'
    refine st_run tbOk 2 hA (e' := (134, .pointer (some ⟨b, 0, none⟩)) :: (133, .pointer (some ⟨b, 0, none⟩)) :: _) rfl ?_; clear hA; intro a hA
    replace hS := hS.front 6 (C := [(b, rowO [.slice (some ⟨b29, o30, none⟩) qs.length c27] 33)]) (L' := C53 :: C47 :: (C40 ++ D) :: C43 :: C35 :: [] :: [(b21, rowO [.int .i64 fr, .int .i64 to, .int .u64 id, .slice (some ⟨b31, o32, none⟩) ((List.replicate cn false).length) cn, .slice (some ⟨b36, o37, none⟩) ((List.replicate cn ((0, 0, 0, 0, 0, none, 0, ([] : List UInt8)) : Pkt)).length) cn] 55)] :: Q :: [(b1, rowO [.int .i64 fr, .int .i64 to, .int .u64 id, .int .i64 ((ix : Nat) : Int), .int .i64 ((cn : Nat) : Int), .slice B bs.length d'] 38)] :: F) rfl rfl
    refine st_store tbOk hA hS [.slice A54 ((qs.take k ++ qs.drop (k + 1)).length) c55] [.slice A54 ((qs.take k ++ qs.drop (k + 1)).length) c55] rfl rfl rfl rfl rfl rfl (by intro u hu; rw [List.mem_singleton.1 hu]; rfl) (Nat.le_of_ble_eq_true rfl) rfl rfl rfl ?_; clear hS; intro w56 hS
    refine wpList_nil ?_
    replace hA := hA.sel [8, 9] (e' := [(8, .slice A48 ((cat ((List.replicate cn ((0, 0, 0, 0, 0, none, 0, ([] : List UInt8)) : Pkt)).set ix (fr, to, id, ((ix : Nat) : Int), ((cn : Nat) : Int), A38, c39, bs)) ((List.replicate cn ((0, 0, 0, 0, 0, none, 0, ([] : List UInt8)) : Pkt)).set ix (fr, to, id, ((ix : Nat) : Int), ((cn : Nat) : Int), A38, c39, bs)).length).length) c49), (9, .bool (decide (((((List.replicate cn ((0, 0, 0, 0, 0, none, 0, ([] : List UInt8)) : Pkt)).set ix (fr, to, id, ((ix : Nat) : Int), ((cn : Nat) : Int), A38, c39, bs)).length : Nat) : Int) > 0)))]) rfl
    refine xt_norm ?_
    refine wp_seq ?_
    refine wp_region_lit ?_
    refine st_run tbOk 4 hA (e' := (5, .bool (decide (((((List.replicate cn ((0, 0, 0, 0, 0, none, 0, ([] : List UInt8)) : Pkt)).set ix (fr, to, id, ((ix : Nat) : Int), ((cn : Nat) : Int), A38, c39, bs)).length : Nat) : Int) > 0))) :: (4, .slice A48 ((cat ((List.replicate cn ((0, 0, 0, 0, 0, none, 0, ([] : List UInt8)) : Pkt)).set ix (fr, to, id, ((ix : Nat) : Int), ((cn : Nat) : Int), A38, c39, bs)) ((List.replicate cn ((0, 0, 0, 0, 0, none, 0, ([] : List UInt8)) : Pkt)).set ix (fr, to, id, ((ix : Nat) : Int), ((cn : Nat) : Int), A38, c39, bs)).length).length) c49) :: (136, .bool (decide (((((List.replicate cn ((0, 0, 0, 0, 0, none, 0, ([] : List UInt8)) : Pkt)).set ix (fr, to, id, ((ix : Nat) : Int), ((cn : Nat) : Int), A38, c39, bs)).length : Nat) : Int) > 0))) :: (135, .slice A48 ((cat ((List.replicate cn ((0, 0, 0, 0, 0, none, 0, ([] : List UInt8)) : Pkt)).set ix (fr, to, id, ((ix : Nat) : Int), ((cn : Nat) : Int), A38, c39, bs)) ((List.replicate cn ((0, 0, 0, 0, 0, none, 0, ([] : List UInt8)) : Pkt)).set ix (fr, to, id, ((ix : Nat) : Int), ((cn : Nat) : Int), A38, c39, bs)).length).length) c49) :: _) rfl ?_; clear hA; intro a hA
    refine wpList_nil ?_
    replace hA := hA.sel [4, 5] (e' := [(4, .slice A48 ((cat ((List.replicate cn ((0, 0, 0, 0, 0, none, 0, ([] : List UInt8)) : Pkt)).set ix (fr, to, id, ((ix : Nat) : Int), ((cn : Nat) : Int), A38, c39, bs)) ((List.replicate cn ((0, 0, 0, 0, 0, none, 0, ([] : List UInt8)) : Pkt)).set ix (fr, to, id, ((ix : Nat) : Int), ((cn : Nat) : Int), A38, c39, bs)).length).length) c49), (5, .bool (decide (((((List.replicate cn ((0, 0, 0, 0, 0, none, 0, ([] : List UInt8)) : Pkt)).set ix (fr, to, id, ((ix : Nat) : Int), ((cn : Nat) : Int), A38, c39, bs)).length : Nat) : Int) > 0)))]) rfl
    refine xt_norm ?_
    refine wp_ret ?_
    refine ret2 (fn := Try.f9) hA rfl rfl rfl ?_
    replace hS := hS.front 4 (C := C43) (L' := [(b, rowO [.slice A54 ((qs.take k ++ qs.drop (k + 1)).length) c55] 33)] :: C53 :: C47 :: (C40 ++ D) :: C35 :: [] :: [(b21, rowO [.int .i64 fr, .int .i64 to, .int .u64 id, .slice (some ⟨b31, o32, none⟩) ((List.replicate cn false).length) cn, .slice (some ⟨b36, o37, none⟩) ((List.replicate cn ((0, 0, 0, 0, 0, none, 0, ([] : List UInt8)) : Pkt)).length) cn] 55)] :: Q :: [(b1, rowO [.int .i64 fr, .int .i64 to, .int .u64 id, .int .i64 ((ix : Nat) : Int), .int .i64 ((cn : Nat) : Int), .slice B bs.length d'] 38)] :: F) rfl rfl
    replace hS := hS.drop1
    replace hS := hS.front 4 (C := C35) (L' := [(b, rowO [.slice A54 ((qs.take k ++ qs.drop (k + 1)).length) c55] 33)] :: C53 :: C47 :: (C40 ++ D) :: [] :: [(b21, rowO [.int .i64 fr, .int .i64 to, .int .u64 id, .slice (some ⟨b31, o32, none⟩) ((List.replicate cn false).length) cn, .slice (some ⟨b36, o37, none⟩) ((List.replicate cn ((0, 0, 0, 0, 0, none, 0, ([] : List UInt8)) : Pkt)).length) cn] 55)] :: Q :: [(b1, rowO [.int .i64 fr, .int .i64 to, .int .u64 id, .int .i64 ((ix : Nat) : Int), .int .i64 ((cn : Nat) : Int), .slice B bs.length d'] 38)] :: F) rfl rfl
    replace hS := hS.drop1
    replace hS := hS.front 5 (C := [(b21, rowO [.int .i64 fr, .int .i64 to, .int .u64 id, .slice (some ⟨b31, o32, none⟩) ((List.replicate cn false).length) cn, .slice (some ⟨b36, o37, none⟩) ((List.replicate cn ((0, 0, 0, 0, 0, none, 0, ([] : List UInt8)) : Pkt)).length) cn] 55)]) (L' := [(b, rowO [.slice A54 ((qs.take k ++ qs.drop (k + 1)).length) c55] 33)] :: C53 :: C47 :: (C40 ++ D) :: [] :: Q :: [(b1, rowO [.int .i64 fr, .int .i64 to, .int .u64 id, .int .i64 ((ix : Nat) : Int), .int .i64 ((cn : Nat) : Int), .slice B bs.length d'] 38)] :: F) rfl rfl
    replace hS := hS.drop1
    replace hS := hS.front 6 (C := [(b1, rowO [.int .i64 fr, .int .i64 to, .int .u64 id, .int .i64 ((ix : Nat) : Int), .int .i64 ((cn : Nat) : Int), .slice B bs.length d'] 38)]) (L' := [(b, rowO [.slice A54 ((qs.take k ++ qs.drop (k + 1)).length) c55] 33)] :: C53 :: C47 :: (C40 ++ D) :: [] :: Q :: F) rfl rfl
    replace hS := hS.drop1
    replace hS := hS.front 2 (C := C47) (L' := [(b, rowO [.slice A54 ((qs.take k ++ qs.drop (k + 1)).length) c55] 33)] :: C53 :: (C40 ++ D) :: [] :: Q :: F) rfl rfl
    replace hS := hS.front 3 (C := (C40 ++ D)) (L' := C47 :: [(b, rowO [.slice A54 ((qs.take k ++ qs.drop (k + 1)).length) c55] 33)] :: C53 :: [] :: Q :: F) rfl rfl
    replace hS := hS.front 4 (C := []) (L' := (C40 ++ D) :: C47 :: [(b, rowO [.slice A54 ((qs.take k ++ qs.drop (k + 1)).length) c55] 33)] :: C53 :: Q :: F) rfl rfl
    replace hS := hS.front 5 (C := Q) (L' := [] :: (C40 ++ D) :: C47 :: [(b, rowO [.slice A54 ((qs.take k ++ qs.drop (k + 1)).length) c55] 33)] :: C53 :: F) rfl rfl
    replace hS := hS.front 5 (C := C53) (L' := Q :: [] :: (C40 ++ D) :: C47 :: [(b, rowO [.slice A54 ((qs.take k ++ qs.drop (k + 1)).length) c55] 33)] :: F) rfl rfl
    replace hS := hS.front 5 (C := [(b, rowO [.slice A54 ((qs.take k ++ qs.drop (k + 1)).length) c55] 33)]) (L' := C53 :: Q :: [] :: (C40 ++ D) :: C47 :: F) rfl rfl
    replace hS := hS.front 5 (C := C47) (L' := [(b, rowO [.slice A54 ((qs.take k ++ qs.drop (k + 1)).length) c55] 33)] :: C53 :: Q :: [] :: (C40 ++ D) :: F) rfl rfl
    replace hS := hS.front 5 (C := (C40 ++ D)) (L' := C47 :: [(b, rowO [.slice A54 ((qs.take k ++ qs.drop (k + 1)).length) c55] 33)] :: C53 :: Q :: [] :: F) rfl rfl
    replace hS := hS.front 5 (C := []) (L' := (C40 ++ D) :: C47 :: [(b, rowO [.slice A54 ((qs.take k ++ qs.drop (k + 1)).length) c55] 33)] :: C53 :: Q :: F) rfl rfl
    replace hS := hS.front 5 (C := Q) (L' := [] :: (C40 ++ D) :: C47 :: [(b, rowO [.slice A54 ((qs.take k ++ qs.drop (k + 1)).length) c55] 33)] :: C53 :: F) rfl rfl
    replace hS := hS.join
    replace hS := hS.front 4 (C := C53) (L' := (Q ++ []) :: (C40 ++ D) :: C47 :: [(b, rowO [.slice A54 ((qs.take k ++ qs.drop (k + 1)).length) c55] 33)] :: F) rfl rfl
    replace hS := hS.front 4 (C := [(b, rowO [.slice A54 ((qs.take k ++ qs.drop (k + 1)).length) c55] 33)]) (L' := C53 :: (Q ++ []) :: (C40 ++ D) :: C47 :: F) rfl rfl
    replace hS := hS.join3
    have hmp : (qs.take k ++ qs.drop (k + 1)).map gv = (ps.map gv).drop 1 := by rw [List.map_append, List.map_take, List.map_drop]; rw [hqs, new_del hk, List.map_drop]
    have hcd : cat ((List.replicate cn ((0, 0, 0, 0, 0, none, 0, ([] : List UInt8)) : Pkt)).set ix (fr, to, id, ((ix : Nat) : Int), ((cn : Nat) : Int), A38, c39, bs)) ((List.replicate cn ((0, 0, 0, 0, 0, none, 0, ([] : List UInt8)) : Pkt)).set ix (fr, to, id, ((ix : Nat) : Int), ((cn : Nat) : Int), A38, c39, bs)).length = ((List.replicate cn []).set ix bs).flatten := by rw [cat_dat, List.map_set]; rw [List.map_replicate]; rfl
    have hpos : decide (((((List.replicate cn ((0, 0, 0, 0, 0, none, 0, ([] : List UInt8)) : Pkt)).set ix (fr, to, id, ((ix : Nat) : Int), ((cn : Nat) : Int), A38, c39, bs)).length : Nat) : Int) > 0) = true := decide_eq_true (by rw [List.length_set]; omega)
    rw [hcd] at hO47
    exact ⟨_, C40, _, _, ⟨_, _, _, _, hO53, rfl, PO.app hR1 hR2, sub_all hI2, encs_left (sub_all hdd2), hmp⟩, hO47, by rw [hcd, hpos], hS⟩
  · refine dr_b (o := _) rfl ?_
    refine st_makeSlice tbOk hA hS cn encPacket_ok (by decide) (0, 0, 0, 0, 0, none, 0, ([] : List UInt8)) rfl rfl rfl rfl rfl rfl rfl rfl (by show 64 * cn ≤ 281474976710656; omega) (by omega) rfl rfl (by decide) ?_; clear hA hS; intro b57 w58 a hS hA
    obtain ⟨C59, hO59, hS⟩ : ∃ Cq9, Own 38 6 (.slice (some ⟨b57, 0, none⟩) cn cn) cn (rows encPacket (List.replicate cn (0, 0, 0, 0, 0, none, 0, ([] : List UInt8)))) Cq9 ∧ St w0 w58 (Cq9 :: C9 :: Q :: [(b, rowO [.slice A10 ((ps.drop 1).length) c11] 33)] :: [(b1, rowO [.int .i64 fr, .int .i64 to, .int .u64 id, .int .i64 ((ix : Nat) : Int), .int .i64 ((cn : Nat) : Int), .slice B bs.length d'] 38)] :: D :: F) := ⟨_, Own.full (by rw [rows_length encPacket_ok, List.length_replicate]) (by show cn ≤ 9223372036854775807; omega), hS⟩
    generalize (some (⟨b57, 0, none⟩ : Addr)) = A60 at hO59 hA
    refine dr_nil (.inr (hS.tail 2 rfl)) ?_
    refine dr_subL ?_
    refine dr_b (o := _) rfl ?_
    refine st_makeSlice tbOk hA hS cn encBo_ok (by decide) false rfl rfl rfl rfl rfl rfl rfl rfl (by show 1 * cn ≤ 281474976710656; omega) (by omega) rfl rfl (by decide) ?_; clear hA hS; intro b61 w62 a hS hA
    obtain ⟨C63, hO63, hS⟩ : ∃ Cq9, Own 4 1 (.slice (some ⟨b61, 0, none⟩) cn cn) cn (rows encBo (List.replicate cn false)) Cq9 ∧ St w0 w62 (Cq9 :: C59 :: C9 :: Q :: [(b, rowO [.slice A10 ((ps.drop 1).length) c11] 33)] :: [(b1, rowO [.int .i64 fr, .int .i64 to, .int .u64 id, .int .i64 ((ix : Nat) : Int), .int .i64 ((cn : Nat) : Int), .slice B bs.length d'] 38)] :: D :: F) := ⟨_, Own.full (by rw [rows_length encBo_ok, List.length_replicate]) (by show cn ≤ 9223372036854775807; omega), hS⟩
    generalize (some (⟨b61, 0, none⟩ : Addr)) = A64 at hO63 hA
    refine dr_nil (.inr (hS.tail 3 rfl)) ?_
    replace hA := hA.rw 50 (v' := .slice A64 ((List.replicate cn false).length) cn) rfl (by rw [List.length_replicate])
    replace hA := hA.rw 53 (v' := .slice A60 ((List.replicate cn ((0, 0, 0, 0, 0, none, 0, ([] : List UInt8)) : Pkt)).length) cn) rfl (by rw [List.length_replicate])
    refine dr_y hA rfl rfl rfl (by decide) (hS.tail 3 rfl) (fun w' hS' => rn_build tbOk hA rfl rfl rfl rfl rfl rfl rfl) ?_; clear hA; intro a hA
    refine dr_b (o := _) rfl ?_
    refine st_buildSlice tbOk hA hS [.int .i64 fr, .int .i64 to, .int .u64 id, .slice A64 ((List.replicate cn false).length) cn, .slice A60 ((List.replicate cn ((0, 0, 0, 0, 0, none, 0, ([] : List UInt8)) : Pkt)).length) cn] rfl rfl rfl rfl rfl (by decide) (by kernel_rfl) rfl rfl (by decide) ?_; clear hA hS; intro b65 w66 a hS hA
    refine dr_nil (.inr (hS.tail 4 rfl)) ?_
    refine dr_b (o := _) rfl ?_
    replace hS := hS.front 3 (C := C9) (L' := [(b65, rowO [.int .i64 fr, .int .i64 to, .int .u64 id, .slice A64 ((List.replicate cn false).length) cn, .slice A60 ((List.replicate cn ((0, 0, 0, 0, 0, none, 0, ([] : List UInt8)) : Pkt)).length) cn] 55)] :: C63 :: C59 :: Q :: [(b, rowO [.slice A10 ((ps.drop 1).length) c11] 33)] :: [(b1, rowO [.int .i64 fr, .int .i64 to, .int .u64 id, .int .i64 ((ix : Nat) : Int), .int .i64 ((cn : Nat) : Int), .slice B bs.length d'] 38)] :: D :: F) rfl rfl
    refine st_append tbOk hA (m := (ps.drop 1).length) (q := 1) (xs := rows encPart (ps.drop 1)) (news := rows encPart ([(fr, to, id, A64, cn, (List.replicate cn false), A60, cn, (List.replicate cn ((0, 0, 0, 0, 0, none, 0, ([] : List UInt8)) : Pkt)))] : List (Int × Int × Int × Option Addr × Nat × List Bool × Option Addr × Nat × List Pkt))) rfl rfl rfl rfl rfl rfl rfl rfl (by decide) hO9 hS (((Own.full (T := 55) (size := 5) (g := b65) (m := 1) rfl (by decide)).rd (hS.own_ 1 rfl)).x) (rows_one encPart_ok _) (maxLen_le (by first | omega | (simp; omega))) (by show ((ps.drop 1).length + 1) * 72 ≤ 140737488355328; first | omega | (simp; omega)) rfl rfl (by decide) ?_
    clear hA hS; intro v67 w68 C69 a hO69 hS hA
    replace hO69 := Own.app (l := (ps.drop 1)) (l2 := ([(fr, to, id, A64, cn, (List.replicate cn false), A60, cn, (List.replicate cn ((0, 0, 0, 0, 0, none, 0, ([] : List UInt8)) : Pkt)))] : List (Int × Int × Int × Option Addr × Nat × List Bool × Option Addr × Nat × List Pkt))) hO69
    obtain ⟨A70, c71, rfl, hmc71, hxc71⟩ := hO69.open'
    refine dr_nil (.inr (hS.tail 4 rfl)) ?_
    refine dr_run tbOk 2 hA (hS.tail 4 rfl) (e' := (58, .pointer (some ⟨b, 0, none⟩)) :: (57, .pointer (some ⟨b, 0, none⟩)) :: _) rfl ?_; clear hA; intro a hA
    refine dr_b (o := _) rfl ?_
    replace hS := hS.front 5 (C := [(b, rowO [.slice A10 ((ps.drop 1).length) c11] 33)]) (L' := C69 :: [(b65, rowO [.int .i64 fr, .int .i64 to, .int .u64 id, .slice A64 ((List.replicate cn false).length) cn, .slice A60 ((List.replicate cn ((0, 0, 0, 0, 0, none, 0, ([] : List UInt8)) : Pkt)).length) cn] 55)] :: C63 :: C59 :: Q :: [(b1, rowO [.int .i64 fr, .int .i64 to, .int .u64 id, .int .i64 ((ix : Nat) : Int), .int .i64 ((cn : Nat) : Int), .slice B bs.length d'] 38)] :: D :: F) rfl rfl
    refine st_store tbOk hA hS [.slice A70 (((ps.drop 1) ++ ([(fr, to, id, A64, cn, (List.replicate cn false), A60, cn, (List.replicate cn ((0, 0, 0, 0, 0, none, 0, ([] : List UInt8)) : Pkt)))] : List (Int × Int × Int × Option Addr × Nat × List Bool × Option Addr × Nat × List Pkt))).length) c71] [.slice A70 (((ps.drop 1) ++ ([(fr, to, id, A64, cn, (List.replicate cn false), A60, cn, (List.replicate cn ((0, 0, 0, 0, 0, none, 0, ([] : List UInt8)) : Pkt)))] : List (Int × Int × Int × Option Addr × Nat × List Bool × Option Addr × Nat × List Pkt))).length) c71] rfl rfl rfl rfl rfl rfl (by intro u hu; rw [List.mem_singleton.1 hu]; rfl) (Nat.le_of_ble_eq_true rfl) rfl rfl rfl ?_; clear hS; intro w72 hS
    refine dr_nil (.inl (by decide)) ?_
    refine dr_end ?_
    replace hA := hA.sel [0, 3, 6] (e' := [(0, .pointer (some ⟨b, 0, none⟩)), (3, .pointer (some ⟨b1, 0, none⟩)), (6, .int .i64 (((ps.drop 1).length : Nat) : Int))]) rfl
    refine xt_norm ?_
    refine wp_seq ?_
    refine wp_region_lit ?_
    obtain ⟨k, hk⟩ : ∃ k, k = (ps.drop 1).length := ⟨_, rfl⟩
    replace hA := hA.rw 6 (v' := .int .i64 ((k : Nat) : Int)) rfl (by rw [hk])
    have hdl9 : (ps.drop 1).length = ps.length - 1 := List.length_drop
    obtain ⟨qs, hqs⟩ : ∃ qs, qs = (ps.drop 1) ++ ([(fr, to, id, A64, cn, (List.replicate cn false), A60, cn, (List.replicate cn ((0, 0, 0, 0, 0, none, 0, ([] : List UInt8)) : Pkt)))] : List (Int × Int × Int × Option Addr × Nat × List Bool × Option Addr × Nat × List Pkt)) := ⟨_, rfl⟩
    rw [← hqs] at hO69 hS
    have hx : qs[k]? = some (fr, to, id, A64, cn, (List.replicate cn false), A60, cn, (List.replicate cn ((0, 0, 0, 0, 0, none, 0, ([] : List UInt8)) : Pkt))) := by rw [hqs, hk]; simp
    have hkl : k < qs.length := (List.getElem?_eq_some_iff.1 hx).1
    have hPI : PI (fr, to, id, A64, cn, (List.replicate cn false), A60, cn, (List.replicate cn ((0, 0, 0, 0, 0, none, 0, ([] : List UInt8)) : Pkt))) := PI.fresh (by omega) (by omega)
    have hR1 : PO (qs.take k) Q := by rw [hqs, hk, List.take_left]; exact hQ
    have hR2 : PO (qs.drop (k + 1)) [] := by rw [hqs, List.drop_eq_nil_of_le (by rw [hk, List.length_append]; exact Nat.le_refl _)]; exact rfl
    have hpk2 : ∀ y ∈ (List.replicate cn ((0, 0, 0, 0, 0, none, 0, ([] : List UInt8)) : Pkt)), encPacket_dd w0 D y := fun y hy => by rw [List.eq_of_mem_replicate hy]; exact DD.nil
    have hI2 : ∀ y ∈ qs, PI y := by rw [hqs]; exact snoc_all (drop_all 1 hI) hPI
    have hdd2 : ∀ z ∈ qs, ∀ y ∈ ppk z, encPacket_dd w0 D y := by rw [hqs]; exact snoc_all (x := (fr, to, id, A64, cn, (List.replicate cn false), A60, cn, (List.replicate cn ((0, 0, 0, 0, 0, none, 0, ([] : List UInt8)) : Pkt)))) (drop_all 1 hdd) hpk2
    have hhl9 : (List.replicate cn false).length = cn := List.length_replicate
    have hpl9 : (List.replicate cn ((0, 0, 0, 0, 0, none, 0, ([] : List UInt8)) : Pkt)).length = cn := List.length_replicate
    have hF : (List.replicate cn false)[ix]? = some false := by rw [List.getElem?_replicate, if_pos (by omega)]
    have hOhN : Own 4 1 (.slice A64 (List.replicate cn false).length cn) (List.replicate cn false).length (rows encBo (List.replicate cn false)) C63 := by rw [List.length_replicate]; exact hO63
    have hOpN : Own 38 6 (.slice A60 (List.replicate cn ((0, 0, 0, 0, 0, none, 0, ([] : List UInt8)) : Pkt)).length cn) (List.replicate cn ((0, 0, 0, 0, 0, none, 0, ([] : List UInt8)) : Pkt)).length (rows encPacket (List.replicate cn ((0, 0, 0, 0, 0, none, 0, ([] : List UInt8)) : Pkt))) C59 := by rw [List.length_replicate]; exact hO59
    replace hS := hS.nil
    replace hS := hS.front 8 (C := D) (L' := [] :: [(b, rowO [.slice A70 qs.length c71] 33)] :: C69 :: [(b65, rowO [.int .i64 fr, .int .i64 to, .int .u64 id, .slice A64 ((List.replicate cn false).length) cn, .slice A60 ((List.replicate cn ((0, 0, 0, 0, 0, none, 0, ([] : List UInt8)) : Pkt)).length) cn] 55)] :: C63 :: C59 :: Q :: [(b1, rowO [.int .i64 fr, .int .i64 to, .int .u64 id, .int .i64 ((ix : Nat) : Int), .int .i64 ((cn : Nat) : Int), .slice B bs.length d'] 38)] :: F) rfl rfl
    replace hS := hS.front 8 (C := [(b1, rowO [.int .i64 fr, .int .i64 to, .int .u64 id, .int .i64 ((ix : Nat) : Int), .int .i64 ((cn : Nat) : Int), .slice B bs.length d'] 38)]) (L' := D :: [] :: [(b, rowO [.slice A70 qs.length c71] 33)] :: C69 :: [(b65, rowO [.int .i64 fr, .int .i64 to, .int .u64 id, .slice A64 ((List.replicate cn false).length) cn, .slice A60 ((List.replicate cn ((0, 0, 0, 0, 0, none, 0, ([] : List UInt8)) : Pkt)).length) cn] 55)] :: C63 :: C59 :: Q :: F) rfl rfl
    replace hS := hS.front 8 (C := Q) (L' := [(b1, rowO [.int .i64 fr, .int .i64 to, .int .u64 id, .int .i64 ((ix : Nat) : Int), .int .i64 ((cn : Nat) : Int), .slice B bs.length d'] 38)] :: D :: [] :: [(b, rowO [.slice A70 qs.length c71] 33)] :: C69 :: [(b65, rowO [.int .i64 fr, .int .i64 to, .int .u64 id, .slice A64 ((List.replicate cn false).length) cn, .slice A60 ((List.replicate cn ((0, 0, 0, 0, 0, none, 0, ([] : List UInt8)) : Pkt)).length) cn] 55)] :: C63 :: C59 :: F) rfl rfl
    replace hS := hS.front 8 (C := C59) (L' := Q :: [(b1, rowO [.int .i64 fr, .int .i64 to, .int .u64 id, .int .i64 ((ix : Nat) : Int), .int .i64 ((cn : Nat) : Int), .slice B bs.length d'] 38)] :: D :: [] :: [(b, rowO [.slice A70 qs.length c71] 33)] :: C69 :: [(b65, rowO [.int .i64 fr, .int .i64 to, .int .u64 id, .slice A64 ((List.replicate cn false).length) cn, .slice A60 ((List.replicate cn ((0, 0, 0, 0, 0, none, 0, ([] : List UInt8)) : Pkt)).length) cn] 55)] :: C63 :: F) rfl rfl
    replace hS := hS.front 8 (C := C63) (L' := C59 :: Q :: [(b1, rowO [.int .i64 fr, .int .i64 to, .int .u64 id, .int .i64 ((ix : Nat) : Int), .int .i64 ((cn : Nat) : Int), .slice B bs.length d'] 38)] :: D :: [] :: [(b, rowO [.slice A70 qs.length c71] 33)] :: C69 :: [(b65, rowO [.int .i64 fr, .int .i64 to, .int .u64 id, .slice A64 ((List.replicate cn false).length) cn, .slice A60 ((List.replicate cn ((0, 0, 0, 0, 0, none, 0, ([] : List UInt8)) : Pkt)).length) cn] 55)] :: F) rfl rfl
    replace hS := hS.front 8 (C := [(b65, rowO [.int .i64 fr, .int .i64 to, .int .u64 id, .slice A64 ((List.replicate cn false).length) cn, .slice A60 ((List.replicate cn ((0, 0, 0, 0, 0, none, 0, ([] : List UInt8)) : Pkt)).length) cn] 55)]) (L' := C63 :: C59 :: Q :: [(b1, rowO [.int .i64 fr, .int .i64 to, .int .u64 id, .int .i64 ((ix : Nat) : Int), .int .i64 ((cn : Nat) : Int), .slice B bs.length d'] 38)] :: D :: [] :: [(b, rowO [.slice A70 qs.length c71] 33)] :: C69 :: F) rfl rfl
    replace hS := hS.front 8 (C := C69) (L' := [(b65, rowO [.int .i64 fr, .int .i64 to, .int .u64 id, .slice A64 ((List.replicate cn false).length) cn, .slice A60 ((List.replicate cn ((0, 0, 0, 0, 0, none, 0, ([] : List UInt8)) : Pkt)).length) cn] 55)] :: C63 :: C59 :: Q :: [(b1, rowO [.int .i64 fr, .int .i64 to, .int .u64 id, .int .i64 ((ix : Nat) : Int), .int .i64 ((cn : Nat) : Int), .slice B bs.length d'] 38)] :: D :: [] :: [(b, rowO [.slice A70 qs.length c71] 33)] :: F) rfl rfl
    replace hS := hS.front 8 (C := [(b, rowO [.slice A70 qs.length c71] 33)]) (L' := C69 :: [(b65, rowO [.int .i64 fr, .int .i64 to, .int .u64 id, .slice A64 ((List.replicate cn false).length) cn, .slice A60 ((List.replicate cn ((0, 0, 0, 0, 0, none, 0, ([] : List UInt8)) : Pkt)).length) cn] 55)] :: C63 :: C59 :: Q :: [(b1, rowO [.int .i64 fr, .int .i64 to, .int .u64 id, .int .i64 ((ix : Nat) : Int), .int .i64 ((cn : Nat) : Int), .slice B bs.length d'] 38)] :: D :: [] :: F) rfl rfl
    replace hS := hS.front 8 (C := []) (L' := [(b, rowO [.slice A70 qs.length c71] 33)] :: C69 :: [(b65, rowO [.int .i64 fr, .int .i64 to, .int .u64 id, .slice A64 ((List.replicate cn false).length) cn, .slice A60 ((List.replicate cn ((0, 0, 0, 0, 0, none, 0, ([] : List UInt8)) : Pkt)).length) cn] 55)] :: C63 :: C59 :: Q :: [(b1, rowO [.int .i64 fr, .int .i64 to, .int .u64 id, .int .i64 ((ix : Nat) : Int), .int .i64 ((cn : Nat) : Int), .slice B bs.length d'] 38)] :: D :: F) rfl rfl
    refine st_run tbOk 3 hA (e' := (61, .pointer (some ⟨b, 0, none⟩)) :: (60, .pointer (some ⟨b, 0, none⟩)) :: (59, .pointer (some ⟨b, 0, none⟩)) :: _) rfl ?_; clear hA; intro a hA
    refine st_val hA rfl rfl (by decide) (rn_load tbOk hA rfl rfl rfl rfl (cell_row (hS.heapAt 1 rfl) rfl)) ?_; clear hA; intro a hA
    refine st_run tbOk 1 hA (e' := (63, .int .i64 ((k : Nat) : Int)) :: _) rfl ?_; clear hA; intro a hA
    obtain ⟨b73, o74, rfl⟩ := hO69.isSome (k := k) (by omega)
    refine st_val hA rfl rfl (by decide) (rn_indexAddr tbOk hA k (o74 + (k * 5)) rfl rfl rfl rfl rfl rfl (by rfl) (by omega) (by first | rfl | simp [Nat.mul_one, Nat.zero_add] | omega)) ?_; clear hA; intro a hA
    refine st_run tbOk 1 hA (e' := (7, .pointer (some ⟨b73, o74 + (k * 5), none⟩)) :: _) rfl ?_; clear hA; intro a hA
    refine wpList_nil ?_
    replace hA := hA.sel [0, 3, 6, 7] (e' := [(0, .pointer (some ⟨b, 0, none⟩)), (3, .pointer (some ⟨b1, 0, none⟩)), (6, .int .i64 ((k : Nat) : Int)), (7, .pointer (some ⟨b73, o74 + (k * 5), none⟩))]) rfl
    refine xt_norm ?_
    refine wp_seq ?_
    refine wp_seq ?_
    obtain ⟨b75, o76, rfl⟩ := hOhN.isSome (k := ix) (by omega)
    refine wp_draw (fun w' => St w0 w' ([] :: [(b, rowO [.slice (some ⟨b73, o74, none⟩) qs.length c71] 33)] :: C69 :: [(b65, rowO [.int .i64 fr, .int .i64 to, .int .u64 id, .slice (some ⟨b75, o76, none⟩) ((List.replicate cn false).length) cn, .slice A60 ((List.replicate cn ((0, 0, 0, 0, 0, none, 0, ([] : List UInt8)) : Pkt)).length) cn] 55)] :: C63 :: C59 :: Q :: [(b1, rowO [.int .i64 fr, .int .i64 to, .int .u64 id, .int .i64 ((ix : Nat) : Int), .int .i64 ((cn : Nat) : Int), .slice B bs.length d'] 38)] :: D :: F)) [] [(0, true), (1, true), (2, true), (3, true), (4, true), (5, true), (6, true), (7, true), (8, true), (9, true), (10, true), (11, true), (12, true), (13, true), (14, true), (15, true), (16, true), (17, true)] mixed (by kernel_rfl) (by rintro c a w ⟨_, _, h, _⟩; cases h) (by rfl) (by kernel_rfl) ?_
    replace hS := hS.drew
    refine dr_run tbOk 3 hA hS (e' := (67, .pointer (some ⟨b73, o74 + (k * 5) + 3, none⟩)) :: (66, .pointer (some ⟨b73, o74 + (k * 5), none⟩)) :: (65, .pointer (some ⟨b73, o74 + (k * 5), none⟩)) :: _) rfl ?_; clear hA; intro a hA
    refine dr_y hA rfl rfl rfl (by decide) hS (fun w' hS' => rn_load tbOk hA rfl rfl rfl rfl ((hO69.rd (hS'.own_ 2 rfl)).elemf (k := k) encPart_ok hx (j := 3) rfl)) ?_; clear hA; intro a hA
    refine dr_run tbOk 2 hA hS (e' := (70, .pointer (some ⟨b1, 4, none⟩)) :: (69, .int .i64 (((List.replicate cn false).length : Nat) : Int)) :: _) rfl ?_; clear hA; intro a hA
    refine dr_y hA rfl rfl rfl (by decide) hS (fun w' hS' => rn_load tbOk hA rfl rfl rfl rfl (cell_row (hS'.heapAt 7 rfl) rfl)) ?_; clear hA; intro a hA
    refine dr_run tbOk 2 hA hS (e' := (73, .bool ((((List.replicate cn false).length : Nat) : Int) != ((cn : Nat) : Int))) :: (72, .bool ((((List.replicate cn false).length : Nat) : Int) != ((cn : Nat) : Int))) :: _) rfl ?_; clear hA; intro a hA
    have hc77 : (((List.replicate cn false).length : Nat) : Int) = ((cn : Nat) : Int) := by omega
    replace hA := hA.rw 72 (v' := .bool false) rfl (vb_ne_f hc77)
    replace hA := hA.rw 73 (v' := .bool false) rfl (vb_ne_f hc77)
    refine dr_run tbOk 3 hA hS (e' := (76, .pointer (some ⟨b73, o74 + (k * 5) + 3, none⟩)) :: (75, .pointer (some ⟨b73, o74 + (k * 5), none⟩)) :: (74, .pointer (some ⟨b73, o74 + (k * 5), none⟩)) :: _) rfl ?_; clear hA; intro a hA
    refine dr_y hA rfl rfl rfl (by decide) hS (fun w' hS' => rn_load tbOk hA rfl rfl rfl rfl ((hO69.rd (hS'.own_ 2 rfl)).elemf (k := k) encPart_ok hx (j := 3) rfl)) ?_; clear hA; intro a hA
    refine dr_run tbOk 1 hA hS (e' := (78, .pointer (some ⟨b1, 3, none⟩)) :: _) rfl ?_; clear hA; intro a hA
    refine dr_y hA rfl rfl rfl (by decide) hS (fun w' hS' => rn_load tbOk hA rfl rfl rfl rfl (cell_row (hS'.heapAt 7 rfl) rfl)) ?_; clear hA; intro a hA
    replace hA := hA.rw 77 (v' := .slice (some ⟨b75, o76, none⟩) ((List.replicate cn false).length) cn) rfl rfl
    refine dr_y hA rfl rfl rfl (by decide) hS (fun w' hS' => rn_indexAddr tbOk hA ix (o76 + ix) rfl rfl rfl rfl rfl rfl (by rfl) (by omega) (by first | rfl | simp [Nat.mul_one, Nat.zero_add] | omega)) ?_; clear hA; intro a hA
    refine dr_y hA rfl rfl rfl (by decide) hS (fun w' hS' => rn_load tbOk hA rfl rfl rfl rfl ((hOhN.rd (hS'.own_ 4 rfl)).elem0 (k := ix) encBo_ok hF rfl)) ?_; clear hA; intro a hA
    refine dr_run tbOk 1 hA hS (e' := (82, .bool false) :: _) rfl ?_; clear hA; intro a hA
    refine dr_end ?_
    replace hA := hA.sel [0, 3, 6, 7, 82] (e' := [(0, .pointer (some ⟨b, 0, none⟩)), (3, .pointer (some ⟨b1, 0, none⟩)), (6, .int .i64 ((k : Nat) : Int)), (7, .pointer (some ⟨b73, o74 + (k * 5), none⟩)), (82, .bool false)]) rfl
    refine xt_norm ?_
    refine cd_cond_f hA rfl ?_
    refine wp_skip ?_
    refine xt_norm ?_
    refine wp_seq ?_
    replace hS := hS.front 4 (C := C63) (L' := [] :: [(b, rowO [.slice (some ⟨b73, o74, none⟩) qs.length c71] 33)] :: C69 :: [(b65, rowO [.int .i64 fr, .int .i64 to, .int .u64 id, .slice (some ⟨b75, o76, none⟩) ((List.replicate cn false).length) cn, .slice A60 ((List.replicate cn ((0, 0, 0, 0, 0, none, 0, ([] : List UInt8)) : Pkt)).length) cn] 55)] :: C59 :: Q :: [(b1, rowO [.int .i64 fr, .int .i64 to, .int .u64 id, .int .i64 ((ix : Nat) : Int), .int .i64 ((cn : Nat) : Int), .slice B bs.length d'] 38)] :: D :: F) rfl rfl
    refine wp_draw (fun w' => St w0 w' ([] :: [(b, rowO [.slice (some ⟨b73, o74, none⟩) qs.length c71] 33)] :: C69 :: [(b65, rowO [.int .i64 fr, .int .i64 to, .int .u64 id, .slice (some ⟨b75, o76, none⟩) ((List.replicate cn false).length) cn, .slice A60 ((List.replicate cn ((0, 0, 0, 0, 0, none, 0, ([] : List UInt8)) : Pkt)).length) cn] 55)] :: C59 :: Q :: [(b1, rowO [.int .i64 fr, .int .i64 to, .int .u64 id, .int .i64 ((ix : Nat) : Int), .int .i64 ((cn : Nat) : Int), .slice B bs.length d'] 38)] :: D :: F)) [7] [(0, true), (1, true), (2, true), (3, true), (4, true), (5, true), (6, true), (7, false)] mixed (by kernel_rfl) (by rintro c a w ⟨_, _, h, _⟩; cases h) (by rfl) (by kernel_rfl) ?_
    replace hS := hS.drew
    refine dr_run tbOk 3 hA (hS.tail 1 rfl) (e' := (85, .pointer (some ⟨b73, o74 + (k * 5) + 3, none⟩)) :: (84, .pointer (some ⟨b73, o74 + (k * 5), none⟩)) :: (83, .pointer (some ⟨b73, o74 + (k * 5), none⟩)) :: _) rfl ?_; clear hA; intro a hA
    refine dr_y hA rfl rfl rfl (by decide) (hS.tail 1 rfl) (fun w' hS' => rn_load tbOk hA rfl rfl rfl rfl ((hO69.rd (hS'.own_ 2 rfl)).elemf (k := k) encPart_ok hx (j := 3) rfl)) ?_; clear hA; intro a hA
    refine dr_run tbOk 1 hA (hS.tail 1 rfl) (e' := (87, .pointer (some ⟨b1, 3, none⟩)) :: _) rfl ?_; clear hA; intro a hA
    refine dr_y hA rfl rfl rfl (by decide) (hS.tail 1 rfl) (fun w' hS' => rn_load tbOk hA rfl rfl rfl rfl (cell_row (hS'.heapAt 6 rfl) rfl)) ?_; clear hA; intro a hA
    replace hA := hA.rw 86 (v' := .slice (some ⟨b75, o76, none⟩) ((List.replicate cn false).length) cn) rfl rfl
    refine dr_y hA rfl rfl rfl (by decide) (hS.tail 1 rfl) (fun w' hS' => rn_indexAddr tbOk hA ix (o76 + ix) rfl rfl rfl rfl rfl rfl (by rfl) (by omega) (by first | rfl | simp [Nat.mul_one, Nat.zero_add] | omega)) ?_; clear hA; intro a hA
    refine dr_b (o := _) rfl ?_
    refine st_store_own tbOk hA hOhN hS (ix) (o76 + ix) [.bool true] (rows encBo ((List.replicate cn false).set ix true)) rfl rfl rfl rfl (by rfl) rfl rfl (by intro u hu; rw [List.mem_singleton.1 hu]; rfl) (by simp only [rows_length encBo_ok, rows_length encPacket_ok, List.length_cons, List.length_nil]; omega) (by have := rows_set encBo_ok (x := true) (l := (List.replicate cn false)) (k := ix) (by omega); rw [Nat.mul_one] at this; exact this) rfl rfl ?_; clear hS; intro w78 C79 hO79 hS
    refine dr_nil (.inl (by decide)) ?_
    refine dr_end ?_
    replace hA := hA.sel [0, 3, 6, 7] (e' := [(0, .pointer (some ⟨b, 0, none⟩)), (3, .pointer (some ⟨b1, 0, none⟩)), (6, .int .i64 ((k : Nat) : Int)), (7, .pointer (some ⟨b73, o74 + (k * 5), none⟩))]) rfl
    refine xt_norm ?_
    refine wp_seq ?_
    obtain ⟨b80, o81, rfl⟩ := hOpN.isSome (k := ix) (by omega)
    replace hS := hS.front 5 (C := C59) (L' := C79 :: [] :: [(b, rowO [.slice (some ⟨b73, o74, none⟩) qs.length c71] 33)] :: C69 :: [(b65, rowO [.int .i64 fr, .int .i64 to, .int .u64 id, .slice (some ⟨b75, o76, none⟩) ((List.replicate cn false).length) cn, .slice (some ⟨b80, o81, none⟩) ((List.replicate cn ((0, 0, 0, 0, 0, none, 0, ([] : List UInt8)) : Pkt)).length) cn] 55)] :: Q :: [(b1, rowO [.int .i64 fr, .int .i64 to, .int .u64 id, .int .i64 ((ix : Nat) : Int), .int .i64 ((cn : Nat) : Int), .slice B bs.length d'] 38)] :: D :: F) rfl rfl
    refine wp_draw (fun w' => St w0 w' (C79 :: [] :: [(b, rowO [.slice (some ⟨b73, o74, none⟩) qs.length c71] 33)] :: C69 :: [(b65, rowO [.int .i64 fr, .int .i64 to, .int .u64 id, .slice (some ⟨b75, o76, none⟩) ((List.replicate cn false).length) cn, .slice (some ⟨b80, o81, none⟩) ((List.replicate cn ((0, 0, 0, 0, 0, none, 0, ([] : List UInt8)) : Pkt)).length) cn] 55)] :: Q :: [(b1, rowO [.int .i64 fr, .int .i64 to, .int .u64 id, .int .i64 ((ix : Nat) : Int), .int .i64 ((cn : Nat) : Int), .slice B bs.length d'] 38)] :: D :: F)) [21] [(0, true), (1, true), (2, true), (3, true), (4, true), (5, true), (6, true), (7, true), (8, true), (9, true), (10, true), (11, true), (12, true), (13, true), (14, true), (15, true), (16, true), (17, true), (18, false), (19, true), (20, true), (21, false)] mixed (by kernel_rfl) (by rintro c a w ⟨_, _, h, _⟩; cases h) (by rfl) (by kernel_rfl) ?_
    replace hS := hS.drew
    refine dr_run tbOk 3 hA (hS.tail 1 rfl) (e' := (92, .pointer (some ⟨b73, o74 + (k * 5) + 4, none⟩)) :: (91, .pointer (some ⟨b73, o74 + (k * 5), none⟩)) :: (90, .pointer (some ⟨b73, o74 + (k * 5), none⟩)) :: _) rfl ?_; clear hA; intro a hA
    refine dr_y hA rfl rfl rfl (by decide) (hS.tail 1 rfl) (fun w' hS' => rn_load tbOk hA rfl rfl rfl rfl ((hO69.rd (hS'.own_ 3 rfl)).elemf (k := k) encPart_ok hx (j := 4) rfl)) ?_; clear hA; intro a hA
    refine dr_run tbOk 1 hA (hS.tail 1 rfl) (e' := (94, .pointer (some ⟨b1, 3, none⟩)) :: _) rfl ?_; clear hA; intro a hA
    refine dr_y hA rfl rfl rfl (by decide) (hS.tail 1 rfl) (fun w' hS' => rn_load tbOk hA rfl rfl rfl rfl (cell_row (hS'.heapAt 6 rfl) rfl)) ?_; clear hA; intro a hA
    refine dr_run tbOk 1 hA (hS.tail 1 rfl) (e' := (96, .pointer (some ⟨b1, 0, none⟩)) :: _) rfl ?_; clear hA; intro a hA
    refine dr_y hA rfl rfl rfl (by decide) (hS.tail 1 rfl) (fun w' hS' => rn_load tbOk hA rfl rfl rfl rfl (cell_row (hS'.heapAt 6 rfl) rfl)) ?_; clear hA; intro a hA
    refine dr_run tbOk 1 hA (hS.tail 1 rfl) (e' := (98, .pointer (some ⟨b1, 1, none⟩)) :: _) rfl ?_; clear hA; intro a hA
    refine dr_y hA rfl rfl rfl (by decide) (hS.tail 1 rfl) (fun w' hS' => rn_load tbOk hA rfl rfl rfl rfl (cell_row (hS'.heapAt 6 rfl) rfl)) ?_; clear hA; intro a hA
    refine dr_run tbOk 1 hA (hS.tail 1 rfl) (e' := (100, .pointer (some ⟨b1, 2, none⟩)) :: _) rfl ?_; clear hA; intro a hA
    refine dr_y hA rfl rfl rfl (by decide) (hS.tail 1 rfl) (fun w' hS' => rn_load tbOk hA rfl rfl rfl rfl (cell_row (hS'.heapAt 6 rfl) rfl)) ?_; clear hA; intro a hA
    refine dr_run tbOk 1 hA (hS.tail 1 rfl) (e' := (102, .pointer (some ⟨b1, 3, none⟩)) :: _) rfl ?_; clear hA; intro a hA
    refine dr_y hA rfl rfl rfl (by decide) (hS.tail 1 rfl) (fun w' hS' => rn_load tbOk hA rfl rfl rfl rfl (cell_row (hS'.heapAt 6 rfl) rfl)) ?_; clear hA; intro a hA
    refine dr_run tbOk 1 hA (hS.tail 1 rfl) (e' := (104, .pointer (some ⟨b1, 4, none⟩)) :: _) rfl ?_; clear hA; intro a hA
    refine dr_y hA rfl rfl rfl (by decide) (hS.tail 1 rfl) (fun w' hS' => rn_load tbOk hA rfl rfl rfl rfl (cell_row (hS'.heapAt 6 rfl) rfl)) ?_; clear hA; intro a hA
    refine dr_run tbOk 1 hA (hS.tail 1 rfl) (e' := (106, .pointer (some ⟨b1, 5, none⟩)) :: _) rfl ?_; clear hA; intro a hA
    refine dr_y hA rfl rfl rfl (by decide) (hS.tail 1 rfl) (fun w' hS' => rn_load tbOk hA rfl rfl rfl rfl (cell_row (hS'.heapAt 6 rfl) rfl)) ?_; clear hA; intro a hA
    refine dr_b (o := _) rfl ?_
    refine st_call0 hA rfl rfl rfl isfn16 rfl rfl (by decide) (clonex16 hS (l := bs) (fun w' h => (hd _ (h.tail 8 rfl))) (by first | omega | (simp; omega))) ?_
    clear hA hS; rintro _ w85 a ⟨A82, c83, C84, hOC84, rfl, hS⟩ hA
    refine dr_nil (.inr (hS.tail 2 rfl)) ?_
    refine dr_y hA rfl rfl rfl (by decide) (hS.tail 2 rfl) (fun w' hS' => rn_build tbOk hA rfl rfl rfl rfl rfl rfl rfl) ?_; clear hA; intro a hA
    replace hA := hA.rw 93 (v' := .slice (some ⟨b80, o81, none⟩) ((List.replicate cn ((0, 0, 0, 0, 0, none, 0, ([] : List UInt8)) : Pkt)).length) cn) rfl rfl
    refine dr_y hA rfl rfl rfl (by decide) (hS.tail 2 rfl) (fun w' hS' => rn_indexAddr tbOk hA ix (o81 + (ix * 6)) rfl rfl rfl rfl rfl rfl (by rfl) (by omega) (by first | rfl | simp [Nat.mul_one, Nat.zero_add] | omega)) ?_; clear hA; intro a hA
    refine dr_b (o := _) rfl ?_
    replace hS := hS.front 1 (C := C59) (L' := C84 :: C79 :: [] :: [(b, rowO [.slice (some ⟨b73, o74, none⟩) qs.length c71] 33)] :: C69 :: [(b65, rowO [.int .i64 fr, .int .i64 to, .int .u64 id, .slice (some ⟨b75, o76, none⟩) ((List.replicate cn false).length) cn, .slice (some ⟨b80, o81, none⟩) ((List.replicate cn ((0, 0, 0, 0, 0, none, 0, ([] : List UInt8)) : Pkt)).length) cn] 55)] :: Q :: [(b1, rowO [.int .i64 fr, .int .i64 to, .int .u64 id, .int .i64 ((ix : Nat) : Int), .int .i64 ((cn : Nat) : Int), .slice B bs.length d'] 38)] :: D :: F) rfl rfl
    refine st_store_own tbOk hA hOpN hS ((ix * 6)) (o81 + (ix * 6)) [.int .i64 fr, .int .i64 to, .int .u64 id, .int .i64 ((ix : Nat) : Int), .int .i64 ((cn : Nat) : Int), .slice A82 bs.length c83] (rows encPacket ((List.replicate cn ((0, 0, 0, 0, 0, none, 0, ([] : List UInt8)) : Pkt)).set ix (fr, to, id, ((ix : Nat) : Int), ((cn : Nat) : Int), A82, c83, bs))) rfl rfl rfl rfl (by rfl) rfl rfl (by exact encPacket_ok.one (fr, to, id, ((ix : Nat) : Int), ((cn : Nat) : Int), A82, c83, bs)) (by simp only [rows_length encBo_ok, rows_length encPacket_ok, List.length_cons, List.length_nil]; omega) (rows_set encPacket_ok (x := (fr, to, id, ((ix : Nat) : Int), ((cn : Nat) : Int), A82, c83, bs)) (l := (List.replicate cn ((0, 0, 0, 0, 0, none, 0, ([] : List UInt8)) : Pkt))) (k := ix) (by omega)) rfl rfl ?_; clear hS; intro w86 C87 hO87 hS
    refine dr_nil (.inl (by decide)) ?_
    refine dr_end ?_
    replace hA := hA.sel [0, 6, 7] (e' := [(0, .pointer (some ⟨b, 0, none⟩)), (6, .int .i64 ((k : Nat) : Int)), (7, .pointer (some ⟨b73, o74 + (k * 5), none⟩))]) rfl
    refine xt_norm ?_
    refine wp_seq ?_
    refine wp_seq ?_
    refine wp_region_lit ?_
    refine st_run tbOk 3 hA (e' := (113, .pointer (some ⟨b73, o74 + (k * 5) + 3, none⟩)) :: (112, .pointer (some ⟨b73, o74 + (k * 5), none⟩)) :: (111, .pointer (some ⟨b73, o74 + (k * 5), none⟩)) :: _) rfl ?_; clear hA; intro a hA
    refine st_val hA rfl rfl (by decide) (rn_load tbOk hA rfl rfl rfl rfl ((hO69.rd (hS.own_ 5 rfl)).elemf (k := k) encPart_ok hx (j := 3) rfl)) ?_; clear hA; intro a hA
    have hOh2 : Own 4 1 (.slice (some ⟨b75, o76, none⟩) ((List.replicate cn false).set ix true).length cn) ((List.replicate cn false).set ix true).length (rows encBo ((List.replicate cn false).set ix true)) C79 := by rw [List.length_set]; exact hO79
    replace hA := hA.rw 114 (v' := .slice (some ⟨b75, o76, none⟩) (((List.replicate cn false).set ix true).length) cn) rfl (by rw [List.length_set])
    refine st_call0 hA rfl rfl rfl isfn17 rfl rfl (by decide) (containsb17 hS (l := (List.replicate cn false).set ix true) (RdS.own hOh2 2 rfl)) ?_
    clear hA hS; rintro v w88 a ⟨rfl, hS⟩ hA
    replace hA := hA.rw 115 (v' := .bool false) rfl (congrArg Value.bool hany)
    refine wpList_nil ?_
    replace hA := hA.sel [0, 6, 7, 115] (e' := [(0, .pointer (some ⟨b, 0, none⟩)), (6, .int .i64 ((k : Nat) : Int)), (7, .pointer (some ⟨b73, o74 + (k * 5), none⟩)), (115, .bool false)]) rfl
    refine xt_norm ?_
    refine cd_cond_f hA rfl ?_
    refine wp_skip ?_
    refine xt_norm ?_
    refine wp_seq ?_
    refine wp_region_lit ?_
    refine st_run tbOk 3 hA (e' := (119, .pointer (some ⟨b73, o74 + (k * 5) + 4, none⟩)) :: (118, .pointer (some ⟨b73, o74 + (k * 5), none⟩)) :: (117, .pointer (some ⟨b73, o74 + (k * 5), none⟩)) :: _) rfl ?_; clear hA; intro a hA
    refine st_val hA rfl rfl (by decide) (rn_load tbOk hA rfl rfl rfl rfl ((hO69.rd (hS.own_ 5 rfl)).elemf (k := k) encPart_ok hx (j := 4) rfl)) ?_; clear hA; intro a hA
    have hOp2 : Own 38 6 (.slice (some ⟨b80, o81, none⟩) ((List.replicate cn ((0, 0, 0, 0, 0, none, 0, ([] : List UInt8)) : Pkt)).set ix (fr, to, id, ((ix : Nat) : Int), ((cn : Nat) : Int), A82, c83, bs)).length cn) ((List.replicate cn ((0, 0, 0, 0, 0, none, 0, ([] : List UInt8)) : Pkt)).set ix (fr, to, id, ((ix : Nat) : Int), ((cn : Nat) : Int), A82, c83, bs)).length (rows encPacket ((List.replicate cn ((0, 0, 0, 0, 0, none, 0, ([] : List UInt8)) : Pkt)).set ix (fr, to, id, ((ix : Nat) : Int), ((cn : Nat) : Int), A82, c83, bs))) C87 := by rw [List.length_set]; exact hO87
    replace hA := hA.rw 120 (v' := .slice (some ⟨b80, o81, none⟩) (((List.replicate cn ((0, 0, 0, 0, 0, none, 0, ([] : List UInt8)) : Pkt)).set ix (fr, to, id, ((ix : Nat) : Int), ((cn : Nat) : Int), A82, c83, bs)).length) cn) rfl (by rw [List.length_set])
    replace hS := hS.front 9 (C := D) (L' := C87 :: C84 :: C79 :: [] :: [(b, rowO [.slice (some ⟨b73, o74, none⟩) qs.length c71] 33)] :: C69 :: [(b65, rowO [.int .i64 fr, .int .i64 to, .int .u64 id, .slice (some ⟨b75, o76, none⟩) ((List.replicate cn false).length) cn, .slice (some ⟨b80, o81, none⟩) ((List.replicate cn ((0, 0, 0, 0, 0, none, 0, ([] : List UInt8)) : Pkt)).length) cn] 55)] :: Q :: [(b1, rowO [.int .i64 fr, .int .i64 to, .int .u64 id, .int .i64 ((ix : Nat) : Int), .int .i64 ((cn : Nat) : Int), .slice B bs.length d'] 38)] :: F) rfl rfl
    replace hS := hS.front 2 (C := C84) (L' := D :: C87 :: C79 :: [] :: [(b, rowO [.slice (some ⟨b73, o74, none⟩) qs.length c71] 33)] :: C69 :: [(b65, rowO [.int .i64 fr, .int .i64 to, .int .u64 id, .slice (some ⟨b75, o76, none⟩) ((List.replicate cn false).length) cn, .slice (some ⟨b80, o81, none⟩) ((List.replicate cn ((0, 0, 0, 0, 0, none, 0, ([] : List UInt8)) : Pkt)).length) cn] 55)] :: Q :: [(b1, rowO [.int .i64 fr, .int .i64 to, .int .u64 id, .int .i64 ((ix : Nat) : Int), .int .i64 ((cn : Nat) : Int), .slice B bs.length d'] 38)] :: F) rfl rfl
    replace hS := hS.join
    have hdE := (DD.new (w0 := w0) hOC84).right (E := D)
    have hPI2 : PI (fr, to, id, (some ⟨b75, o76, none⟩), cn, (List.replicate cn false).set ix true, (some ⟨b80, o81, none⟩), cn, (List.replicate cn ((0, 0, 0, 0, 0, none, 0, ([] : List UInt8)) : Pkt)).set ix (fr, to, id, ((ix : Nat) : Int), ((cn : Nat) : Int), A82, c83, bs)) := hPI.put (by omega) (by omega) (by omega) _ _
    have hpd : ∀ y ∈ (List.replicate cn ((0, 0, 0, 0, 0, none, 0, ([] : List UInt8)) : Pkt)).set ix (fr, to, id, ((ix : Nat) : Int), ((cn : Nat) : Int), A82, c83, bs), encPacket_dd w0 (C84 ++ D) y := fun y hy => (List.mem_or_eq_of_mem_set hy).elim (fun hy => encPacket_left (hpk2 y hy)) (fun e => by rw [e]; exact hdE)
    refine st_call0 hA rfl rfl rfl isfn18 rfl rfl (by decide) (join18 hS (ps := (List.replicate cn ((0, 0, 0, 0, 0, none, 0, ([] : List UInt8)) : Pkt)).set ix (fr, to, id, ((ix : Nat) : Int), ((cn : Nat) : Int), A82, c83, bs)) (RdS.own hOp2 1 rfl) hpd) ?_
    clear hA hS; rintro _ w89 a ⟨C91, v90, ou94, hO91, hjC91, hS⟩ hA
    obtain ⟨A92, c93, rfl, hmc93, hxc93⟩ := hO91.open'
    obtain ⟨-, rfl, rfl⟩ := hjC91.resolve_right (fun h => h.1 (hPI2.allfit hany))
    refine st_run tbOk 5 hA (e' := (9, .bool (decide (((((List.replicate cn ((0, 0, 0, 0, 0, none, 0, ([] : List UInt8)) : Pkt)).set ix (fr, to, id, ((ix : Nat) : Int), ((cn : Nat) : Int), A82, c83, bs)).length : Nat) : Int) > 0))) :: (8, .slice A92 ((cat ((List.replicate cn ((0, 0, 0, 0, 0, none, 0, ([] : List UInt8)) : Pkt)).set ix (fr, to, id, ((ix : Nat) : Int), ((cn : Nat) : Int), A82, c83, bs)) ((List.replicate cn ((0, 0, 0, 0, 0, none, 0, ([] : List UInt8)) : Pkt)).set ix (fr, to, id, ((ix : Nat) : Int), ((cn : Nat) : Int), A82, c83, bs)).length).length) c93) :: (123, .bool (decide (((((List.replicate cn ((0, 0, 0, 0, 0, none, 0, ([] : List UInt8)) : Pkt)).set ix (fr, to, id, ((ix : Nat) : Int), ((cn : Nat) : Int), A82, c83, bs)).length : Nat) : Int) > 0))) :: (122, .slice A92 ((cat ((List.replicate cn ((0, 0, 0, 0, 0, none, 0, ([] : List UInt8)) : Pkt)).set ix (fr, to, id, ((ix : Nat) : Int), ((cn : Nat) : Int), A82, c83, bs)) ((List.replicate cn ((0, 0, 0, 0, 0, none, 0, ([] : List UInt8)) : Pkt)).set ix (fr, to, id, ((ix : Nat) : Int), ((cn : Nat) : Int), A82, c83, bs)).length).length) c93) :: (116, .tuple #[.slice A92 ((cat ((List.replicate cn ((0, 0, 0, 0, 0, none, 0, ([] : List UInt8)) : Pkt)).set ix (fr, to, id, ((ix : Nat) : Int), ((cn : Nat) : Int), A82, c83, bs)) ((List.replicate cn ((0, 0, 0, 0, 0, none, 0, ([] : List UInt8)) : Pkt)).set ix (fr, to, id, ((ix : Nat) : Int), ((cn : Nat) : Int), A82, c83, bs)).length).length) c93, .bool (decide (((((List.replicate cn ((0, 0, 0, 0, 0, none, 0, ([] : List UInt8)) : Pkt)).set ix (fr, to, id, ((ix : Nat) : Int), ((cn : Nat) : Int), A82, c83, bs)).length : Nat) : Int) > 0))]) :: _) rfl ?_; clear hA; intro a hA
    refine wpList_nil ?_
    replace hA := hA.sel [0, 6, 8, 9] (e' := [(0, .pointer (some ⟨b, 0, none⟩)), (6, .int .i64 ((k : Nat) : Int)), (8, .slice A92 ((cat ((List.replicate cn ((0, 0, 0, 0, 0, none, 0, ([] : List UInt8)) : Pkt)).set ix (fr, to, id, ((ix : Nat) : Int), ((cn : Nat) : Int), A82, c83, bs)) ((List.replicate cn ((0, 0, 0, 0, 0, none, 0, ([] : List UInt8)) : Pkt)).set ix (fr, to, id, ((ix : Nat) : Int), ((cn : Nat) : Int), A82, c83, bs)).length).length) c93), (9, .bool (decide (((((List.replicate cn ((0, 0, 0, 0, 0, none, 0, ([] : List UInt8)) : Pkt)).set ix (fr, to, id, ((ix : Nat) : Int), ((cn : Nat) : Int), A82, c83, bs)).length : Nat) : Int) > 0)))]) rfl
    refine xt_norm ?_
    refine wp_seq ?_
    refine wp_region_lit ?_
    refine st_run tbOk 4 hA (e' := (127, .pointer (some ⟨b, 0, none⟩)) :: (126, .pointer (some ⟨b, 0, none⟩)) :: (125, .pointer (some ⟨b, 0, none⟩)) :: (124, .pointer (some ⟨b, 0, none⟩)) :: _) rfl ?_; clear hA; intro a hA
    refine st_val hA rfl rfl (by decide) (rn_load tbOk hA rfl rfl rfl rfl (cell_row (hS.heapAt 5 rfl) rfl)) ?_; clear hA; intro a hA
    refine st_run tbOk 3 hA (e' := (131, .int .i64 (IntKind.i64.wrap (((k : Nat) : Int) + 1))) :: (130, .int .i64 ((k : Nat) : Int)) :: (129, .int .i64 ((k : Nat) : Int)) :: _) rfl ?_; clear hA; intro a hA
    replace hA := hA.rw 131 (v' := .int .i64 ((k + 1 : Nat) : Int)) rfl (wr64 (by omega) (by omega) (by omega))
    replace hS := hS.front 6 (C := C69) (L' := C91 :: (C84 ++ D) :: C87 :: C79 :: [] :: [(b, rowO [.slice (some ⟨b73, o74, none⟩) qs.length c71] 33)] :: [(b65, rowO [.int .i64 fr, .int .i64 to, .int .u64 id, .slice (some ⟨b75, o76, none⟩) ((List.replicate cn false).length) cn, .slice (some ⟨b80, o81, none⟩) ((List.replicate cn ((0, 0, 0, 0, 0, none, 0, ([] : List UInt8)) : Pkt)).length) cn] 55)] :: Q :: [(b1, rowO [.int .i64 fr, .int .i64 to, .int .u64 id, .int .i64 ((ix : Nat) : Int), .int .i64 ((cn : Nat) : Int), .slice B bs.length d'] 38)] :: F) rfl rfl
    refine st_call0 hA rfl rfl rfl isfn15 rfl rfl (by decide) (delete15 hS (l := qs) hO69 k (k + 1) (by omega) (by first | omega | (simp; omega))) ?_
    clear hA hS; rintro v95 w96 a ⟨C97, hO97, hS⟩ hA
    obtain ⟨A98, c99, rfl, hmc99, hxc99⟩ := hO97.open'
    refine st_run tbOk 2 hA (e' := (134, .pointer (some ⟨b, 0, none⟩)) :: (133, .pointer (some ⟨b, 0, none⟩)) :: _) rfl ?_; clear hA; intro a hA
    replace hS := hS.front 6 (C := [(b, rowO [.slice (some ⟨b73, o74, none⟩) qs.length c71] 33)]) (L' := C97 :: C91 :: (C84 ++ D) :: C87 :: C79 :: [] :: [(b65, rowO [.int .i64 fr, .int .i64 to, .int .u64 id, .slice (some ⟨b75, o76, none⟩) ((List.replicate cn false).length) cn, .slice (some ⟨b80, o81, none⟩) ((List.replicate cn ((0, 0, 0, 0, 0, none, 0, ([] : List UInt8)) : Pkt)).length) cn] 55)] :: Q :: [(b1, rowO [.int .i64 fr, .int .i64 to, .int .u64 id, .int .i64 ((ix : Nat) : Int), .int .i64 ((cn : Nat) : Int), .slice B bs.length d'] 38)] :: F) rfl rfl
    refine st_store tbOk hA hS [.slice A98 ((qs.take k ++ qs.drop (k + 1)).length) c99] [.slice A98 ((qs.take k ++ qs.drop (k + 1)).length) c99] rfl rfl rfl rfl rfl rfl (by intro u hu; rw [List.mem_singleton.1 hu]; rfl) (Nat.le_of_ble_eq_true rfl) rfl rfl rfl ?_; clear hS; intro w100 hS
    refine wpList_nil ?_
    replace hA := hA.sel [8, 9] (e' := [(8, .slice A92 ((cat ((List.replicate cn ((0, 0, 0, 0, 0, none, 0, ([] : List UInt8)) : Pkt)).set ix (fr, to, id, ((ix : Nat) : Int), ((cn : Nat) : Int), A82, c83, bs)) ((List.replicate cn ((0, 0, 0, 0, 0, none, 0, ([] : List UInt8)) : Pkt)).set ix (fr, to, id, ((ix : Nat) : Int), ((cn : Nat) : Int), A82, c83, bs)).length).length) c93), (9, .bool (decide (((((List.replicate cn ((0, 0, 0, 0, 0, none, 0, ([] : List UInt8)) : Pkt)).set ix (fr, to, id, ((ix : Nat) : Int), ((cn : Nat) : Int), A82, c83, bs)).length : Nat) : Int) > 0)))]) rfl
    refine xt_norm ?_
    refine wp_seq ?_
    refine wp_region_lit ?_
    refine st_run tbOk 4 hA (e' := (5, .bool (decide (((((List.replicate cn ((0, 0, 0, 0, 0, none, 0, ([] : List UInt8)) : Pkt)).set ix (fr, to, id, ((ix : Nat) : Int), ((cn : Nat) : Int), A82, c83, bs)).length : Nat) : Int) > 0))) :: (4, .slice A92 ((cat ((List.replicate cn ((0, 0, 0, 0, 0, none, 0, ([] : List UInt8)) : Pkt)).set ix (fr, to, id, ((ix : Nat) : Int), ((cn : Nat) : Int), A82, c83, bs)) ((List.replicate cn ((0, 0, 0, 0, 0, none, 0, ([] : List UInt8)) : Pkt)).set ix (fr, to, id, ((ix : Nat) : Int), ((cn : Nat) : Int), A82, c83, bs)).length).length) c93) :: (136, .bool (decide (((((List.replicate cn ((0, 0, 0, 0, 0, none, 0, ([] : List UInt8)) : Pkt)).set ix (fr, to, id, ((ix : Nat) : Int), ((cn : Nat) : Int), A82, c83, bs)).length : Nat) : Int) > 0))) :: (135, .slice A92 ((cat ((List.replicate cn ((0, 0, 0, 0, 0, none, 0, ([] : List UInt8)) : Pkt)).set ix (fr, to, id, ((ix : Nat) : Int), ((cn : Nat) : Int), A82, c83, bs)) ((List.replicate cn ((0, 0, 0, 0, 0, none, 0, ([] : List UInt8)) : Pkt)).set ix (fr, to, id, ((ix : Nat) : Int), ((cn : Nat) : Int), A82, c83, bs)).length).length) c93) :: _) rfl ?_; clear hA; intro a hA
    refine wpList_nil ?_
    replace hA := hA.sel [4, 5] (e' := [(4, .slice A92 ((cat ((List.replicate cn ((0, 0, 0, 0, 0, none, 0, ([] : List UInt8)) : Pkt)).set ix (fr, to, id, ((ix : Nat) : Int), ((cn : Nat) : Int), A82, c83, bs)) ((List.replicate cn ((0, 0, 0, 0, 0, none, 0, ([] : List UInt8)) : Pkt)).set ix (fr, to, id, ((ix : Nat) : Int), ((cn : Nat) : Int), A82, c83, bs)).length).length) c93), (5, .bool (decide (((((List.replicate cn ((0, 0, 0, 0, 0, none, 0, ([] : List UInt8)) : Pkt)).set ix (fr, to, id, ((ix : Nat) : Int), ((cn : Nat) : Int), A82, c83, bs)).length : Nat) : Int) > 0)))]) rfl
    refine xt_norm ?_
    refine wp_ret ?_
    refine ret2 (fn := Try.f9) hA rfl rfl rfl ?_
    replace hS := hS.front 4 (C := C87) (L' := [(b, rowO [.slice A98 ((qs.take k ++ qs.drop (k + 1)).length) c99] 33)] :: C97 :: C91 :: (C84 ++ D) :: C79 :: [] :: [(b65, rowO [.int .i64 fr, .int .i64 to, .int .u64 id, .slice (some ⟨b75, o76, none⟩) ((List.replicate cn false).length) cn, .slice (some ⟨b80, o81, none⟩) ((List.replicate cn ((0, 0, 0, 0, 0, none, 0, ([] : List UInt8)) : Pkt)).length) cn] 55)] :: Q :: [(b1, rowO [.int .i64 fr, .int .i64 to, .int .u64 id, .int .i64 ((ix : Nat) : Int), .int .i64 ((cn : Nat) : Int), .slice B bs.length d'] 38)] :: F) rfl rfl
    replace hS := hS.drop1
    replace hS := hS.front 4 (C := C79) (L' := [(b, rowO [.slice A98 ((qs.take k ++ qs.drop (k + 1)).length) c99] 33)] :: C97 :: C91 :: (C84 ++ D) :: [] :: [(b65, rowO [.int .i64 fr, .int .i64 to, .int .u64 id, .slice (some ⟨b75, o76, none⟩) ((List.replicate cn false).length) cn, .slice (some ⟨b80, o81, none⟩) ((List.replicate cn ((0, 0, 0, 0, 0, none, 0, ([] : List UInt8)) : Pkt)).length) cn] 55)] :: Q :: [(b1, rowO [.int .i64 fr, .int .i64 to, .int .u64 id, .int .i64 ((ix : Nat) : Int), .int .i64 ((cn : Nat) : Int), .slice B bs.length d'] 38)] :: F) rfl rfl
    replace hS := hS.drop1
    replace hS := hS.front 5 (C := [(b65, rowO [.int .i64 fr, .int .i64 to, .int .u64 id, .slice (some ⟨b75, o76, none⟩) ((List.replicate cn false).length) cn, .slice (some ⟨b80, o81, none⟩) ((List.replicate cn ((0, 0, 0, 0, 0, none, 0, ([] : List UInt8)) : Pkt)).length) cn] 55)]) (L' := [(b, rowO [.slice A98 ((qs.take k ++ qs.drop (k + 1)).length) c99] 33)] :: C97 :: C91 :: (C84 ++ D) :: [] :: Q :: [(b1, rowO [.int .i64 fr, .int .i64 to, .int .u64 id, .int .i64 ((ix : Nat) : Int), .int .i64 ((cn : Nat) : Int), .slice B bs.length d'] 38)] :: F) rfl rfl
    replace hS := hS.drop1
    replace hS := hS.front 6 (C := [(b1, rowO [.int .i64 fr, .int .i64 to, .int .u64 id, .int .i64 ((ix : Nat) : Int), .int .i64 ((cn : Nat) : Int), .slice B bs.length d'] 38)]) (L' := [(b, rowO [.slice A98 ((qs.take k ++ qs.drop (k + 1)).length) c99] 33)] :: C97 :: C91 :: (C84 ++ D) :: [] :: Q :: F) rfl rfl
    replace hS := hS.drop1
    replace hS := hS.front 2 (C := C91) (L' := [(b, rowO [.slice A98 ((qs.take k ++ qs.drop (k + 1)).length) c99] 33)] :: C97 :: (C84 ++ D) :: [] :: Q :: F) rfl rfl
    replace hS := hS.front 3 (C := (C84 ++ D)) (L' := C91 :: [(b, rowO [.slice A98 ((qs.take k ++ qs.drop (k + 1)).length) c99] 33)] :: C97 :: [] :: Q :: F) rfl rfl
    replace hS := hS.front 4 (C := []) (L' := (C84 ++ D) :: C91 :: [(b, rowO [.slice A98 ((qs.take k ++ qs.drop (k + 1)).length) c99] 33)] :: C97 :: Q :: F) rfl rfl
    replace hS := hS.front 5 (C := Q) (L' := [] :: (C84 ++ D) :: C91 :: [(b, rowO [.slice A98 ((qs.take k ++ qs.drop (k + 1)).length) c99] 33)] :: C97 :: F) rfl rfl
    replace hS := hS.front 5 (C := C97) (L' := Q :: [] :: (C84 ++ D) :: C91 :: [(b, rowO [.slice A98 ((qs.take k ++ qs.drop (k + 1)).length) c99] 33)] :: F) rfl rfl
    replace hS := hS.front 5 (C := [(b, rowO [.slice A98 ((qs.take k ++ qs.drop (k + 1)).length) c99] 33)]) (L' := C97 :: Q :: [] :: (C84 ++ D) :: C91 :: F) rfl rfl
    replace hS := hS.front 5 (C := C91) (L' := [(b, rowO [.slice A98 ((qs.take k ++ qs.drop (k + 1)).length) c99] 33)] :: C97 :: Q :: [] :: (C84 ++ D) :: F) rfl rfl
    replace hS := hS.front 5 (C := (C84 ++ D)) (L' := C91 :: [(b, rowO [.slice A98 ((qs.take k ++ qs.drop (k + 1)).length) c99] 33)] :: C97 :: Q :: [] :: F) rfl rfl
    replace hS := hS.front 5 (C := []) (L' := (C84 ++ D) :: C91 :: [(b, rowO [.slice A98 ((qs.take k ++ qs.drop (k + 1)).length) c99] 33)] :: C97 :: Q :: F) rfl rfl
    replace hS := hS.front 5 (C := Q) (L' := [] :: (C84 ++ D) :: C91 :: [(b, rowO [.slice A98 ((qs.take k ++ qs.drop (k + 1)).length) c99] 33)] :: C97 :: F) rfl rfl
    replace hS := hS.join
    replace hS := hS.front 4 (C := C97) (L' := (Q ++ []) :: (C84 ++ D) :: C91 :: [(b, rowO [.slice A98 ((qs.take k ++ qs.drop (k + 1)).length) c99] 33)] :: F) rfl rfl
    replace hS := hS.front 4 (C := [(b, rowO [.slice A98 ((qs.take k ++ qs.drop (k + 1)).length) c99] 33)]) (L' := C97 :: (Q ++ []) :: (C84 ++ D) :: C91 :: F) rfl rfl
    replace hS := hS.join3
    have hmp : (qs.take k ++ qs.drop (k + 1)).map gv = (ps.map gv).drop 1 := by rw [List.map_append, List.map_take, List.map_drop]; rw [hqs, new_del hk, List.map_drop]
    have hcd : cat ((List.replicate cn ((0, 0, 0, 0, 0, none, 0, ([] : List UInt8)) : Pkt)).set ix (fr, to, id, ((ix : Nat) : Int), ((cn : Nat) : Int), A82, c83, bs)) ((List.replicate cn ((0, 0, 0, 0, 0, none, 0, ([] : List UInt8)) : Pkt)).set ix (fr, to, id, ((ix : Nat) : Int), ((cn : Nat) : Int), A82, c83, bs)).length = ((List.replicate cn []).set ix bs).flatten := by rw [cat_dat, List.map_set]; rw [List.map_replicate]; rfl
    have hpos : decide (((((List.replicate cn ((0, 0, 0, 0, 0, none, 0, ([] : List UInt8)) : Pkt)).set ix (fr, to, id, ((ix : Nat) : Int), ((cn : Nat) : Int), A82, c83, bs)).length : Nat) : Int) > 0) = true := decide_eq_true (by rw [List.length_set]; omega)
    rw [hcd] at hO91
    exact ⟨_, C84, _, _, ⟨_, _, _, _, hO97, rfl, PO.app hR1 hR2, sub_all hI2, encs_left (sub_all hdd2), hmp⟩, hO91, by rw [hcd, hpos], hS⟩

end Go.Proofs.Ytbfdppfddlilgaa
