import Derived.Test.YtbfdppfddlilgaaG
set_option linter.unusedVariables false
set_option linter.unusedSimpArgs false
set_option maxRecDepth 4000
namespace Go.Proofs.Ytbfdppfddlilgaa
open Go Go.SK
set_option maxHeartbeats 4000000 in
theorem add_new_put9 {w0 w : World} {F : List Chunk} {L D : Chunk} {b : Nat} {vs : List GV} (hS : St w0 w (L :: D :: F)) (hM : GS w0 b vs L D) (fr to id : Int) (ix cn : Nat) {d : Value} {bs : List UInt8} (hd : RdSX w0 (D :: F) 1 d bs.length (rows encB bs)) (h1 : ix < cn) (h2 : cn ≤ 256) (h3 : bs.length ≤ 32768) (hno : ∀ (i : Nat) (z : GV), vs[i]? = some z → ¬ vkey fr to id z) (hl : vs.length < 16) (hany : ((List.replicate cn false).set ix true).any (fun y => y == false) = true) :
    Ret Try.prog 9 #[.pointer (some ⟨b, 0, none⟩), .agg #[.int .i64 fr, .int .i64 to, .int .u64 id, .int .i64 ((ix : Nat) : Int), .int .i64 ((cn : Nat) : Int), d]] w (fun v w' => ∃ L' E, GS w0 b (vs ++ [(fr, to, id, (List.replicate cn false).set ix true, (List.replicate cn []).set ix bs)]) L' (E ++ D) ∧ v = .tuple #[.slice none 0 0, .bool false] ∧ St w0 w' (L' :: (E ++ D) :: F)) := by
  obtain ⟨ps, v, C, R, hO, rfl, hR, hI, hdd, rfl⟩ := hM
  obtain ⟨A, c, rfl, hmc, hcx⟩ := hO.open'
  replace hS : St w0 w ([(b, rowO [.slice A ps.length c] 33)] :: C :: R :: D :: F) := hS.split3
  obtain ⟨B, d', rfl, hmd, hdx⟩ := (hd _ (hS.tail 3 rfl)).open'
  rw [List.length_map] at hl
  refine enter (vs := [.pointer (some ⟨b, 0, none⟩), .agg #[.int .i64 fr, .int .i64 to, .int .u64 id, .int .i64 ((ix : Nat) : Int), .int .i64 ((cn : Nat) : Int), .slice B bs.length d']]) 137 Try.func9 rfl rfl (by simp) ?_; intro a hA
  refine wp_seq ?_
  refine wp_region_lit ?_
  refine st_box hA hS [.int .i64 fr, .int .i64 to, .int .u64 id, .int .i64 ((ix : Nat) : Int), .int .i64 ((cn : Nat) : Int), .slice B bs.length d'] rfl rfl rfl rfl rfl (by decide) ?_; clear hA hS; intro b1 w2 a hS hA
  refine st_run tbOk 2 hA (e' := (5, .bool false) :: (4, .slice none 0 0) :: _) rfl ?_; clear hA; intro a hA
  refine wpList_nil ?_
  replace hA := hA.sel [0, 3] (e' := [(0, .pointer (some ⟨b, 0, none⟩)), (3, .pointer (some ⟨b1, 0, none⟩))]) rfl
  refine xt_norm ?_
  refine wp_seq ?_
  refine wp_seq ?_
  refine wp_region_lit ?_
  refine st_val hA rfl rfl (by decide) (rn_loadA tbOk hA [.int .i64 fr, .int .i64 to, .int .u64 id, .int .i64 ((ix : Nat) : Int), .int .i64 ((cn : Nat) : Int), .slice B bs.length d'] rfl rfl rfl rfl rfl (cells_row (hS.heapAt 0 rfl) rfl)) ?_; clear hA; intro a hA
  refine st_call0 hA rfl rfl rfl isfn12 rfl rfl (by decide) (may12 hS fr to id ((ix : Nat) : Int) ((cn : Nat) : Int) B d' bs) ?_
  clear hA hS; rintro v w3 a ⟨rfl, hS⟩ hA
  have hc4 : 1 ≤ ((cn : Nat) : Int) ∧ ((cn : Nat) : Int) ≤ 256 ∧ 0 ≤ ((ix : Nat) : Int) ∧ ((ix : Nat) : Int) < ((cn : Nat) : Int) ∧ bs.length ≤ 32768 := by omega
  replace hA := hA.rw 11 (v' := .bool true) rfl (vb_true hc4)
  refine st_run tbOk 1 hA (e' := (12, .bool false) :: _) rfl ?_; clear hA; intro a hA
  refine wpList_nil ?_
  replace hA := hA.sel [0, 3, 12] (e' := [(0, .pointer (some ⟨b, 0, none⟩)), (3, .pointer (some ⟨b1, 0, none⟩)), (12, .bool false)]) rfl
  refine xt_norm ?_
  refine cd_cond_f hA rfl ?_
  refine wp_skip ?_
  refine xt_norm ?_
  refine wp_seq ?_
  refine wp_region_lit ?_
  refine st_run tbOk 1 hA (e' := (13, .pointer (some ⟨b, 0, none⟩)) :: _) rfl ?_; clear hA; intro a hA
  refine st_val hA rfl rfl (by decide) (rn_loadA tbOk hA [.int .i64 fr, .int .i64 to, .int .u64 id, .int .i64 ((ix : Nat) : Int), .int .i64 ((cn : Nat) : Int), .slice B bs.length d'] rfl rfl rfl rfl rfl (cells_row (hS.heapAt 0 rfl) rfl)) ?_; clear hA; intro a hA
  replace hS := hS.front 2 (C := C) (L' := [(b1, rowO [.int .i64 fr, .int .i64 to, .int .u64 id, .int .i64 ((ix : Nat) : Int), .int .i64 ((cn : Nat) : Int), .slice B bs.length d'] 38)] :: [(b, rowO [.slice A ps.length c] 33)] :: R :: D :: F) rfl rfl
  replace hS := hS.front 2 (C := [(b, rowO [.slice A ps.length c] 33)]) (L' := C :: [(b1, rowO [.int .i64 fr, .int .i64 to, .int .u64 id, .int .i64 ((ix : Nat) : Int), .int .i64 ((cn : Nat) : Int), .slice B bs.length d'] 38)] :: R :: D :: F) rfl rfl
  refine st_call0 hA rfl rfl rfl isfn14 rfl rfl (by decide) (find14 hS hO fr to id _ _ _) ?_
  clear hA hS; rintro v w5 a ⟨rfl, hS⟩ hA
  have hix := idx_none (p := fun x => gkey fr to id x) (l := ps) (fun i y hy => gkey_no (k := ps.length) (fun i z _ hz => hno i z hz) i y (List.getElem?_eq_some_iff.1 hy).1 hy)
  replace hA := hA.rw 15 (v' := .int .i64 (-1)) rfl (vint hix)
  replace hS := hS.front 4 (C := D) (L' := [(b, rowO [.slice A ps.length c] 33)] :: C :: [(b1, rowO [.int .i64 fr, .int .i64 to, .int .u64 id, .int .i64 ((ix : Nat) : Int), .int .i64 ((cn : Nat) : Int), .slice B bs.length d'] 38)] :: R :: F) rfl rfl
  replace hS := hS.front 4 (C := R) (L' := D :: [(b, rowO [.slice A ps.length c] 33)] :: C :: [(b1, rowO [.int .i64 fr, .int .i64 to, .int .u64 id, .int .i64 ((ix : Nat) : Int), .int .i64 ((cn : Nat) : Int), .slice B bs.length d'] 38)] :: F) rfl rfl
  replace hS := hS.front 4 (C := [(b1, rowO [.int .i64 fr, .int .i64 to, .int .u64 id, .int .i64 ((ix : Nat) : Int), .int .i64 ((cn : Nat) : Int), .slice B bs.length d'] 38)]) (L' := R :: D :: [(b, rowO [.slice A ps.length c] 33)] :: C :: F) rfl rfl
  replace hS := hS.front 4 (C := C) (L' := [(b1, rowO [.int .i64 fr, .int .i64 to, .int .u64 id, .int .i64 ((ix : Nat) : Int), .int .i64 ((cn : Nat) : Int), .slice B bs.length d'] 38)] :: R :: D :: [(b, rowO [.slice A ps.length c] 33)] :: F) rfl rfl
  replace hS := hS.front 4 (C := [(b, rowO [.slice A ps.length c] 33)]) (L' := C :: [(b1, rowO [.int .i64 fr, .int .i64 to, .int .u64 id, .int .i64 ((ix : Nat) : Int), .int .i64 ((cn : Nat) : Int), .slice B bs.length d'] 38)] :: R :: D :: F) rfl rfl
  refine st_run tbOk 1 hA (e' := (6, .int .i64 (-1)) :: _) rfl ?_; clear hA; intro a hA
  refine wpList_nil ?_
  replace hA := hA.sel [0, 3, 6] (e' := [(0, .pointer (some ⟨b, 0, none⟩)), (3, .pointer (some ⟨b1, 0, none⟩)), (6, .int .i64 (-1))]) rfl
  refine xt_norm ?_
  refine wp_seq ?_
  refine wp_seq ?_
  refine wp_region_lit ?_
  refine st_run tbOk 2 hA (e' := (17, .bool true) :: (16, .int .i64 (-1)) :: _) rfl ?_; clear hA; intro a hA
  refine wpList_nil ?_
  replace hA := hA.sel [0, 3, 6, 17] (e' := [(0, .pointer (some ⟨b, 0, none⟩)), (3, .pointer (some ⟨b1, 0, none⟩)), (6, .int .i64 (-1)), (17, .bool true)]) rfl
  refine xt_norm ?_
  refine cd_cond_t hA rfl ?_
  refine wp_seq ?_
  refine wp_seq ?_
  refine wp_region_lit ?_
  refine st_run tbOk 3 hA (e' := (20, .pointer (some ⟨b, 0, none⟩)) :: (19, .pointer (some ⟨b, 0, none⟩)) :: (18, .pointer (some ⟨b, 0, none⟩)) :: _) rfl ?_; clear hA; intro a hA
  refine st_val hA rfl rfl (by decide) (rn_load tbOk hA rfl rfl rfl rfl (cell_row (hS.heapAt 0 rfl) rfl)) ?_; clear hA; intro a hA
  refine st_run tbOk 2 hA (e' := (23, .bool (((ps.length : Nat) : Int) == 16)) :: (22, .int .i64 ((ps.length : Nat) : Int)) :: _) rfl ?_; clear hA; intro a hA
  refine wpList_nil ?_
  replace hA := hA.sel [0, 3, 23] (e' := [(0, .pointer (some ⟨b, 0, none⟩)), (3, .pointer (some ⟨b1, 0, none⟩)), (23, .bool (((ps.length : Nat) : Int) == 16))]) rfl
  refine xt_norm ?_
  have hc6 : ¬ (((ps.length : Nat) : Int) = 16) := by omega
  replace hA := hA.rw 23 (v' := .bool false) rfl (vb_eq_f hc6)
  refine cd_cond_f hA rfl ?_
  refine wp_skip ?_
  refine xt_norm ?_
  refine wp_seq ?_
  refine wp_region_lit ?_
  refine st_run tbOk 3 hA (e' := (34, .pointer (some ⟨b, 0, none⟩)) :: (33, .pointer (some ⟨b, 0, none⟩)) :: (32, .pointer (some ⟨b, 0, none⟩)) :: _) rfl ?_; clear hA; intro a hA
  refine st_val hA rfl rfl (by decide) (rn_load tbOk hA rfl rfl rfl rfl (cell_row (hS.heapAt 0 rfl) rfl)) ?_; clear hA; intro a hA
  refine st_run tbOk 2 hA (e' := (6, .int .i64 ((ps.length : Nat) : Int)) :: (36, .int .i64 ((ps.length : Nat) : Int)) :: _) rfl ?_; clear hA; intro a hA
  refine wpList_nil ?_
  replace hA := hA.sel [0, 3, 6] (e' := [(0, .pointer (some ⟨b, 0, none⟩)), (3, .pointer (some ⟨b1, 0, none⟩)), (6, .int .i64 ((ps.length : Nat) : Int))]) rfl
  refine xt_norm ?_
  replace hS := hS.front 1 (C := C) (L' := [(b, rowO [.slice A ps.length c] 33)] :: [(b1, rowO [.int .i64 fr, .int .i64 to, .int .u64 id, .int .i64 ((ix : Nat) : Int), .int .i64 ((cn : Nat) : Int), .slice B bs.length d'] 38)] :: R :: D :: F) rfl rfl
  refine wp_drawN (fun w' => St w0 w' ([(b, rowO [.slice A ps.length c] 33)] :: [(b1, rowO [.int .i64 fr, .int .i64 to, .int .u64 id, .int .i64 ((ix : Nat) : Int), .int .i64 ((cn : Nat) : Int), .slice B bs.length d'] 38)] :: R :: D :: F)) [22] [(0, true), (1, true), (2, true), (3, true), (4, true), (5, true), (6, true), (7, true), (8, true), (9, true), (10, true), (11, true), (12, true), (14, true), (15, true)] 13 (.L [(16, false), (17, true), (18, false), (19, false), (20, true), (21, true), (22, false)]) 16 (.L [(13, false), (17, true), (18, false), (19, false), (20, true), (21, true), (22, false)]) mixed (by kernel_rfl) (by rintro c a w ⟨_, _, h, _⟩; cases h) (by rfl) (by kernel_rfl) ?_
  replace hS := hS.drew
  refine dr_run tbOk 4 hA (hS.tail 1 rfl) (e' := (40, .pointer (some ⟨b, 0, none⟩)) :: (39, .pointer (some ⟨b, 0, none⟩)) :: (38, .pointer (some ⟨b, 0, none⟩)) :: (37, .pointer (some ⟨b, 0, none⟩)) :: _) rfl ?_; clear hA; intro a hA
  refine dr_y hA rfl rfl rfl (by decide) (hS.tail 1 rfl) (fun w' hS' => rn_load tbOk hA rfl rfl rfl rfl (cell_row (hS'.heapAt 0 rfl) rfl)) ?_; clear hA; intro a hA
  refine dr_run tbOk 1 hA (hS.tail 1 rfl) (e' := (42, .pointer (some ⟨b1, 0, none⟩)) :: _) rfl ?_; clear hA; intro a hA
  refine dr_y hA rfl rfl rfl (by decide) (hS.tail 1 rfl) (fun w' hS' => rn_load tbOk hA rfl rfl rfl rfl (cell_row (hS'.heapAt 1 rfl) rfl)) ?_; clear hA; intro a hA
  refine dr_run tbOk 1 hA (hS.tail 1 rfl) (e' := (44, .pointer (some ⟨b1, 1, none⟩)) :: _) rfl ?_; clear hA; intro a hA
  refine dr_y hA rfl rfl rfl (by decide) (hS.tail 1 rfl) (fun w' hS' => rn_load tbOk hA rfl rfl rfl rfl (cell_row (hS'.heapAt 1 rfl) rfl)) ?_; clear hA; intro a hA
  refine dr_run tbOk 1 hA (hS.tail 1 rfl) (e' := (46, .pointer (some ⟨b1, 2, none⟩)) :: _) rfl ?_; clear hA; intro a hA
  refine dr_y hA rfl rfl rfl (by decide) (hS.tail 1 rfl) (fun w' hS' => rn_load tbOk hA rfl rfl rfl rfl (cell_row (hS'.heapAt 1 rfl) rfl)) ?_; clear hA; intro a hA
  refine dr_run tbOk 1 hA (hS.tail 1 rfl) (e' := (48, .pointer (some ⟨b1, 4, none⟩)) :: _) rfl ?_; clear hA; intro a hA
  refine dr_y hA rfl rfl rfl (by decide) (hS.tail 1 rfl) (fun w' hS' => rn_load tbOk hA rfl rfl rfl rfl (cell_row (hS'.heapAt 1 rfl) rfl)) ?_; clear hA; intro a hA
  refine dr_run tbOk 1 hA (hS.tail 1 rfl) (e' := (51, .pointer (some ⟨b1, 4, none⟩)) :: _) rfl ?_; clear hA; intro a hA
  refine dr_y hA rfl rfl rfl (by decide) (hS.tail 1 rfl) (fun w' hS' => rn_load tbOk hA rfl rfl rfl rfl (cell_row (hS'.heapAt 1 rfl) rfl)) ?_; clear hA; intro a hA
  refine dr_fork ?_ ?_
  · refine dr_b (o := _) rfl ?_
    refine st_makeSlice tbOk hA hS cn encBo_ok (by decide) false rfl rfl rfl rfl rfl rfl rfl rfl (by show 1 * cn ≤ 281474976710656; omega) (by omega) rfl rfl (by decide) ?_; clear hA hS; intro b7 w8 a hS hA
    obtain ⟨C9, hO9, hS⟩ : ∃ Cq9, Own 4 1 (.slice (some ⟨b7, 0, none⟩) cn cn) cn (rows encBo (List.replicate cn false)) Cq9 ∧ St w0 w8 (Cq9 :: C :: [(b, rowO [.slice A ps.length c] 33)] :: [(b1, rowO [.int .i64 fr, .int .i64 to, .int .u64 id, .int .i64 ((ix : Nat) : Int), .int .i64 ((cn : Nat) : Int), .slice B bs.length d'] 38)] :: R :: D :: F) := ⟨_, Own.full (by rw [rows_length encBo_ok, List.length_replicate]) (by show cn ≤ 9223372036854775807; omega), hS⟩
    generalize (some (⟨b7, 0, none⟩ : Addr)) = A10 at hO9 hA
    refine dr_nil (.inr (hS.tail 2 rfl)) ?_
    refine dr_subL ?_
    refine dr_b (o := _) rfl ?_
    refine st_makeSlice tbOk hA hS cn encPacket_ok (by decide) (0, 0, 0, 0, 0, none, 0, ([] : List UInt8)) rfl rfl rfl rfl rfl rfl rfl rfl (by show 64 * cn ≤ 281474976710656; omega) (by omega) rfl rfl (by decide) ?_; clear hA hS; intro b11 w12 a hS hA
    obtain ⟨C13, hO13, hS⟩ : ∃ Cq9, Own 38 6 (.slice (some ⟨b11, 0, none⟩) cn cn) cn (rows encPacket (List.replicate cn (0, 0, 0, 0, 0, none, 0, ([] : List UInt8)))) Cq9 ∧ St w0 w12 (Cq9 :: C9 :: C :: [(b, rowO [.slice A ps.length c] 33)] :: [(b1, rowO [.int .i64 fr, .int .i64 to, .int .u64 id, .int .i64 ((ix : Nat) : Int), .int .i64 ((cn : Nat) : Int), .slice B bs.length d'] 38)] :: R :: D :: F) := ⟨_, Own.full (by rw [rows_length encPacket_ok, List.length_replicate]) (by show cn ≤ 9223372036854775807; omega), hS⟩
    generalize (some (⟨b11, 0, none⟩ : Addr)) = A14 at hO13 hA
    refine dr_nil (.inr (hS.tail 3 rfl)) ?_
    replace hA := hA.rw 50 (v' := .slice A10 ((List.replicate cn false).length) cn) rfl (by rw [List.length_replicate])
    replace hA := hA.rw 53 (v' := .slice A14 ((List.replicate cn ((0, 0, 0, 0, 0, none, 0, ([] : List UInt8)) : Pkt)).length) cn) rfl (by rw [List.length_replicate])
    refine dr_y hA rfl rfl rfl (by decide) (hS.tail 3 rfl) (fun w' hS' => rn_build tbOk hA rfl rfl rfl rfl rfl rfl rfl) ?_; clear hA; intro a hA
    refine dr_b (o := _) rfl ?_
    refine st_buildSlice tbOk hA hS [.int .i64 fr, .int .i64 to, .int .u64 id, .slice A10 ((List.replicate cn false).length) cn, .slice A14 ((List.replicate cn ((0, 0, 0, 0, 0, none, 0, ([] : List UInt8)) : Pkt)).length) cn] rfl rfl rfl rfl rfl (by decide) (by kernel_rfl) rfl rfl (by decide) ?_; clear hA hS; intro b15 w16 a hS hA
    refine dr_nil (.inr (hS.tail 4 rfl)) ?_
    refine dr_b (o := _) rfl ?_
    replace hS := hS.front 3 (C := C) (L' := [(b15, rowO [.int .i64 fr, .int .i64 to, .int .u64 id, .slice A10 ((List.replicate cn false).length) cn, .slice A14 ((List.replicate cn ((0, 0, 0, 0, 0, none, 0, ([] : List UInt8)) : Pkt)).length) cn] 55)] :: C13 :: C9 :: [(b, rowO [.slice A ps.length c] 33)] :: [(b1, rowO [.int .i64 fr, .int .i64 to, .int .u64 id, .int .i64 ((ix : Nat) : Int), .int .i64 ((cn : Nat) : Int), .slice B bs.length d'] 38)] :: R :: D :: F) rfl rfl
    refine st_append tbOk hA (m := ps.length) (q := 1) (xs := rows encPart ps) (news := rows encPart ([(fr, to, id, A10, cn, (List.replicate cn false), A14, cn, (List.replicate cn ((0, 0, 0, 0, 0, none, 0, ([] : List UInt8)) : Pkt)))] : List (Int × Int × Int × Option Addr × Nat × List Bool × Option Addr × Nat × List Pkt))) rfl rfl rfl rfl rfl rfl rfl rfl (by decide) hO hS (((Own.full (T := 55) (size := 5) (g := b15) (m := 1) rfl (by decide)).rd (hS.own_ 1 rfl)).x) (rows_one encPart_ok _) (maxLen_le (by first | omega | (simp; omega))) (by show (ps.length + 1) * 72 ≤ 140737488355328; first | omega | (simp; omega)) rfl rfl (by decide) ?_
    clear hA hS; intro v17 w18 C19 a hO19 hS hA
    replace hO19 := Own.app (l := ps) (l2 := ([(fr, to, id, A10, cn, (List.replicate cn false), A14, cn, (List.replicate cn ((0, 0, 0, 0, 0, none, 0, ([] : List UInt8)) : Pkt)))] : List (Int × Int × Int × Option Addr × Nat × List Bool × Option Addr × Nat × List Pkt))) hO19
    obtain ⟨A20, c21, rfl, hmc21, hxc21⟩ := hO19.open'
    refine dr_nil (.inr (hS.tail 4 rfl)) ?_
    refine dr_run tbOk 2 hA (hS.tail 4 rfl) (e' := (58, .pointer (some ⟨b, 0, none⟩)) :: (57, .pointer (some ⟨b, 0, none⟩)) :: _) rfl ?_; clear hA; intro a hA
    refine dr_b (o := _) rfl ?_
    replace hS := hS.front 4 (C := [(b, rowO [.slice A ps.length c] 33)]) (L' := C19 :: [(b15, rowO [.int .i64 fr, .int .i64 to, .int .u64 id, .slice A10 ((List.replicate cn false).length) cn, .slice A14 ((List.replicate cn ((0, 0, 0, 0, 0, none, 0, ([] : List UInt8)) : Pkt)).length) cn] 55)] :: C13 :: C9 :: [(b1, rowO [.int .i64 fr, .int .i64 to, .int .u64 id, .int .i64 ((ix : Nat) : Int), .int .i64 ((cn : Nat) : Int), .slice B bs.length d'] 38)] :: R :: D :: F) rfl rfl
    refine st_store tbOk hA hS [.slice A20 ((ps ++ ([(fr, to, id, A10, cn, (List.replicate cn false), A14, cn, (List.replicate cn ((0, 0, 0, 0, 0, none, 0, ([] : List UInt8)) : Pkt)))] : List (Int × Int × Int × Option Addr × Nat × List Bool × Option Addr × Nat × List Pkt))).length) c21] [.slice A20 ((ps ++ ([(fr, to, id, A10, cn, (List.replicate cn false), A14, cn, (List.replicate cn ((0, 0, 0, 0, 0, none, 0, ([] : List UInt8)) : Pkt)))] : List (Int × Int × Int × Option Addr × Nat × List Bool × Option Addr × Nat × List Pkt))).length) c21] rfl rfl rfl rfl rfl rfl (by intro u hu; rw [List.mem_singleton.1 hu]; rfl) (Nat.le_of_ble_eq_true rfl) rfl rfl rfl ?_; clear hS; intro w22 hS
    refine dr_nil (.inl (by decide)) ?_
    refine dr_end ?_
    replace hA := hA.sel [0, 3, 6] (e' := [(0, .pointer (some ⟨b, 0, none⟩)), (3, .pointer (some ⟨b1, 0, none⟩)), (6, .int .i64 ((ps.length : Nat) : Int))]) rfl
    refine xt_norm ?_
    refine wp_seq ?_
    refine wp_region_lit ?_
    obtain ⟨k, hk⟩ : ∃ k, k = ps.length := ⟨_, rfl⟩
    replace hA := hA.rw 6 (v' := .int .i64 ((k : Nat) : Int)) rfl (by rw [hk])
    obtain ⟨qs, hqs⟩ : ∃ qs, qs = ps ++ ([(fr, to, id, A10, cn, (List.replicate cn false), A14, cn, (List.replicate cn ((0, 0, 0, 0, 0, none, 0, ([] : List UInt8)) : Pkt)))] : List (Int × Int × Int × Option Addr × Nat × List Bool × Option Addr × Nat × List Pkt)) := ⟨_, rfl⟩
    rw [← hqs] at hO19 hS
    have hx : qs[k]? = some (fr, to, id, A10, cn, (List.replicate cn false), A14, cn, (List.replicate cn ((0, 0, 0, 0, 0, none, 0, ([] : List UInt8)) : Pkt))) := by rw [hqs, hk]; simp
    have hkl : k < qs.length := (List.getElem?_eq_some_iff.1 hx).1
    have hPI : PI (fr, to, id, A10, cn, (List.replicate cn false), A14, cn, (List.replicate cn ((0, 0, 0, 0, 0, none, 0, ([] : List UInt8)) : Pkt))) := PI.fresh (by omega) (by omega)
    have hR1 : PO (qs.take k) R := by rw [hqs, hk, List.take_left]; exact hR
    have hR2 : PO (qs.drop (k + 1)) [] := by rw [hqs, List.drop_eq_nil_of_le (by rw [hk, List.length_append]; exact Nat.le_refl _)]; exact rfl
    have hpk2 : ∀ y ∈ (List.replicate cn ((0, 0, 0, 0, 0, none, 0, ([] : List UInt8)) : Pkt)), encPacket_dd w0 D y := fun y hy => by rw [List.eq_of_mem_replicate hy]; exact DD.nil
    have hI2 : ∀ y ∈ qs, PI y := by rw [hqs]; exact snoc_all hI hPI
    have hdd2 : ∀ z ∈ qs, ∀ y ∈ ppk z, encPacket_dd w0 D y := by rw [hqs]; exact snoc_all (x := (fr, to, id, A10, cn, (List.replicate cn false), A14, cn, (List.replicate cn ((0, 0, 0, 0, 0, none, 0, ([] : List UInt8)) : Pkt)))) hdd hpk2
    have hhl9 : (List.replicate cn false).length = cn := List.length_replicate
    have hpl9 : (List.replicate cn ((0, 0, 0, 0, 0, none, 0, ([] : List UInt8)) : Pkt)).length = cn := List.length_replicate
    have hF : (List.replicate cn false)[ix]? = some false := by rw [List.getElem?_replicate, if_pos (by omega)]
    have hOhN : Own 4 1 (.slice A10 (List.replicate cn false).length cn) (List.replicate cn false).length (rows encBo (List.replicate cn false)) C9 := by rw [List.length_replicate]; exact hO9
    have hOpN : Own 38 6 (.slice A14 (List.replicate cn ((0, 0, 0, 0, 0, none, 0, ([] : List UInt8)) : Pkt)).length cn) (List.replicate cn ((0, 0, 0, 0, 0, none, 0, ([] : List UInt8)) : Pkt)).length (rows encPacket (List.replicate cn ((0, 0, 0, 0, 0, none, 0, ([] : List UInt8)) : Pkt))) C13 := by rw [List.length_replicate]; exact hO13
    replace hS := hS.nil
    replace hS := hS.front 8 (C := D) (L' := [] :: [(b, rowO [.slice A20 qs.length c21] 33)] :: C19 :: [(b15, rowO [.int .i64 fr, .int .i64 to, .int .u64 id, .slice A10 ((List.replicate cn false).length) cn, .slice A14 ((List.replicate cn ((0, 0, 0, 0, 0, none, 0, ([] : List UInt8)) : Pkt)).length) cn] 55)] :: C13 :: C9 :: [(b1, rowO [.int .i64 fr, .int .i64 to, .int .u64 id, .int .i64 ((ix : Nat) : Int), .int .i64 ((cn : Nat) : Int), .slice B bs.length d'] 38)] :: R :: F) rfl rfl
    replace hS := hS.front 8 (C := R) (L' := D :: [] :: [(b, rowO [.slice A20 qs.length c21] 33)] :: C19 :: [(b15, rowO [.int .i64 fr, .int .i64 to, .int .u64 id, .slice A10 ((List.replicate cn false).length) cn, .slice A14 ((List.replicate cn ((0, 0, 0, 0, 0, none, 0, ([] : List UInt8)) : Pkt)).length) cn] 55)] :: C13 :: C9 :: [(b1, rowO [.int .i64 fr, .int .i64 to, .int .u64 id, .int .i64 ((ix : Nat) : Int), .int .i64 ((cn : Nat) : Int), .slice B bs.length d'] 38)] :: F) rfl rfl
    replace hS := hS.front 8 (C := [(b1, rowO [.int .i64 fr, .int .i64 to, .int .u64 id, .int .i64 ((ix : Nat) : Int), .int .i64 ((cn : Nat) : Int), .slice B bs.length d'] 38)]) (L' := R :: D :: [] :: [(b, rowO [.slice A20 qs.length c21] 33)] :: C19 :: [(b15, rowO [.int .i64 fr, .int .i64 to, .int .u64 id, .slice A10 ((List.replicate cn false).length) cn, .slice A14 ((List.replicate cn ((0, 0, 0, 0, 0, none, 0, ([] : List UInt8)) : Pkt)).length) cn] 55)] :: C13 :: C9 :: F) rfl rfl
    replace hS := hS.front 8 (C := C9) (L' := [(b1, rowO [.int .i64 fr, .int .i64 to, .int .u64 id, .int .i64 ((ix : Nat) : Int), .int .i64 ((cn : Nat) : Int), .slice B bs.length d'] 38)] :: R :: D :: [] :: [(b, rowO [.slice A20 qs.length c21] 33)] :: C19 :: [(b15, rowO [.int .i64 fr, .int .i64 to, .int .u64 id, .slice A10 ((List.replicate cn false).length) cn, .slice A14 ((List.replicate cn ((0, 0, 0, 0, 0, none, 0, ([] : List UInt8)) : Pkt)).length) cn] 55)] :: C13 :: F) rfl rfl
    replace hS := hS.front 8 (C := C13) (L' := C9 :: [(b1, rowO [.int .i64 fr, .int .i64 to, .int .u64 id, .int .i64 ((ix : Nat) : Int), .int .i64 ((cn : Nat) : Int), .slice B bs.length d'] 38)] :: R :: D :: [] :: [(b, rowO [.slice A20 qs.length c21] 33)] :: C19 :: [(b15, rowO [.int .i64 fr, .int .i64 to, .int .u64 id, .slice A10 ((List.replicate cn false).length) cn, .slice A14 ((List.replicate cn ((0, 0, 0, 0, 0, none, 0, ([] : List UInt8)) : Pkt)).length) cn] 55)] :: F) rfl rfl
    replace hS := hS.front 8 (C := [(b15, rowO [.int .i64 fr, .int .i64 to, .int .u64 id, .slice A10 ((List.replicate cn false).length) cn, .slice A14 ((List.replicate cn ((0, 0, 0, 0, 0, none, 0, ([] : List UInt8)) : Pkt)).length) cn] 55)]) (L' := C13 :: C9 :: [(b1, rowO [.int .i64 fr, .int .i64 to, .int .u64 id, .int .i64 ((ix : Nat) : Int), .int .i64 ((cn : Nat) : Int), .slice B bs.length d'] 38)] :: R :: D :: [] :: [(b, rowO [.slice A20 qs.length c21] 33)] :: C19 :: F) rfl rfl
    replace hS := hS.front 8 (C := C19) (L' := [(b15, rowO [.int .i64 fr, .int .i64 to, .int .u64 id, .slice A10 ((List.replicate cn false).length) cn, .slice A14 ((List.replicate cn ((0, 0, 0, 0, 0, none, 0, ([] : List UInt8)) : Pkt)).length) cn] 55)] :: C13 :: C9 :: [(b1, rowO [.int .i64 fr, .int .i64 to, .int .u64 id, .int .i64 ((ix : Nat) : Int), .int .i64 ((cn : Nat) : Int), .slice B bs.length d'] 38)] :: R :: D :: [] :: [(b, rowO [.slice A20 qs.length c21] 33)] :: F) rfl rfl
    replace hS := hS.front 8 (C := [(b, rowO [.slice A20 qs.length c21] 33)]) (L' := C19 :: [(b15, rowO [.int .i64 fr, .int .i64 to, .int .u64 id, .slice A10 ((List.replicate cn false).length) cn, .slice A14 ((List.replicate cn ((0, 0, 0, 0, 0, none, 0, ([] : List UInt8)) : Pkt)).length) cn] 55)] :: C13 :: C9 :: [(b1, rowO [.int .i64 fr, .int .i64 to, .int .u64 id, .int .i64 ((ix : Nat) : Int), .int .i64 ((cn : Nat) : Int), .slice B bs.length d'] 38)] :: R :: D :: [] :: F) rfl rfl
    replace hS := hS.front 8 (C := []) (L' := [(b, rowO [.slice A20 qs.length c21] 33)] :: C19 :: [(b15, rowO [.int .i64 fr, .int .i64 to, .int .u64 id, .slice A10 ((List.replicate cn false).length) cn, .slice A14 ((List.replicate cn ((0, 0, 0, 0, 0, none, 0, ([] : List UInt8)) : Pkt)).length) cn] 55)] :: C13 :: C9 :: [(b1, rowO [.int .i64 fr, .int .i64 to, .int .u64 id, .int .i64 ((ix : Nat) : Int), .int .i64 ((cn : Nat) : Int), .slice B bs.length d'] 38)] :: R :: D :: F) rfl rfl
    refine st_run tbOk 3 hA (e' := (61, .pointer (some ⟨b, 0, none⟩)) :: (60, .pointer (some ⟨b, 0, none⟩)) :: (59, .pointer (some ⟨b, 0, none⟩)) :: _) rfl ?_; clear hA; intro a hA
    refine st_val hA rfl rfl (by decide) (rn_load tbOk hA rfl rfl rfl rfl (cell_row (hS.heapAt 1 rfl) rfl)) ?_; clear hA; intro a hA
    refine st_run tbOk 1 hA (e' := (63, .int .i64 ((k : Nat) : Int)) :: _) rfl ?_; clear hA; intro a hA
    obtain ⟨b23, o24, rfl⟩ := hO19.isSome (k := k) (by omega)
    refine st_val hA rfl rfl (by decide) (rn_indexAddr tbOk hA k (o24 + (k * 5)) rfl rfl rfl rfl rfl rfl (by rfl) (by omega) (by first | rfl | simp [Nat.mul_one, Nat.zero_add] | omega)) ?_; clear hA; intro a hA
    refine st_run tbOk 1 hA (e' := (7, .pointer (some ⟨b23, o24 + (k * 5), none⟩)) :: _) rfl ?_; clear hA; intro a hA
    refine wpList_nil ?_
    replace hA := hA.sel [0, 3, 6, 7] (e' := [(0, .pointer (some ⟨b, 0, none⟩)), (3, .pointer (some ⟨b1, 0, none⟩)), (6, .int .i64 ((k : Nat) : Int)), (7, .pointer (some ⟨b23, o24 + (k * 5), none⟩))]) rfl
    refine xt_norm ?_
    refine wp_seq ?_
    refine wp_seq ?_
    obtain ⟨b25, o26, rfl⟩ := hOhN.isSome (k := ix) (by omega)
    refine wp_draw (fun w' => St w0 w' ([] :: [(b, rowO [.slice (some ⟨b23, o24, none⟩) qs.length c21] 33)] :: C19 :: [(b15, rowO [.int .i64 fr, .int .i64 to, .int .u64 id, .slice (some ⟨b25, o26, none⟩) ((List.replicate cn false).length) cn, .slice A14 ((List.replicate cn ((0, 0, 0, 0, 0, none, 0, ([] : List UInt8)) : Pkt)).length) cn] 55)] :: C13 :: C9 :: [(b1, rowO [.int .i64 fr, .int .i64 to, .int .u64 id, .int .i64 ((ix : Nat) : Int), .int .i64 ((cn : Nat) : Int), .slice B bs.length d'] 38)] :: R :: D :: F)) [] [(0, true), (1, true), (2, true), (3, true), (4, true), (5, true), (6, true), (7, true), (8, true), (9, true), (10, true), (11, true), (12, true), (13, true), (14, true), (15, true), (16, true), (17, true)] mixed (by kernel_rfl) (by rintro c a w ⟨_, _, h, _⟩; cases h) (by rfl) (by kernel_rfl) ?_
    replace hS := hS.drew
    refine dr_run tbOk 3 hA hS (e' := (67, .pointer (some ⟨b23, o24 + (k * 5) + 3, none⟩)) :: (66, .pointer (some ⟨b23, o24 + (k * 5), none⟩)) :: (65, .pointer (some ⟨b23, o24 + (k * 5), none⟩)) :: _) rfl ?_; clear hA; intro a hA
    refine dr_y hA rfl rfl rfl (by decide) hS (fun w' hS' => rn_load tbOk hA rfl rfl rfl rfl ((hO19.rd (hS'.own_ 2 rfl)).elemf (k := k) encPart_ok hx (j := 3) rfl)) ?_; clear hA; intro a hA
    refine dr_run tbOk 2 hA hS (e' := (70, .pointer (some ⟨b1, 4, none⟩)) :: (69, .int .i64 (((List.replicate cn false).length : Nat) : Int)) :: _) rfl ?_; clear hA; intro a hA
    refine dr_y hA rfl rfl rfl (by decide) hS (fun w' hS' => rn_load tbOk hA rfl rfl rfl rfl (cell_row (hS'.heapAt 6 rfl) rfl)) ?_; clear hA; intro a hA
    refine dr_run tbOk 2 hA hS (e' := (73, .bool ((((List.replicate cn false).length : Nat) : Int) != ((cn : Nat) : Int))) :: (72, .bool ((((List.replicate cn false).length : Nat) : Int) != ((cn : Nat) : Int))) :: _) rfl ?_; clear hA; intro a hA
    have hc27 : (((List.replicate cn false).length : Nat) : Int) = ((cn : Nat) : Int) := by omega
    replace hA := hA.rw 72 (v' := .bool false) rfl (vb_ne_f hc27)
    replace hA := hA.rw 73 (v' := .bool false) rfl (vb_ne_f hc27)
    refine dr_run tbOk 3 hA hS (e' := (76, .pointer (some ⟨b23, o24 + (k * 5) + 3, none⟩)) :: (75, .pointer (some ⟨b23, o24 + (k * 5), none⟩)) :: (74, .pointer (some ⟨b23, o24 + (k * 5), none⟩)) :: _) rfl ?_; clear hA; intro a hA
    refine dr_y hA rfl rfl rfl (by decide) hS (fun w' hS' => rn_load tbOk hA rfl rfl rfl rfl ((hO19.rd (hS'.own_ 2 rfl)).elemf (k := k) encPart_ok hx (j := 3) rfl)) ?_; clear hA; intro a hA
    refine dr_run tbOk 1 hA hS (e' := (78, .pointer (some ⟨b1, 3, none⟩)) :: _) rfl ?_; clear hA; intro a hA
    refine dr_y hA rfl rfl rfl (by decide) hS (fun w' hS' => rn_load tbOk hA rfl rfl rfl rfl (cell_row (hS'.heapAt 6 rfl) rfl)) ?_; clear hA; intro a hA
    replace hA := hA.rw 77 (v' := .slice (some ⟨b25, o26, none⟩) ((List.replicate cn false).length) cn) rfl rfl
    refine dr_y hA rfl rfl rfl (by decide) hS (fun w' hS' => rn_indexAddr tbOk hA ix (o26 + ix) rfl rfl rfl rfl rfl rfl (by rfl) (by omega) (by first | rfl | simp [Nat.mul_one, Nat.zero_add] | omega)) ?_; clear hA; intro a hA
    refine dr_y hA rfl rfl rfl (by decide) hS (fun w' hS' => rn_load tbOk hA rfl rfl rfl rfl ((hOhN.rd (hS'.own_ 5 rfl)).elem0 (k := ix) encBo_ok hF rfl)) ?_; clear hA; intro a hA
    refine dr_run tbOk 1 hA hS (e' := (82, .bool false) :: _) rfl ?_; clear hA; intro a hA
    refine dr_end ?_
    replace hA := hA.sel [0, 3, 6, 7, 82] (e' := [(0, .pointer (some ⟨b, 0, none⟩)), (3, .pointer (some ⟨b1, 0, none⟩)), (6, .int .i64 ((k : Nat) : Int)), (7, .pointer (some ⟨b23, o24 + (k * 5), none⟩)), (82, .bool false)]) rfl
    refine xt_norm ?_
    refine cd_cond_f hA rfl ?_
    refine wp_skip ?_
    refine xt_norm ?_
    refine wp_seq ?_
    replace hS := hS.front 5 (C := C9) (L' := [] :: [(b, rowO [.slice (some ⟨b23, o24, none⟩) qs.length c21] 33)] :: C19 :: [(b15, rowO [.int .i64 fr, .int .i64 to, .int .u64 id, .slice (some ⟨b25, o26, none⟩) ((List.replicate cn false).length) cn, .slice A14 ((List.replicate cn ((0, 0, 0, 0, 0, none, 0, ([] : List UInt8)) : Pkt)).length) cn] 55)] :: C13 :: [(b1, rowO [.int .i64 fr, .int .i64 to, .int .u64 id, .int .i64 ((ix : Nat) : Int), .int .i64 ((cn : Nat) : Int), .slice B bs.length d'] 38)] :: R :: D :: F) rfl rfl
    refine wp_draw (fun w' => St w0 w' ([] :: [(b, rowO [.slice (some ⟨b23, o24, none⟩) qs.length c21] 33)] :: C19 :: [(b15, rowO [.int .i64 fr, .int .i64 to, .int .u64 id, .slice (some ⟨b25, o26, none⟩) ((List.replicate cn false).length) cn, .slice A14 ((List.replicate cn ((0, 0, 0, 0, 0, none, 0, ([] : List UInt8)) : Pkt)).length) cn] 55)] :: C13 :: [(b1, rowO [.int .i64 fr, .int .i64 to, .int .u64 id, .int .i64 ((ix : Nat) : Int), .int .i64 ((cn : Nat) : Int), .slice B bs.length d'] 38)] :: R :: D :: F)) [7] [(0, true), (1, true), (2, true), (3, true), (4, true), (5, true), (6, true), (7, false)] mixed (by kernel_rfl) (by rintro c a w ⟨_, _, h, _⟩; cases h) (by rfl) (by kernel_rfl) ?_
    replace hS := hS.drew
    refine dr_run tbOk 3 hA (hS.tail 1 rfl) (e' := (85, .pointer (some ⟨b23, o24 + (k * 5) + 3, none⟩)) :: (84, .pointer (some ⟨b23, o24 + (k * 5), none⟩)) :: (83, .pointer (some ⟨b23, o24 + (k * 5), none⟩)) :: _) rfl ?_; clear hA; intro a hA
    refine dr_y hA rfl rfl rfl (by decide) (hS.tail 1 rfl) (fun w' hS' => rn_load tbOk hA rfl rfl rfl rfl ((hO19.rd (hS'.own_ 2 rfl)).elemf (k := k) encPart_ok hx (j := 3) rfl)) ?_; clear hA; intro a hA
    refine dr_run tbOk 1 hA (hS.tail 1 rfl) (e' := (87, .pointer (some ⟨b1, 3, none⟩)) :: _) rfl ?_; clear hA; intro a hA
    refine dr_y hA rfl rfl rfl (by decide) (hS.tail 1 rfl) (fun w' hS' => rn_load tbOk hA rfl rfl rfl rfl (cell_row (hS'.heapAt 5 rfl) rfl)) ?_; clear hA; intro a hA
    replace hA := hA.rw 86 (v' := .slice (some ⟨b25, o26, none⟩) ((List.replicate cn false).length) cn) rfl rfl
    refine dr_y hA rfl rfl rfl (by decide) (hS.tail 1 rfl) (fun w' hS' => rn_indexAddr tbOk hA ix (o26 + ix) rfl rfl rfl rfl rfl rfl (by rfl) (by omega) (by first | rfl | simp [Nat.mul_one, Nat.zero_add] | omega)) ?_; clear hA; intro a hA
    refine dr_b (o := _) rfl ?_
    refine st_store_own tbOk hA hOhN hS (ix) (o26 + ix) [.bool true] (rows encBo ((List.replicate cn false).set ix true)) rfl rfl rfl rfl (by rfl) rfl rfl (by intro u hu; rw [List.mem_singleton.1 hu]; rfl) (by simp only [rows_length encBo_ok, rows_length encPacket_ok, List.length_cons, List.length_nil]; omega) (by have := rows_set encBo_ok (x := true) (l := (List.replicate cn false)) (k := ix) (by omega); rw [Nat.mul_one] at this; exact this) rfl rfl ?_; clear hS; intro w28 C29 hO29 hS
    refine dr_nil (.inl (by decide)) ?_
    refine dr_end ?_
    replace hA := hA.sel [0, 3, 6, 7] (e' := [(0, .pointer (some ⟨b, 0, none⟩)), (3, .pointer (some ⟨b1, 0, none⟩)), (6, .int .i64 ((k : Nat) : Int)), (7, .pointer (some ⟨b23, o24 + (k * 5), none⟩))]) rfl
    refine xt_norm ?_
    refine wp_seq ?_
    obtain ⟨b30, o31, rfl⟩ := hOpN.isSome (k := ix) (by omega)
    replace hS := hS.front 5 (C := C13) (L' := C29 :: [] :: [(b, rowO [.slice (some ⟨b23, o24, none⟩) qs.length c21] 33)] :: C19 :: [(b15, rowO [.int .i64 fr, .int .i64 to, .int .u64 id, .slice (some ⟨b25, o26, none⟩) ((List.replicate cn false).length) cn, .slice (some ⟨b30, o31, none⟩) ((List.replicate cn ((0, 0, 0, 0, 0, none, 0, ([] : List UInt8)) : Pkt)).length) cn] 55)] :: [(b1, rowO [.int .i64 fr, .int .i64 to, .int .u64 id, .int .i64 ((ix : Nat) : Int), .int .i64 ((cn : Nat) : Int), .slice B bs.length d'] 38)] :: R :: D :: F) rfl rfl
    refine wp_draw (fun w' => St w0 w' (C29 :: [] :: [(b, rowO [.slice (some ⟨b23, o24, none⟩) qs.length c21] 33)] :: C19 :: [(b15, rowO [.int .i64 fr, .int .i64 to, .int .u64 id, .slice (some ⟨b25, o26, none⟩) ((List.replicate cn false).length) cn, .slice (some ⟨b30, o31, none⟩) ((List.replicate cn ((0, 0, 0, 0, 0, none, 0, ([] : List UInt8)) : Pkt)).length) cn] 55)] :: [(b1, rowO [.int .i64 fr, .int .i64 to, .int .u64 id, .int .i64 ((ix : Nat) : Int), .int .i64 ((cn : Nat) : Int), .slice B bs.length d'] 38)] :: R :: D :: F)) [21] [(0, true), (1, true), (2, true), (3, true), (4, true), (5, true), (6, true), (7, true), (8, true), (9, true), (10, true), (11, true), (12, true), (13, true), (14, true), (15, true), (16, true), (17, true), (18, false), (19, true), (20, true), (21, false)] mixed (by kernel_rfl) (by rintro c a w ⟨_, _, h, _⟩; cases h) (by rfl) (by kernel_rfl) ?_
    replace hS := hS.drew
    refine dr_run tbOk 3 hA (hS.tail 1 rfl) (e' := (92, .pointer (some ⟨b23, o24 + (k * 5) + 4, none⟩)) :: (91, .pointer (some ⟨b23, o24 + (k * 5), none⟩)) :: (90, .pointer (some ⟨b23, o24 + (k * 5), none⟩)) :: _) rfl ?_; clear hA; intro a hA
    refine dr_y hA rfl rfl rfl (by decide) (hS.tail 1 rfl) (fun w' hS' => rn_load tbOk hA rfl rfl rfl rfl ((hO19.rd (hS'.own_ 3 rfl)).elemf (k := k) encPart_ok hx (j := 4) rfl)) ?_; clear hA; intro a hA
    refine dr_run tbOk 1 hA (hS.tail 1 rfl) (e' := (94, .pointer (some ⟨b1, 3, none⟩)) :: _) rfl ?_; clear hA; intro a hA
    refine dr_y hA rfl rfl rfl (by decide) (hS.tail 1 rfl) (fun w' hS' => rn_load tbOk hA rfl rfl rfl rfl (cell_row (hS'.heapAt 5 rfl) rfl)) ?_; clear hA; intro a hA
    refine dr_run tbOk 1 hA (hS.tail 1 rfl) (e' := (96, .pointer (some ⟨b1, 0, none⟩)) :: _) rfl ?_; clear hA; intro a hA
    refine dr_y hA rfl rfl rfl (by decide) (hS.tail 1 rfl) (fun w' hS' => rn_load tbOk hA rfl rfl rfl rfl (cell_row (hS'.heapAt 5 rfl) rfl)) ?_; clear hA; intro a hA
    refine dr_run tbOk 1 hA (hS.tail 1 rfl) (e' := (98, .pointer (some ⟨b1, 1, none⟩)) :: _) rfl ?_; clear hA; intro a hA
    refine dr_y hA rfl rfl rfl (by decide) (hS.tail 1 rfl) (fun w' hS' => rn_load tbOk hA rfl rfl rfl rfl (cell_row (hS'.heapAt 5 rfl) rfl)) ?_; clear hA; intro a hA
    refine dr_run tbOk 1 hA (hS.tail 1 rfl) (e' := (100, .pointer (some ⟨b1, 2, none⟩)) :: _) rfl ?_; clear hA; intro a hA
    refine dr_y hA rfl rfl rfl (by decide) (hS.tail 1 rfl) (fun w' hS' => rn_load tbOk hA rfl rfl rfl rfl (cell_row (hS'.heapAt 5 rfl) rfl)) ?_; clear hA; intro a hA
    refine dr_run tbOk 1 hA (hS.tail 1 rfl) (e' := (102, .pointer (some ⟨b1, 3, none⟩)) :: _) rfl ?_; clear hA; intro a hA
    refine dr_y hA rfl rfl rfl (by decide) (hS.tail 1 rfl) (fun w' hS' => rn_load tbOk hA rfl rfl rfl rfl (cell_row (hS'.heapAt 5 rfl) rfl)) ?_; clear hA; intro a hA
    refine dr_run tbOk 1 hA (hS.tail 1 rfl) (e' := (104, .pointer (some ⟨b1, 4, none⟩)) :: _) rfl ?_; clear hA; intro a hA
    refine dr_y hA rfl rfl rfl (by decide) (hS.tail 1 rfl) (fun w' hS' => rn_load tbOk hA rfl rfl rfl rfl (cell_row (hS'.heapAt 5 rfl) rfl)) ?_; clear hA; intro a hA
    refine dr_run tbOk 1 hA (hS.tail 1 rfl) (e' := (106, .pointer (some ⟨b1, 5, none⟩)) :: _) rfl ?_; clear hA; intro a hA
    refine dr_y hA rfl rfl rfl (by decide) (hS.tail 1 rfl) (fun w' hS' => rn_load tbOk hA rfl rfl rfl rfl (cell_row (hS'.heapAt 5 rfl) rfl)) ?_; clear hA; intro a hA
    refine dr_b (o := _) rfl ?_
    refine st_call0 hA rfl rfl rfl isfn16 rfl rfl (by decide) (clonex16 hS (l := bs) (fun w' h => (hd _ (h.tail 8 rfl))) (by first | omega | (simp; omega))) ?_
    clear hA hS; rintro _ w35 a ⟨A32, c33, C34, hOC34, rfl, hS⟩ hA
    refine dr_nil (.inr (hS.tail 2 rfl)) ?_
    refine dr_y hA rfl rfl rfl (by decide) (hS.tail 2 rfl) (fun w' hS' => rn_build tbOk hA rfl rfl rfl rfl rfl rfl rfl) ?_; clear hA; intro a hA
    replace hA := hA.rw 93 (v' := .slice (some ⟨b30, o31, none⟩) ((List.replicate cn ((0, 0, 0, 0, 0, none, 0, ([] : List UInt8)) : Pkt)).length) cn) rfl rfl
    refine dr_y hA rfl rfl rfl (by decide) (hS.tail 2 rfl) (fun w' hS' => rn_indexAddr tbOk hA ix (o31 + (ix * 6)) rfl rfl rfl rfl rfl rfl (by rfl) (by omega) (by first | rfl | simp [Nat.mul_one, Nat.zero_add] | omega)) ?_; clear hA; intro a hA
    refine dr_b (o := _) rfl ?_
    replace hS := hS.front 1 (C := C13) (L' := C34 :: C29 :: [] :: [(b, rowO [.slice (some ⟨b23, o24, none⟩) qs.length c21] 33)] :: C19 :: [(b15, rowO [.int .i64 fr, .int .i64 to, .int .u64 id, .slice (some ⟨b25, o26, none⟩) ((List.replicate cn false).length) cn, .slice (some ⟨b30, o31, none⟩) ((List.replicate cn ((0, 0, 0, 0, 0, none, 0, ([] : List UInt8)) : Pkt)).length) cn] 55)] :: [(b1, rowO [.int .i64 fr, .int .i64 to, .int .u64 id, .int .i64 ((ix : Nat) : Int), .int .i64 ((cn : Nat) : Int), .slice B bs.length d'] 38)] :: R :: D :: F) rfl rfl
    refine st_store_own tbOk hA hOpN hS ((ix * 6)) (o31 + (ix * 6)) [.int .i64 fr, .int .i64 to, .int .u64 id, .int .i64 ((ix : Nat) : Int), .int .i64 ((cn : Nat) : Int), .slice A32 bs.length c33] (rows encPacket ((List.replicate cn ((0, 0, 0, 0, 0, none, 0, ([] : List UInt8)) : Pkt)).set ix (fr, to, id, ((ix : Nat) : Int), ((cn : Nat) : Int), A32, c33, bs))) rfl rfl rfl rfl (by rfl) rfl rfl (by exact encPacket_ok.one (fr, to, id, ((ix : Nat) : Int), ((cn : Nat) : Int), A32, c33, bs)) (by simp only [rows_length encBo_ok, rows_length encPacket_ok, List.length_cons, List.length_nil]; omega) (rows_set encPacket_ok (x := (fr, to, id, ((ix : Nat) : Int), ((cn : Nat) : Int), A32, c33, bs)) (l := (List.replicate cn ((0, 0, 0, 0, 0, none, 0, ([] : List UInt8)) : Pkt))) (k := ix) (by omega)) rfl rfl ?_; clear hS; intro w36 C37 hO37 hS
    refine dr_nil (.inl (by decide)) ?_
    refine dr_end ?_
    replace hA := hA.sel [0, 6, 7] (e' := [(0, .pointer (some ⟨b, 0, none⟩)), (6, .int .i64 ((k : Nat) : Int)), (7, .pointer (some ⟨b23, o24 + (k * 5), none⟩))]) rfl
    refine xt_norm ?_
    refine wp_seq ?_
    refine wp_seq ?_
    refine wp_region_lit ?_
    refine st_run tbOk 3 hA (e' := (113, .pointer (some ⟨b23, o24 + (k * 5) + 3, none⟩)) :: (112, .pointer (some ⟨b23, o24 + (k * 5), none⟩)) :: (111, .pointer (some ⟨b23, o24 + (k * 5), none⟩)) :: _) rfl ?_; clear hA; intro a hA
    refine st_val hA rfl rfl (by decide) (rn_load tbOk hA rfl rfl rfl rfl ((hO19.rd (hS.own_ 5 rfl)).elemf (k := k) encPart_ok hx (j := 3) rfl)) ?_; clear hA; intro a hA
    have hOh2 : Own 4 1 (.slice (some ⟨b25, o26, none⟩) ((List.replicate cn false).set ix true).length cn) ((List.replicate cn false).set ix true).length (rows encBo ((List.replicate cn false).set ix true)) C29 := by rw [List.length_set]; exact hO29
    replace hA := hA.rw 114 (v' := .slice (some ⟨b25, o26, none⟩) (((List.replicate cn false).set ix true).length) cn) rfl (by rw [List.length_set])
    refine st_call0 hA rfl rfl rfl isfn17 rfl rfl (by decide) (containsb17 hS (l := (List.replicate cn false).set ix true) (RdS.own hOh2 2 rfl)) ?_
    clear hA hS; rintro v w38 a ⟨rfl, hS⟩ hA
    replace hA := hA.rw 115 (v' := .bool true) rfl (congrArg Value.bool hany)
    refine wpList_nil ?_
    replace hA := hA.sel [0, 6, 7, 115] (e' := [(0, .pointer (some ⟨b, 0, none⟩)), (6, .int .i64 ((k : Nat) : Int)), (7, .pointer (some ⟨b23, o24 + (k * 5), none⟩)), (115, .bool true)]) rfl
    refine xt_norm ?_
    refine cd_cond_t hA rfl ?_
    refine wp_seq ?_
    refine wp_region_lit ?_
    refine st_run tbOk 2 hA (e' := (5, .bool false) :: (4, .slice none 0 0) :: _) rfl ?_; clear hA; intro a hA
    refine wpList_nil ?_
    replace hA := hA.sel [4, 5] (e' := [(4, .slice none 0 0), (5, .bool false)]) rfl
    refine xt_norm ?_
    refine wp_ret (xt_ret ?_)
    refine ret2 (fn := Try.f9) hA rfl rfl rfl ?_
    have hOp2 : Own 38 6 (.slice (some ⟨b30, o31, none⟩) ((List.replicate cn ((0, 0, 0, 0, 0, none, 0, ([] : List UInt8)) : Pkt)).set ix (fr, to, id, ((ix : Nat) : Int), ((cn : Nat) : Int), A32, c33, bs)).length cn) ((List.replicate cn ((0, 0, 0, 0, 0, none, 0, ([] : List UInt8)) : Pkt)).set ix (fr, to, id, ((ix : Nat) : Int), ((cn : Nat) : Int), A32, c33, bs)).length (rows encPacket ((List.replicate cn ((0, 0, 0, 0, 0, none, 0, ([] : List UInt8)) : Pkt)).set ix (fr, to, id, ((ix : Nat) : Int), ((cn : Nat) : Int), A32, c33, bs))) C37 := by rw [List.length_set]; exact hO37
    replace hS := hS.front 9 (C := D) (L' := C37 :: C34 :: C29 :: [] :: [(b, rowO [.slice (some ⟨b23, o24, none⟩) qs.length c21] 33)] :: C19 :: [(b15, rowO [.int .i64 fr, .int .i64 to, .int .u64 id, .slice (some ⟨b25, o26, none⟩) ((List.replicate cn false).length) cn, .slice (some ⟨b30, o31, none⟩) ((List.replicate cn ((0, 0, 0, 0, 0, none, 0, ([] : List UInt8)) : Pkt)).length) cn] 55)] :: [(b1, rowO [.int .i64 fr, .int .i64 to, .int .u64 id, .int .i64 ((ix : Nat) : Int), .int .i64 ((cn : Nat) : Int), .slice B bs.length d'] 38)] :: R :: F) rfl rfl
    replace hS := hS.front 2 (C := C34) (L' := D :: C37 :: C29 :: [] :: [(b, rowO [.slice (some ⟨b23, o24, none⟩) qs.length c21] 33)] :: C19 :: [(b15, rowO [.int .i64 fr, .int .i64 to, .int .u64 id, .slice (some ⟨b25, o26, none⟩) ((List.replicate cn false).length) cn, .slice (some ⟨b30, o31, none⟩) ((List.replicate cn ((0, 0, 0, 0, 0, none, 0, ([] : List UInt8)) : Pkt)).length) cn] 55)] :: [(b1, rowO [.int .i64 fr, .int .i64 to, .int .u64 id, .int .i64 ((ix : Nat) : Int), .int .i64 ((cn : Nat) : Int), .slice B bs.length d'] 38)] :: R :: F) rfl rfl
    replace hS := hS.join
    have hdE := (DD.new (w0 := w0) hOC34).right (E := D)
    have hPI2 : PI (fr, to, id, (some ⟨b25, o26, none⟩), cn, (List.replicate cn false).set ix true, (some ⟨b30, o31, none⟩), cn, (List.replicate cn ((0, 0, 0, 0, 0, none, 0, ([] : List UInt8)) : Pkt)).set ix (fr, to, id, ((ix : Nat) : Int), ((cn : Nat) : Int), A32, c33, bs)) := hPI.put (by omega) (by omega) (by omega) _ _
    have hpd : ∀ y ∈ (List.replicate cn ((0, 0, 0, 0, 0, none, 0, ([] : List UInt8)) : Pkt)).set ix (fr, to, id, ((ix : Nat) : Int), ((cn : Nat) : Int), A32, c33, bs), encPacket_dd w0 (C34 ++ D) y := fun y hy => (List.mem_or_eq_of_mem_set hy).elim (fun hy => encPacket_left (hpk2 y hy)) (fun e => by rw [e]; exact hdE)
    replace hS := hS.front 6 (C := [(b15, rowO [.int .i64 fr, .int .i64 to, .int .u64 id, .slice (some ⟨b25, o26, none⟩) ((List.replicate cn false).length) cn, .slice (some ⟨b30, o31, none⟩) ((List.replicate cn ((0, 0, 0, 0, 0, none, 0, ([] : List UInt8)) : Pkt)).length) cn] 55)]) (L' := (C34 ++ D) :: C37 :: C29 :: [] :: [(b, rowO [.slice (some ⟨b23, o24, none⟩) qs.length c21] 33)] :: C19 :: [(b1, rowO [.int .i64 fr, .int .i64 to, .int .u64 id, .int .i64 ((ix : Nat) : Int), .int .i64 ((cn : Nat) : Int), .slice B bs.length d'] 38)] :: R :: F) rfl rfl
    replace hS := hS.drop1
    replace hS := hS.front 6 (C := [(b1, rowO [.int .i64 fr, .int .i64 to, .int .u64 id, .int .i64 ((ix : Nat) : Int), .int .i64 ((cn : Nat) : Int), .slice B bs.length d'] 38)]) (L' := (C34 ++ D) :: C37 :: C29 :: [] :: [(b, rowO [.slice (some ⟨b23, o24, none⟩) qs.length c21] 33)] :: C19 :: R :: F) rfl rfl
    replace hS := hS.drop1
    replace hS := hS.front 3 (C := []) (L' := (C34 ++ D) :: C37 :: C29 :: [(b, rowO [.slice (some ⟨b23, o24, none⟩) qs.length c21] 33)] :: C19 :: R :: F) rfl rfl
    replace hS := hS.front 2 (C := C37) (L' := [] :: (C34 ++ D) :: C29 :: [(b, rowO [.slice (some ⟨b23, o24, none⟩) qs.length c21] 33)] :: C19 :: R :: F) rfl rfl
    replace hS := hS.front 3 (C := C29) (L' := C37 :: [] :: (C34 ++ D) :: [(b, rowO [.slice (some ⟨b23, o24, none⟩) qs.length c21] 33)] :: C19 :: R :: F) rfl rfl
    replace hS := hS.front 6 (C := R) (L' := C29 :: C37 :: [] :: (C34 ++ D) :: [(b, rowO [.slice (some ⟨b23, o24, none⟩) qs.length c21] 33)] :: C19 :: F) rfl rfl
    replace hS := hS.front 6 (C := C19) (L' := R :: C29 :: C37 :: [] :: (C34 ++ D) :: [(b, rowO [.slice (some ⟨b23, o24, none⟩) qs.length c21] 33)] :: F) rfl rfl
    replace hS := hS.front 6 (C := [(b, rowO [.slice (some ⟨b23, o24, none⟩) qs.length c21] 33)]) (L' := C19 :: R :: C29 :: C37 :: [] :: (C34 ++ D) :: F) rfl rfl
    replace hS := hS.front 5 (C := []) (L' := [(b, rowO [.slice (some ⟨b23, o24, none⟩) qs.length c21] 33)] :: C19 :: R :: C29 :: C37 :: (C34 ++ D) :: F) rfl rfl
    replace hS := hS.front 5 (C := C37) (L' := [] :: [(b, rowO [.slice (some ⟨b23, o24, none⟩) qs.length c21] 33)] :: C19 :: R :: C29 :: (C34 ++ D) :: F) rfl rfl
    replace hS := hS.join
    replace hS := hS.front 4 (C := C29) (L' := (C37 ++ []) :: [(b, rowO [.slice (some ⟨b23, o24, none⟩) qs.length c21] 33)] :: C19 :: R :: (C34 ++ D) :: F) rfl rfl
    replace hS := hS.join
    replace hS := hS.front 3 (C := R) (L' := (C29 ++ (C37 ++ [])) :: [(b, rowO [.slice (some ⟨b23, o24, none⟩) qs.length c21] 33)] :: C19 :: (C34 ++ D) :: F) rfl rfl
    replace hS := hS.join
    replace hS := hS.front 2 (C := C19) (L' := (R ++ (C29 ++ (C37 ++ []))) :: [(b, rowO [.slice (some ⟨b23, o24, none⟩) qs.length c21] 33)] :: (C34 ++ D) :: F) rfl rfl
    replace hS := hS.front 2 (C := [(b, rowO [.slice (some ⟨b23, o24, none⟩) qs.length c21] 33)]) (L' := C19 :: (R ++ (C29 ++ (C37 ++ []))) :: (C34 ++ D) :: F) rfl rfl
    replace hS := hS.join3
    have hOO : Own 55 5 (.slice (some ⟨b23, o24, none⟩) (qs).length c21) ((qs).set k (fr, to, id, (some ⟨b25, o26, none⟩), cn, (List.replicate cn false).set ix true, (some ⟨b30, o31, none⟩), cn, (List.replicate cn ((0, 0, 0, 0, 0, none, 0, ([] : List UInt8)) : Pkt)).set ix (fr, to, id, ((ix : Nat) : Int), ((cn : Nat) : Int), A32, c33, bs))).length (rows encPart ((qs).set k (fr, to, id, (some ⟨b25, o26, none⟩), cn, (List.replicate cn false).set ix true, (some ⟨b30, o31, none⟩), cn, (List.replicate cn ((0, 0, 0, 0, 0, none, 0, ([] : List UInt8)) : Pkt)).set ix (fr, to, id, ((ix : Nat) : Int), ((cn : Nat) : Int), A32, c33, bs)))) C19 := by rw [List.length_set, rows_same hx (by simp [encPart])]; exact hO19
    have hmp : ((qs).set k (fr, to, id, (some ⟨b25, o26, none⟩), cn, (List.replicate cn false).set ix true, (some ⟨b30, o31, none⟩), cn, (List.replicate cn ((0, 0, 0, 0, 0, none, 0, ([] : List UInt8)) : Pkt)).set ix (fr, to, id, ((ix : Nat) : Int), ((cn : Nat) : Int), A32, c33, bs))).map gv = ps.map gv ++ [(fr, to, id, (List.replicate cn false).set ix true, (List.replicate cn []).set ix bs)] := by rw [List.map_set]; rw [hqs, new_set hk, show gv (fr, to, id, (some ⟨b25, o26, none⟩), cn, (List.replicate cn false).set ix true, (some ⟨b30, o31, none⟩), cn, (List.replicate cn ((0, 0, 0, 0, 0, none, 0, ([] : List UInt8)) : Pkt)).set ix (fr, to, id, ((ix : Nat) : Int), ((cn : Nat) : Int), A32, c33, bs)) = (fr, to, id, (List.replicate cn false).set ix true, (List.replicate cn []).set ix bs) from by simp only [gv, phas, ppk, List.map_set, List.map_replicate]; rfl]
    exact ⟨_, C34, ⟨_, _, _, _, hOO, rfl, PO.put (y := (fr, to, id, (some ⟨b25, o26, none⟩), cn, (List.replicate cn false).set ix true, (some ⟨b30, o31, none⟩), cn, (List.replicate cn ((0, 0, 0, 0, 0, none, 0, ([] : List UInt8)) : Pkt)).set ix (fr, to, id, ((ix : Nat) : Int), ((cn : Nat) : Int), A32, c33, bs))) hR1 hOh2 hOp2 hR2 hkl, set_all hI2 hPI2, part_dd (k := k) (x := (fr, to, id, (some ⟨b25, o26, none⟩), cn, (List.replicate cn false).set ix true, (some ⟨b30, o31, none⟩), cn, (List.replicate cn ((0, 0, 0, 0, 0, none, 0, ([] : List UInt8)) : Pkt)).set ix (fr, to, id, ((ix : Nat) : Int), ((cn : Nat) : Int), A32, c33, bs))) hdd2 rfl hpk2 hdE, hmp⟩, rfl, hS⟩
  · refine dr_b (o := _) rfl ?_
    refine st_makeSlice tbOk hA hS cn encPacket_ok (by decide) (0, 0, 0, 0, 0, none, 0, ([] : List UInt8)) rfl rfl rfl rfl rfl rfl rfl rfl (by show 64 * cn ≤ 281474976710656; omega) (by omega) rfl rfl (by decide) ?_; clear hA hS; intro b39 w40 a hS hA
    obtain ⟨C41, hO41, hS⟩ : ∃ Cq9, Own 38 6 (.slice (some ⟨b39, 0, none⟩) cn cn) cn (rows encPacket (List.replicate cn (0, 0, 0, 0, 0, none, 0, ([] : List UInt8)))) Cq9 ∧ St w0 w40 (Cq9 :: C :: [(b, rowO [.slice A ps.length c] 33)] :: [(b1, rowO [.int .i64 fr, .int .i64 to, .int .u64 id, .int .i64 ((ix : Nat) : Int), .int .i64 ((cn : Nat) : Int), .slice B bs.length d'] 38)] :: R :: D :: F) := ⟨_, Own.full (by rw [rows_length encPacket_ok, List.length_replicate]) (by show cn ≤ 9223372036854775807; omega), hS⟩
    generalize (some (⟨b39, 0, none⟩ : Addr)) = A42 at hO41 hA
    refine dr_nil (.inr (hS.tail 2 rfl)) ?_
    refine dr_subL ?_
    refine dr_b (o := _) rfl ?_
    refine st_makeSlice tbOk hA hS cn encBo_ok (by decide) false rfl rfl rfl rfl rfl rfl rfl rfl (by show 1 * cn ≤ 281474976710656; omega) (by omega) rfl rfl (by decide) ?_; clear hA hS; intro b43 w44 a hS hA
    obtain ⟨C45, hO45, hS⟩ : ∃ Cq9, Own 4 1 (.slice (some ⟨b43, 0, none⟩) cn cn) cn (rows encBo (List.replicate cn false)) Cq9 ∧ St w0 w44 (Cq9 :: C41 :: C :: [(b, rowO [.slice A ps.length c] 33)] :: [(b1, rowO [.int .i64 fr, .int .i64 to, .int .u64 id, .int .i64 ((ix : Nat) : Int), .int .i64 ((cn : Nat) : Int), .slice B bs.length d'] 38)] :: R :: D :: F) := ⟨_, Own.full (by rw [rows_length encBo_ok, List.length_replicate]) (by show cn ≤ 9223372036854775807; omega), hS⟩
    generalize (some (⟨b43, 0, none⟩ : Addr)) = A46 at hO45 hA
    refine dr_nil (.inr (hS.tail 3 rfl)) ?_
    replace hA := hA.rw 50 (v' := .slice A46 ((List.replicate cn false).length) cn) rfl (by rw [List.length_replicate])
    replace hA := hA.rw 53 (v' := .slice A42 ((List.replicate cn ((0, 0, 0, 0, 0, none, 0, ([] : List UInt8)) : Pkt)).length) cn) rfl (by rw [List.length_replicate])
    refine dr_y hA rfl rfl rfl (by decide) (hS.tail 3 rfl) (fun w' hS' => rn_build tbOk hA rfl rfl rfl rfl rfl rfl rfl) ?_; clear hA; intro a hA
    refine dr_b (o := _) rfl ?_
    refine st_buildSlice tbOk hA hS [.int .i64 fr, .int .i64 to, .int .u64 id, .slice A46 ((List.replicate cn false).length) cn, .slice A42 ((List.replicate cn ((0, 0, 0, 0, 0, none, 0, ([] : List UInt8)) : Pkt)).length) cn] rfl rfl rfl rfl rfl (by decide) (by kernel_rfl) rfl rfl (by decide) ?_; clear hA hS; intro b47 w48 a hS hA
    refine dr_nil (.inr (hS.tail 4 rfl)) ?_
    refine dr_b (o := _) rfl ?_
    replace hS := hS.front 3 (C := C) (L' := [(b47, rowO [.int .i64 fr, .int .i64 to, .int .u64 id, .slice A46 ((List.replicate cn false).length) cn, .slice A42 ((List.replicate cn ((0, 0, 0, 0, 0, none, 0, ([] : List UInt8)) : Pkt)).length) cn] 55)] :: C45 :: C41 :: [(b, rowO [.slice A ps.length c] 33)] :: [(b1, rowO [.int .i64 fr, .int .i64 to, .int .u64 id, .int .i64 ((ix : Nat) : Int), .int .i64 ((cn : Nat) : Int), .slice B bs.length d'] 38)] :: R :: D :: F) rfl rfl
    refine st_append tbOk hA (m := ps.length) (q := 1) (xs := rows encPart ps) (news := rows encPart ([(fr, to, id, A46, cn, (List.replicate cn false), A42, cn, (List.replicate cn ((0, 0, 0, 0, 0, none, 0, ([] : List UInt8)) : Pkt)))] : List (Int × Int × Int × Option Addr × Nat × List Bool × Option Addr × Nat × List Pkt))) rfl rfl rfl rfl rfl rfl rfl rfl (by decide) hO hS (((Own.full (T := 55) (size := 5) (g := b47) (m := 1) rfl (by decide)).rd (hS.own_ 1 rfl)).x) (rows_one encPart_ok _) (maxLen_le (by first | omega | (simp; omega))) (by show (ps.length + 1) * 72 ≤ 140737488355328; first | omega | (simp; omega)) rfl rfl (by decide) ?_
    clear hA hS; intro v49 w50 C51 a hO51 hS hA
    replace hO51 := Own.app (l := ps) (l2 := ([(fr, to, id, A46, cn, (List.replicate cn false), A42, cn, (List.replicate cn ((0, 0, 0, 0, 0, none, 0, ([] : List UInt8)) : Pkt)))] : List (Int × Int × Int × Option Addr × Nat × List Bool × Option Addr × Nat × List Pkt))) hO51
    obtain ⟨A52, c53, rfl, hmc53, hxc53⟩ := hO51.open'
    refine dr_nil (.inr (hS.tail 4 rfl)) ?_
    refine dr_run tbOk 2 hA (hS.tail 4 rfl) (e' := (58, .pointer (some ⟨b, 0, none⟩)) :: (57, .pointer (some ⟨b, 0, none⟩)) :: _) rfl ?_; clear hA; intro a hA
    refine dr_b (o := _) rfl ?_
    replace hS := hS.front 4 (C := [(b, rowO [.slice A ps.length c] 33)]) (L' := C51 :: [(b47, rowO [.int .i64 fr, .int .i64 to, .int .u64 id, .slice A46 ((List.replicate cn false).length) cn, .slice A42 ((List.replicate cn ((0, 0, 0, 0, 0, none, 0, ([] : List UInt8)) : Pkt)).length) cn] 55)] :: C45 :: C41 :: [(b1, rowO [.int .i64 fr, .int .i64 to, .int .u64 id, .int .i64 ((ix : Nat) : Int), .int .i64 ((cn : Nat) : Int), .slice B bs.length d'] 38)] :: R :: D :: F) rfl rfl
    refine st_store tbOk hA hS [.slice A52 ((ps ++ ([(fr, to, id, A46, cn, (List.replicate cn false), A42, cn, (List.replicate cn ((0, 0, 0, 0, 0, none, 0, ([] : List UInt8)) : Pkt)))] : List (Int × Int × Int × Option Addr × Nat × List Bool × Option Addr × Nat × List Pkt))).length) c53] [.slice A52 ((ps ++ ([(fr, to, id, A46, cn, (List.replicate cn false), A42, cn, (List.replicate cn ((0, 0, 0, 0, 0, none, 0, ([] : List UInt8)) : Pkt)))] : List (Int × Int × Int × Option Addr × Nat × List Bool × Option Addr × Nat × List Pkt))).length) c53] rfl rfl rfl rfl rfl rfl (by intro u hu; rw [List.mem_singleton.1 hu]; rfl) (Nat.le_of_ble_eq_true rfl) rfl rfl rfl ?_; clear hS; intro w54 hS
    refine dr_nil (.inl (by decide)) ?_
    refine dr_end ?_
    replace hA := hA.sel [0, 3, 6] (e' := [(0, .pointer (some ⟨b, 0, none⟩)), (3, .pointer (some ⟨b1, 0, none⟩)), (6, .int .i64 ((ps.length : Nat) : Int))]) rfl
    refine xt_norm ?_
    refine wp_seq ?_
    refine wp_region_lit ?_
    obtain ⟨k, hk⟩ : ∃ k, k = ps.length := ⟨_, rfl⟩
    replace hA := hA.rw 6 (v' := .int .i64 ((k : Nat) : Int)) rfl (by rw [hk])
    obtain ⟨qs, hqs⟩ : ∃ qs, qs = ps ++ ([(fr, to, id, A46, cn, (List.replicate cn false), A42, cn, (List.replicate cn ((0, 0, 0, 0, 0, none, 0, ([] : List UInt8)) : Pkt)))] : List (Int × Int × Int × Option Addr × Nat × List Bool × Option Addr × Nat × List Pkt)) := ⟨_, rfl⟩
    rw [← hqs] at hO51 hS
    have hx : qs[k]? = some (fr, to, id, A46, cn, (List.replicate cn false), A42, cn, (List.replicate cn ((0, 0, 0, 0, 0, none, 0, ([] : List UInt8)) : Pkt))) := by rw [hqs, hk]; simp
    have hkl : k < qs.length := (List.getElem?_eq_some_iff.1 hx).1
    have hPI : PI (fr, to, id, A46, cn, (List.replicate cn false), A42, cn, (List.replicate cn ((0, 0, 0, 0, 0, none, 0, ([] : List UInt8)) : Pkt))) := PI.fresh (by omega) (by omega)
    have hR1 : PO (qs.take k) R := by rw [hqs, hk, List.take_left]; exact hR
    have hR2 : PO (qs.drop (k + 1)) [] := by rw [hqs, List.drop_eq_nil_of_le (by rw [hk, List.length_append]; exact Nat.le_refl _)]; exact rfl
    have hpk2 : ∀ y ∈ (List.replicate cn ((0, 0, 0, 0, 0, none, 0, ([] : List UInt8)) : Pkt)), encPacket_dd w0 D y := fun y hy => by rw [List.eq_of_mem_replicate hy]; exact DD.nil
    have hI2 : ∀ y ∈ qs, PI y := by rw [hqs]; exact snoc_all hI hPI
    have hdd2 : ∀ z ∈ qs, ∀ y ∈ ppk z, encPacket_dd w0 D y := by rw [hqs]; exact snoc_all (x := (fr, to, id, A46, cn, (List.replicate cn false), A42, cn, (List.replicate cn ((0, 0, 0, 0, 0, none, 0, ([] : List UInt8)) : Pkt)))) hdd hpk2
    have hhl9 : (List.replicate cn false).length = cn := List.length_replicate
    have hpl9 : (List.replicate cn ((0, 0, 0, 0, 0, none, 0, ([] : List UInt8)) : Pkt)).length = cn := List.length_replicate
    have hF : (List.replicate cn false)[ix]? = some false := by rw [List.getElem?_replicate, if_pos (by omega)]
    have hOhN : Own 4 1 (.slice A46 (List.replicate cn false).length cn) (List.replicate cn false).length (rows encBo (List.replicate cn false)) C45 := by rw [List.length_replicate]; exact hO45
    have hOpN : Own 38 6 (.slice A42 (List.replicate cn ((0, 0, 0, 0, 0, none, 0, ([] : List UInt8)) : Pkt)).length cn) (List.replicate cn ((0, 0, 0, 0, 0, none, 0, ([] : List UInt8)) : Pkt)).length (rows encPacket (List.replicate cn ((0, 0, 0, 0, 0, none, 0, ([] : List UInt8)) : Pkt))) C41 := by rw [List.length_replicate]; exact hO41
    replace hS := hS.nil
    replace hS := hS.front 8 (C := D) (L' := [] :: [(b, rowO [.slice A52 qs.length c53] 33)] :: C51 :: [(b47, rowO [.int .i64 fr, .int .i64 to, .int .u64 id, .slice A46 ((List.replicate cn false).length) cn, .slice A42 ((List.replicate cn ((0, 0, 0, 0, 0, none, 0, ([] : List UInt8)) : Pkt)).length) cn] 55)] :: C45 :: C41 :: [(b1, rowO [.int .i64 fr, .int .i64 to, .int .u64 id, .int .i64 ((ix : Nat) : Int), .int .i64 ((cn : Nat) : Int), .slice B bs.length d'] 38)] :: R :: F) rfl rfl
    replace hS := hS.front 8 (C := R) (L' := D :: [] :: [(b, rowO [.slice A52 qs.length c53] 33)] :: C51 :: [(b47, rowO [.int .i64 fr, .int .i64 to, .int .u64 id, .slice A46 ((List.replicate cn false).length) cn, .slice A42 ((List.replicate cn ((0, 0, 0, 0, 0, none, 0, ([] : List UInt8)) : Pkt)).length) cn] 55)] :: C45 :: C41 :: [(b1, rowO [.int .i64 fr, .int .i64 to, .int .u64 id, .int .i64 ((ix : Nat) : Int), .int .i64 ((cn : Nat) : Int), .slice B bs.length d'] 38)] :: F) rfl rfl
    replace hS := hS.front 8 (C := [(b1, rowO [.int .i64 fr, .int .i64 to, .int .u64 id, .int .i64 ((ix : Nat) : Int), .int .i64 ((cn : Nat) : Int), .slice B bs.length d'] 38)]) (L' := R :: D :: [] :: [(b, rowO [.slice A52 qs.length c53] 33)] :: C51 :: [(b47, rowO [.int .i64 fr, .int .i64 to, .int .u64 id, .slice A46 ((List.replicate cn false).length) cn, .slice A42 ((List.replicate cn ((0, 0, 0, 0, 0, none, 0, ([] : List UInt8)) : Pkt)).length) cn] 55)] :: C45 :: C41 :: F) rfl rfl
    replace hS := hS.front 8 (C := C41) (L' := [(b1, rowO [.int .i64 fr, .int .i64 to, .int .u64 id, .int .i64 ((ix : Nat) : Int), .int .i64 ((cn : Nat) : Int), .slice B bs.length d'] 38)] :: R :: D :: [] :: [(b, rowO [.slice A52 qs.length c53] 33)] :: C51 :: [(b47, rowO [.int .i64 fr, .int .i64 to, .int .u64 id, .slice A46 ((List.replicate cn false).length) cn, .slice A42 ((List.replicate cn ((0, 0, 0, 0, 0, none, 0, ([] : List UInt8)) : Pkt)).length) cn] 55)] :: C45 :: F) rfl rfl
    replace hS := hS.front 8 (C := C45) (L' := C41 :: [(b1, rowO [.int .i64 fr, .int .i64 to, .int .u64 id, .int .i64 ((ix : Nat) : Int), .int .i64 ((cn : Nat) : Int), .slice B bs.length d'] 38)] :: R :: D :: [] :: [(b, rowO [.slice A52 qs.length c53] 33)] :: C51 :: [(b47, rowO [.int .i64 fr, .int .i64 to, .int .u64 id, .slice A46 ((List.replicate cn false).length) cn, .slice A42 ((List.replicate cn ((0, 0, 0, 0, 0, none, 0, ([] : List UInt8)) : Pkt)).length) cn] 55)] :: F) rfl rfl
    replace hS := hS.front 8 (C := [(b47, rowO [.int .i64 fr, .int .i64 to, .int .u64 id, .slice A46 ((List.replicate cn false).length) cn, .slice A42 ((List.replicate cn ((0, 0, 0, 0, 0, none, 0, ([] : List UInt8)) : Pkt)).length) cn] 55)]) (L' := C45 :: C41 :: [(b1, rowO [.int .i64 fr, .int .i64 to, .int .u64 id, .int .i64 ((ix : Nat) : Int), .int .i64 ((cn : Nat) : Int), .slice B bs.length d'] 38)] :: R :: D :: [] :: [(b, rowO [.slice A52 qs.length c53] 33)] :: C51 :: F) rfl rfl
    replace hS := hS.front 8 (C := C51) (L' := [(b47, rowO [.int .i64 fr, .int .i64 to, .int .u64 id, .slice A46 ((List.replicate cn false).length) cn, .slice A42 ((List.replicate cn ((0, 0, 0, 0, 0, none, 0, ([] : List UInt8)) : Pkt)).length) cn] 55)] :: C45 :: C41 :: [(b1, rowO [.int .i64 fr, .int .i64 to, .int .u64 id, .int .i64 ((ix : Nat) : Int), .int .i64 ((cn : Nat) : Int), .slice B bs.length d'] 38)] :: R :: D :: [] :: [(b, rowO [.slice A52 qs.length c53] 33)] :: F) rfl rfl
    replace hS := hS.front 8 (C := [(b, rowO [.slice A52 qs.length c53] 33)]) (L' := C51 :: [(b47, rowO [.int .i64 fr, .int .i64 to, .int .u64 id, .slice A46 ((List.replicate cn false).length) cn, .slice A42 ((List.replicate cn ((0, 0, 0, 0, 0, none, 0, ([] : List UInt8)) : Pkt)).length) cn] 55)] :: C45 :: C41 :: [(b1, rowO [.int .i64 fr, .int .i64 to, .int .u64 id, .int .i64 ((ix : Nat) : Int), .int .i64 ((cn : Nat) : Int), .slice B bs.length d'] 38)] :: R :: D :: [] :: F) rfl rfl
    replace hS := hS.front 8 (C := []) (L' := [(b, rowO [.slice A52 qs.length c53] 33)] :: C51 :: [(b47, rowO [.int .i64 fr, .int .i64 to, .int .u64 id, .slice A46 ((List.replicate cn false).length) cn, .slice A42 ((List.replicate cn ((0, 0, 0, 0, 0, none, 0, ([] : List UInt8)) : Pkt)).length) cn] 55)] :: C45 :: C41 :: [(b1, rowO [.int .i64 fr, .int .i64 to, .int .u64 id, .int .i64 ((ix : Nat) : Int), .int .i64 ((cn : Nat) : Int), .slice B bs.length d'] 38)] :: R :: D :: F) rfl rfl
    refine st_run tbOk 3 hA (e' := (61, .pointer (some ⟨b, 0, none⟩)) :: (60, .pointer (some ⟨b, 0, none⟩)) :: (59, .pointer (some ⟨b, 0, none⟩)) :: _) rfl ?_; clear hA; intro a hA
    refine st_val hA rfl rfl (by decide) (rn_load tbOk hA rfl rfl rfl rfl (cell_row (hS.heapAt 1 rfl) rfl)) ?_; clear hA; intro a hA
    refine st_run tbOk 1 hA (e' := (63, .int .i64 ((k : Nat) : Int)) :: _) rfl ?_; clear hA; intro a hA
    obtain ⟨b55, o56, rfl⟩ := hO51.isSome (k := k) (by omega)
    refine st_val hA rfl rfl (by decide) (rn_indexAddr tbOk hA k (o56 + (k * 5)) rfl rfl rfl rfl rfl rfl (by rfl) (by omega) (by first | rfl | simp [Nat.mul_one, Nat.zero_add] | omega)) ?_; clear hA; intro a hA
    refine st_run tbOk 1 hA (e' := (7, .pointer (some ⟨b55, o56 + (k * 5), none⟩)) :: _) rfl ?_; clear hA; intro a hA
    refine wpList_nil ?_
    replace hA := hA.sel [0, 3, 6, 7] (e' := [(0, .pointer (some ⟨b, 0, none⟩)), (3, .pointer (some ⟨b1, 0, none⟩)), (6, .int .i64 ((k : Nat) : Int)), (7, .pointer (some ⟨b55, o56 + (k * 5), none⟩))]) rfl
    refine xt_norm ?_
    refine wp_seq ?_
    refine wp_seq ?_
    obtain ⟨b57, o58, rfl⟩ := hOhN.isSome (k := ix) (by omega)
    refine wp_draw (fun w' => St w0 w' ([] :: [(b, rowO [.slice (some ⟨b55, o56, none⟩) qs.length c53] 33)] :: C51 :: [(b47, rowO [.int .i64 fr, .int .i64 to, .int .u64 id, .slice (some ⟨b57, o58, none⟩) ((List.replicate cn false).length) cn, .slice A42 ((List.replicate cn ((0, 0, 0, 0, 0, none, 0, ([] : List UInt8)) : Pkt)).length) cn] 55)] :: C45 :: C41 :: [(b1, rowO [.int .i64 fr, .int .i64 to, .int .u64 id, .int .i64 ((ix : Nat) : Int), .int .i64 ((cn : Nat) : Int), .slice B bs.length d'] 38)] :: R :: D :: F)) [] [(0, true), (1, true), (2, true), (3, true), (4, true), (5, true), (6, true), (7, true), (8, true), (9, true), (10, true), (11, true), (12, true), (13, true), (14, true), (15, true), (16, true), (17, true)] mixed (by kernel_rfl) (by rintro c a w ⟨_, _, h, _⟩; cases h) (by rfl) (by kernel_rfl) ?_
    replace hS := hS.drew
    refine dr_run tbOk 3 hA hS (e' := (67, .pointer (some ⟨b55, o56 + (k * 5) + 3, none⟩)) :: (66, .pointer (some ⟨b55, o56 + (k * 5), none⟩)) :: (65, .pointer (some ⟨b55, o56 + (k * 5), none⟩)) :: _) rfl ?_; clear hA; intro a hA
    refine dr_y hA rfl rfl rfl (by decide) hS (fun w' hS' => rn_load tbOk hA rfl rfl rfl rfl ((hO51.rd (hS'.own_ 2 rfl)).elemf (k := k) encPart_ok hx (j := 3) rfl)) ?_; clear hA; intro a hA
    refine dr_run tbOk 2 hA hS (e' := (70, .pointer (some ⟨b1, 4, none⟩)) :: (69, .int .i64 (((List.replicate cn false).length : Nat) : Int)) :: _) rfl ?_; clear hA; intro a hA
    refine dr_y hA rfl rfl rfl (by decide) hS (fun w' hS' => rn_load tbOk hA rfl rfl rfl rfl (cell_row (hS'.heapAt 6 rfl) rfl)) ?_; clear hA; intro a hA
    refine dr_run tbOk 2 hA hS (e' := (73, .bool ((((List.replicate cn false).length : Nat) : Int) != ((cn : Nat) : Int))) :: (72, .bool ((((List.replicate cn false).length : Nat) : Int) != ((cn : Nat) : Int))) :: _) rfl ?_; clear hA; intro a hA
    have hc59 : (((List.replicate cn false).length : Nat) : Int) = ((cn : Nat) : Int) := by omega
    replace hA := hA.rw 72 (v' := .bool false) rfl (vb_ne_f hc59)
    replace hA := hA.rw 73 (v' := .bool false) rfl (vb_ne_f hc59)
    refine dr_run tbOk 3 hA hS (e' := (76, .pointer (some ⟨b55, o56 + (k * 5) + 3, none⟩)) :: (75, .pointer (some ⟨b55, o56 + (k * 5), none⟩)) :: (74, .pointer (some ⟨b55, o56 + (k * 5), none⟩)) :: _) rfl ?_; clear hA; intro a hA
    refine dr_y hA rfl rfl rfl (by decide) hS (fun w' hS' => rn_load tbOk hA rfl rfl rfl rfl ((hO51.rd (hS'.own_ 2 rfl)).elemf (k := k) encPart_ok hx (j := 3) rfl)) ?_; clear hA; intro a hA
    refine dr_run tbOk 1 hA hS (e' := (78, .pointer (some ⟨b1, 3, none⟩)) :: _) rfl ?_; clear hA; intro a hA
    refine dr_y hA rfl rfl rfl (by decide) hS (fun w' hS' => rn_load tbOk hA rfl rfl rfl rfl (cell_row (hS'.heapAt 6 rfl) rfl)) ?_; clear hA; intro a hA
    replace hA := hA.rw 77 (v' := .slice (some ⟨b57, o58, none⟩) ((List.replicate cn false).length) cn) rfl rfl
    refine dr_y hA rfl rfl rfl (by decide) hS (fun w' hS' => rn_indexAddr tbOk hA ix (o58 + ix) rfl rfl rfl rfl rfl rfl (by rfl) (by omega) (by first | rfl | simp [Nat.mul_one, Nat.zero_add] | omega)) ?_; clear hA; intro a hA
    refine dr_y hA rfl rfl rfl (by decide) hS (fun w' hS' => rn_load tbOk hA rfl rfl rfl rfl ((hOhN.rd (hS'.own_ 4 rfl)).elem0 (k := ix) encBo_ok hF rfl)) ?_; clear hA; intro a hA
    refine dr_run tbOk 1 hA hS (e' := (82, .bool false) :: _) rfl ?_; clear hA; intro a hA
    refine dr_end ?_
    replace hA := hA.sel [0, 3, 6, 7, 82] (e' := [(0, .pointer (some ⟨b, 0, none⟩)), (3, .pointer (some ⟨b1, 0, none⟩)), (6, .int .i64 ((k : Nat) : Int)), (7, .pointer (some ⟨b55, o56 + (k * 5), none⟩)), (82, .bool false)]) rfl
    refine xt_norm ?_
    refine cd_cond_f hA rfl ?_
    refine wp_skip ?_
    refine xt_norm ?_
    refine wp_seq ?_
    replace hS := hS.front 4 (C := C45) (L' := [] :: [(b, rowO [.slice (some ⟨b55, o56, none⟩) qs.length c53] 33)] :: C51 :: [(b47, rowO [.int .i64 fr, .int .i64 to, .int .u64 id, .slice (some ⟨b57, o58, none⟩) ((List.replicate cn false).length) cn, .slice A42 ((List.replicate cn ((0, 0, 0, 0, 0, none, 0, ([] : List UInt8)) : Pkt)).length) cn] 55)] :: C41 :: [(b1, rowO [.int .i64 fr, .int .i64 to, .int .u64 id, .int .i64 ((ix : Nat) : Int), .int .i64 ((cn : Nat) : Int), .slice B bs.length d'] 38)] :: R :: D :: F) rfl rfl
    refine wp_draw (fun w' => St w0 w' ([] :: [(b, rowO [.slice (some ⟨b55, o56, none⟩) qs.length c53] 33)] :: C51 :: [(b47, rowO [.int .i64 fr, .int .i64 to, .int .u64 id, .slice (some ⟨b57, o58, none⟩) ((List.replicate cn false).length) cn, .slice A42 ((List.replicate cn ((0, 0, 0, 0, 0, none, 0, ([] : List UInt8)) : Pkt)).length) cn] 55)] :: C41 :: [(b1, rowO [.int .i64 fr, .int .i64 to, .int .u64 id, .int .i64 ((ix : Nat) : Int), .int .i64 ((cn : Nat) : Int), .slice B bs.length d'] 38)] :: R :: D :: F)) [7] [(0, true), (1, true), (2, true), (3, true), (4, true), (5, true), (6, true), (7, false)] mixed (by kernel_rfl) (by rintro c a w ⟨_, _, h, _⟩; cases h) (by rfl) (by kernel_rfl) ?_
    replace hS := hS.drew
    refine dr_run tbOk 3 hA (hS.tail 1 rfl) (e' := (85, .pointer (some ⟨b55, o56 + (k * 5) + 3, none⟩)) :: (84, .pointer (some ⟨b55, o56 + (k * 5), none⟩)) :: (83, .pointer (some ⟨b55, o56 + (k * 5), none⟩)) :: _) rfl ?_; clear hA; intro a hA
    refine dr_y hA rfl rfl rfl (by decide) (hS.tail 1 rfl) (fun w' hS' => rn_load tbOk hA rfl rfl rfl rfl ((hO51.rd (hS'.own_ 2 rfl)).elemf (k := k) encPart_ok hx (j := 3) rfl)) ?_; clear hA; intro a hA
    refine dr_run tbOk 1 hA (hS.tail 1 rfl) (e' := (87, .pointer (some ⟨b1, 3, none⟩)) :: _) rfl ?_; clear hA; intro a hA
    refine dr_y hA rfl rfl rfl (by decide) (hS.tail 1 rfl) (fun w' hS' => rn_load tbOk hA rfl rfl rfl rfl (cell_row (hS'.heapAt 5 rfl) rfl)) ?_; clear hA; intro a hA
    replace hA := hA.rw 86 (v' := .slice (some ⟨b57, o58, none⟩) ((List.replicate cn false).length) cn) rfl rfl
    refine dr_y hA rfl rfl rfl (by decide) (hS.tail 1 rfl) (fun w' hS' => rn_indexAddr tbOk hA ix (o58 + ix) rfl rfl rfl rfl rfl rfl (by rfl) (by omega) (by first | rfl | simp [Nat.mul_one, Nat.zero_add] | omega)) ?_; clear hA; intro a hA
    refine dr_b (o := _) rfl ?_
    refine st_store_own tbOk hA hOhN hS (ix) (o58 + ix) [.bool true] (rows encBo ((List.replicate cn false).set ix true)) rfl rfl rfl rfl (by rfl) rfl rfl (by intro u hu; rw [List.mem_singleton.1 hu]; rfl) (by simp only [rows_length encBo_ok, rows_length encPacket_ok, List.length_cons, List.length_nil]; omega) (by have := rows_set encBo_ok (x := true) (l := (List.replicate cn false)) (k := ix) (by omega); rw [Nat.mul_one] at this; exact this) rfl rfl ?_; clear hS; intro w60 C61 hO61 hS
    refine dr_nil (.inl (by decide)) ?_
    refine dr_end ?_
    replace hA := hA.sel [0, 3, 6, 7] (e' := [(0, .pointer (some ⟨b, 0, none⟩)), (3, .pointer (some ⟨b1, 0, none⟩)), (6, .int .i64 ((k : Nat) : Int)), (7, .pointer (some ⟨b55, o56 + (k * 5), none⟩))]) rfl
    refine xt_norm ?_
    refine wp_seq ?_
    obtain ⟨b62, o63, rfl⟩ := hOpN.isSome (k := ix) (by omega)
    replace hS := hS.front 5 (C := C41) (L' := C61 :: [] :: [(b, rowO [.slice (some ⟨b55, o56, none⟩) qs.length c53] 33)] :: C51 :: [(b47, rowO [.int .i64 fr, .int .i64 to, .int .u64 id, .slice (some ⟨b57, o58, none⟩) ((List.replicate cn false).length) cn, .slice (some ⟨b62, o63, none⟩) ((List.replicate cn ((0, 0, 0, 0, 0, none, 0, ([] : List UInt8)) : Pkt)).length) cn] 55)] :: [(b1, rowO [.int .i64 fr, .int .i64 to, .int .u64 id, .int .i64 ((ix : Nat) : Int), .int .i64 ((cn : Nat) : Int), .slice B bs.length d'] 38)] :: R :: D :: F) rfl rfl
    refine wp_draw (fun w' => St w0 w' (C61 :: [] :: [(b, rowO [.slice (some ⟨b55, o56, none⟩) qs.length c53] 33)] :: C51 :: [(b47, rowO [.int .i64 fr, .int .i64 to, .int .u64 id, .slice (some ⟨b57, o58, none⟩) ((List.replicate cn false).length) cn, .slice (some ⟨b62, o63, none⟩) ((List.replicate cn ((0, 0, 0, 0, 0, none, 0, ([] : List UInt8)) : Pkt)).length) cn] 55)] :: [(b1, rowO [.int .i64 fr, .int .i64 to, .int .u64 id, .int .i64 ((ix : Nat) : Int), .int .i64 ((cn : Nat) : Int), .slice B bs.length d'] 38)] :: R :: D :: F)) [21] [(0, true), (1, true), (2, true), (3, true), (4, true), (5, true), (6, true), (7, true), (8, true), (9, true), (10, true), (11, true), (12, true), (13, true), (14, true), (15, true), (16, true), (17, true), (18, false), (19, true), (20, true), (21, false)] mixed (by kernel_rfl) (by rintro c a w ⟨_, _, h, _⟩; cases h) (by rfl) (by kernel_rfl) ?_
    replace hS := hS.drew
    refine dr_run tbOk 3 hA (hS.tail 1 rfl) (e' := (92, .pointer (some ⟨b55, o56 + (k * 5) + 4, none⟩)) :: (91, .pointer (some ⟨b55, o56 + (k * 5), none⟩)) :: (90, .pointer (some ⟨b55, o56 + (k * 5), none⟩)) :: _) rfl ?_; clear hA; intro a hA
    refine dr_y hA rfl rfl rfl (by decide) (hS.tail 1 rfl) (fun w' hS' => rn_load tbOk hA rfl rfl rfl rfl ((hO51.rd (hS'.own_ 3 rfl)).elemf (k := k) encPart_ok hx (j := 4) rfl)) ?_; clear hA; intro a hA
    refine dr_run tbOk 1 hA (hS.tail 1 rfl) (e' := (94, .pointer (some ⟨b1, 3, none⟩)) :: _) rfl ?_; clear hA; intro a hA
    refine dr_y hA rfl rfl rfl (by decide) (hS.tail 1 rfl) (fun w' hS' => rn_load tbOk hA rfl rfl rfl rfl (cell_row (hS'.heapAt 5 rfl) rfl)) ?_; clear hA; intro a hA
    refine dr_run tbOk 1 hA (hS.tail 1 rfl) (e' := (96, .pointer (some ⟨b1, 0, none⟩)) :: _) rfl ?_; clear hA; intro a hA
    refine dr_y hA rfl rfl rfl (by decide) (hS.tail 1 rfl) (fun w' hS' => rn_load tbOk hA rfl rfl rfl rfl (cell_row (hS'.heapAt 5 rfl) rfl)) ?_; clear hA; intro a hA
    refine dr_run tbOk 1 hA (hS.tail 1 rfl) (e' := (98, .pointer (some ⟨b1, 1, none⟩)) :: _) rfl ?_; clear hA; intro a hA
    refine dr_y hA rfl rfl rfl (by decide) (hS.tail 1 rfl) (fun w' hS' => rn_load tbOk hA rfl rfl rfl rfl (cell_row (hS'.heapAt 5 rfl) rfl)) ?_; clear hA; intro a hA
    refine dr_run tbOk 1 hA (hS.tail 1 rfl) (e' := (100, .pointer (some ⟨b1, 2, none⟩)) :: _) rfl ?_; clear hA; intro a hA
    refine dr_y hA rfl rfl rfl (by decide) (hS.tail 1 rfl) (fun w' hS' => rn_load tbOk hA rfl rfl rfl rfl (cell_row (hS'.heapAt 5 rfl) rfl)) ?_; clear hA; intro a hA
    refine dr_run tbOk 1 hA (hS.tail 1 rfl) (e' := (102, .pointer (some ⟨b1, 3, none⟩)) :: _) rfl ?_; clear hA; intro a hA
    refine dr_y hA rfl rfl rfl (by decide) (hS.tail 1 rfl) (fun w' hS' => rn_load tbOk hA rfl rfl rfl rfl (cell_row (hS'.heapAt 5 rfl) rfl)) ?_; clear hA; intro a hA
    refine dr_run tbOk 1 hA (hS.tail 1 rfl) (e' := (104, .pointer (some ⟨b1, 4, none⟩)) :: _) rfl ?_; clear hA; intro a hA
    refine dr_y hA rfl rfl rfl (by decide) (hS.tail 1 rfl) (fun w' hS' => rn_load tbOk hA rfl rfl rfl rfl (cell_row (hS'.heapAt 5 rfl) rfl)) ?_; clear hA; intro a hA
    refine dr_run tbOk 1 hA (hS.tail 1 rfl) (e' := (106, .pointer (some ⟨b1, 5, none⟩)) :: _) rfl ?_; clear hA; intro a hA
    refine dr_y hA rfl rfl rfl (by decide) (hS.tail 1 rfl) (fun w' hS' => rn_load tbOk hA rfl rfl rfl rfl (cell_row (hS'.heapAt 5 rfl) rfl)) ?_; clear hA; intro a hA
    refine dr_b (o := _) rfl ?_
    refine st_call0 hA rfl rfl rfl isfn16 rfl rfl (by decide) (clonex16 hS (l := bs) (fun w' h => (hd _ (h.tail 8 rfl))) (by first | omega | (simp; omega))) ?_
    clear hA hS; rintro _ w67 a ⟨A64, c65, C66, hOC66, rfl, hS⟩ hA
    refine dr_nil (.inr (hS.tail 2 rfl)) ?_
    refine dr_y hA rfl rfl rfl (by decide) (hS.tail 2 rfl) (fun w' hS' => rn_build tbOk hA rfl rfl rfl rfl rfl rfl rfl) ?_; clear hA; intro a hA
    replace hA := hA.rw 93 (v' := .slice (some ⟨b62, o63, none⟩) ((List.replicate cn ((0, 0, 0, 0, 0, none, 0, ([] : List UInt8)) : Pkt)).length) cn) rfl rfl
    refine dr_y hA rfl rfl rfl (by decide) (hS.tail 2 rfl) (fun w' hS' => rn_indexAddr tbOk hA ix (o63 + (ix * 6)) rfl rfl rfl rfl rfl rfl (by rfl) (by omega) (by first | rfl | simp [Nat.mul_one, Nat.zero_add] | omega)) ?_; clear hA; intro a hA
    refine dr_b (o := _) rfl ?_
    replace hS := hS.front 1 (C := C41) (L' := C66 :: C61 :: [] :: [(b, rowO [.slice (some ⟨b55, o56, none⟩) qs.length c53] 33)] :: C51 :: [(b47, rowO [.int .i64 fr, .int .i64 to, .int .u64 id, .slice (some ⟨b57, o58, none⟩) ((List.replicate cn false).length) cn, .slice (some ⟨b62, o63, none⟩) ((List.replicate cn ((0, 0, 0, 0, 0, none, 0, ([] : List UInt8)) : Pkt)).length) cn] 55)] :: [(b1, rowO [.int .i64 fr, .int .i64 to, .int .u64 id, .int .i64 ((ix : Nat) : Int), .int .i64 ((cn : Nat) : Int), .slice B bs.length d'] 38)] :: R :: D :: F) rfl rfl
    refine st_store_own tbOk hA hOpN hS ((ix * 6)) (o63 + (ix * 6)) [.int .i64 fr, .int .i64 to, .int .u64 id, .int .i64 ((ix : Nat) : Int), .int .i64 ((cn : Nat) : Int), .slice A64 bs.length c65] (rows encPacket ((List.replicate cn ((0, 0, 0, 0, 0, none, 0, ([] : List UInt8)) : Pkt)).set ix (fr, to, id, ((ix : Nat) : Int), ((cn : Nat) : Int), A64, c65, bs))) rfl rfl rfl rfl (by rfl) rfl rfl (by exact encPacket_ok.one (fr, to, id, ((ix : Nat) : Int), ((cn : Nat) : Int), A64, c65, bs)) (by simp only [rows_length encBo_ok, rows_length encPacket_ok, List.length_cons, List.length_nil]; omega) (rows_set encPacket_ok (x := (fr, to, id, ((ix : Nat) : Int), ((cn : Nat) : Int), A64, c65, bs)) (l := (List.replicate cn ((0, 0, 0, 0, 0, none, 0, ([] : List UInt8)) : Pkt))) (k := ix) (by omega)) rfl rfl ?_; clear hS; intro w68 C69 hO69 hS
    refine dr_nil (.inl (by decide)) ?_
    refine dr_end ?_
    replace hA := hA.sel [0, 6, 7] (e' := [(0, .pointer (some ⟨b, 0, none⟩)), (6, .int .i64 ((k : Nat) : Int)), (7, .pointer (some ⟨b55, o56 + (k * 5), none⟩))]) rfl
    refine xt_norm ?_
    refine wp_seq ?_
    refine wp_seq ?_
    refine wp_region_lit ?_
    refine st_run tbOk 3 hA (e' := (113, .pointer (some ⟨b55, o56 + (k * 5) + 3, none⟩)) :: (112, .pointer (some ⟨b55, o56 + (k * 5), none⟩)) :: (111, .pointer (some ⟨b55, o56 + (k * 5), none⟩)) :: _) rfl ?_; clear hA; intro a hA
    refine st_val hA rfl rfl (by decide) (rn_load tbOk hA rfl rfl rfl rfl ((hO51.rd (hS.own_ 5 rfl)).elemf (k := k) encPart_ok hx (j := 3) rfl)) ?_; clear hA; intro a hA
    have hOh2 : Own 4 1 (.slice (some ⟨b57, o58, none⟩) ((List.replicate cn false).set ix true).length cn) ((List.replicate cn false).set ix true).length (rows encBo ((List.replicate cn false).set ix true)) C61 := by rw [List.length_set]; exact hO61
    replace hA := hA.rw 114 (v' := .slice (some ⟨b57, o58, none⟩) (((List.replicate cn false).set ix true).length) cn) rfl (by rw [List.length_set])
    refine st_call0 hA rfl rfl rfl isfn17 rfl rfl (by decide) (containsb17 hS (l := (List.replicate cn false).set ix true) (RdS.own hOh2 2 rfl)) ?_
    clear hA hS; rintro v w70 a ⟨rfl, hS⟩ hA
    replace hA := hA.rw 115 (v' := .bool true) rfl (congrArg Value.bool hany)
    refine wpList_nil ?_
    replace hA := hA.sel [0, 6, 7, 115] (e' := [(0, .pointer (some ⟨b, 0, none⟩)), (6, .int .i64 ((k : Nat) : Int)), (7, .pointer (some ⟨b55, o56 + (k * 5), none⟩)), (115, .bool true)]) rfl
    refine xt_norm ?_
    refine cd_cond_t hA rfl ?_
    refine wp_seq ?_
    refine wp_region_lit ?_
    refine st_run tbOk 2 hA (e' := (5, .bool false) :: (4, .slice none 0 0) :: _) rfl ?_; clear hA; intro a hA
    refine wpList_nil ?_
    replace hA := hA.sel [4, 5] (e' := [(4, .slice none 0 0), (5, .bool false)]) rfl
    refine xt_norm ?_
    refine wp_ret (xt_ret ?_)
    refine ret2 (fn := Try.f9) hA rfl rfl rfl ?_
    have hOp2 : Own 38 6 (.slice (some ⟨b62, o63, none⟩) ((List.replicate cn ((0, 0, 0, 0, 0, none, 0, ([] : List UInt8)) : Pkt)).set ix (fr, to, id, ((ix : Nat) : Int), ((cn : Nat) : Int), A64, c65, bs)).length cn) ((List.replicate cn ((0, 0, 0, 0, 0, none, 0, ([] : List UInt8)) : Pkt)).set ix (fr, to, id, ((ix : Nat) : Int), ((cn : Nat) : Int), A64, c65, bs)).length (rows encPacket ((List.replicate cn ((0, 0, 0, 0, 0, none, 0, ([] : List UInt8)) : Pkt)).set ix (fr, to, id, ((ix : Nat) : Int), ((cn : Nat) : Int), A64, c65, bs))) C69 := by rw [List.length_set]; exact hO69
    replace hS := hS.front 9 (C := D) (L' := C69 :: C66 :: C61 :: [] :: [(b, rowO [.slice (some ⟨b55, o56, none⟩) qs.length c53] 33)] :: C51 :: [(b47, rowO [.int .i64 fr, .int .i64 to, .int .u64 id, .slice (some ⟨b57, o58, none⟩) ((List.replicate cn false).length) cn, .slice (some ⟨b62, o63, none⟩) ((List.replicate cn ((0, 0, 0, 0, 0, none, 0, ([] : List UInt8)) : Pkt)).length) cn] 55)] :: [(b1, rowO [.int .i64 fr, .int .i64 to, .int .u64 id, .int .i64 ((ix : Nat) : Int), .int .i64 ((cn : Nat) : Int), .slice B bs.length d'] 38)] :: R :: F) rfl rfl
    replace hS := hS.front 2 (C := C66) (L' := D :: C69 :: C61 :: [] :: [(b, rowO [.slice (some ⟨b55, o56, none⟩) qs.length c53] 33)] :: C51 :: [(b47, rowO [.int .i64 fr, .int .i64 to, .int .u64 id, .slice (some ⟨b57, o58, none⟩) ((List.replicate cn false).length) cn, .slice (some ⟨b62, o63, none⟩) ((List.replicate cn ((0, 0, 0, 0, 0, none, 0, ([] : List UInt8)) : Pkt)).length) cn] 55)] :: [(b1, rowO [.int .i64 fr, .int .i64 to, .int .u64 id, .int .i64 ((ix : Nat) : Int), .int .i64 ((cn : Nat) : Int), .slice B bs.length d'] 38)] :: R :: F) rfl rfl
    replace hS := hS.join
    have hdE := (DD.new (w0 := w0) hOC66).right (E := D)
    have hPI2 : PI (fr, to, id, (some ⟨b57, o58, none⟩), cn, (List.replicate cn false).set ix true, (some ⟨b62, o63, none⟩), cn, (List.replicate cn ((0, 0, 0, 0, 0, none, 0, ([] : List UInt8)) : Pkt)).set ix (fr, to, id, ((ix : Nat) : Int), ((cn : Nat) : Int), A64, c65, bs)) := hPI.put (by omega) (by omega) (by omega) _ _
    have hpd : ∀ y ∈ (List.replicate cn ((0, 0, 0, 0, 0, none, 0, ([] : List UInt8)) : Pkt)).set ix (fr, to, id, ((ix : Nat) : Int), ((cn : Nat) : Int), A64, c65, bs), encPacket_dd w0 (C66 ++ D) y := fun y hy => (List.mem_or_eq_of_mem_set hy).elim (fun hy => encPacket_left (hpk2 y hy)) (fun e => by rw [e]; exact hdE)
    replace hS := hS.front 6 (C := [(b47, rowO [.int .i64 fr, .int .i64 to, .int .u64 id, .slice (some ⟨b57, o58, none⟩) ((List.replicate cn false).length) cn, .slice (some ⟨b62, o63, none⟩) ((List.replicate cn ((0, 0, 0, 0, 0, none, 0, ([] : List UInt8)) : Pkt)).length) cn] 55)]) (L' := (C66 ++ D) :: C69 :: C61 :: [] :: [(b, rowO [.slice (some ⟨b55, o56, none⟩) qs.length c53] 33)] :: C51 :: [(b1, rowO [.int .i64 fr, .int .i64 to, .int .u64 id, .int .i64 ((ix : Nat) : Int), .int .i64 ((cn : Nat) : Int), .slice B bs.length d'] 38)] :: R :: F) rfl rfl
    replace hS := hS.drop1
    replace hS := hS.front 6 (C := [(b1, rowO [.int .i64 fr, .int .i64 to, .int .u64 id, .int .i64 ((ix : Nat) : Int), .int .i64 ((cn : Nat) : Int), .slice B bs.length d'] 38)]) (L' := (C66 ++ D) :: C69 :: C61 :: [] :: [(b, rowO [.slice (some ⟨b55, o56, none⟩) qs.length c53] 33)] :: C51 :: R :: F) rfl rfl
    replace hS := hS.drop1
    replace hS := hS.front 3 (C := []) (L' := (C66 ++ D) :: C69 :: C61 :: [(b, rowO [.slice (some ⟨b55, o56, none⟩) qs.length c53] 33)] :: C51 :: R :: F) rfl rfl
    replace hS := hS.front 2 (C := C69) (L' := [] :: (C66 ++ D) :: C61 :: [(b, rowO [.slice (some ⟨b55, o56, none⟩) qs.length c53] 33)] :: C51 :: R :: F) rfl rfl
    replace hS := hS.front 3 (C := C61) (L' := C69 :: [] :: (C66 ++ D) :: [(b, rowO [.slice (some ⟨b55, o56, none⟩) qs.length c53] 33)] :: C51 :: R :: F) rfl rfl
    replace hS := hS.front 6 (C := R) (L' := C61 :: C69 :: [] :: (C66 ++ D) :: [(b, rowO [.slice (some ⟨b55, o56, none⟩) qs.length c53] 33)] :: C51 :: F) rfl rfl
    replace hS := hS.front 6 (C := C51) (L' := R :: C61 :: C69 :: [] :: (C66 ++ D) :: [(b, rowO [.slice (some ⟨b55, o56, none⟩) qs.length c53] 33)] :: F) rfl rfl
    replace hS := hS.front 6 (C := [(b, rowO [.slice (some ⟨b55, o56, none⟩) qs.length c53] 33)]) (L' := C51 :: R :: C61 :: C69 :: [] :: (C66 ++ D) :: F) rfl rfl
    replace hS := hS.front 5 (C := []) (L' := [(b, rowO [.slice (some ⟨b55, o56, none⟩) qs.length c53] 33)] :: C51 :: R :: C61 :: C69 :: (C66 ++ D) :: F) rfl rfl
    replace hS := hS.front 5 (C := C69) (L' := [] :: [(b, rowO [.slice (some ⟨b55, o56, none⟩) qs.length c53] 33)] :: C51 :: R :: C61 :: (C66 ++ D) :: F) rfl rfl
    replace hS := hS.join
    replace hS := hS.front 4 (C := C61) (L' := (C69 ++ []) :: [(b, rowO [.slice (some ⟨b55, o56, none⟩) qs.length c53] 33)] :: C51 :: R :: (C66 ++ D) :: F) rfl rfl
    replace hS := hS.join
    replace hS := hS.front 3 (C := R) (L' := (C61 ++ (C69 ++ [])) :: [(b, rowO [.slice (some ⟨b55, o56, none⟩) qs.length c53] 33)] :: C51 :: (C66 ++ D) :: F) rfl rfl
    replace hS := hS.join
    replace hS := hS.front 2 (C := C51) (L' := (R ++ (C61 ++ (C69 ++ []))) :: [(b, rowO [.slice (some ⟨b55, o56, none⟩) qs.length c53] 33)] :: (C66 ++ D) :: F) rfl rfl
    replace hS := hS.front 2 (C := [(b, rowO [.slice (some ⟨b55, o56, none⟩) qs.length c53] 33)]) (L' := C51 :: (R ++ (C61 ++ (C69 ++ []))) :: (C66 ++ D) :: F) rfl rfl
    replace hS := hS.join3
    have hOO : Own 55 5 (.slice (some ⟨b55, o56, none⟩) (qs).length c53) ((qs).set k (fr, to, id, (some ⟨b57, o58, none⟩), cn, (List.replicate cn false).set ix true, (some ⟨b62, o63, none⟩), cn, (List.replicate cn ((0, 0, 0, 0, 0, none, 0, ([] : List UInt8)) : Pkt)).set ix (fr, to, id, ((ix : Nat) : Int), ((cn : Nat) : Int), A64, c65, bs))).length (rows encPart ((qs).set k (fr, to, id, (some ⟨b57, o58, none⟩), cn, (List.replicate cn false).set ix true, (some ⟨b62, o63, none⟩), cn, (List.replicate cn ((0, 0, 0, 0, 0, none, 0, ([] : List UInt8)) : Pkt)).set ix (fr, to, id, ((ix : Nat) : Int), ((cn : Nat) : Int), A64, c65, bs)))) C51 := by rw [List.length_set, rows_same hx (by simp [encPart])]; exact hO51
    have hmp : ((qs).set k (fr, to, id, (some ⟨b57, o58, none⟩), cn, (List.replicate cn false).set ix true, (some ⟨b62, o63, none⟩), cn, (List.replicate cn ((0, 0, 0, 0, 0, none, 0, ([] : List UInt8)) : Pkt)).set ix (fr, to, id, ((ix : Nat) : Int), ((cn : Nat) : Int), A64, c65, bs))).map gv = ps.map gv ++ [(fr, to, id, (List.replicate cn false).set ix true, (List.replicate cn []).set ix bs)] := by rw [List.map_set]; rw [hqs, new_set hk, show gv (fr, to, id, (some ⟨b57, o58, none⟩), cn, (List.replicate cn false).set ix true, (some ⟨b62, o63, none⟩), cn, (List.replicate cn ((0, 0, 0, 0, 0, none, 0, ([] : List UInt8)) : Pkt)).set ix (fr, to, id, ((ix : Nat) : Int), ((cn : Nat) : Int), A64, c65, bs)) = (fr, to, id, (List.replicate cn false).set ix true, (List.replicate cn []).set ix bs) from by simp only [gv, phas, ppk, List.map_set, List.map_replicate]; rfl]
    exact ⟨_, C66, ⟨_, _, _, _, hOO, rfl, PO.put (y := (fr, to, id, (some ⟨b57, o58, none⟩), cn, (List.replicate cn false).set ix true, (some ⟨b62, o63, none⟩), cn, (List.replicate cn ((0, 0, 0, 0, 0, none, 0, ([] : List UInt8)) : Pkt)).set ix (fr, to, id, ((ix : Nat) : Int), ((cn : Nat) : Int), A64, c65, bs))) hR1 hOh2 hOp2 hR2 hkl, set_all hI2 hPI2, part_dd (k := k) (x := (fr, to, id, (some ⟨b57, o58, none⟩), cn, (List.replicate cn false).set ix true, (some ⟨b62, o63, none⟩), cn, (List.replicate cn ((0, 0, 0, 0, 0, none, 0, ([] : List UInt8)) : Pkt)).set ix (fr, to, id, ((ix : Nat) : Int), ((cn : Nat) : Int), A64, c65, bs))) hdd2 rfl hpk2 hdE, hmp⟩, rfl, hS⟩

set_option maxHeartbeats 4000000 in
theorem add_new_full9 {w0 w : World} {F : List Chunk} {L D : Chunk} {b : Nat} {vs : List GV} (hS : St w0 w (L :: D :: F)) (hM : GS w0 b vs L D) (fr to id : Int) (ix cn : Nat) {d : Value} {bs : List UInt8} (hd : RdSX w0 (D :: F) 1 d bs.length (rows encB bs)) (h1 : ix < cn) (h2 : cn ≤ 256) (h3 : bs.length ≤ 32768) (hno : ∀ (i : Nat) (z : GV), vs[i]? = some z → ¬ vkey fr to id z) (hl : vs.length < 16) (hany : ((List.replicate cn false).set ix true).any (fun y => y == false) = false) :
    Ret Try.prog 9 #[.pointer (some ⟨b, 0, none⟩), .agg #[.int .i64 fr, .int .i64 to, .int .u64 id, .int .i64 ((ix : Nat) : Int), .int .i64 ((cn : Nat) : Int), d]] w (fun v w' => ∃ L' E C v1, GS w0 b (vs) L' (E ++ D) ∧ Own 5 1 v1 (((List.replicate cn []).set ix bs).flatten).length (rows encB (((List.replicate cn []).set ix bs).flatten)) C ∧ v = .tuple #[v1, .bool true] ∧ St w0 w' (L' :: (E ++ D) :: C :: F)) := by
  obtain ⟨ps, v, C, R, hO, rfl, hR, hI, hdd, rfl⟩ := hM
  obtain ⟨A, c, rfl, hmc, hcx⟩ := hO.open'
  replace hS : St w0 w ([(b, rowO [.slice A ps.length c] 33)] :: C :: R :: D :: F) := hS.split3
  obtain ⟨B, d', rfl, hmd, hdx⟩ := (hd _ (hS.tail 3 rfl)).open'
  rw [List.length_map] at hl
  refine enter (vs := [.pointer (some ⟨b, 0, none⟩), .agg #[.int .i64 fr, .int .i64 to, .int .u64 id, .int .i64 ((ix : Nat) : Int), .int .i64 ((cn : Nat) : Int), .slice B bs.length d']]) 137 Try.func9 rfl rfl (by simp) ?_; intro a hA
  refine wp_seq ?_
  refine wp_region_lit ?_
  refine st_box hA hS [.int .i64 fr, .int .i64 to, .int .u64 id, .int .i64 ((ix : Nat) : Int), .int .i64 ((cn : Nat) : Int), .slice B bs.length d'] rfl rfl rfl rfl rfl (by decide) ?_; clear hA hS; intro b1 w2 a hS hA
  refine st_run tbOk 2 hA (e' := (5, .bool false) :: (4, .slice none 0 0) :: _) rfl ?_; clear hA; intro a hA
  refine wpList_nil ?_
  replace hA := hA.sel [0, 3] (e' := [(0, .pointer (some ⟨b, 0, none⟩)), (3, .pointer (some ⟨b1, 0, none⟩))]) rfl
  refine xt_norm ?_
  refine wp_seq ?_
  refine wp_seq ?_
  refine wp_region_lit ?_
  refine st_val hA rfl rfl (by decide) (rn_loadA tbOk hA [.int .i64 fr, .int .i64 to, .int .u64 id, .int .i64 ((ix : Nat) : Int), .int .i64 ((cn : Nat) : Int), .slice B bs.length d'] rfl rfl rfl rfl rfl (cells_row (hS.heapAt 0 rfl) rfl)) ?_; clear hA; intro a hA
  refine st_call0 hA rfl rfl rfl isfn12 rfl rfl (by decide) (may12 hS fr to id ((ix : Nat) : Int) ((cn : Nat) : Int) B d' bs) ?_
  clear hA hS; rintro v w3 a ⟨rfl, hS⟩ hA
  have hc4 : 1 ≤ ((cn : Nat) : Int) ∧ ((cn : Nat) : Int) ≤ 256 ∧ 0 ≤ ((ix : Nat) : Int) ∧ ((ix : Nat) : Int) < ((cn : Nat) : Int) ∧ bs.length ≤ 32768 := by omega
  replace hA := hA.rw 11 (v' := .bool true) rfl (vb_true hc4)
  refine st_run tbOk 1 hA (e' := (12, .bool false) :: _) rfl ?_; clear hA; intro a hA
  refine wpList_nil ?_
  replace hA := hA.sel [0, 3, 12] (e' := [(0, .pointer (some ⟨b, 0, none⟩)), (3, .pointer (some ⟨b1, 0, none⟩)), (12, .bool false)]) rfl
  refine xt_norm ?_
  refine cd_cond_f hA rfl ?_
  refine wp_skip ?_
  refine xt_norm ?_
  refine wp_seq ?_
  refine wp_region_lit ?_
  refine st_run tbOk 1 hA (e' := (13, .pointer (some ⟨b, 0, none⟩)) :: _) rfl ?_; clear hA; intro a hA
  refine st_val hA rfl rfl (by decide) (rn_loadA tbOk hA [.int .i64 fr, .int .i64 to, .int .u64 id, .int .i64 ((ix : Nat) : Int), .int .i64 ((cn : Nat) : Int), .slice B bs.length d'] rfl rfl rfl rfl rfl (cells_row (hS.heapAt 0 rfl) rfl)) ?_; clear hA; intro a hA
  replace hS := hS.front 2 (C := C) (L' := [(b1, rowO [.int .i64 fr, .int .i64 to, .int .u64 id, .int .i64 ((ix : Nat) : Int), .int .i64 ((cn : Nat) : Int), .slice B bs.length d'] 38)] :: [(b, rowO [.slice A ps.length c] 33)] :: R :: D :: F) rfl rfl
  replace hS := hS.front 2 (C := [(b, rowO [.slice A ps.length c] 33)]) (L' := C :: [(b1, rowO [.int .i64 fr, .int .i64 to, .int .u64 id, .int .i64 ((ix : Nat) : Int), .int .i64 ((cn : Nat) : Int), .slice B bs.length d'] 38)] :: R :: D :: F) rfl rfl
  refine st_call0 hA rfl rfl rfl isfn14 rfl rfl (by decide) (find14 hS hO fr to id _ _ _) ?_
  clear hA hS; rintro v w5 a ⟨rfl, hS⟩ hA
  have hix := idx_none (p := fun x => gkey fr to id x) (l := ps) (fun i y hy => gkey_no (k := ps.length) (fun i z _ hz => hno i z hz) i y (List.getElem?_eq_some_iff.1 hy).1 hy)
  replace hA := hA.rw 15 (v' := .int .i64 (-1)) rfl (vint hix)
  replace hS := hS.front 4 (C := D) (L' := [(b, rowO [.slice A ps.length c] 33)] :: C :: [(b1, rowO [.int .i64 fr, .int .i64 to, .int .u64 id, .int .i64 ((ix : Nat) : Int), .int .i64 ((cn : Nat) : Int), .slice B bs.length d'] 38)] :: R :: F) rfl rfl
  replace hS := hS.front 4 (C := R) (L' := D :: [(b, rowO [.slice A ps.length c] 33)] :: C :: [(b1, rowO [.int .i64 fr, .int .i64 to, .int .u64 id, .int .i64 ((ix : Nat) : Int), .int .i64 ((cn : Nat) : Int), .slice B bs.length d'] 38)] :: F) rfl rfl
  replace hS := hS.front 4 (C := [(b1, rowO [.int .i64 fr, .int .i64 to, .int .u64 id, .int .i64 ((ix : Nat) : Int), .int .i64 ((cn : Nat) : Int), .slice B bs.length d'] 38)]) (L' := R :: D :: [(b, rowO [.slice A ps.length c] 33)] :: C :: F) rfl rfl
  replace hS := hS.front 4 (C := C) (L' := [(b1, rowO [.int .i64 fr, .int .i64 to, .int .u64 id, .int .i64 ((ix : Nat) : Int), .int .i64 ((cn : Nat) : Int), .slice B bs.length d'] 38)] :: R :: D :: [(b, rowO [.slice A ps.length c] 33)] :: F) rfl rfl
  replace hS := hS.front 4 (C := [(b, rowO [.slice A ps.length c] 33)]) (L' := C :: [(b1, rowO [.int .i64 fr, .int .i64 to, .int .u64 id, .int .i64 ((ix : Nat) : Int), .int .i64 ((cn : Nat) : Int), .slice B bs.length d'] 38)] :: R :: D :: F) rfl rfl
  refine st_run tbOk 1 hA (e' := (6, .int .i64 (-1)) :: _) rfl ?_; clear hA; intro a hA
  refine wpList_nil ?_
  replace hA := hA.sel [0, 3, 6] (e' := [(0, .pointer (some ⟨b, 0, none⟩)), (3, .pointer (some ⟨b1, 0, none⟩)), (6, .int .i64 (-1))]) rfl
  refine xt_norm ?_
  refine wp_seq ?_
  refine wp_seq ?_
  refine wp_region_lit ?_
  refine st_run tbOk 2 hA (e' := (17, .bool true) :: (16, .int .i64 (-1)) :: _) rfl ?_; clear hA; intro a hA
  refine wpList_nil ?_
  replace hA := hA.sel [0, 3, 6, 17] (e' := [(0, .pointer (some ⟨b, 0, none⟩)), (3, .pointer (some ⟨b1, 0, none⟩)), (6, .int .i64 (-1)), (17, .bool true)]) rfl
  refine xt_norm ?_
  refine cd_cond_t hA rfl ?_
  refine wp_seq ?_
  refine wp_seq ?_
  refine wp_region_lit ?_
  refine st_run tbOk 3 hA (e' := (20, .pointer (some ⟨b, 0, none⟩)) :: (19, .pointer (some ⟨b, 0, none⟩)) :: (18, .pointer (some ⟨b, 0, none⟩)) :: _) rfl ?_; clear hA; intro a hA
  refine st_val hA rfl rfl (by decide) (rn_load tbOk hA rfl rfl rfl rfl (cell_row (hS.heapAt 0 rfl) rfl)) ?_; clear hA; intro a hA
  refine st_run tbOk 2 hA (e' := (23, .bool (((ps.length : Nat) : Int) == 16)) :: (22, .int .i64 ((ps.length : Nat) : Int)) :: _) rfl ?_; clear hA; intro a hA
  refine wpList_nil ?_
  replace hA := hA.sel [0, 3, 23] (e' := [(0, .pointer (some ⟨b, 0, none⟩)), (3, .pointer (some ⟨b1, 0, none⟩)), (23, .bool (((ps.length : Nat) : Int) == 16))]) rfl
  refine xt_norm ?_
  have hc6 : ¬ (((ps.length : Nat) : Int) = 16) := by omega
  replace hA := hA.rw 23 (v' := .bool false) rfl (vb_eq_f hc6)
  refine cd_cond_f hA rfl ?_
  refine wp_skip ?_
  refine xt_norm ?_
  refine wp_seq ?_
  refine wp_region_lit ?_
  refine st_run tbOk 3 hA (e' := (34, .pointer (some ⟨b, 0, none⟩)) :: (33, .pointer (some ⟨b, 0, none⟩)) :: (32, .pointer (some ⟨b, 0, none⟩)) :: _) rfl ?_; clear hA; intro a hA
  refine st_val hA rfl rfl (by decide) (rn_load tbOk hA rfl rfl rfl rfl (cell_row (hS.heapAt 0 rfl) rfl)) ?_; clear hA; intro a hA
  refine st_run tbOk 2 hA (e' := (6, .int .i64 ((ps.length : Nat) : Int)) :: (36, .int .i64 ((ps.length : Nat) : Int)) :: _) rfl ?_; clear hA; intro a hA
  refine wpList_nil ?_
  replace hA := hA.sel [0, 3, 6] (e' := [(0, .pointer (some ⟨b, 0, none⟩)), (3, .pointer (some ⟨b1, 0, none⟩)), (6, .int .i64 ((ps.length : Nat) : Int))]) rfl
  refine xt_norm ?_
  replace hS := hS.front 1 (C := C) (L' := [(b, rowO [.slice A ps.length c] 33)] :: [(b1, rowO [.int .i64 fr, .int .i64 to, .int .u64 id, .int .i64 ((ix : Nat) : Int), .int .i64 ((cn : Nat) : Int), .slice B bs.length d'] 38)] :: R :: D :: F) rfl rfl
  refine wp_drawN (fun w' => St w0 w' ([(b, rowO [.slice A ps.length c] 33)] :: [(b1, rowO [.int .i64 fr, .int .i64 to, .int .u64 id, .int .i64 ((ix : Nat) : Int), .int .i64 ((cn : Nat) : Int), .slice B bs.length d'] 38)] :: R :: D :: F)) [22] [(0, true), (1, true), (2, true), (3, true), (4, true), (5, true), (6, true), (7, true), (8, true), (9, true), (10, true), (11, true), (12, true), (14, true), (15, true)] 13 (.L [(16, false), (17, true), (18, false), (19, false), (20, true), (21, true), (22, false)]) 16 (.L [(13, false), (17, true), (18, false), (19, false), (20, true), (21, true), (22, false)]) mixed (by kernel_rfl) (by rintro c a w ⟨_, _, h, _⟩; cases h) (by rfl) (by kernel_rfl) ?_
  replace hS := hS.drew
  refine dr_run tbOk 4 hA (hS.tail 1 rfl) (e' := (40, .pointer (some ⟨b, 0, none⟩)) :: (39, .pointer (some ⟨b, 0, none⟩)) :: (38, .pointer (some ⟨b, 0, none⟩)) :: (37, .pointer (some ⟨b, 0, none⟩)) :: _) rfl ?_; clear hA; intro a hA
  refine dr_y hA rfl rfl rfl (by decide) (hS.tail 1 rfl) (fun w' hS' => rn_load tbOk hA rfl rfl rfl rfl (cell_row (hS'.heapAt 0 rfl) rfl)) ?_; clear hA; intro a hA
  refine dr_run tbOk 1 hA (hS.tail 1 rfl) (e' := (42, .pointer (some ⟨b1, 0, none⟩)) :: _) rfl ?_; clear hA; intro a hA
  refine dr_y hA rfl rfl rfl (by decide) (hS.tail 1 rfl) (fun w' hS' => rn_load tbOk hA rfl rfl rfl rfl (cell_row (hS'.heapAt 1 rfl) rfl)) ?_; clear hA; intro a hA
  refine dr_run tbOk 1 hA (hS.tail 1 rfl) (e' := (44, .pointer (some ⟨b1, 1, none⟩)) :: _) rfl ?_; clear hA; intro a hA
  refine dr_y hA rfl rfl rfl (by decide) (hS.tail 1 rfl) (fun w' hS' => rn_load tbOk hA rfl rfl rfl rfl (cell_row (hS'.heapAt 1 rfl) rfl)) ?_; clear hA; intro a hA
  refine dr_run tbOk 1 hA (hS.tail 1 rfl) (e' := (46, .pointer (some ⟨b1, 2, none⟩)) :: _) rfl ?_; clear hA; intro a hA
  refine dr_y hA rfl rfl rfl (by decide) (hS.tail 1 rfl) (fun w' hS' => rn_load tbOk hA rfl rfl rfl rfl (cell_row (hS'.heapAt 1 rfl) rfl)) ?_; clear hA; intro a hA
  refine dr_run tbOk 1 hA (hS.tail 1 rfl) (e' := (48, .pointer (some ⟨b1, 4, none⟩)) :: _) rfl ?_; clear hA; intro a hA
  refine dr_y hA rfl rfl rfl (by decide) (hS.tail 1 rfl) (fun w' hS' => rn_load tbOk hA rfl rfl rfl rfl (cell_row (hS'.heapAt 1 rfl) rfl)) ?_; clear hA; intro a hA
  refine dr_run tbOk 1 hA (hS.tail 1 rfl) (e' := (51, .pointer (some ⟨b1, 4, none⟩)) :: _) rfl ?_; clear hA; intro a hA
  refine dr_y hA rfl rfl rfl (by decide) (hS.tail 1 rfl) (fun w' hS' => rn_load tbOk hA rfl rfl rfl rfl (cell_row (hS'.heapAt 1 rfl) rfl)) ?_; clear hA; intro a hA
  refine dr_fork ?_ ?_
  · refine dr_b (o := _) rfl ?_
    refine st_makeSlice tbOk hA hS cn encBo_ok (by decide) false rfl rfl rfl rfl rfl rfl rfl rfl (by show 1 * cn ≤ 281474976710656; omega) (by omega) rfl rfl (by decide) ?_; clear hA hS; intro b7 w8 a hS hA
    obtain ⟨C9, hO9, hS⟩ : ∃ Cq9, Own 4 1 (.slice (some ⟨b7, 0, none⟩) cn cn) cn (rows encBo (List.replicate cn false)) Cq9 ∧ St w0 w8 (Cq9 :: C :: [(b, rowO [.slice A ps.length c] 33)] :: [(b1, rowO [.int .i64 fr, .int .i64 to, .int .u64 id, .int .i64 ((ix : Nat) : Int), .int .i64 ((cn : Nat) : Int), .slice B bs.length d'] 38)] :: R :: D :: F) := ⟨_, Own.full (by rw [rows_length encBo_ok, List.length_replicate]) (by show cn ≤ 9223372036854775807; omega), hS⟩
    generalize (some (⟨b7, 0, none⟩ : Addr)) = A10 at hO9 hA
    refine dr_nil (.inr (hS.tail 2 rfl)) ?_
    refine dr_subL ?_
    refine dr_b (o := _) rfl ?_
    refine st_makeSlice tbOk hA hS cn encPacket_ok (by decide) (0, 0, 0, 0, 0, none, 0, ([] : List UInt8)) rfl rfl rfl rfl rfl rfl rfl rfl (by show 64 * cn ≤ 281474976710656; omega) (by omega) rfl rfl (by decide) ?_; clear hA hS; intro b11 w12 a hS hA
    obtain ⟨C13, hO13, hS⟩ : ∃ Cq9, Own 38 6 (.slice (some ⟨b11, 0, none⟩) cn cn) cn (rows encPacket (List.replicate cn (0, 0, 0, 0, 0, none, 0, ([] : List UInt8)))) Cq9 ∧ St w0 w12 (Cq9 :: C9 :: C :: [(b, rowO [.slice A ps.length c] 33)] :: [(b1, rowO [.int .i64 fr, .int .i64 to, .int .u64 id, .int .i64 ((ix : Nat) : Int), .int .i64 ((cn : Nat) : Int), .slice B bs.length d'] 38)] :: R :: D :: F) := ⟨_, Own.full (by rw [rows_length encPacket_ok, List.length_replicate]) (by show cn ≤ 9223372036854775807; omega), hS⟩
    generalize (some (⟨b11, 0, none⟩ : Addr)) = A14 at hO13 hA
    refine dr_nil (.inr (hS.tail 3 rfl)) ?_
    replace hA := hA.rw 50 (v' := .slice A10 ((List.replicate cn false).length) cn) rfl (by rw [List.length_replicate])
    replace hA := hA.rw 53 (v' := .slice A14 ((List.replicate cn ((0, 0, 0, 0, 0, none, 0, ([] : List UInt8)) : Pkt)).length) cn) rfl (by rw [List.length_replicate])
    refine dr_y hA rfl rfl rfl (by decide) (hS.tail 3 rfl) (fun w' hS' => rn_build tbOk hA rfl rfl rfl rfl rfl rfl rfl) ?_; clear hA; intro a hA
    refine dr_b (o := _) rfl ?_
    refine st_buildSlice tbOk hA hS [.int .i64 fr, .int .i64 to, .int .u64 id, .slice A10 ((List.replicate cn false).length) cn, .slice A14 ((List.replicate cn ((0, 0, 0, 0, 0, none, 0, ([] : List UInt8)) : Pkt)).length) cn] rfl rfl rfl rfl rfl (by decide) (by kernel_rfl) rfl rfl (by decide) ?_; clear hA hS; intro b15 w16 a hS hA
    refine dr_nil (.inr (hS.tail 4 rfl)) ?_
    refine dr_b (o := _) rfl ?_
    replace hS := hS.front 3 (C := C) (L' := [(b15, rowO [.int .i64 fr, .int .i64 to, .int .u64 id, .slice A10 ((List.replicate cn false).length) cn, .slice A14 ((List.replicate cn ((0, 0, 0, 0, 0, none, 0, ([] : List UInt8)) : Pkt)).length) cn] 55)] :: C13 :: C9 :: [(b, rowO [.slice A ps.length c] 33)] :: [(b1, rowO [.int .i64 fr, .int .i64 to, .int .u64 id, .int .i64 ((ix : Nat) : Int), .int .i64 ((cn : Nat) : Int), .slice B bs.length d'] 38)] :: R :: D :: F) rfl rfl
    refine st_append tbOk hA (m := ps.length) (q := 1) (xs := rows encPart ps) (news := rows encPart ([(fr, to, id, A10, cn, (List.replicate cn false), A14, cn, (List.replicate cn ((0, 0, 0, 0, 0, none, 0, ([] : List UInt8)) : Pkt)))] : List (Int × Int × Int × Option Addr × Nat × List Bool × Option Addr × Nat × List Pkt))) rfl rfl rfl rfl rfl rfl rfl rfl (by decide) hO hS (((Own.full (T := 55) (size := 5) (g := b15) (m := 1) rfl (by decide)).rd (hS.own_ 1 rfl)).x) (rows_one encPart_ok _) (maxLen_le (by first | omega | (simp; omega))) (by show (ps.length + 1) * 72 ≤ 140737488355328; first | omega | (simp; omega)) rfl rfl (by decide) ?_
    clear hA hS; intro v17 w18 C19 a hO19 hS hA
    replace hO19 := Own.app (l := ps) (l2 := ([(fr, to, id, A10, cn, (List.replicate cn false), A14, cn, (List.replicate cn ((0, 0, 0, 0, 0, none, 0, ([] : List UInt8)) : Pkt)))] : List (Int × Int × Int × Option Addr × Nat × List Bool × Option Addr × Nat × List Pkt))) hO19
    obtain ⟨A20, c21, rfl, hmc21, hxc21⟩ := hO19.open'
    refine dr_nil (.inr (hS.tail 4 rfl)) ?_
    refine dr_run tbOk 2 hA (hS.tail 4 rfl) (e' := (58, .pointer (some ⟨b, 0, none⟩)) :: (57, .pointer (some ⟨b, 0, none⟩)) :: _) rfl ?_; clear hA; intro a hA
    refine dr_b (o := _) rfl ?_
    replace hS := hS.front 4 (C := [(b, rowO [.slice A ps.length c] 33)]) (L' := C19 :: [(b15, rowO [.int .i64 fr, .int .i64 to, .int .u64 id, .slice A10 ((List.replicate cn false).length) cn, .slice A14 ((List.replicate cn ((0, 0, 0, 0, 0, none, 0, ([] : List UInt8)) : Pkt)).length) cn] 55)] :: C13 :: C9 :: [(b1, rowO [.int .i64 fr, .int .i64 to, .int .u64 id, .int .i64 ((ix : Nat) : Int), .int .i64 ((cn : Nat) : Int), .slice B bs.length d'] 38)] :: R :: D :: F) rfl rfl
    refine st_store tbOk hA hS [.slice A20 ((ps ++ ([(fr, to, id, A10, cn, (List.replicate cn false), A14, cn, (List.replicate cn ((0, 0, 0, 0, 0, none, 0, ([] : List UInt8)) : Pkt)))] : List (Int × Int × Int × Option Addr × Nat × List Bool × Option Addr × Nat × List Pkt))).length) c21] [.slice A20 ((ps ++ ([(fr, to, id, A10, cn, (List.replicate cn false), A14, cn, (List.replicate cn ((0, 0, 0, 0, 0, none, 0, ([] : List UInt8)) : Pkt)))] : List (Int × Int × Int × Option Addr × Nat × List Bool × Option Addr × Nat × List Pkt))).length) c21] rfl rfl rfl rfl rfl rfl (by intro u hu; rw [List.mem_singleton.1 hu]; rfl) (Nat.le_of_ble_eq_true rfl) rfl rfl rfl ?_; clear hS; intro w22 hS
    refine dr_nil (.inl (by decide)) ?_
    refine dr_end ?_
    replace hA := hA.sel [0, 3, 6] (e' := [(0, .pointer (some ⟨b, 0, none⟩)), (3, .pointer (some ⟨b1, 0, none⟩)), (6, .int .i64 ((ps.length : Nat) : Int))]) rfl
    refine xt_norm ?_
    refine wp_seq ?_
    refine wp_region_lit ?_
    obtain ⟨k, hk⟩ : ∃ k, k = ps.length := ⟨_, rfl⟩
    replace hA := hA.rw 6 (v' := .int .i64 ((k : Nat) : Int)) rfl (by rw [hk])
    obtain ⟨qs, hqs⟩ : ∃ qs, qs = ps ++ ([(fr, to, id, A10, cn, (List.replicate cn false), A14, cn, (List.replicate cn ((0, 0, 0, 0, 0, none, 0, ([] : List UInt8)) : Pkt)))] : List (Int × Int × Int × Option Addr × Nat × List Bool × Option Addr × Nat × List Pkt)) := ⟨_, rfl⟩
    rw [← hqs] at hO19 hS
    have hx : qs[k]? = some (fr, to, id, A10, cn, (List.replicate cn false), A14, cn, (List.replicate cn ((0, 0, 0, 0, 0, none, 0, ([] : List UInt8)) : Pkt))) := by rw [hqs, hk]; simp
    have hkl : k < qs.length := (List.getElem?_eq_some_iff.1 hx).1
    have hPI : PI (fr, to, id, A10, cn, (List.replicate cn false), A14, cn, (List.replicate cn ((0, 0, 0, 0, 0, none, 0, ([] : List UInt8)) : Pkt))) := PI.fresh (by omega) (by omega)
    have hR1 : PO (qs.take k) R := by rw [hqs, hk, List.take_left]; exact hR
    have hR2 : PO (qs.drop (k + 1)) [] := by rw [hqs, List.drop_eq_nil_of_le (by rw [hk, List.length_append]; exact Nat.le_refl _)]; exact rfl
    have hpk2 : ∀ y ∈ (List.replicate cn ((0, 0, 0, 0, 0, none, 0, ([] : List UInt8)) : Pkt)), encPacket_dd w0 D y := fun y hy => by rw [List.eq_of_mem_replicate hy]; exact DD.nil
    have hI2 : ∀ y ∈ qs, PI y := by rw [hqs]; exact snoc_all hI hPI
    have hdd2 : ∀ z ∈ qs, ∀ y ∈ ppk z, encPacket_dd w0 D y := by rw [hqs]; exact snoc_all (x := (fr, to, id, A10, cn, (List.replicate cn false), A14, cn, (List.replicate cn ((0, 0, 0, 0, 0, none, 0, ([] : List UInt8)) : Pkt)))) hdd hpk2
    have hhl9 : (List.replicate cn false).length = cn := List.length_replicate
    have hpl9 : (List.replicate cn ((0, 0, 0, 0, 0, none, 0, ([] : List UInt8)) : Pkt)).length = cn := List.length_replicate
    have hF : (List.replicate cn false)[ix]? = some false := by rw [List.getElem?_replicate, if_pos (by omega)]
    have hOhN : Own 4 1 (.slice A10 (List.replicate cn false).length cn) (List.replicate cn false).length (rows encBo (List.replicate cn false)) C9 := by rw [List.length_replicate]; exact hO9
    have hOpN : Own 38 6 (.slice A14 (List.replicate cn ((0, 0, 0, 0, 0, none, 0, ([] : List UInt8)) : Pkt)).length cn) (List.replicate cn ((0, 0, 0, 0, 0, none, 0, ([] : List UInt8)) : Pkt)).length (rows encPacket (List.replicate cn ((0, 0, 0, 0, 0, none, 0, ([] : List UInt8)) : Pkt))) C13 := by rw [List.length_replicate]; exact hO13
    replace hS := hS.nil
    replace hS := hS.front 8 (C := D) (L' := [] :: [(b, rowO [.slice A20 qs.length c21] 33)] :: C19 :: [(b15, rowO [.int .i64 fr, .int .i64 to, .int .u64 id, .slice A10 ((List.replicate cn false).length) cn, .slice A14 ((List.replicate cn ((0, 0, 0, 0, 0, none, 0, ([] : List UInt8)) : Pkt)).length) cn] 55)] :: C13 :: C9 :: [(b1, rowO [.int .i64 fr, .int .i64 to, .int .u64 id, .int .i64 ((ix : Nat) : Int), .int .i64 ((cn : Nat) : Int), .slice B bs.length d'] 38)] :: R :: F) rfl rfl
    replace hS := hS.front 8 (C := R) (L' := D :: [] :: [(b, rowO [.slice A20 qs.length c21] 33)] :: C19 :: [(b15, rowO [.int .i64 fr, .int .i64 to, .int .u64 id, .slice A10 ((List.replicate cn false).length) cn, .slice A14 ((List.replicate cn ((0, 0, 0, 0, 0, none, 0, ([] : List UInt8)) : Pkt)).length) cn] 55)] :: C13 :: C9 :: [(b1, rowO [.int .i64 fr, .int .i64 to, .int .u64 id, .int .i64 ((ix : Nat) : Int), .int .i64 ((cn : Nat) : Int), .slice B bs.length d'] 38)] :: F) rfl rfl
    replace hS := hS.front 8 (C := [(b1, rowO [.int .i64 fr, .int .i64 to, .int .u64 id, .int .i64 ((ix : Nat) : Int), .int .i64 ((cn : Nat) : Int), .slice B bs.length d'] 38)]) (L' := R :: D :: [] :: [(b, rowO [.slice A20 qs.length c21] 33)] :: C19 :: [(b15, rowO [.int .i64 fr, .int .i64 to, .int .u64 id, .slice A10 ((List.replicate cn false).length) cn, .slice A14 ((List.replicate cn ((0, 0, 0, 0, 0, none, 0, ([] : List UInt8)) : Pkt)).length) cn] 55)] :: C13 :: C9 :: F) rfl rfl
    replace hS := hS.front 8 (C := C9) (L' := [(b1, rowO [.int .i64 fr, .int .i64 to, .int .u64 id, .int .i64 ((ix : Nat) : Int), .int .i64 ((cn : Nat) : Int), .slice B bs.length d'] 38)] :: R :: D :: [] :: [(b, rowO [.slice A20 qs.length c21] 33)] :: C19 :: [(b15, rowO [.int .i64 fr, .int .i64 to, .int .u64 id, .slice A10 ((List.replicate cn false).length) cn, .slice A14 ((List.replicate cn ((0, 0, 0, 0, 0, none, 0, ([] : List UInt8)) : Pkt)).length) cn] 55)] :: C13 :: F) rfl rfl
    replace hS := hS.front 8 (C := C13) (L' := C9 :: [(b1, rowO [.int .i64 fr, .int .i64 to, .int .u64 id, .int .i64 ((ix : Nat) : Int), .int .i64 ((cn : Nat) : Int), .slice B bs.length d'] 38)] :: R :: D :: [] :: [(b, rowO [.slice A20 qs.length c21] 33)] :: C19 :: [(b15, rowO [.int .i64 fr, .int .i64 to, .int .u64 id, .slice A10 ((List.replicate cn false).length) cn, .slice A14 ((List.replicate cn ((0, 0, 0, 0, 0, none, 0, ([] : List UInt8)) : Pkt)).length) cn] 55)] :: F) rfl rfl
    replace hS := hS.front 8 (C := [(b15, rowO [.int .i64 fr, .int .i64 to, .int .u64 id, .slice A10 ((List.replicate cn false).length) cn, .slice A14 ((List.replicate cn ((0, 0, 0, 0, 0, none, 0, ([] : List UInt8)) : Pkt)).length) cn] 55)]) (L' := C13 :: C9 :: [(b1, rowO [.int .i64 fr, .int .i64 to, .int .u64 id, .int .i64 ((ix : Nat) : Int), .int .i64 ((cn : Nat) : Int), .slice B bs.length d'] 38)] :: R :: D :: [] :: [(b, rowO [.slice A20 qs.length c21] 33)] :: C19 :: F) rfl rfl
    replace hS := hS.front 8 (C := C19) (L' := [(b15, rowO [.int .i64 fr, .int .i64 to, .int .u64 id, .slice A10 ((List.replicate cn false).length) cn, .slice A14 ((List.replicate cn ((0, 0, 0, 0, 0, none, 0, ([] : List UInt8)) : Pkt)).length) cn] 55)] :: C13 :: C9 :: [(b1, rowO [.int .i64 fr, .int .i64 to, .int .u64 id, .int .i64 ((ix : Nat) : Int), .int .i64 ((cn : Nat) : Int), .slice B bs.length d'] 38)] :: R :: D :: [] :: [(b, rowO [.slice A20 qs.length c21] 33)] :: F) rfl rfl
    replace hS := hS.front 8 (C := [(b, rowO [.slice A20 qs.length c21] 33)]) (L' := C19 :: [(b15, rowO [.int .i64 fr, .int .i64 to, .int .u64 id, .slice A10 ((List.replicate cn false).length) cn, .slice A14 ((List.replicate cn ((0, 0, 0, 0, 0, none, 0, ([] : List UInt8)) : Pkt)).length) cn] 55)] :: C13 :: C9 :: [(b1, rowO [.int .i64 fr, .int .i64 to, .int .u64 id, .int .i64 ((ix : Nat) : Int), .int .i64 ((cn : Nat) : Int), .slice B bs.length d'] 38)] :: R :: D :: [] :: F) rfl rfl
    replace hS := hS.front 8 (C := []) (L' := [(b, rowO [.slice A20 qs.length c21] 33)] :: C19 :: [(b15, rowO [.int .i64 fr, .int .i64 to, .int .u64 id, .slice A10 ((List.replicate cn false).length) cn, .slice A14 ((List.replicate cn ((0, 0, 0, 0, 0, none, 0, ([] : List UInt8)) : Pkt)).length) cn] 55)] :: C13 :: C9 :: [(b1, rowO [.int .i64 fr, .int .i64 to, .int .u64 id, .int .i64 ((ix : Nat) : Int), .int .i64 ((cn : Nat) : Int), .slice B bs.length d'] 38)] :: R :: D :: F) rfl rfl
    refine st_run tbOk 3 hA (e' := (61, .pointer (some ⟨b, 0, none⟩)) :: (60, .pointer (some ⟨b, 0, none⟩)) :: (59, .pointer (some ⟨b, 0, none⟩)) :: _) rfl ?_; clear hA; intro a hA
    refine st_val hA rfl rfl (by decide) (rn_load tbOk hA rfl rfl rfl rfl (cell_row (hS.heapAt 1 rfl) rfl)) ?_; clear hA; intro a hA
    refine st_run tbOk 1 hA (e' := (63, .int .i64 ((k : Nat) : Int)) :: _) rfl ?_; clear hA; intro a hA
    obtain ⟨b23, o24, rfl⟩ := hO19.isSome (k := k) (by omega)
    refine st_val hA rfl rfl (by decide) (rn_indexAddr tbOk hA k (o24 + (k * 5)) rfl rfl rfl rfl rfl rfl (by rfl) (by omega) (by first | rfl | simp [Nat.mul_one, Nat.zero_add] | omega)) ?_; clear hA; intro a hA
    refine st_run tbOk 1 hA (e' := (7, .pointer (some ⟨b23, o24 + (k * 5), none⟩)) :: _) rfl ?_; clear hA; intro a hA
    refine wpList_nil ?_
    replace hA := hA.sel [0, 3, 6, 7] (e' := [(0, .pointer (some ⟨b, 0, none⟩)), (3, .pointer (some ⟨b1, 0, none⟩)), (6, .int .i64 ((k : Nat) : Int)), (7, .pointer (some ⟨b23, o24 + (k * 5), none⟩))]) rfl
    refine xt_norm ?_
    refine wp_seq ?_
    refine wp_seq ?_
    obtain ⟨b25, o26, rfl⟩ := hOhN.isSome (k := ix) (by omega)
    refine wp_draw (fun w' => St w0 w' ([] :: [(b, rowO [.slice (some ⟨b23, o24, none⟩) qs.length c21] 33)] :: C19 :: [(b15, rowO [.int .i64 fr, .int .i64 to, .int .u64 id, .slice (some ⟨b25, o26, none⟩) ((List.replicate cn false).length) cn, .slice A14 ((List.replicate cn ((0, 0, 0, 0, 0, none, 0, ([] : List UInt8)) : Pkt)).length) cn] 55)] :: C13 :: C9 :: [(b1, rowO [.int .i64 fr, .int .i64 to, .int .u64 id, .int .i64 ((ix : Nat) : Int), .int .i64 ((cn : Nat) : Int), .slice B bs.length d'] 38)] :: R :: D :: F)) [] [(0, true), (1, true), (2, true), (3, true), (4, true), (5, true), (6, true), (7, true), (8, true), (9, true), (10, true), (11, true), (12, true), (13, true), (14, true), (15, true), (16, true), (17, true)] mixed (by kernel_rfl) (by rintro c a w ⟨_, _, h, _⟩; cases h) (by rfl) (by kernel_rfl) ?_
    replace hS := hS.drew
    refine dr_run tbOk 3 hA hS (e' := (67, .pointer (some ⟨b23, o24 + (k * 5) + 3, none⟩)) :: (66, .pointer (some ⟨b23, o24 + (k * 5), none⟩)) :: (65, .pointer (some ⟨b23, o24 + (k * 5), none⟩)) :: _) rfl ?_; clear hA; intro a hA
    refine dr_y hA rfl rfl rfl (by decide) hS (fun w' hS' => rn_load tbOk hA rfl rfl rfl rfl ((hO19.rd (hS'.own_ 2 rfl)).elemf (k := k) encPart_ok hx (j := 3) rfl)) ?_; clear hA; intro a hA
    refine dr_run tbOk 2 hA hS (e' := (70, .pointer (some ⟨b1, 4, none⟩)) :: (69, .int .i64 (((List.replicate cn false).length : Nat) : Int)) :: _) rfl ?_; clear hA; intro a hA
    refine dr_y hA rfl rfl rfl (by decide) hS (fun w' hS' => rn_load tbOk hA rfl rfl rfl rfl (cell_row (hS'.heapAt 6 rfl) rfl)) ?_; clear hA; intro a hA
    refine dr_run tbOk 2 hA hS (e' := (73, .bool ((((List.replicate cn false).length : Nat) : Int) != ((cn : Nat) : Int))) :: (72, .bool ((((List.replicate cn false).length : Nat) : Int) != ((cn : Nat) : Int))) :: _) rfl ?_; clear hA; intro a hA
    have hc27 : (((List.replicate cn false).length : Nat) : Int) = ((cn : Nat) : Int) := by omega
    replace hA := hA.rw 72 (v' := .bool false) rfl (vb_ne_f hc27)
    replace hA := hA.rw 73 (v' := .bool false) rfl (vb_ne_f hc27)
    refine dr_run tbOk 3 hA hS (e' := (76, .pointer (some ⟨b23, o24 + (k * 5) + 3, none⟩)) :: (75, .pointer (some ⟨b23, o24 + (k * 5), none⟩)) :: (74, .pointer (some ⟨b23, o24 + (k * 5), none⟩)) :: _) rfl ?_; clear hA; intro a hA
    refine dr_y hA rfl rfl rfl (by decide) hS (fun w' hS' => rn_load tbOk hA rfl rfl rfl rfl ((hO19.rd (hS'.own_ 2 rfl)).elemf (k := k) encPart_ok hx (j := 3) rfl)) ?_; clear hA; intro a hA
    refine dr_run tbOk 1 hA hS (e' := (78, .pointer (some ⟨b1, 3, none⟩)) :: _) rfl ?_; clear hA; intro a hA
    refine dr_y hA rfl rfl rfl (by decide) hS (fun w' hS' => rn_load tbOk hA rfl rfl rfl rfl (cell_row (hS'.heapAt 6 rfl) rfl)) ?_; clear hA; intro a hA
    replace hA := hA.rw 77 (v' := .slice (some ⟨b25, o26, none⟩) ((List.replicate cn false).length) cn) rfl rfl
    refine dr_y hA rfl rfl rfl (by decide) hS (fun w' hS' => rn_indexAddr tbOk hA ix (o26 + ix) rfl rfl rfl rfl rfl rfl (by rfl) (by omega) (by first | rfl | simp [Nat.mul_one, Nat.zero_add] | omega)) ?_; clear hA; intro a hA
    refine dr_y hA rfl rfl rfl (by decide) hS (fun w' hS' => rn_load tbOk hA rfl rfl rfl rfl ((hOhN.rd (hS'.own_ 5 rfl)).elem0 (k := ix) encBo_ok hF rfl)) ?_; clear hA; intro a hA
    refine dr_run tbOk 1 hA hS (e' := (82, .bool false) :: _) rfl ?_; clear hA; intro a hA
    refine dr_end ?_
    replace hA := hA.sel [0, 3, 6, 7, 82] (e' := [(0, .pointer (some ⟨b, 0, none⟩)), (3, .pointer (some ⟨b1, 0, none⟩)), (6, .int .i64 ((k : Nat) : Int)), (7, .pointer (some ⟨b23, o24 + (k * 5), none⟩)), (82, .bool false)]) rfl
    refine xt_norm ?_
    refine cd_cond_f hA rfl ?_
    refine wp_skip ?_
    refine xt_norm ?_
    refine wp_seq ?_
    replace hS := hS.front 5 (C := C9) (L' := [] :: [(b, rowO [.slice (some ⟨b23, o24, none⟩) qs.length c21] 33)] :: C19 :: [(b15, rowO [.int .i64 fr, .int .i64 to, .int .u64 id, .slice (some ⟨b25, o26, none⟩) ((List.replicate cn false).length) cn, .slice A14 ((List.replicate cn ((0, 0, 0, 0, 0, none, 0, ([] : List UInt8)) : Pkt)).length) cn] 55)] :: C13 :: [(b1, rowO [.int .i64 fr, .int .i64 to, .int .u64 id, .int .i64 ((ix : Nat) : Int), .int .i64 ((cn : Nat) : Int), .slice B bs.length d'] 38)] :: R :: D :: F) rfl rfl
    refine wp_draw (fun w' => St w0 w' ([] :: [(b, rowO [.slice (some ⟨b23, o24, none⟩) qs.length c21] 33)] :: C19 :: [(b15, rowO [.int .i64 fr, .int .i64 to, .int .u64 id, .slice (some ⟨b25, o26, none⟩) ((List.replicate cn false).length) cn, .slice A14 ((List.replicate cn ((0, 0, 0, 0, 0, none, 0, ([] : List UInt8)) : Pkt)).length) cn] 55)] :: C13 :: [(b1, rowO [.int .i64 fr, .int .i64 to, .int .u64 id, .int .i64 ((ix : Nat) : Int), .int .i64 ((cn : Nat) : Int), .slice B bs.length d'] 38)] :: R :: D :: F)) [7] [(0, true), (1, true), (2, true), (3, true), (4, true), (5, true), (6, true), (7, false)] mixed (by kernel_rfl) (by rintro c a w ⟨_, _, h, _⟩; cases h) (by rfl) (by kernel_rfl) ?_
    replace hS := hS.drew
    refine dr_run tbOk 3 hA (hS.tail 1 rfl) (e' := (85, .pointer (some ⟨b23, o24 + (k * 5) + 3, none⟩)) :: (84, .pointer (some ⟨b23, o24 + (k * 5), none⟩)) :: (83, .pointer (some ⟨b23, o24 + (k * 5), none⟩)) :: _) rfl ?_; clear hA; intro a hA
    refine dr_y hA rfl rfl rfl (by decide) (hS.tail 1 rfl) (fun w' hS' => rn_load tbOk hA rfl rfl rfl rfl ((hO19.rd (hS'.own_ 2 rfl)).elemf (k := k) encPart_ok hx (j := 3) rfl)) ?_; clear hA; intro a hA
    refine dr_run tbOk 1 hA (hS.tail 1 rfl) (e' := (87, .pointer (some ⟨b1, 3, none⟩)) :: _) rfl ?_; clear hA; intro a hA
    refine dr_y hA rfl rfl rfl (by decide) (hS.tail 1 rfl) (fun w' hS' => rn_load tbOk hA rfl rfl rfl rfl (cell_row (hS'.heapAt 5 rfl) rfl)) ?_; clear hA; intro a hA
    replace hA := hA.rw 86 (v' := .slice (some ⟨b25, o26, none⟩) ((List.replicate cn false).length) cn) rfl rfl
    refine dr_y hA rfl rfl rfl (by decide) (hS.tail 1 rfl) (fun w' hS' => rn_indexAddr tbOk hA ix (o26 + ix) rfl rfl rfl rfl rfl rfl (by rfl) (by omega) (by first | rfl | simp [Nat.mul_one, Nat.zero_add] | omega)) ?_; clear hA; intro a hA
    refine dr_b (o := _) rfl ?_
    refine st_store_own tbOk hA hOhN hS (ix) (o26 + ix) [.bool true] (rows encBo ((List.replicate cn false).set ix true)) rfl rfl rfl rfl (by rfl) rfl rfl (by intro u hu; rw [List.mem_singleton.1 hu]; rfl) (by simp only [rows_length encBo_ok, rows_length encPacket_ok, List.length_cons, List.length_nil]; omega) (by have := rows_set encBo_ok (x := true) (l := (List.replicate cn false)) (k := ix) (by omega); rw [Nat.mul_one] at this; exact this) rfl rfl ?_; clear hS; intro w28 C29 hO29 hS
    refine dr_nil (.inl (by decide)) ?_
    refine dr_end ?_
    replace hA := hA.sel [0, 3, 6, 7] (e' := [(0, .pointer (some ⟨b, 0, none⟩)), (3, .pointer (some ⟨b1, 0, none⟩)), (6, .int .i64 ((k : Nat) : Int)), (7, .pointer (some ⟨b23, o24 + (k * 5), none⟩))]) rfl
    refine xt_norm ?_
    refine wp_seq ?_
    obtain ⟨b30, o31, rfl⟩ := hOpN.isSome (k := ix) (by omega)
    replace hS := hS.front 5 (C := C13) (L' := C29 :: [] :: [(b, rowO [.slice (some ⟨b23, o24, none⟩) qs.length c21] 33)] :: C19 :: [(b15, rowO [.int .i64 fr, .int .i64 to, .int .u64 id, .slice (some ⟨b25, o26, none⟩) ((List.replicate cn false).length) cn, .slice (some ⟨b30, o31, none⟩) ((List.replicate cn ((0, 0, 0, 0, 0, none, 0, ([] : List UInt8)) : Pkt)).length) cn] 55)] :: [(b1, rowO [.int .i64 fr, .int .i64 to, .int .u64 id, .int .i64 ((ix : Nat) : Int), .int .i64 ((cn : Nat) : Int), .slice B bs.length d'] 38)] :: R :: D :: F) rfl rfl
    refine wp_draw (fun w' => St w0 w' (C29 :: [] :: [(b, rowO [.slice (some ⟨b23, o24, none⟩) qs.length c21] 33)] :: C19 :: [(b15, rowO [.int .i64 fr, .int .i64 to, .int .u64 id, .slice (some ⟨b25, o26, none⟩) ((List.replicate cn false).length) cn, .slice (some ⟨b30, o31, none⟩) ((List.replicate cn ((0, 0, 0, 0, 0, none, 0, ([] : List UInt8)) : Pkt)).length) cn] 55)] :: [(b1, rowO [.int .i64 fr, .int .i64 to, .int .u64 id, .int .i64 ((ix : Nat) : Int), .int .i64 ((cn : Nat) : Int), .slice B bs.length d'] 38)] :: R :: D :: F)) [21] [(0, true), (1, true), (2, true), (3, true), (4, true), (5, true), (6, true), (7, true), (8, true), (9, true), (10, true), (11, true), (12, true), (13, true), (14, true), (15, true), (16, true), (17, true), (18, false), (19, true), (20, true), (21, false)] mixed (by kernel_rfl) (by rintro c a w ⟨_, _, h, _⟩; cases h) (by rfl) (by kernel_rfl) ?_
    replace hS := hS.drew
    refine dr_run tbOk 3 hA (hS.tail 1 rfl) (e' := (92, .pointer (some ⟨b23, o24 + (k * 5) + 4, none⟩)) :: (91, .pointer (some ⟨b23, o24 + (k * 5), none⟩)) :: (90, .pointer (some ⟨b23, o24 + (k * 5), none⟩)) :: _) rfl ?_; clear hA; intro a hA
    refine dr_y hA rfl rfl rfl (by decide) (hS.tail 1 rfl) (fun w' hS' => rn_load tbOk hA rfl rfl rfl rfl ((hO19.rd (hS'.own_ 3 rfl)).elemf (k := k) encPart_ok hx (j := 4) rfl)) ?_; clear hA; intro a hA
    refine dr_run tbOk 1 hA (hS.tail 1 rfl) (e' := (94, .pointer (some ⟨b1, 3, none⟩)) :: _) rfl ?_; clear hA; intro a hA
    refine dr_y hA rfl rfl rfl (by decide) (hS.tail 1 rfl) (fun w' hS' => rn_load tbOk hA rfl rfl rfl rfl (cell_row (hS'.heapAt 5 rfl) rfl)) ?_; clear hA; intro a hA
    refine dr_run tbOk 1 hA (hS.tail 1 rfl) (e' := (96, .pointer (some ⟨b1, 0, none⟩)) :: _) rfl ?_; clear hA; intro a hA
    refine dr_y hA rfl rfl rfl (by decide) (hS.tail 1 rfl) (fun w' hS' => rn_load tbOk hA rfl rfl rfl rfl (cell_row (hS'.heapAt 5 rfl) rfl)) ?_; clear hA; intro a hA
    refine dr_run tbOk 1 hA (hS.tail 1 rfl) (e' := (98, .pointer (some ⟨b1, 1, none⟩)) :: _) rfl ?_; clear hA; intro a hA
    refine dr_y hA rfl rfl rfl (by decide) (hS.tail 1 rfl) (fun w' hS' => rn_load tbOk hA rfl rfl rfl rfl (cell_row (hS'.heapAt 5 rfl) rfl)) ?_; clear hA; intro a hA
    refine dr_run tbOk 1 hA (hS.tail 1 rfl) (e' := (100, .pointer (some ⟨b1, 2, none⟩)) :: _) rfl ?_; clear hA; intro a hA
    refine dr_y hA rfl rfl rfl (by decide) (hS.tail 1 rfl) (fun w' hS' => rn_load tbOk hA rfl rfl rfl rfl (cell_row (hS'.heapAt 5 rfl) rfl)) ?_; clear hA; intro a hA
    refine dr_run tbOk 1 hA (hS.tail 1 rfl) (e' := (102, .pointer (some ⟨b1, 3, none⟩)) :: _) rfl ?_; clear hA; intro a hA
    refine dr_y hA rfl rfl rfl (by decide) (hS.tail 1 rfl) (fun w' hS' => rn_load tbOk hA rfl rfl rfl rfl (cell_row (hS'.heapAt 5 rfl) rfl)) ?_; clear hA; intro a hA
    refine dr_run tbOk 1 hA (hS.tail 1 rfl) (e' := (104, .pointer (some ⟨b1, 4, none⟩)) :: _) rfl ?_; clear hA; intro a hA
    refine dr_y hA rfl rfl rfl (by decide) (hS.tail 1 rfl) (fun w' hS' => rn_load tbOk hA rfl rfl rfl rfl (cell_row (hS'.heapAt 5 rfl) rfl)) ?_; clear hA; intro a hA
    refine dr_run tbOk 1 hA (hS.tail 1 rfl) (e' := (106, .pointer (some ⟨b1, 5, none⟩)) :: _) rfl ?_; clear hA; intro a hA
    refine dr_y hA rfl rfl rfl (by decide) (hS.tail 1 rfl) (fun w' hS' => rn_load tbOk hA rfl rfl rfl rfl (cell_row (hS'.heapAt 5 rfl) rfl)) ?_; clear hA; intro a hA
    refine dr_b (o := _) rfl ?_
    refine st_call0 hA rfl rfl rfl isfn16 rfl rfl (by decide) (clonex16 hS (l := bs) (fun w' h => (hd _ (h.tail 8 rfl))) (by first | omega | (simp; omega))) ?_
    clear hA hS; rintro _ w35 a ⟨A32, c33, C34, hOC34, rfl, hS⟩ hA
    refine dr_nil (.inr (hS.tail 2 rfl)) ?_
    refine dr_y hA rfl rfl rfl (by decide) (hS.tail 2 rfl) (fun w' hS' => rn_build tbOk hA rfl rfl rfl rfl rfl rfl rfl) ?_; clear hA; intro a hA
    replace hA := hA.rw 93 (v' := .slice (some ⟨b30, o31, none⟩) ((List.replicate cn ((0, 0, 0, 0, 0, none, 0, ([] : List UInt8)) : Pkt)).length) cn) rfl rfl
    refine dr_y hA rfl rfl rfl (by decide) (hS.tail 2 rfl) (fun w' hS' => rn_indexAddr tbOk hA ix (o31 + (ix * 6)) rfl rfl rfl rfl rfl rfl (by rfl) (by omega) (by first | rfl | simp [Nat.mul_one, Nat.zero_add] | omega)) ?_; clear hA; intro a hA
    refine dr_b (o := _) rfl ?_
    replace hS := hS.front 1 (C := C13) (L' := C34 :: C29 :: [] :: [(b, rowO [.slice (some ⟨b23, o24, none⟩) qs.length c21] 33)] :: C19 :: [(b15, rowO [.int .i64 fr, .int .i64 to, .int .u64 id, .slice (some ⟨b25, o26, none⟩) ((List.replicate cn false).length) cn, .slice (some ⟨b30, o31, none⟩) ((List.replicate cn ((0, 0, 0, 0, 0, none, 0, ([] : List UInt8)) : Pkt)).length) cn] 55)] :: [(b1, rowO [.int .i64 fr, .int .i64 to, .int .u64 id, .int .i64 ((ix : Nat) : Int), .int .i64 ((cn : Nat) : Int), .slice B bs.length d'] 38)] :: R :: D :: F) rfl rfl
    refine st_store_own tbOk hA hOpN hS ((ix * 6)) (o31 + (ix * 6)) [.int .i64 fr, .int .i64 to, .int .u64 id, .int .i64 ((ix : Nat) : Int), .int .i64 ((cn : Nat) : Int), .slice A32 bs.length c33] (rows encPacket ((List.replicate cn ((0, 0, 0, 0, 0, none, 0, ([] : List UInt8)) : Pkt)).set ix (fr, to, id, ((ix : Nat) : Int), ((cn : Nat) : Int), A32, c33, bs))) rfl rfl rfl rfl (by rfl) rfl rfl (by exact encPacket_ok.one (fr, to, id, ((ix : Nat) : Int), ((cn : Nat) : Int), A32, c33, bs)) (by simp only [rows_length encBo_ok, rows_length encPacket_ok, List.length_cons, List.length_nil]; omega) (rows_set encPacket_ok (x := (fr, to, id, ((ix : Nat) : Int), ((cn : Nat) : Int), A32, c33, bs)) (l := (List.replicate cn ((0, 0, 0, 0, 0, none, 0, ([] : List UInt8)) : Pkt))) (k := ix) (by omega)) rfl rfl ?_; clear hS; intro w36 C37 hO37 hS
    refine dr_nil (.inl (by decide)) ?_
    refine dr_end ?_
    replace hA := hA.sel [0, 6, 7] (e' := [(0, .pointer (some ⟨b, 0, none⟩)), (6, .int .i64 ((k : Nat) : Int)), (7, .pointer (some ⟨b23, o24 + (k * 5), none⟩))]) rfl
    refine xt_norm ?_
    refine wp_seq ?_
    refine wp_seq ?_
    refine wp_region_lit ?_
    refine st_run tbOk 3 hA (e' := (113, .pointer (some ⟨b23, o24 + (k * 5) + 3, none⟩)) :: (112, .pointer (some ⟨b23, o24 + (k * 5), none⟩)) :: (111, .pointer (some ⟨b23, o24 + (k * 5), none⟩)) :: _) rfl ?_; clear hA; intro a hA
    refine st_val hA rfl rfl (by decide) (rn_load tbOk hA rfl rfl rfl rfl ((hO19.rd (hS.own_ 5 rfl)).elemf (k := k) encPart_ok hx (j := 3) rfl)) ?_; clear hA; intro a hA
    have hOh2 : Own 4 1 (.slice (some ⟨b25, o26, none⟩) ((List.replicate cn false).set ix true).length cn) ((List.replicate cn false).set ix true).length (rows encBo ((List.replicate cn false).set ix true)) C29 := by rw [List.length_set]; exact hO29
    replace hA := hA.rw 114 (v' := .slice (some ⟨b25, o26, none⟩) (((List.replicate cn false).set ix true).length) cn) rfl (by rw [List.length_set])
    refine st_call0 hA rfl rfl rfl isfn17 rfl rfl (by decide) (containsb17 hS (l := (List.replicate cn false).set ix true) (RdS.own hOh2 2 rfl)) ?_
    clear hA hS; rintro v w38 a ⟨rfl, hS⟩ hA
    replace hA := hA.rw 115 (v' := .bool false) rfl (congrArg Value.bool hany)
    refine wpList_nil ?_
    replace hA := hA.sel [0, 6, 7, 115] (e' := [(0, .pointer (some ⟨b, 0, none⟩)), (6, .int .i64 ((k : Nat) : Int)), (7, .pointer (some ⟨b23, o24 + (k * 5), none⟩)), (115, .bool false)]) rfl
    refine xt_norm ?_
    refine cd_cond_f hA rfl ?_
    refine wp_skip ?_
    refine xt_norm ?_
    refine wp_seq ?_
    refine wp_region_lit ?_
    refine st_run tbOk 3 hA (e' := (119, .pointer (some ⟨b23, o24 + (k * 5) + 4, none⟩)) :: (118, .pointer (some ⟨b23, o24 + (k * 5), none⟩)) :: (117, .pointer (some ⟨b23, o24 + (k * 5), none⟩)) :: _) rfl ?_; clear hA; intro a hA
    refine st_val hA rfl rfl (by decide) (rn_load tbOk hA rfl rfl rfl rfl ((hO19.rd (hS.own_ 5 rfl)).elemf (k := k) encPart_ok hx (j := 4) rfl)) ?_; clear hA; intro a hA
    have hOp2 : Own 38 6 (.slice (some ⟨b30, o31, none⟩) ((List.replicate cn ((0, 0, 0, 0, 0, none, 0, ([] : List UInt8)) : Pkt)).set ix (fr, to, id, ((ix : Nat) : Int), ((cn : Nat) : Int), A32, c33, bs)).length cn) ((List.replicate cn ((0, 0, 0, 0, 0, none, 0, ([] : List UInt8)) : Pkt)).set ix (fr, to, id, ((ix : Nat) : Int), ((cn : Nat) : Int), A32, c33, bs)).length (rows encPacket ((List.replicate cn ((0, 0, 0, 0, 0, none, 0, ([] : List UInt8)) : Pkt)).set ix (fr, to, id, ((ix : Nat) : Int), ((cn : Nat) : Int), A32, c33, bs))) C37 := by rw [List.length_set]; exact hO37
    replace hA := hA.rw 120 (v' := .slice (some ⟨b30, o31, none⟩) (((List.replicate cn ((0, 0, 0, 0, 0, none, 0, ([] : List UInt8)) : Pkt)).set ix (fr, to, id, ((ix : Nat) : Int), ((cn : Nat) : Int), A32, c33, bs)).length) cn) rfl (by rw [List.length_set])
    replace hS := hS.front 9 (C := D) (L' := C37 :: C34 :: C29 :: [] :: [(b, rowO [.slice (some ⟨b23, o24, none⟩) qs.length c21] 33)] :: C19 :: [(b15, rowO [.int .i64 fr, .int .i64 to, .int .u64 id, .slice (some ⟨b25, o26, none⟩) ((List.replicate cn false).length) cn, .slice (some ⟨b30, o31, none⟩) ((List.replicate cn ((0, 0, 0, 0, 0, none, 0, ([] : List UInt8)) : Pkt)).length) cn] 55)] :: [(b1, rowO [.int .i64 fr, .int .i64 to, .int .u64 id, .int .i64 ((ix : Nat) : Int), .int .i64 ((cn : Nat) : Int), .slice B bs.length d'] 38)] :: R :: F) rfl rfl
    replace hS := hS.front 2 (C := C34) (L' := D :: C37 :: C29 :: [] :: [(b, rowO [.slice (some ⟨b23, o24, none⟩) qs.length c21] 33)] :: C19 :: [(b15, rowO [.int .i64 fr, .int .i64 to, .int .u64 id, .slice (some ⟨b25, o26, none⟩) ((List.replicate cn false).length) cn, .slice (some ⟨b30, o31, none⟩) ((List.replicate cn ((0, 0, 0, 0, 0, none, 0, ([] : List UInt8)) : Pkt)).length) cn] 55)] :: [(b1, rowO [.int .i64 fr, .int .i64 to, .int .u64 id, .int .i64 ((ix : Nat) : Int), .int .i64 ((cn : Nat) : Int), .slice B bs.length d'] 38)] :: R :: F) rfl rfl
    replace hS := hS.join
    have hdE := (DD.new (w0 := w0) hOC34).right (E := D)
    have hPI2 : PI (fr, to, id, (some ⟨b25, o26, none⟩), cn, (List.replicate cn false).set ix true, (some ⟨b30, o31, none⟩), cn, (List.replicate cn ((0, 0, 0, 0, 0, none, 0, ([] : List UInt8)) : Pkt)).set ix (fr, to, id, ((ix : Nat) : Int), ((cn : Nat) : Int), A32, c33, bs)) := hPI.put (by omega) (by omega) (by omega) _ _
    have hpd : ∀ y ∈ (List.replicate cn ((0, 0, 0, 0, 0, none, 0, ([] : List UInt8)) : Pkt)).set ix (fr, to, id, ((ix : Nat) : Int), ((cn : Nat) : Int), A32, c33, bs), encPacket_dd w0 (C34 ++ D) y := fun y hy => (List.mem_or_eq_of_mem_set hy).elim (fun hy => encPacket_left (hpk2 y hy)) (fun e => by rw [e]; exact hdE)
    refine st_call0 hA rfl rfl rfl isfn18 rfl rfl (by decide) (join18 hS (ps := (List.replicate cn ((0, 0, 0, 0, 0, none, 0, ([] : List UInt8)) : Pkt)).set ix (fr, to, id, ((ix : Nat) : Int), ((cn : Nat) : Int), A32, c33, bs)) (RdS.own hOp2 1 rfl) hpd) ?_
    clear hA hS; rintro _ w39 a ⟨C41, v40, ou44, hO41, hjC41, hS⟩ hA
    obtain ⟨A42, c43, rfl, hmc43, hxc43⟩ := hO41.open'
    obtain ⟨-, rfl, rfl⟩ := hjC41.resolve_right (fun h => h.1 (hPI2.allfit hany))
    refine st_run tbOk 5 hA (e' := (9, .bool (decide (((((List.replicate cn ((0, 0, 0, 0, 0, none, 0, ([] : List UInt8)) : Pkt)).set ix (fr, to, id, ((ix : Nat) : Int), ((cn : Nat) : Int), A32, c33, bs)).length : Nat) : Int) > 0))) :: (8, .slice A42 ((cat ((List.replicate cn ((0, 0, 0, 0, 0, none, 0, ([] : List UInt8)) : Pkt)).set ix (fr, to, id, ((ix : Nat) : Int), ((cn : Nat) : Int), A32, c33, bs)) ((List.replicate cn ((0, 0, 0, 0, 0, none, 0, ([] : List UInt8)) : Pkt)).set ix (fr, to, id, ((ix : Nat) : Int), ((cn : Nat) : Int), A32, c33, bs)).length).length) c43) :: (123, .bool (decide (((((List.replicate cn ((0, 0, 0, 0, 0, none, 0, ([] : List UInt8)) : Pkt)).set ix (fr, to, id, ((ix : Nat) : Int), ((cn : Nat) : Int), A32, c33, bs)).length : Nat) : Int) > 0))) :: (122, .slice A42 ((cat ((List.replicate cn ((0, 0, 0, 0, 0, none, 0, ([] : List UInt8)) : Pkt)).set ix (fr, to, id, ((ix : Nat) : Int), ((cn : Nat) : Int), A32, c33, bs)) ((List.replicate cn ((0, 0, 0, 0, 0, none, 0, ([] : List UInt8)) : Pkt)).set ix (fr, to, id, ((ix : Nat) : Int), ((cn : Nat) : Int), A32, c33, bs)).length).length) c43) :: (116, .tuple #[.slice A42 ((cat ((List.replicate cn ((0, 0, 0, 0, 0, none, 0, ([] : List UInt8)) : Pkt)).set ix (fr, to, id, ((ix : Nat) : Int), ((cn : Nat) : Int), A32, c33, bs)) ((List.replicate cn ((0, 0, 0, 0, 0, none, 0, ([] : List UInt8)) : Pkt)).set ix (fr, to, id, ((ix : Nat) : Int), ((cn : Nat) : Int), A32, c33, bs)).length).length) c43, .bool (decide (((((List.replicate cn ((0, 0, 0, 0, 0, none, 0, ([] : List UInt8)) : Pkt)).set ix (fr, to, id, ((ix : Nat) : Int), ((cn : Nat) : Int), A32, c33, bs)).length : Nat) : Int) > 0))]) :: _) rfl ?_; clear hA; intro a hA
    refine wpList_nil ?_
    replace hA := hA.sel [0, 6, 8, 9] (e' := [(0, .pointer (some ⟨b, 0, none⟩)), (6, .int .i64 ((k : Nat) : Int)), (8, .slice A42 ((cat ((List.replicate cn ((0, 0, 0, 0, 0, none, 0, ([] : List UInt8)) : Pkt)).set ix (fr, to, id, ((ix : Nat) : Int), ((cn : Nat) : Int), A32, c33, bs)) ((List.replicate cn ((0, 0, 0, 0, 0, none, 0, ([] : List UInt8)) : Pkt)).set ix (fr, to, id, ((ix : Nat) : Int), ((cn : Nat) : Int), A32, c33, bs)).length).length) c43), (9, .bool (decide (((((List.replicate cn ((0, 0, 0, 0, 0, none, 0, ([] : List UInt8)) : Pkt)).set ix (fr, to, id, ((ix : Nat) : Int), ((cn : Nat) : Int), A32, c33, bs)).length : Nat) : Int) > 0)))]) rfl
    refine xt_norm ?_
    refine wp_seq ?_
    refine wp_region_lit ?_
    refine st_run tbOk 4 hA (e' := (127, .pointer (some ⟨b, 0, none⟩)) :: (126, .pointer (some ⟨b, 0, none⟩)) :: (125, .pointer (some ⟨b, 0, none⟩)) :: (124, .pointer (some ⟨b, 0, none⟩)) :: _) rfl ?_; clear hA; intro a hA
    refine st_val hA rfl rfl (by decide) (rn_load tbOk hA rfl rfl rfl rfl (cell_row (hS.heapAt 5 rfl) rfl)) ?_; clear hA; intro a hA
    refine st_run tbOk 3 hA (e' := (131, .int .i64 (IntKind.i64.wrap (((k : Nat) : Int) + 1))) :: (130, .int .i64 ((k : Nat) : Int)) :: (129, .int .i64 ((k : Nat) : Int)) :: _) rfl ?_; clear hA; intro a hA
    replace hA := hA.rw 131 (v' := .int .i64 ((k + 1 : Nat) : Int)) rfl (wr64 (by omega) (by omega) (by omega))
    replace hS := hS.front 6 (C := C19) (L' := C41 :: (C34 ++ D) :: C37 :: C29 :: [] :: [(b, rowO [.slice (some ⟨b23, o24, none⟩) qs.length c21] 33)] :: [(b15, rowO [.int .i64 fr, .int .i64 to, .int .u64 id, .slice (some ⟨b25, o26, none⟩) ((List.replicate cn false).length) cn, .slice (some ⟨b30, o31, none⟩) ((List.replicate cn ((0, 0, 0, 0, 0, none, 0, ([] : List UInt8)) : Pkt)).length) cn] 55)] :: [(b1, rowO [.int .i64 fr, .int .i64 to, .int .u64 id, .int .i64 ((ix : Nat) : Int), .int .i64 ((cn : Nat) : Int), .slice B bs.length d'] 38)] :: R :: F) rfl rfl
    refine st_call0 hA rfl rfl rfl isfn15 rfl rfl (by decide) (delete15 hS (l := qs) hO19 k (k + 1) (by omega) (by first | omega | (simp; omega))) ?_
    clear hA hS; rintro v45 w46 a ⟨C47, hO47, hS⟩ hA
    obtain ⟨A48, c49, rfl, hmc49, hxc49⟩ := hO47.open'
    refine st_run tbOk 2 hA (e' := (134, .pointer (some ⟨b, 0, none⟩)) :: (133, .pointer (some ⟨b, 0, none⟩)) :: _) rfl ?_; clear hA; intro a hA
    replace hS := hS.front 6 (C := [(b, rowO [.slice (some ⟨b23, o24, none⟩) qs.length c21] 33)]) (L' := C47 :: C41 :: (C34 ++ D) :: C37 :: C29 :: [] :: [(b15, rowO [.int .i64 fr, .int .i64 to, .int .u64 id, .slice (some ⟨b25, o26, none⟩) ((List.replicate cn false).length) cn, .slice (some ⟨b30, o31, none⟩) ((List.replicate cn ((0, 0, 0, 0, 0, none, 0, ([] : List UInt8)) : Pkt)).length) cn] 55)] :: [(b1, rowO [.int .i64 fr, .int .i64 to, .int .u64 id, .int .i64 ((ix : Nat) : Int), .int .i64 ((cn : Nat) : Int), .slice B bs.length d'] 38)] :: R :: F) rfl rfl
    refine st_store tbOk hA hS [.slice A48 ((qs.take k ++ qs.drop (k + 1)).length) c49] [.slice A48 ((qs.take k ++ qs.drop (k + 1)).length) c49] rfl rfl rfl rfl rfl rfl (by intro u hu; rw [List.mem_singleton.1 hu]; rfl) (Nat.le_of_ble_eq_true rfl) rfl rfl rfl ?_; clear hS; intro w50 hS
    refine wpList_nil ?_
    replace hA := hA.sel [8, 9] (e' := [(8, .slice A42 ((cat ((List.replicate cn ((0, 0, 0, 0, 0, none, 0, ([] : List UInt8)) : Pkt)).set ix (fr, to, id, ((ix : Nat) : Int), ((cn : Nat) : Int), A32, c33, bs)) ((List.replicate cn ((0, 0, 0, 0, 0, none, 0, ([] : List UInt8)) : Pkt)).set ix (fr, to, id, ((ix : Nat) : Int), ((cn : Nat) : Int), A32, c33, bs)).length).length) c43), (9, .bool (decide (((((List.replicate cn ((0, 0, 0, 0, 0, none, 0, ([] : List UInt8)) : Pkt)).set ix (fr, to, id, ((ix : Nat) : Int), ((cn : Nat) : Int), A32, c33, bs)).length : Nat) : Int) > 0)))]) rfl
    refine xt_norm ?_
    refine wp_seq ?_
    refine wp_region_lit ?_
    refine st_run tbOk 4 hA (e' := (5, .bool (decide (((((List.replicate cn ((0, 0, 0, 0, 0, none, 0, ([] : List UInt8)) : Pkt)).set ix (fr, to, id, ((ix : Nat) : Int), ((cn : Nat) : Int), A32, c33, bs)).length : Nat) : Int) > 0))) :: (4, .slice A42 ((cat ((List.replicate cn ((0, 0, 0, 0, 0, none, 0, ([] : List UInt8)) : Pkt)).set ix (fr, to, id, ((ix : Nat) : Int), ((cn : Nat) : Int), A32, c33, bs)) ((List.replicate cn ((0, 0, 0, 0, 0, none, 0, ([] : List UInt8)) : Pkt)).set ix (fr, to, id, ((ix : Nat) : Int), ((cn : Nat) : Int), A32, c33, bs)).length).length) c43) :: (136, .bool (decide (((((List.replicate cn ((0, 0, 0, 0, 0, none, 0, ([] : List UInt8)) : Pkt)).set ix (fr, to, id, ((ix : Nat) : Int), ((cn : Nat) : Int), A32, c33, bs)).length : Nat) : Int) > 0))) :: (135, .slice A42 ((cat ((List.replicate cn ((0, 0, 0, 0, 0, none, 0, ([] : List UInt8)) : Pkt)).set ix (fr, to, id, ((ix : Nat) : Int), ((cn : Nat) : Int), A32, c33, bs)) ((List.replicate cn ((0, 0, 0, 0, 0, none, 0, ([] : List UInt8)) : Pkt)).set ix (fr, to, id, ((ix : Nat) : Int), ((cn : Nat) : Int), A32, c33, bs)).length).length) c43) :: _) rfl ?_; clear hA; intro a hA
    refine wpList_nil ?_
    replace hA := hA.sel [4, 5] (e' := [(4, .slice A42 ((cat ((List.replicate cn ((0, 0, 0, 0, 0, none, 0, ([] : List UInt8)) : Pkt)).set ix (fr, to, id, ((ix : Nat) : Int), ((cn : Nat) : Int), A32, c33, bs)) ((List.replicate cn ((0, 0, 0, 0, 0, none, 0, ([] : List UInt8)) : Pkt)).set ix (fr, to, id, ((ix : Nat) : Int), ((cn : Nat) : Int), A32, c33, bs)).length).length) c43), (5, .bool (decide (((((List.replicate cn ((0, 0, 0, 0, 0, none, 0, ([] : List UInt8)) : Pkt)).set ix (fr, to, id, ((ix : Nat) : Int), ((cn : Nat) : Int), A32, c33, bs)).length : Nat) : Int) > 0)))]) rfl
    refine xt_norm ?_
    refine wp_ret ?_
    refine ret2 (fn := Try.f9) hA rfl rfl rfl ?_
    replace hS := hS.front 4 (C := C37) (L' := [(b, rowO [.slice A48 ((qs.take k ++ qs.drop (k + 1)).length) c49] 33)] :: C47 :: C41 :: (C34 ++ D) :: C29 :: [] :: [(b15, rowO [.int .i64 fr, .int .i64 to, .int .u64 id, .slice (some ⟨b25, o26, none⟩) ((List.replicate cn false).length) cn, .slice (some ⟨b30, o31, none⟩) ((List.replicate cn ((0, 0, 0, 0, 0, none, 0, ([] : List UInt8)) : Pkt)).length) cn] 55)] :: [(b1, rowO [.int .i64 fr, .int .i64 to, .int .u64 id, .int .i64 ((ix : Nat) : Int), .int .i64 ((cn : Nat) : Int), .slice B bs.length d'] 38)] :: R :: F) rfl rfl
    replace hS := hS.drop1
    replace hS := hS.front 4 (C := C29) (L' := [(b, rowO [.slice A48 ((qs.take k ++ qs.drop (k + 1)).length) c49] 33)] :: C47 :: C41 :: (C34 ++ D) :: [] :: [(b15, rowO [.int .i64 fr, .int .i64 to, .int .u64 id, .slice (some ⟨b25, o26, none⟩) ((List.replicate cn false).length) cn, .slice (some ⟨b30, o31, none⟩) ((List.replicate cn ((0, 0, 0, 0, 0, none, 0, ([] : List UInt8)) : Pkt)).length) cn] 55)] :: [(b1, rowO [.int .i64 fr, .int .i64 to, .int .u64 id, .int .i64 ((ix : Nat) : Int), .int .i64 ((cn : Nat) : Int), .slice B bs.length d'] 38)] :: R :: F) rfl rfl
    replace hS := hS.drop1
    replace hS := hS.front 5 (C := [(b15, rowO [.int .i64 fr, .int .i64 to, .int .u64 id, .slice (some ⟨b25, o26, none⟩) ((List.replicate cn false).length) cn, .slice (some ⟨b30, o31, none⟩) ((List.replicate cn ((0, 0, 0, 0, 0, none, 0, ([] : List UInt8)) : Pkt)).length) cn] 55)]) (L' := [(b, rowO [.slice A48 ((qs.take k ++ qs.drop (k + 1)).length) c49] 33)] :: C47 :: C41 :: (C34 ++ D) :: [] :: [(b1, rowO [.int .i64 fr, .int .i64 to, .int .u64 id, .int .i64 ((ix : Nat) : Int), .int .i64 ((cn : Nat) : Int), .slice B bs.length d'] 38)] :: R :: F) rfl rfl
    replace hS := hS.drop1
    replace hS := hS.front 5 (C := [(b1, rowO [.int .i64 fr, .int .i64 to, .int .u64 id, .int .i64 ((ix : Nat) : Int), .int .i64 ((cn : Nat) : Int), .slice B bs.length d'] 38)]) (L' := [(b, rowO [.slice A48 ((qs.take k ++ qs.drop (k + 1)).length) c49] 33)] :: C47 :: C41 :: (C34 ++ D) :: [] :: R :: F) rfl rfl
    replace hS := hS.drop1
    replace hS := hS.front 2 (C := C41) (L' := [(b, rowO [.slice A48 ((qs.take k ++ qs.drop (k + 1)).length) c49] 33)] :: C47 :: (C34 ++ D) :: [] :: R :: F) rfl rfl
    replace hS := hS.front 3 (C := (C34 ++ D)) (L' := C41 :: [(b, rowO [.slice A48 ((qs.take k ++ qs.drop (k + 1)).length) c49] 33)] :: C47 :: [] :: R :: F) rfl rfl
    replace hS := hS.front 4 (C := []) (L' := (C34 ++ D) :: C41 :: [(b, rowO [.slice A48 ((qs.take k ++ qs.drop (k + 1)).length) c49] 33)] :: C47 :: R :: F) rfl rfl
    replace hS := hS.front 5 (C := R) (L' := [] :: (C34 ++ D) :: C41 :: [(b, rowO [.slice A48 ((qs.take k ++ qs.drop (k + 1)).length) c49] 33)] :: C47 :: F) rfl rfl
    replace hS := hS.front 5 (C := C47) (L' := R :: [] :: (C34 ++ D) :: C41 :: [(b, rowO [.slice A48 ((qs.take k ++ qs.drop (k + 1)).length) c49] 33)] :: F) rfl rfl
    replace hS := hS.front 5 (C := [(b, rowO [.slice A48 ((qs.take k ++ qs.drop (k + 1)).length) c49] 33)]) (L' := C47 :: R :: [] :: (C34 ++ D) :: C41 :: F) rfl rfl
    replace hS := hS.front 5 (C := C41) (L' := [(b, rowO [.slice A48 ((qs.take k ++ qs.drop (k + 1)).length) c49] 33)] :: C47 :: R :: [] :: (C34 ++ D) :: F) rfl rfl
    replace hS := hS.front 5 (C := (C34 ++ D)) (L' := C41 :: [(b, rowO [.slice A48 ((qs.take k ++ qs.drop (k + 1)).length) c49] 33)] :: C47 :: R :: [] :: F) rfl rfl
    replace hS := hS.front 5 (C := []) (L' := (C34 ++ D) :: C41 :: [(b, rowO [.slice A48 ((qs.take k ++ qs.drop (k + 1)).length) c49] 33)] :: C47 :: R :: F) rfl rfl
    replace hS := hS.front 5 (C := R) (L' := [] :: (C34 ++ D) :: C41 :: [(b, rowO [.slice A48 ((qs.take k ++ qs.drop (k + 1)).length) c49] 33)] :: C47 :: F) rfl rfl
    replace hS := hS.join
    replace hS := hS.front 4 (C := C47) (L' := (R ++ []) :: (C34 ++ D) :: C41 :: [(b, rowO [.slice A48 ((qs.take k ++ qs.drop (k + 1)).length) c49] 33)] :: F) rfl rfl
    replace hS := hS.front 4 (C := [(b, rowO [.slice A48 ((qs.take k ++ qs.drop (k + 1)).length) c49] 33)]) (L' := C47 :: (R ++ []) :: (C34 ++ D) :: C41 :: F) rfl rfl
    replace hS := hS.join3
    have hmp : (qs.take k ++ qs.drop (k + 1)).map gv = ps.map gv := by rw [List.map_append, List.map_take, List.map_drop]; rw [hqs, new_del hk]
    have hcd : cat ((List.replicate cn ((0, 0, 0, 0, 0, none, 0, ([] : List UInt8)) : Pkt)).set ix (fr, to, id, ((ix : Nat) : Int), ((cn : Nat) : Int), A32, c33, bs)) ((List.replicate cn ((0, 0, 0, 0, 0, none, 0, ([] : List UInt8)) : Pkt)).set ix (fr, to, id, ((ix : Nat) : Int), ((cn : Nat) : Int), A32, c33, bs)).length = ((List.replicate cn []).set ix bs).flatten := by rw [cat_dat, List.map_set]; rw [List.map_replicate]; rfl
    have hpos : decide (((((List.replicate cn ((0, 0, 0, 0, 0, none, 0, ([] : List UInt8)) : Pkt)).set ix (fr, to, id, ((ix : Nat) : Int), ((cn : Nat) : Int), A32, c33, bs)).length : Nat) : Int) > 0) = true := decide_eq_true (by rw [List.length_set]; omega)
    rw [hcd] at hO41
    exact ⟨_, C34, _, _, ⟨_, _, _, _, hO47, rfl, PO.app hR1 hR2, sub_all hI2, encs_left (sub_all hdd2), hmp⟩, hO41, by rw [hcd, hpos], hS⟩
  · refine dr_b (o := _) rfl ?_
    refine st_makeSlice tbOk hA hS cn encPacket_ok (by decide) (0, 0, 0, 0, 0, none, 0, ([] : List UInt8)) rfl rfl rfl rfl rfl rfl rfl rfl (by show 64 * cn ≤ 281474976710656; omega) (by omega) rfl rfl (by decide) ?_; clear hA hS; intro b51 w52 a hS hA
    obtain ⟨C53, hO53, hS⟩ : ∃ Cq9, Own 38 6 (.slice (some ⟨b51, 0, none⟩) cn cn) cn (rows encPacket (List.replicate cn (0, 0, 0, 0, 0, none, 0, ([] : List UInt8)))) Cq9 ∧ St w0 w52 (Cq9 :: C :: [(b, rowO [.slice A ps.length c] 33)] :: [(b1, rowO [.int .i64 fr, .int .i64 to, .int .u64 id, .int .i64 ((ix : Nat) : Int), .int .i64 ((cn : Nat) : Int), .slice B bs.length d'] 38)] :: R :: D :: F) := ⟨_, Own.full (by rw [rows_length encPacket_ok, List.length_replicate]) (by show cn ≤ 9223372036854775807; omega), hS⟩
    generalize (some (⟨b51, 0, none⟩ : Addr)) = A54 at hO53 hA
    refine dr_nil (.inr (hS.tail 2 rfl)) ?_
    refine dr_subL ?_
    refine dr_b (o := _) rfl ?_
    refine st_makeSlice tbOk hA hS cn encBo_ok (by decide) false rfl rfl rfl rfl rfl rfl rfl rfl (by show 1 * cn ≤ 281474976710656; omega) (by omega) rfl rfl (by decide) ?_; clear hA hS; intro b55 w56 a hS hA
    obtain ⟨C57, hO57, hS⟩ : ∃ Cq9, Own 4 1 (.slice (some ⟨b55, 0, none⟩) cn cn) cn (rows encBo (List.replicate cn false)) Cq9 ∧ St w0 w56 (Cq9 :: C53 :: C :: [(b, rowO [.slice A ps.length c] 33)] :: [(b1, rowO [.int .i64 fr, .int .i64 to, .int .u64 id, .int .i64 ((ix : Nat) : Int), .int .i64 ((cn : Nat) : Int), .slice B bs.length d'] 38)] :: R :: D :: F) := ⟨_, Own.full (by rw [rows_length encBo_ok, List.length_replicate]) (by show cn ≤ 9223372036854775807; omega), hS⟩
    generalize (some (⟨b55, 0, none⟩ : Addr)) = A58 at hO57 hA
    refine dr_nil (.inr (hS.tail 3 rfl)) ?_
    replace hA := hA.rw 50 (v' := .slice A58 ((List.replicate cn false).length) cn) rfl (by rw [List.length_replicate])
    replace hA := hA.rw 53 (v' := .slice A54 ((List.replicate cn ((0, 0, 0, 0, 0, none, 0, ([] : List UInt8)) : Pkt)).length) cn) rfl (by rw [List.length_replicate])
    refine dr_y hA rfl rfl rfl (by decide) (hS.tail 3 rfl) (fun w' hS' => rn_build tbOk hA rfl rfl rfl rfl rfl rfl rfl) ?_; clear hA; intro a hA
    refine dr_b (o := _) rfl ?_
    refine st_buildSlice tbOk hA hS [.int .i64 fr, .int .i64 to, .int .u64 id, .slice A58 ((List.replicate cn false).length) cn, .slice A54 ((List.replicate cn ((0, 0, 0, 0, 0, none, 0, ([] : List UInt8)) : Pkt)).length) cn] rfl rfl rfl rfl rfl (by decide) (by kernel_rfl) rfl rfl (by decide) ?_; clear hA hS; intro b59 w60 a hS hA
    refine dr_nil (.inr (hS.tail 4 rfl)) ?_
    refine dr_b (o := _) rfl ?_
    replace hS := hS.front 3 (C := C) (L' := [(b59, rowO [.int .i64 fr, .int .i64 to, .int .u64 id, .slice A58 ((List.replicate cn false).length) cn, .slice A54 ((List.replicate cn ((0, 0, 0, 0, 0, none, 0, ([] : List UInt8)) : Pkt)).length) cn] 55)] :: C57 :: C53 :: [(b, rowO [.slice A ps.length c] 33)] :: [(b1, rowO [.int .i64 fr, .int .i64 to, .int .u64 id, .int .i64 ((ix : Nat) : Int), .int .i64 ((cn : Nat) : Int), .slice B bs.length d'] 38)] :: R :: D :: F) rfl rfl
    refine st_append tbOk hA (m := ps.length) (q := 1) (xs := rows encPart ps) (news := rows encPart ([(fr, to, id, A58, cn, (List.replicate cn false), A54, cn, (List.replicate cn ((0, 0, 0, 0, 0, none, 0, ([] : List UInt8)) : Pkt)))] : List (Int × Int × Int × Option Addr × Nat × List Bool × Option Addr × Nat × List Pkt))) rfl rfl rfl rfl rfl rfl rfl rfl (by decide) hO hS (((Own.full (T := 55) (size := 5) (g := b59) (m := 1) rfl (by decide)).rd (hS.own_ 1 rfl)).x) (rows_one encPart_ok _) (maxLen_le (by first | omega | (simp; omega))) (by show (ps.length + 1) * 72 ≤ 140737488355328; first | omega | (simp; omega)) rfl rfl (by decide) ?_
    clear hA hS; intro v61 w62 C63 a hO63 hS hA
    replace hO63 := Own.app (l := ps) (l2 := ([(fr, to, id, A58, cn, (List.replicate cn false), A54, cn, (List.replicate cn ((0, 0, 0, 0, 0, none, 0, ([] : List UInt8)) : Pkt)))] : List (Int × Int × Int × Option Addr × Nat × List Bool × Option Addr × Nat × List Pkt))) hO63
    obtain ⟨A64, c65, rfl, hmc65, hxc65⟩ := hO63.open'
    refine dr_nil (.inr (hS.tail 4 rfl)) ?_
    refine dr_run tbOk 2 hA (hS.tail 4 rfl) (e' := (58, .pointer (some ⟨b, 0, none⟩)) :: (57, .pointer (some ⟨b, 0, none⟩)) :: _) rfl ?_; clear hA; intro a hA
    refine dr_b (o := _) rfl ?_
    replace hS := hS.front 4 (C := [(b, rowO [.slice A ps.length c] 33)]) (L' := C63 :: [(b59, rowO [.int .i64 fr, .int .i64 to, .int .u64 id, .slice A58 ((List.replicate cn false).length) cn, .slice A54 ((List.replicate cn ((0, 0, 0, 0, 0, none, 0, ([] : List UInt8)) : Pkt)).length) cn] 55)] :: C57 :: C53 :: [(b1, rowO [.int .i64 fr, .int .i64 to, .int .u64 id, .int .i64 ((ix : Nat) : Int), .int .i64 ((cn : Nat) : Int), .slice B bs.length d'] 38)] :: R :: D :: F) rfl rfl
    refine st_store tbOk hA hS [.slice A64 ((ps ++ ([(fr, to, id, A58, cn, (List.replicate cn false), A54, cn, (List.replicate cn ((0, 0, 0, 0, 0, none, 0, ([] : List UInt8)) : Pkt)))] : List (Int × Int × Int × Option Addr × Nat × List Bool × Option Addr × Nat × List Pkt))).length) c65] [.slice A64 ((ps ++ ([(fr, to, id, A58, cn, (List.replicate cn false), A54, cn, (List.replicate cn ((0, 0, 0, 0, 0, none, 0, ([] : List UInt8)) : Pkt)))] : List (Int × Int × Int × Option Addr × Nat × List Bool × Option Addr × Nat × List Pkt))).length) c65] rfl rfl rfl rfl rfl rfl (by intro u hu; rw [List.mem_singleton.1 hu]; rfl) (Nat.le_of_ble_eq_true rfl) rfl rfl rfl ?_; clear hS; intro w66 hS
    refine dr_nil (.inl (by decide)) ?_
    refine dr_end ?_
    replace hA := hA.sel [0, 3, 6] (e' := [(0, .pointer (some ⟨b, 0, none⟩)), (3, .pointer (some ⟨b1, 0, none⟩)), (6, .int .i64 ((ps.length : Nat) : Int))]) rfl
    refine xt_norm ?_
    refine wp_seq ?_
    refine wp_region_lit ?_
    obtain ⟨k, hk⟩ : ∃ k, k = ps.length := ⟨_, rfl⟩
    replace hA := hA.rw 6 (v' := .int .i64 ((k : Nat) : Int)) rfl (by rw [hk])
    obtain ⟨qs, hqs⟩ : ∃ qs, qs = ps ++ ([(fr, to, id, A58, cn, (List.replicate cn false), A54, cn, (List.replicate cn ((0, 0, 0, 0, 0, none, 0, ([] : List UInt8)) : Pkt)))] : List (Int × Int × Int × Option Addr × Nat × List Bool × Option Addr × Nat × List Pkt)) := ⟨_, rfl⟩
    rw [← hqs] at hO63 hS
    have hx : qs[k]? = some (fr, to, id, A58, cn, (List.replicate cn false), A54, cn, (List.replicate cn ((0, 0, 0, 0, 0, none, 0, ([] : List UInt8)) : Pkt))) := by rw [hqs, hk]; simp
    have hkl : k < qs.length := (List.getElem?_eq_some_iff.1 hx).1
    have hPI : PI (fr, to, id, A58, cn, (List.replicate cn false), A54, cn, (List.replicate cn ((0, 0, 0, 0, 0, none, 0, ([] : List UInt8)) : Pkt))) := PI.fresh (by omega) (by omega)
    have hR1 : PO (qs.take k) R := by rw [hqs, hk, List.take_left]; exact hR
    have hR2 : PO (qs.drop (k + 1)) [] := by rw [hqs, List.drop_eq_nil_of_le (by rw [hk, List.length_append]; exact Nat.le_refl _)]; exact rfl
    have hpk2 : ∀ y ∈ (List.replicate cn ((0, 0, 0, 0, 0, none, 0, ([] : List UInt8)) : Pkt)), encPacket_dd w0 D y := fun y hy => by rw [List.eq_of_mem_replicate hy]; exact DD.nil
    have hI2 : ∀ y ∈ qs, PI y := by rw [hqs]; exact snoc_all hI hPI
    have hdd2 : ∀ z ∈ qs, ∀ y ∈ ppk z, encPacket_dd w0 D y := by rw [hqs]; exact snoc_all (x := (fr, to, id, A58, cn, (List.replicate cn false), A54, cn, (List.replicate cn ((0, 0, 0, 0, 0, none, 0, ([] : List UInt8)) : Pkt)))) hdd hpk2
    have hhl9 : (List.replicate cn false).length = cn := List.length_replicate
    have hpl9 : (List.replicate cn ((0, 0, 0, 0, 0, none, 0, ([] : List UInt8)) : Pkt)).length = cn := List.length_replicate
    have hF : (List.replicate cn false)[ix]? = some false := by rw [List.getElem?_replicate, if_pos (by omega)]
    have hOhN : Own 4 1 (.slice A58 (List.replicate cn false).length cn) (List.replicate cn false).length (rows encBo (List.replicate cn false)) C57 := by rw [List.length_replicate]; exact hO57
    have hOpN : Own 38 6 (.slice A54 (List.replicate cn ((0, 0, 0, 0, 0, none, 0, ([] : List UInt8)) : Pkt)).length cn) (List.replicate cn ((0, 0, 0, 0, 0, none, 0, ([] : List UInt8)) : Pkt)).length (rows encPacket (List.replicate cn ((0, 0, 0, 0, 0, none, 0, ([] : List UInt8)) : Pkt))) C53 := by rw [List.length_replicate]; exact hO53
    replace hS := hS.nil
    replace hS := hS.front 8 (C := D) (L' := [] :: [(b, rowO [.slice A64 qs.length c65] 33)] :: C63 :: [(b59, rowO [.int .i64 fr, .int .i64 to, .int .u64 id, .slice A58 ((List.replicate cn false).length) cn, .slice A54 ((List.replicate cn ((0, 0, 0, 0, 0, none, 0, ([] : List UInt8)) : Pkt)).length) cn] 55)] :: C57 :: C53 :: [(b1, rowO [.int .i64 fr, .int .i64 to, .int .u64 id, .int .i64 ((ix : Nat) : Int), .int .i64 ((cn : Nat) : Int), .slice B bs.length d'] 38)] :: R :: F) rfl rfl
    replace hS := hS.front 8 (C := R) (L' := D :: [] :: [(b, rowO [.slice A64 qs.length c65] 33)] :: C63 :: [(b59, rowO [.int .i64 fr, .int .i64 to, .int .u64 id, .slice A58 ((List.replicate cn false).length) cn, .slice A54 ((List.replicate cn ((0, 0, 0, 0, 0, none, 0, ([] : List UInt8)) : Pkt)).length) cn] 55)] :: C57 :: C53 :: [(b1, rowO [.int .i64 fr, .int .i64 to, .int .u64 id, .int .i64 ((ix : Nat) : Int), .int .i64 ((cn : Nat) : Int), .slice B bs.length d'] 38)] :: F) rfl rfl
    replace hS := hS.front 8 (C := [(b1, rowO [.int .i64 fr, .int .i64 to, .int .u64 id, .int .i64 ((ix : Nat) : Int), .int .i64 ((cn : Nat) : Int), .slice B bs.length d'] 38)]) (L' := R :: D :: [] :: [(b, rowO [.slice A64 qs.length c65] 33)] :: C63 :: [(b59, rowO [.int .i64 fr, .int .i64 to, .int .u64 id, .slice A58 ((List.replicate cn false).length) cn, .slice A54 ((List.replicate cn ((0, 0, 0, 0, 0, none, 0, ([] : List UInt8)) : Pkt)).length) cn] 55)] :: C57 :: C53 :: F) rfl rfl
    replace hS := hS.front 8 (C := C53) (L' := [(b1, rowO [.int .i64 fr, .int .i64 to, .int .u64 id, .int .i64 ((ix : Nat) : Int), .int .i64 ((cn : Nat) : Int), .slice B bs.length d'] 38)] :: R :: D :: [] :: [(b, rowO [.slice A64 qs.length c65] 33)] :: C63 :: [(b59, rowO [.int .i64 fr, .int .i64 to, .int .u64 id, .slice A58 ((List.replicate cn false).length) cn, .slice A54 ((List.replicate cn ((0, 0, 0, 0, 0, none, 0, ([] : List UInt8)) : Pkt)).length) cn] 55)] :: C57 :: F) rfl rfl
    replace hS := hS.front 8 (C := C57) (L' := C53 :: [(b1, rowO [.int .i64 fr, .int .i64 to, .int .u64 id, .int .i64 ((ix : Nat) : Int), .int .i64 ((cn : Nat) : Int), .slice B bs.length d'] 38)] :: R :: D :: [] :: [(b, rowO [.slice A64 qs.length c65] 33)] :: C63 :: [(b59, rowO [.int .i64 fr, .int .i64 to, .int .u64 id, .slice A58 ((List.replicate cn false).length) cn, .slice A54 ((List.replicate cn ((0, 0, 0, 0, 0, none, 0, ([] : List UInt8)) : Pkt)).length) cn] 55)] :: F) rfl rfl
    replace hS := hS.front 8 (C := [(b59, rowO [.int .i64 fr, .int .i64 to, .int .u64 id, .slice A58 ((List.replicate cn false).length) cn, .slice A54 ((List.replicate cn ((0, 0, 0, 0, 0, none, 0, ([] : List UInt8)) : Pkt)).length) cn] 55)]) (L' := C57 :: C53 :: [(b1, rowO [.int .i64 fr, .int .i64 to, .int .u64 id, .int .i64 ((ix : Nat) : Int), .int .i64 ((cn : Nat) : Int), .slice B bs.length d'] 38)] :: R :: D :: [] :: [(b, rowO [.slice A64 qs.length c65] 33)] :: C63 :: F) rfl rfl
    replace hS := hS.front 8 (C := C63) (L' := [(b59, rowO [.int .i64 fr, .int .i64 to, .int .u64 id, .slice A58 ((List.replicate cn false).length) cn, .slice A54 ((List.replicate cn ((0, 0, 0, 0, 0, none, 0, ([] : List UInt8)) : Pkt)).length) cn] 55)] :: C57 :: C53 :: [(b1, rowO [.int .i64 fr, .int .i64 to, .int .u64 id, .int .i64 ((ix : Nat) : Int), .int .i64 ((cn : Nat) : Int), .slice B bs.length d'] 38)] :: R :: D :: [] :: [(b, rowO [.slice A64 qs.length c65] 33)] :: F) rfl rfl
    replace hS := hS.front 8 (C := [(b, rowO [.slice A64 qs.length c65] 33)]) (L' := C63 :: [(b59, rowO [.int .i64 fr, .int .i64 to, .int .u64 id, .slice A58 ((List.replicate cn false).length) cn, .slice A54 ((List.replicate cn ((0, 0, 0, 0, 0, none, 0, ([] : List UInt8)) : Pkt)).length) cn] 55)] :: C57 :: C53 :: [(b1, rowO [.int .i64 fr, .int .i64 to, .int .u64 id, .int .i64 ((ix : Nat) : Int), .int .i64 ((cn : Nat) : Int), .slice B bs.length d'] 38)] :: R :: D :: [] :: F) rfl rfl
    replace hS := hS.front 8 (C := []) (L' := [(b, rowO [.slice A64 qs.length c65] 33)] :: C63 :: [(b59, rowO [.int .i64 fr, .int .i64 to, .int .u64 id, .slice A58 ((List.replicate cn false).length) cn, .slice A54 ((List.replicate cn ((0, 0, 0, 0, 0, none, 0, ([] : List UInt8)) : Pkt)).length) cn] 55)] :: C57 :: C53 :: [(b1, rowO [.int .i64 fr, .int .i64 to, .int .u64 id, .int .i64 ((ix : Nat) : Int), .int .i64 ((cn : Nat) : Int), .slice B bs.length d'] 38)] :: R :: D :: F) rfl rfl
    refine st_run tbOk 3 hA (e' := (61, .pointer (some ⟨b, 0, none⟩)) :: (60, .pointer (some ⟨b, 0, none⟩)) :: (59, .pointer (some ⟨b, 0, none⟩)) :: _) rfl ?_; clear hA; intro a hA
    refine st_val hA rfl rfl (by decide) (rn_load tbOk hA rfl rfl rfl rfl (cell_row (hS.heapAt 1 rfl) rfl)) ?_; clear hA; intro a hA
    refine st_run tbOk 1 hA (e' := (63, .int .i64 ((k : Nat) : Int)) :: _) rfl ?_; clear hA; intro a hA
    obtain ⟨b67, o68, rfl⟩ := hO63.isSome (k := k) (by omega)
    refine st_val hA rfl rfl (by decide) (rn_indexAddr tbOk hA k (o68 + (k * 5)) rfl rfl rfl rfl rfl rfl (by rfl) (by omega) (by first | rfl | simp [Nat.mul_one, Nat.zero_add] | omega)) ?_; clear hA; intro a hA
    refine st_run tbOk 1 hA (e' := (7, .pointer (some ⟨b67, o68 + (k * 5), none⟩)) :: _) rfl ?_; clear hA; intro a hA
    refine wpList_nil ?_
    replace hA := hA.sel [0, 3, 6, 7] (e' := [(0, .pointer (some ⟨b, 0, none⟩)), (3, .pointer (some ⟨b1, 0, none⟩)), (6, .int .i64 ((k : Nat) : Int)), (7, .pointer (some ⟨b67, o68 + (k * 5), none⟩))]) rfl
    refine xt_norm ?_
    refine wp_seq ?_
    refine wp_seq ?_
    obtain ⟨b69, o70, rfl⟩ := hOhN.isSome (k := ix) (by omega)
    refine wp_draw (fun w' => St w0 w' ([] :: [(b, rowO [.slice (some ⟨b67, o68, none⟩) qs.length c65] 33)] :: C63 :: [(b59, rowO [.int .i64 fr, .int .i64 to, .int .u64 id, .slice (some ⟨b69, o70, none⟩) ((List.replicate cn false).length) cn, .slice A54 ((List.replicate cn ((0, 0, 0, 0, 0, none, 0, ([] : List UInt8)) : Pkt)).length) cn] 55)] :: C57 :: C53 :: [(b1, rowO [.int .i64 fr, .int .i64 to, .int .u64 id, .int .i64 ((ix : Nat) : Int), .int .i64 ((cn : Nat) : Int), .slice B bs.length d'] 38)] :: R :: D :: F)) [] [(0, true), (1, true), (2, true), (3, true), (4, true), (5, true), (6, true), (7, true), (8, true), (9, true), (10, true), (11, true), (12, true), (13, true), (14, true), (15, true), (16, true), (17, true)] mixed (by kernel_rfl) (by rintro c a w ⟨_, _, h, _⟩; cases h) (by rfl) (by kernel_rfl) ?_
    replace hS := hS.drew
    refine dr_run tbOk 3 hA hS (e' := (67, .pointer (some ⟨b67, o68 + (k * 5) + 3, none⟩)) :: (66, .pointer (some ⟨b67, o68 + (k * 5), none⟩)) :: (65, .pointer (some ⟨b67, o68 + (k * 5), none⟩)) :: _) rfl ?_; clear hA; intro a hA
    refine dr_y hA rfl rfl rfl (by decide) hS (fun w' hS' => rn_load tbOk hA rfl rfl rfl rfl ((hO63.rd (hS'.own_ 2 rfl)).elemf (k := k) encPart_ok hx (j := 3) rfl)) ?_; clear hA; intro a hA
    refine dr_run tbOk 2 hA hS (e' := (70, .pointer (some ⟨b1, 4, none⟩)) :: (69, .int .i64 (((List.replicate cn false).length : Nat) : Int)) :: _) rfl ?_; clear hA; intro a hA
    refine dr_y hA rfl rfl rfl (by decide) hS (fun w' hS' => rn_load tbOk hA rfl rfl rfl rfl (cell_row (hS'.heapAt 6 rfl) rfl)) ?_; clear hA; intro a hA
    refine dr_run tbOk 2 hA hS (e' := (73, .bool ((((List.replicate cn false).length : Nat) : Int) != ((cn : Nat) : Int))) :: (72, .bool ((((List.replicate cn false).length : Nat) : Int) != ((cn : Nat) : Int))) :: _) rfl ?_; clear hA; intro a hA
    have hc71 : (((List.replicate cn false).length : Nat) : Int) = ((cn : Nat) : Int) := by omega
    replace hA := hA.rw 72 (v' := .bool false) rfl (vb_ne_f hc71)
    replace hA := hA.rw 73 (v' := .bool false) rfl (vb_ne_f hc71)
    refine dr_run tbOk 3 hA hS (e' := (76, .pointer (some ⟨b67, o68 + (k * 5) + 3, none⟩)) :: (75, .pointer (some ⟨b67, o68 + (k * 5), none⟩)) :: (74, .pointer (some ⟨b67, o68 + (k * 5), none⟩)) :: _) rfl ?_; clear hA; intro a hA
    refine dr_y hA rfl rfl rfl (by decide) hS (fun w' hS' => rn_load tbOk hA rfl rfl rfl rfl ((hO63.rd (hS'.own_ 2 rfl)).elemf (k := k) encPart_ok hx (j := 3) rfl)) ?_; clear hA; intro a hA
    refine dr_run tbOk 1 hA hS (e' := (78, .pointer (some ⟨b1, 3, none⟩)) :: _) rfl ?_; clear hA; intro a hA
    refine dr_y hA rfl rfl rfl (by decide) hS (fun w' hS' => rn_load tbOk hA rfl rfl rfl rfl (cell_row (hS'.heapAt 6 rfl) rfl)) ?_; clear hA; intro a hA
    replace hA := hA.rw 77 (v' := .slice (some ⟨b69, o70, none⟩) ((List.replicate cn false).length) cn) rfl rfl
    refine dr_y hA rfl rfl rfl (by decide) hS (fun w' hS' => rn_indexAddr tbOk hA ix (o70 + ix) rfl rfl rfl rfl rfl rfl (by rfl) (by omega) (by first | rfl | simp [Nat.mul_one, Nat.zero_add] | omega)) ?_; clear hA; intro a hA
    refine dr_y hA rfl rfl rfl (by decide) hS (fun w' hS' => rn_load tbOk hA rfl rfl rfl rfl ((hOhN.rd (hS'.own_ 4 rfl)).elem0 (k := ix) encBo_ok hF rfl)) ?_; clear hA; intro a hA
    refine dr_run tbOk 1 hA hS (e' := (82, .bool false) :: _) rfl ?_; clear hA; intro a hA
    refine dr_end ?_
    replace hA := hA.sel [0, 3, 6, 7, 82] (e' := [(0, .pointer (some ⟨b, 0, none⟩)), (3, .pointer (some ⟨b1, 0, none⟩)), (6, .int .i64 ((k : Nat) : Int)), (7, .pointer (some ⟨b67, o68 + (k * 5), none⟩)), (82, .bool false)]) rfl
    refine xt_norm ?_
    refine cd_cond_f hA rfl ?_
    refine wp_skip ?_
    refine xt_norm ?_
    refine wp_seq ?_
    replace hS := hS.front 4 (C := C57) (L' := [] :: [(b, rowO [.slice (some ⟨b67, o68, none⟩) qs.length c65] 33)] :: C63 :: [(b59, rowO [.int .i64 fr, .int .i64 to, .int .u64 id, .slice (some ⟨b69, o70, none⟩) ((List.replicate cn false).length) cn, .slice A54 ((List.replicate cn ((0, 0, 0, 0, 0, none, 0, ([] : List UInt8)) : Pkt)).length) cn] 55)] :: C53 :: [(b1, rowO [.int .i64 fr, .int .i64 to, .int .u64 id, .int .i64 ((ix : Nat) : Int), .int .i64 ((cn : Nat) : Int), .slice B bs.length d'] 38)] :: R :: D :: F) rfl rfl
    refine wp_draw (fun w' => St w0 w' ([] :: [(b, rowO [.slice (some ⟨b67, o68, none⟩) qs.length c65] 33)] :: C63 :: [(b59, rowO [.int .i64 fr, .int .i64 to, .int .u64 id, .slice (some ⟨b69, o70, none⟩) ((List.replicate cn false).length) cn, .slice A54 ((List.replicate cn ((0, 0, 0, 0, 0, none, 0, ([] : List UInt8)) : Pkt)).length) cn] 55)] :: C53 :: [(b1, rowO [.int .i64 fr, .int .i64 to, .int .u64 id, .int .i64 ((ix : Nat) : Int), .int .i64 ((cn : Nat) : Int), .slice B bs.length d'] 38)] :: R :: D :: F)) [7] [(0, true), (1, true), (2, true), (3, true), (4, true), (5, true), (6, true), (7, false)] mixed (by kernel_rfl) (by rintro c a w ⟨_, _, h, _⟩; cases h) (by rfl) (by kernel_rfl) ?_
    replace hS := hS.drew
    refine dr_run tbOk 3 hA (hS.tail 1 rfl) (e' := (85, .pointer (some ⟨b67, o68 + (k * 5) + 3, none⟩)) :: (84, .pointer (some ⟨b67, o68 + (k * 5), none⟩)) :: (83, .pointer (some ⟨b67, o68 + (k * 5), none⟩)) :: _) rfl ?_; clear hA; intro a hA
    refine dr_y hA rfl rfl rfl (by decide) (hS.tail 1 rfl) (fun w' hS' => rn_load tbOk hA rfl rfl rfl rfl ((hO63.rd (hS'.own_ 2 rfl)).elemf (k := k) encPart_ok hx (j := 3) rfl)) ?_; clear hA; intro a hA
    refine dr_run tbOk 1 hA (hS.tail 1 rfl) (e' := (87, .pointer (some ⟨b1, 3, none⟩)) :: _) rfl ?_; clear hA; intro a hA
    refine dr_y hA rfl rfl rfl (by decide) (hS.tail 1 rfl) (fun w' hS' => rn_load tbOk hA rfl rfl rfl rfl (cell_row (hS'.heapAt 5 rfl) rfl)) ?_; clear hA; intro a hA
    replace hA := hA.rw 86 (v' := .slice (some ⟨b69, o70, none⟩) ((List.replicate cn false).length) cn) rfl rfl
    refine dr_y hA rfl rfl rfl (by decide) (hS.tail 1 rfl) (fun w' hS' => rn_indexAddr tbOk hA ix (o70 + ix) rfl rfl rfl rfl rfl rfl (by rfl) (by omega) (by first | rfl | simp [Nat.mul_one, Nat.zero_add] | omega)) ?_; clear hA; intro a hA
    refine dr_b (o := _) rfl ?_
    refine st_store_own tbOk hA hOhN hS (ix) (o70 + ix) [.bool true] (rows encBo ((List.replicate cn false).set ix true)) rfl rfl rfl rfl (by rfl) rfl rfl (by intro u hu; rw [List.mem_singleton.1 hu]; rfl) (by simp only [rows_length encBo_ok, rows_length encPacket_ok, List.length_cons, List.length_nil]; omega) (by have := rows_set encBo_ok (x := true) (l := (List.replicate cn false)) (k := ix) (by omega); rw [Nat.mul_one] at this; exact this) rfl rfl ?_; clear hS; intro w72 C73 hO73 hS
    refine dr_nil (.inl (by decide)) ?_
    refine dr_end ?_
    replace hA := hA.sel [0, 3, 6, 7] (e' := [(0, .pointer (some ⟨b, 0, none⟩)), (3, .pointer (some ⟨b1, 0, none⟩)), (6, .int .i64 ((k : Nat) : Int)), (7, .pointer (some ⟨b67, o68 + (k * 5), none⟩))]) rfl
    refine xt_norm ?_
    refine wp_seq ?_
    obtain ⟨b74, o75, rfl⟩ := hOpN.isSome (k := ix) (by omega)
    replace hS := hS.front 5 (C := C53) (L' := C73 :: [] :: [(b, rowO [.slice (some ⟨b67, o68, none⟩) qs.length c65] 33)] :: C63 :: [(b59, rowO [.int .i64 fr, .int .i64 to, .int .u64 id, .slice (some ⟨b69, o70, none⟩) ((List.replicate cn false).length) cn, .slice (some ⟨b74, o75, none⟩) ((List.replicate cn ((0, 0, 0, 0, 0, none, 0, ([] : List UInt8)) : Pkt)).length) cn] 55)] :: [(b1, rowO [.int .i64 fr, .int .i64 to, .int .u64 id, .int .i64 ((ix : Nat) : Int), .int .i64 ((cn : Nat) : Int), .slice B bs.length d'] 38)] :: R :: D :: F) rfl rfl
    refine wp_draw (fun w' => St w0 w' (C73 :: [] :: [(b, rowO [.slice (some ⟨b67, o68, none⟩) qs.length c65] 33)] :: C63 :: [(b59, rowO [.int .i64 fr, .int .i64 to, .int .u64 id, .slice (some ⟨b69, o70, none⟩) ((List.replicate cn false).length) cn, .slice (some ⟨b74, o75, none⟩) ((List.replicate cn ((0, 0, 0, 0, 0, none, 0, ([] : List UInt8)) : Pkt)).length) cn] 55)] :: [(b1, rowO [.int .i64 fr, .int .i64 to, .int .u64 id, .int .i64 ((ix : Nat) : Int), .int .i64 ((cn : Nat) : Int), .slice B bs.length d'] 38)] :: R :: D :: F)) [21] [(0, true), (1, true), (2, true), (3, true), (4, true), (5, true), (6, true), (7, true), (8, true), (9, true), (10, true), (11, true), (12, true), (13, true), (14, true), (15, true), (16, true), (17, true), (18, false), (19, true), (20, true), (21, false)] mixed (by kernel_rfl) (by rintro c a w ⟨_, _, h, _⟩; cases h) (by rfl) (by kernel_rfl) ?_
    replace hS := hS.drew
    refine dr_run tbOk 3 hA (hS.tail 1 rfl) (e' := (92, .pointer (some ⟨b67, o68 + (k * 5) + 4, none⟩)) :: (91, .pointer (some ⟨b67, o68 + (k * 5), none⟩)) :: (90, .pointer (some ⟨b67, o68 + (k * 5), none⟩)) :: _) rfl ?_; clear hA; intro a hA
    refine dr_y hA rfl rfl rfl (by decide) (hS.tail 1 rfl) (fun w' hS' => rn_load tbOk hA rfl rfl rfl rfl ((hO63.rd (hS'.own_ 3 rfl)).elemf (k := k) encPart_ok hx (j := 4) rfl)) ?_; clear hA; intro a hA
    refine dr_run tbOk 1 hA (hS.tail 1 rfl) (e' := (94, .pointer (some ⟨b1, 3, none⟩)) :: _) rfl ?_; clear hA; intro a hA
    refine dr_y hA rfl rfl rfl (by decide) (hS.tail 1 rfl) (fun w' hS' => rn_load tbOk hA rfl rfl rfl rfl (cell_row (hS'.heapAt 5 rfl) rfl)) ?_; clear hA; intro a hA
    refine dr_run tbOk 1 hA (hS.tail 1 rfl) (e' := (96, .pointer (some ⟨b1, 0, none⟩)) :: _) rfl ?_; clear hA; intro a hA
    refine dr_y hA rfl rfl rfl (by decide) (hS.tail 1 rfl) (fun w' hS' => rn_load tbOk hA rfl rfl rfl rfl (cell_row (hS'.heapAt 5 rfl) rfl)) ?_; clear hA; intro a hA
    refine dr_run tbOk 1 hA (hS.tail 1 rfl) (e' := (98, .pointer (some ⟨b1, 1, none⟩)) :: _) rfl ?_; clear hA; intro a hA
    refine dr_y hA rfl rfl rfl (by decide) (hS.tail 1 rfl) (fun w' hS' => rn_load tbOk hA rfl rfl rfl rfl (cell_row (hS'.heapAt 5 rfl) rfl)) ?_; clear hA; intro a hA
    refine dr_run tbOk 1 hA (hS.tail 1 rfl) (e' := (100, .pointer (some ⟨b1, 2, none⟩)) :: _) rfl ?_; clear hA; intro a hA
    refine dr_y hA rfl rfl rfl (by decide) (hS.tail 1 rfl) (fun w' hS' => rn_load tbOk hA rfl rfl rfl rfl (cell_row (hS'.heapAt 5 rfl) rfl)) ?_; clear hA; intro a hA
    refine dr_run tbOk 1 hA (hS.tail 1 rfl) (e' := (102, .pointer (some ⟨b1, 3, none⟩)) :: _) rfl ?_; clear hA; intro a hA
    refine dr_y hA rfl rfl rfl (by decide) (hS.tail 1 rfl) (fun w' hS' => rn_load tbOk hA rfl rfl rfl rfl (cell_row (hS'.heapAt 5 rfl) rfl)) ?_; clear hA; intro a hA
    refine dr_run tbOk 1 hA (hS.tail 1 rfl) (e' := (104, .pointer (some ⟨b1, 4, none⟩)) :: _) rfl ?_; clear hA; intro a hA
    refine dr_y hA rfl rfl rfl (by decide) (hS.tail 1 rfl) (fun w' hS' => rn_load tbOk hA rfl rfl rfl rfl (cell_row (hS'.heapAt 5 rfl) rfl)) ?_; clear hA; intro a hA
    refine dr_run tbOk 1 hA (hS.tail 1 rfl) (e' := (106, .pointer (some ⟨b1, 5, none⟩)) :: _) rfl ?_; clear hA; intro a hA
    refine dr_y hA rfl rfl rfl (by decide) (hS.tail 1 rfl) (fun w' hS' => rn_load tbOk hA rfl rfl rfl rfl (cell_row (hS'.heapAt 5 rfl) rfl)) ?_; clear hA; intro a hA
    refine dr_b (o := _) rfl ?_
    refine st_call0 hA rfl rfl rfl isfn16 rfl rfl (by decide) (clonex16 hS (l := bs) (fun w' h => (hd _ (h.tail 8 rfl))) (by first | omega | (simp; omega))) ?_
    clear hA hS; rintro _ w79 a ⟨A76, c77, C78, hOC78, rfl, hS⟩ hA
    refine dr_nil (.inr (hS.tail 2 rfl)) ?_
    refine dr_y hA rfl rfl rfl (by decide) (hS.tail 2 rfl) (fun w' hS' => rn_build tbOk hA rfl rfl rfl rfl rfl rfl rfl) ?_; clear hA; intro a hA
    replace hA := hA.rw 93 (v' := .slice (some ⟨b74, o75, none⟩) ((List.replicate cn ((0, 0, 0, 0, 0, none, 0, ([] : List UInt8)) : Pkt)).length) cn) rfl rfl
    refine dr_y hA rfl rfl rfl (by decide) (hS.tail 2 rfl) (fun w' hS' => rn_indexAddr tbOk hA ix (o75 + (ix * 6)) rfl rfl rfl rfl rfl rfl (by rfl) (by omega) (by first | rfl | simp [Nat.mul_one, Nat.zero_add] | omega)) ?_; clear hA; intro a hA
    refine dr_b (o := _) rfl ?_
    replace hS := hS.front 1 (C := C53) (L' := C78 :: C73 :: [] :: [(b, rowO [.slice (some ⟨b67, o68, none⟩) qs.length c65] 33)] :: C63 :: [(b59, rowO [.int .i64 fr, .int .i64 to, .int .u64 id, .slice (some ⟨b69, o70, none⟩) ((List.replicate cn false).length) cn, .slice (some ⟨b74, o75, none⟩) ((List.replicate cn ((0, 0, 0, 0, 0, none, 0, ([] : List UInt8)) : Pkt)).length) cn] 55)] :: [(b1, rowO [.int .i64 fr, .int .i64 to, .int .u64 id, .int .i64 ((ix : Nat) : Int), .int .i64 ((cn : Nat) : Int), .slice B bs.length d'] 38)] :: R :: D :: F) rfl rfl
    refine st_store_own tbOk hA hOpN hS ((ix * 6)) (o75 + (ix * 6)) [.int .i64 fr, .int .i64 to, .int .u64 id, .int .i64 ((ix : Nat) : Int), .int .i64 ((cn : Nat) : Int), .slice A76 bs.length c77] (rows encPacket ((List.replicate cn ((0, 0, 0, 0, 0, none, 0, ([] : List UInt8)) : Pkt)).set ix (fr, to, id, ((ix : Nat) : Int), ((cn : Nat) : Int), A76, c77, bs))) rfl rfl rfl rfl (by rfl) rfl rfl (by exact encPacket_ok.one (fr, to, id, ((ix : Nat) : Int), ((cn : Nat) : Int), A76, c77, bs)) (by simp only [rows_length encBo_ok, rows_length encPacket_ok, List.length_cons, List.length_nil]; omega) (rows_set encPacket_ok (x := (fr, to, id, ((ix : Nat) : Int), ((cn : Nat) : Int), A76, c77, bs)) (l := (List.replicate cn ((0, 0, 0, 0, 0, none, 0, ([] : List UInt8)) : Pkt))) (k := ix) (by omega)) rfl rfl ?_; clear hS; intro w80 C81 hO81 hS
    refine dr_nil (.inl (by decide)) ?_
    refine dr_end ?_
    replace hA := hA.sel [0, 6, 7] (e' := [(0, .pointer (some ⟨b, 0, none⟩)), (6, .int .i64 ((k : Nat) : Int)), (7, .pointer (some ⟨b67, o68 + (k * 5), none⟩))]) rfl
    refine xt_norm ?_
    refine wp_seq ?_
    refine wp_seq ?_
    refine wp_region_lit ?_
    refine st_run tbOk 3 hA (e' := (113, .pointer (some ⟨b67, o68 + (k * 5) + 3, none⟩)) :: (112, .pointer (some ⟨b67, o68 + (k * 5), none⟩)) :: (111, .pointer (some ⟨b67, o68 + (k * 5), none⟩)) :: _) rfl ?_; clear hA; intro a hA
    refine st_val hA rfl rfl (by decide) (rn_load tbOk hA rfl rfl rfl rfl ((hO63.rd (hS.own_ 5 rfl)).elemf (k := k) encPart_ok hx (j := 3) rfl)) ?_; clear hA; intro a hA
    have hOh2 : Own 4 1 (.slice (some ⟨b69, o70, none⟩) ((List.replicate cn false).set ix true).length cn) ((List.replicate cn false).set ix true).length (rows encBo ((List.replicate cn false).set ix true)) C73 := by rw [List.length_set]; exact hO73
    replace hA := hA.rw 114 (v' := .slice (some ⟨b69, o70, none⟩) (((List.replicate cn false).set ix true).length) cn) rfl (by rw [List.length_set])
    refine st_call0 hA rfl rfl rfl isfn17 rfl rfl (by decide) (containsb17 hS (l := (List.replicate cn false).set ix true) (RdS.own hOh2 2 rfl)) ?_
    clear hA hS; rintro v w82 a ⟨rfl, hS⟩ hA
    replace hA := hA.rw 115 (v' := .bool false) rfl (congrArg Value.bool hany)
    refine wpList_nil ?_
    replace hA := hA.sel [0, 6, 7, 115] (e' := [(0, .pointer (some ⟨b, 0, none⟩)), (6, .int .i64 ((k : Nat) : Int)), (7, .pointer (some ⟨b67, o68 + (k * 5), none⟩)), (115, .bool false)]) rfl
    refine xt_norm ?_
    refine cd_cond_f hA rfl ?_
    refine wp_skip ?_
    refine xt_norm ?_
    refine wp_seq ?_
    refine wp_region_lit ?_
    refine st_run tbOk 3 hA (e' := (119, .pointer (some ⟨b67, o68 + (k * 5) + 4, none⟩)) :: (118, .pointer (some ⟨b67, o68 + (k * 5), none⟩)) :: (117, .pointer (some ⟨b67, o68 + (k * 5), none⟩)) :: _) rfl ?_; clear hA; intro a hA
    refine st_val hA rfl rfl (by decide) (rn_load tbOk hA rfl rfl rfl rfl ((hO63.rd (hS.own_ 5 rfl)).elemf (k := k) encPart_ok hx (j := 4) rfl)) ?_; clear hA; intro a hA
    have hOp2 : Own 38 6 (.slice (some ⟨b74, o75, none⟩) ((List.replicate cn ((0, 0, 0, 0, 0, none, 0, ([] : List UInt8)) : Pkt)).set ix (fr, to, id, ((ix : Nat) : Int), ((cn : Nat) : Int), A76, c77, bs)).length cn) ((List.replicate cn ((0, 0, 0, 0, 0, none, 0, ([] : List UInt8)) : Pkt)).set ix (fr, to, id, ((ix : Nat) : Int), ((cn : Nat) : Int), A76, c77, bs)).length (rows encPacket ((List.replicate cn ((0, 0, 0, 0, 0, none, 0, ([] : List UInt8)) : Pkt)).set ix (fr, to, id, ((ix : Nat) : Int), ((cn : Nat) : Int), A76, c77, bs))) C81 := by rw [List.length_set]; exact hO81
    replace hA := hA.rw 120 (v' := .slice (some ⟨b74, o75, none⟩) (((List.replicate cn ((0, 0, 0, 0, 0, none, 0, ([] : List UInt8)) : Pkt)).set ix (fr, to, id, ((ix : Nat) : Int), ((cn : Nat) : Int), A76, c77, bs)).length) cn) rfl (by rw [List.length_set])
    replace hS := hS.front 9 (C := D) (L' := C81 :: C78 :: C73 :: [] :: [(b, rowO [.slice (some ⟨b67, o68, none⟩) qs.length c65] 33)] :: C63 :: [(b59, rowO [.int .i64 fr, .int .i64 to, .int .u64 id, .slice (some ⟨b69, o70, none⟩) ((List.replicate cn false).length) cn, .slice (some ⟨b74, o75, none⟩) ((List.replicate cn ((0, 0, 0, 0, 0, none, 0, ([] : List UInt8)) : Pkt)).length) cn] 55)] :: [(b1, rowO [.int .i64 fr, .int .i64 to, .int .u64 id, .int .i64 ((ix : Nat) : Int), .int .i64 ((cn : Nat) : Int), .slice B bs.length d'] 38)] :: R :: F) rfl rfl
    replace hS := hS.front 2 (C := C78) (L' := D :: C81 :: C73 :: [] :: [(b, rowO [.slice (some ⟨b67, o68, none⟩) qs.length c65] 33)] :: C63 :: [(b59, rowO [.int .i64 fr, .int .i64 to, .int .u64 id, .slice (some ⟨b69, o70, none⟩) ((List.replicate cn false).length) cn, .slice (some ⟨b74, o75, none⟩) ((List.replicate cn ((0, 0, 0, 0, 0, none, 0, ([] : List UInt8)) : Pkt)).length) cn] 55)] :: [(b1, rowO [.int .i64 fr, .int .i64 to, .int .u64 id, .int .i64 ((ix : Nat) : Int), .int .i64 ((cn : Nat) : Int), .slice B bs.length d'] 38)] :: R :: F) rfl rfl
    replace hS := hS.join
    have hdE := (DD.new (w0 := w0) hOC78).right (E := D)
    have hPI2 : PI (fr, to, id, (some ⟨b69, o70, none⟩), cn, (List.replicate cn false).set ix true, (some ⟨b74, o75, none⟩), cn, (List.replicate cn ((0, 0, 0, 0, 0, none, 0, ([] : List UInt8)) : Pkt)).set ix (fr, to, id, ((ix : Nat) : Int), ((cn : Nat) : Int), A76, c77, bs)) := hPI.put (by omega) (by omega) (by omega) _ _
    have hpd : ∀ y ∈ (List.replicate cn ((0, 0, 0, 0, 0, none, 0, ([] : List UInt8)) : Pkt)).set ix (fr, to, id, ((ix : Nat) : Int), ((cn : Nat) : Int), A76, c77, bs), encPacket_dd w0 (C78 ++ D) y := fun y hy => (List.mem_or_eq_of_mem_set hy).elim (fun hy => encPacket_left (hpk2 y hy)) (fun e => by rw [e]; exact hdE)
    refine st_call0 hA rfl rfl rfl isfn18 rfl rfl (by decide) (join18 hS (ps := (List.replicate cn ((0, 0, 0, 0, 0, none, 0, ([] : List UInt8)) : Pkt)).set ix (fr, to, id, ((ix : Nat) : Int), ((cn : Nat) : Int), A76, c77, bs)) (RdS.own hOp2 1 rfl) hpd) ?_
    clear hA hS; rintro _ w83 a ⟨C85, v84, ou88, hO85, hjC85, hS⟩ hA
    obtain ⟨A86, c87, rfl, hmc87, hxc87⟩ := hO85.open'
    obtain ⟨-, rfl, rfl⟩ := hjC85.resolve_right (fun h => h.1 (hPI2.allfit hany))
    refine st_run tbOk 5 hA (e' := (9, .bool (decide (((((List.replicate cn ((0, 0, 0, 0, 0, none, 0, ([] : List UInt8)) : Pkt)).set ix (fr, to, id, ((ix : Nat) : Int), ((cn : Nat) : Int), A76, c77, bs)).length : Nat) : Int) > 0))) :: (8, .slice A86 ((cat ((List.replicate cn ((0, 0, 0, 0, 0, none, 0, ([] : List UInt8)) : Pkt)).set ix (fr, to, id, ((ix : Nat) : Int), ((cn : Nat) : Int), A76, c77, bs)) ((List.replicate cn ((0, 0, 0, 0, 0, none, 0, ([] : List UInt8)) : Pkt)).set ix (fr, to, id, ((ix : Nat) : Int), ((cn : Nat) : Int), A76, c77, bs)).length).length) c87) :: (123, .bool (decide (((((List.replicate cn ((0, 0, 0, 0, 0, none, 0, ([] : List UInt8)) : Pkt)).set ix (fr, to, id, ((ix : Nat) : Int), ((cn : Nat) : Int), A76, c77, bs)).length : Nat) : Int) > 0))) :: (122, .slice A86 ((cat ((List.replicate cn ((0, 0, 0, 0, 0, none, 0, ([] : List UInt8)) : Pkt)).set ix (fr, to, id, ((ix : Nat) : Int), ((cn : Nat) : Int), A76, c77, bs)) ((List.replicate cn ((0, 0, 0, 0, 0, none, 0, ([] : List UInt8)) : Pkt)).set ix (fr, to, id, ((ix : Nat) : Int), ((cn : Nat) : Int), A76, c77, bs)).length).length) c87) :: (116, .tuple #[.slice A86 ((cat ((List.replicate cn ((0, 0, 0, 0, 0, none, 0, ([] : List UInt8)) : Pkt)).set ix (fr, to, id, ((ix : Nat) : Int), ((cn : Nat) : Int), A76, c77, bs)) ((List.replicate cn ((0, 0, 0, 0, 0, none, 0, ([] : List UInt8)) : Pkt)).set ix (fr, to, id, ((ix : Nat) : Int), ((cn : Nat) : Int), A76, c77, bs)).length).length) c87, .bool (decide (((((List.replicate cn ((0, 0, 0, 0, 0, none, 0, ([] : List UInt8)) : Pkt)).set ix (fr, to, id, ((ix : Nat) : Int), ((cn : Nat) : Int), A76, c77, bs)).length : Nat) : Int) > 0))]) :: _) rfl ?_; clear hA; intro a hA
    refine wpList_nil ?_
    replace hA := hA.sel [0, 6, 8, 9] (e' := [(0, .pointer (some ⟨b, 0, none⟩)), (6, .int .i64 ((k : Nat) : Int)), (8, .slice A86 ((cat ((List.replicate cn ((0, 0, 0, 0, 0, none, 0, ([] : List UInt8)) : Pkt)).set ix (fr, to, id, ((ix : Nat) : Int), ((cn : Nat) : Int), A76, c77, bs)) ((List.replicate cn ((0, 0, 0, 0, 0, none, 0, ([] : List UInt8)) : Pkt)).set ix (fr, to, id, ((ix : Nat) : Int), ((cn : Nat) : Int), A76, c77, bs)).length).length) c87), (9, .bool (decide (((((List.replicate cn ((0, 0, 0, 0, 0, none, 0, ([] : List UInt8)) : Pkt)).set ix (fr, to, id, ((ix : Nat) : Int), ((cn : Nat) : Int), A76, c77, bs)).length : Nat) : Int) > 0)))]) rfl
    refine xt_norm ?_
    refine wp_seq ?_
    refine wp_region_lit ?_
    refine st_run tbOk 4 hA (e' := (127, .pointer (some ⟨b, 0, none⟩)) :: (126, .pointer (some ⟨b, 0, none⟩)) :: (125, .pointer (some ⟨b, 0, none⟩)) :: (124, .pointer (some ⟨b, 0, none⟩)) :: _) rfl ?_; clear hA; intro a hA
    refine st_val hA rfl rfl (by decide) (rn_load tbOk hA rfl rfl rfl rfl (cell_row (hS.heapAt 5 rfl) rfl)) ?_; clear hA; intro a hA
    refine st_run tbOk 3 hA (e' := (131, .int .i64 (IntKind.i64.wrap (((k : Nat) : Int) + 1))) :: (130, .int .i64 ((k : Nat) : Int)) :: (129, .int .i64 ((k : Nat) : Int)) :: _) rfl ?_; clear hA; intro a hA
    replace hA := hA.rw 131 (v' := .int .i64 ((k + 1 : Nat) : Int)) rfl (wr64 (by omega) (by omega) (by omega))
    replace hS := hS.front 6 (C := C63) (L' := C85 :: (C78 ++ D) :: C81 :: C73 :: [] :: [(b, rowO [.slice (some ⟨b67, o68, none⟩) qs.length c65] 33)] :: [(b59, rowO [.int .i64 fr, .int .i64 to, .int .u64 id, .slice (some ⟨b69, o70, none⟩) ((List.replicate cn false).length) cn, .slice (some ⟨b74, o75, none⟩) ((List.replicate cn ((0, 0, 0, 0, 0, none, 0, ([] : List UInt8)) : Pkt)).length) cn] 55)] :: [(b1, rowO [.int .i64 fr, .int .i64 to, .int .u64 id, .int .i64 ((ix : Nat) : Int), .int .i64 ((cn : Nat) : Int), .slice B bs.length d'] 38)] :: R :: F) rfl rfl
    refine st_call0 hA rfl rfl rfl isfn15 rfl rfl (by decide) (delete15 hS (l := qs) hO63 k (k + 1) (by omega) (by first | omega | (simp; omega))) ?_
    clear hA hS; rintro v89 w90 a ⟨C91, hO91, hS⟩ hA
    obtain ⟨A92, c93, rfl, hmc93, hxc93⟩ := hO91.open'
    refine st_run tbOk 2 hA (e' := (134, .pointer (some ⟨b, 0, none⟩)) :: (133, .pointer (some ⟨b, 0, none⟩)) :: _) rfl ?_; clear hA; intro a hA
    replace hS := hS.front 6 (C := [(b, rowO [.slice (some ⟨b67, o68, none⟩) qs.length c65] 33)]) (L' := C91 :: C85 :: (C78 ++ D) :: C81 :: C73 :: [] :: [(b59, rowO [.int .i64 fr, .int .i64 to, .int .u64 id, .slice (some ⟨b69, o70, none⟩) ((List.replicate cn false).length) cn, .slice (some ⟨b74, o75, none⟩) ((List.replicate cn ((0, 0, 0, 0, 0, none, 0, ([] : List UInt8)) : Pkt)).length) cn] 55)] :: [(b1, rowO [.int .i64 fr, .int .i64 to, .int .u64 id, .int .i64 ((ix : Nat) : Int), .int .i64 ((cn : Nat) : Int), .slice B bs.length d'] 38)] :: R :: F) rfl rfl
    refine st_store tbOk hA hS [.slice A92 ((qs.take k ++ qs.drop (k + 1)).length) c93] [.slice A92 ((qs.take k ++ qs.drop (k + 1)).length) c93] rfl rfl rfl rfl rfl rfl (by intro u hu; rw [List.mem_singleton.1 hu]; rfl) (Nat.le_of_ble_eq_true rfl) rfl rfl rfl ?_; clear hS; intro w94 hS
    refine wpList_nil ?_
    replace hA := hA.sel [8, 9] (e' := [(8, .slice A86 ((cat ((List.replicate cn ((0, 0, 0, 0, 0, none, 0, ([] : List UInt8)) : Pkt)).set ix (fr, to, id, ((ix : Nat) : Int), ((cn : Nat) : Int), A76, c77, bs)) ((List.replicate cn ((0, 0, 0, 0, 0, none, 0, ([] : List UInt8)) : Pkt)).set ix (fr, to, id, ((ix : Nat) : Int), ((cn : Nat) : Int), A76, c77, bs)).length).length) c87), (9, .bool (decide (((((List.replicate cn ((0, 0, 0, 0, 0, none, 0, ([] : List UInt8)) : Pkt)).set ix (fr, to, id, ((ix : Nat) : Int), ((cn : Nat) : Int), A76, c77, bs)).length : Nat) : Int) > 0)))]) rfl
    refine xt_norm ?_
    refine wp_seq ?_
    refine wp_region_lit ?_
    refine st_run tbOk 4 hA (e' := (5, .bool (decide (((((List.replicate cn ((0, 0, 0, 0, 0, none, 0, ([] : List UInt8)) : Pkt)).set ix (fr, to, id, ((ix : Nat) : Int), ((cn : Nat) : Int), A76, c77, bs)).length : Nat) : Int) > 0))) :: (4, .slice A86 ((cat ((List.replicate cn ((0, 0, 0, 0, 0, none, 0, ([] : List UInt8)) : Pkt)).set ix (fr, to, id, ((ix : Nat) : Int), ((cn : Nat) : Int), A76, c77, bs)) ((List.replicate cn ((0, 0, 0, 0, 0, none, 0, ([] : List UInt8)) : Pkt)).set ix (fr, to, id, ((ix : Nat) : Int), ((cn : Nat) : Int), A76, c77, bs)).length).length) c87) :: (136, .bool (decide (((((List.replicate cn ((0, 0, 0, 0, 0, none, 0, ([] : List UInt8)) : Pkt)).set ix (fr, to, id, ((ix : Nat) : Int), ((cn : Nat) : Int), A76, c77, bs)).length : Nat) : Int) > 0))) :: (135, .slice A86 ((cat ((List.replicate cn ((0, 0, 0, 0, 0, none, 0, ([] : List UInt8)) : Pkt)).set ix (fr, to, id, ((ix : Nat) : Int), ((cn : Nat) : Int), A76, c77, bs)) ((List.replicate cn ((0, 0, 0, 0, 0, none, 0, ([] : List UInt8)) : Pkt)).set ix (fr, to, id, ((ix : Nat) : Int), ((cn : Nat) : Int), A76, c77, bs)).length).length) c87) :: _) rfl ?_; clear hA; intro a hA
    refine wpList_nil ?_
    replace hA := hA.sel [4, 5] (e' := [(4, .slice A86 ((cat ((List.replicate cn ((0, 0, 0, 0, 0, none, 0, ([] : List UInt8)) : Pkt)).set ix (fr, to, id, ((ix : Nat) : Int), ((cn : Nat) : Int), A76, c77, bs)) ((List.replicate cn ((0, 0, 0, 0, 0, none, 0, ([] : List UInt8)) : Pkt)).set ix (fr, to, id, ((ix : Nat) : Int), ((cn : Nat) : Int), A76, c77, bs)).length).length) c87), (5, .bool (decide (((((List.replicate cn ((0, 0, 0, 0, 0, none, 0, ([] : List UInt8)) : Pkt)).set ix (fr, to, id, ((ix : Nat) : Int), ((cn : Nat) : Int), A76, c77, bs)).length : Nat) : Int) > 0)))]) rfl
    refine xt_norm ?_
    refine wp_ret ?_
    refine ret2 (fn := Try.f9) hA rfl rfl rfl ?_
    replace hS := hS.front 4 (C := C81) (L' := [(b, rowO [.slice A92 ((qs.take k ++ qs.drop (k + 1)).length) c93] 33)] :: C91 :: C85 :: (C78 ++ D) :: C73 :: [] :: [(b59, rowO [.int .i64 fr, .int .i64 to, .int .u64 id, .slice (some ⟨b69, o70, none⟩) ((List.replicate cn false).length) cn, .slice (some ⟨b74, o75, none⟩) ((List.replicate cn ((0, 0, 0, 0, 0, none, 0, ([] : List UInt8)) : Pkt)).length) cn] 55)] :: [(b1, rowO [.int .i64 fr, .int .i64 to, .int .u64 id, .int .i64 ((ix : Nat) : Int), .int .i64 ((cn : Nat) : Int), .slice B bs.length d'] 38)] :: R :: F) rfl rfl
    replace hS := hS.drop1
    replace hS := hS.front 4 (C := C73) (L' := [(b, rowO [.slice A92 ((qs.take k ++ qs.drop (k + 1)).length) c93] 33)] :: C91 :: C85 :: (C78 ++ D) :: [] :: [(b59, rowO [.int .i64 fr, .int .i64 to, .int .u64 id, .slice (some ⟨b69, o70, none⟩) ((List.replicate cn false).length) cn, .slice (some ⟨b74, o75, none⟩) ((List.replicate cn ((0, 0, 0, 0, 0, none, 0, ([] : List UInt8)) : Pkt)).length) cn] 55)] :: [(b1, rowO [.int .i64 fr, .int .i64 to, .int .u64 id, .int .i64 ((ix : Nat) : Int), .int .i64 ((cn : Nat) : Int), .slice B bs.length d'] 38)] :: R :: F) rfl rfl
    replace hS := hS.drop1
    replace hS := hS.front 5 (C := [(b59, rowO [.int .i64 fr, .int .i64 to, .int .u64 id, .slice (some ⟨b69, o70, none⟩) ((List.replicate cn false).length) cn, .slice (some ⟨b74, o75, none⟩) ((List.replicate cn ((0, 0, 0, 0, 0, none, 0, ([] : List UInt8)) : Pkt)).length) cn] 55)]) (L' := [(b, rowO [.slice A92 ((qs.take k ++ qs.drop (k + 1)).length) c93] 33)] :: C91 :: C85 :: (C78 ++ D) :: [] :: [(b1, rowO [.int .i64 fr, .int .i64 to, .int .u64 id, .int .i64 ((ix : Nat) : Int), .int .i64 ((cn : Nat) : Int), .slice B bs.length d'] 38)] :: R :: F) rfl rfl
    replace hS := hS.drop1
    replace hS := hS.front 5 (C := [(b1, rowO [.int .i64 fr, .int .i64 to, .int .u64 id, .int .i64 ((ix : Nat) : Int), .int .i64 ((cn : Nat) : Int), .slice B bs.length d'] 38)]) (L' := [(b, rowO [.slice A92 ((qs.take k ++ qs.drop (k + 1)).length) c93] 33)] :: C91 :: C85 :: (C78 ++ D) :: [] :: R :: F) rfl rfl
    replace hS := hS.drop1
    replace hS := hS.front 2 (C := C85) (L' := [(b, rowO [.slice A92 ((qs.take k ++ qs.drop (k + 1)).length) c93] 33)] :: C91 :: (C78 ++ D) :: [] :: R :: F) rfl rfl
    replace hS := hS.front 3 (C := (C78 ++ D)) (L' := C85 :: [(b, rowO [.slice A92 ((qs.take k ++ qs.drop (k + 1)).length) c93] 33)] :: C91 :: [] :: R :: F) rfl rfl
    replace hS := hS.front 4 (C := []) (L' := (C78 ++ D) :: C85 :: [(b, rowO [.slice A92 ((qs.take k ++ qs.drop (k + 1)).length) c93] 33)] :: C91 :: R :: F) rfl rfl
    replace hS := hS.front 5 (C := R) (L' := [] :: (C78 ++ D) :: C85 :: [(b, rowO [.slice A92 ((qs.take k ++ qs.drop (k + 1)).length) c93] 33)] :: C91 :: F) rfl rfl
    replace hS := hS.front 5 (C := C91) (L' := R :: [] :: (C78 ++ D) :: C85 :: [(b, rowO [.slice A92 ((qs.take k ++ qs.drop (k + 1)).length) c93] 33)] :: F) rfl rfl
    replace hS := hS.front 5 (C := [(b, rowO [.slice A92 ((qs.take k ++ qs.drop (k + 1)).length) c93] 33)]) (L' := C91 :: R :: [] :: (C78 ++ D) :: C85 :: F) rfl rfl
    replace hS := hS.front 5 (C := C85) (L' := [(b, rowO [.slice A92 ((qs.take k ++ qs.drop (k + 1)).length) c93] 33)] :: C91 :: R :: [] :: (C78 ++ D) :: F) rfl rfl
    replace hS := hS.front 5 (C := (C78 ++ D)) (L' := C85 :: [(b, rowO [.slice A92 ((qs.take k ++ qs.drop (k + 1)).length) c93] 33)] :: C91 :: R :: [] :: F) rfl rfl
    replace hS := hS.front 5 (C := []) (L' := (C78 ++ D) :: C85 :: [(b, rowO [.slice A92 ((qs.take k ++ qs.drop (k + 1)).length) c93] 33)] :: C91 :: R :: F) rfl rfl
    replace hS := hS.front 5 (C := R) (L' := [] :: (C78 ++ D) :: C85 :: [(b, rowO [.slice A92 ((qs.take k ++ qs.drop (k + 1)).length) c93] 33)] :: C91 :: F) rfl rfl
    replace hS := hS.join
    replace hS := hS.front 4 (C := C91) (L' := (R ++ []) :: (C78 ++ D) :: C85 :: [(b, rowO [.slice A92 ((qs.take k ++ qs.drop (k + 1)).length) c93] 33)] :: F) rfl rfl
    replace hS := hS.front 4 (C := [(b, rowO [.slice A92 ((qs.take k ++ qs.drop (k + 1)).length) c93] 33)]) (L' := C91 :: (R ++ []) :: (C78 ++ D) :: C85 :: F) rfl rfl
    replace hS := hS.join3
    have hmp : (qs.take k ++ qs.drop (k + 1)).map gv = ps.map gv := by rw [List.map_append, List.map_take, List.map_drop]; rw [hqs, new_del hk]
    have hcd : cat ((List.replicate cn ((0, 0, 0, 0, 0, none, 0, ([] : List UInt8)) : Pkt)).set ix (fr, to, id, ((ix : Nat) : Int), ((cn : Nat) : Int), A76, c77, bs)) ((List.replicate cn ((0, 0, 0, 0, 0, none, 0, ([] : List UInt8)) : Pkt)).set ix (fr, to, id, ((ix : Nat) : Int), ((cn : Nat) : Int), A76, c77, bs)).length = ((List.replicate cn []).set ix bs).flatten := by rw [cat_dat, List.map_set]; rw [List.map_replicate]; rfl
    have hpos : decide (((((List.replicate cn ((0, 0, 0, 0, 0, none, 0, ([] : List UInt8)) : Pkt)).set ix (fr, to, id, ((ix : Nat) : Int), ((cn : Nat) : Int), A76, c77, bs)).length : Nat) : Int) > 0) = true := decide_eq_true (by rw [List.length_set]; omega)
    rw [hcd] at hO85
    exact ⟨_, C78, _, _, ⟨_, _, _, _, hO91, rfl, PO.app hR1 hR2, sub_all hI2, encs_left (sub_all hdd2), hmp⟩, hO85, by rw [hcd, hpos], hS⟩

end Go.Proofs.Ytbfdppfddlilgaa
