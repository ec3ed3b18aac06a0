import Derived.Test.YtjmnajcjbimbiaaDoorG
set_option linter.unusedVariables false
set_option linter.unusedSimpArgs false
set_option maxRecDepth 4000
namespace Go.Proofs.YtjmnajcjbimbiaaDoor
open Go Go.SK
theorem upd_setCell {w : World} {b : Nat} {x v : Value} {T : TypeId} (hb : w.heap[b]? = some (rowO [x] T)) : Upd w (w.setCell ⟨b, 0, none⟩ v) b (rowO [v] T) := by
  refine ⟨rfl, rfl, rfl, by simp [World.setCell], ?_, fun k _ hk => RowKit.Below.heap_setCell w _ _ k hk⟩
  simp only [World.setCell, Array.getElem?_modify, if_true, hb]
  rfl
/-- What the listed variable holds, in the world that the law begins in. -/
def HG (w : World) : Prop := w.cell? ⟨0, 0, none⟩ = some (.iface 76 (.agg #[.pointer (some ⟨1, 29, none⟩)]))
theorem asHit {w0 w : World} {F : List Chunk} {b : Nat} {x : Value} (hS : St w0 w ([(b, rowO [x] 41)] :: F)) (hg : HG w0) (n : Int) :
    Ret Tryd.prog 17 #[.iface 41 (.int .i64 n), .iface 61 (.pointer (some ⟨b, 0, none⟩))] w (fun v w' => v = .bool true ∧ St w0 w' ([(b, rowO [.int .i64 n] 41)] :: F)) := by
  have hb := hS.heapAt 0 rfl
  refine Calls.mono (as_hit n ⟨b, 0, none⟩ x w (hS.old hg) (cell_row hb rfl) (by simp [World.frozen?, hb, rowO])) fun e w' ⟨he, hw⟩ => ⟨_, he, rfl, ?_⟩
  subst hw
  have h4 := (((hS.alloc (.cells #[.pointer (some ⟨b, 0, none⟩)] 61)).alloc (.cells #[.pointer (some ⟨1, 61, none⟩), .pointer (some ⟨w.heap.size, 0, none⟩), .int .u64 150] 66)).alloc (.cells #[.pointer (some ⟨1, 61, none⟩), .pointer (some ⟨w.heap.size, 0, none⟩), .int .u64 150] 66)).alloc (.cells #[.int .i64 n] 41)
  have h5 := h4.drop1.drop1.drop1.drop1
  exact h5.upd (upd_setCell (h5.heapAt 0 rfl))
theorem asNil {w0 w : World} {F : List Chunk} (hS : St w0 w F) (t : Value) :
    Ret Tryd.prog 17 #[.nilIface, t] w (fun v w' => v = .bool false ∧ St w0 w' F) :=
  Calls.mono (as_nil t w) fun e w' ⟨he, hw⟩ => ⟨_, he, rfl, hw ▸ hS⟩

theorem number_hit11 {w0 w : World} {F : List Chunk} (hS : St w0 w F) (hg : HG w0) (n : Int) :
    Ret Tryd.prog 11 #[.iface 41 (.int .i64 n)] w (fun v w' => v = .int .i64 n ∧ St w0 w' F) := by
  refine enter (vs := [.iface 41 (.int .i64 n)]) 8 Tryd.func11 rfl rfl (by simp) ?_; intro a hA
  refine wp_seq ?_
  refine wp_region_lit ?_
  refine st_run tbOk 1 hA (e' := (2, .int .i64 0) :: _) rfl ?_; clear hA; intro a hA
  refine wpList_nil ?_
  replace hA := hA.sel [0] (e' := [(0, .iface 41 (.int .i64 n))]) rfl
  refine xt_norm ?_
  refine wp_seq ?_
  refine wp_region_lit ?_
  refine st_alloc tbOk hA hS [.int .i64 0] rfl rfl rfl rfl rfl (by decide) ?_; clear hA hS; intro b1 w2 a hS hA
  refine wpList_nil ?_
  refine xt_norm ?_
  refine wp_seq ?_
  refine wp_seq ?_
  refine wp_region_lit ?_
  refine st_run tbOk 2 hA (e' := (5, .iface 61 (.pointer (some ⟨b1, 0, none⟩))) :: (4, .iface 41 (.int .i64 n)) :: _) rfl ?_; clear hA; intro a hA
  refine st_call0 hA rfl rfl rfl isfn17 rfl rfl (by decide) (asHit hS hg n) ?_
  clear hA hS; rintro v w3 a ⟨rfl, hS⟩ hA
  refine wpList_nil ?_
  replace hA := hA.sel [3, 6] (e' := [(3, .pointer (some ⟨b1, 0, none⟩)), (6, .bool true)]) rfl
  refine xt_norm ?_
  refine cd_cond_t hA rfl ?_
  refine wp_seq ?_
  refine wp_region_lit ?_
  refine st_val hA rfl rfl (by decide) (rn_load tbOk hA rfl rfl rfl rfl (cell_row (hS.heapAt 0 rfl) rfl)) ?_; clear hA; intro a hA
  refine st_run tbOk 1 hA (e' := (2, .int .i64 n) :: _) rfl ?_; clear hA; intro a hA
  refine wpList_nil ?_
  replace hA := hA.sel [2] (e' := [(2, .int .i64 n)]) rfl
  refine xt_norm ?_
  refine wp_ret (xt_ret ?_)
  refine ret1 (fn := Tryd.f11) hA rfl rfl ?_
  replace hS := hS.drop1
  exact ⟨rfl, hS⟩

theorem number_nil11 {w0 w : World} {F : List Chunk} (hS : St w0 w F) (hg : HG w0) :
    Ret Tryd.prog 11 #[.nilIface] w (fun v w' => v = .int .i64 0 ∧ St w0 w' F) := by
  refine enter (vs := [.nilIface]) 8 Tryd.func11 rfl rfl (by simp) ?_; intro a hA
  refine wp_seq ?_
  refine wp_region_lit ?_
  refine st_run tbOk 1 hA (e' := (2, .int .i64 0) :: _) rfl ?_; clear hA; intro a hA
  refine wpList_nil ?_
  replace hA := hA.sel [0] (e' := [(0, .nilIface)]) rfl
  refine xt_norm ?_
  refine wp_seq ?_
  refine wp_region_lit ?_
  refine st_alloc tbOk hA hS [.int .i64 0] rfl rfl rfl rfl rfl (by decide) ?_; clear hA hS; intro b1 w2 a hS hA
  refine wpList_nil ?_
  refine xt_norm ?_
  refine wp_seq ?_
  refine wp_seq ?_
  refine wp_region_lit ?_
  refine st_run tbOk 2 hA (e' := (5, .iface 61 (.pointer (some ⟨b1, 0, none⟩))) :: (4, .nilIface) :: _) rfl ?_; clear hA; intro a hA
  refine st_call0 hA rfl rfl rfl isfn17 rfl rfl (by decide) (asNil hS _) ?_
  clear hA hS; rintro v w3 a ⟨rfl, hS⟩ hA
  refine wpList_nil ?_
  replace hA := hA.sel [3, 6] (e' := [(3, .pointer (some ⟨b1, 0, none⟩)), (6, .bool false)]) rfl
  refine xt_norm ?_
  refine cd_cond_f hA rfl ?_
  refine wp_skip ?_
  refine xt_norm ?_
  refine wp_seq ?_
  refine wp_region_lit ?_
  refine st_run tbOk 1 hA (e' := (2, .int .i64 0) :: _) rfl ?_; clear hA; intro a hA
  refine wpList_nil ?_
  replace hA := hA.sel [2] (e' := [(2, .int .i64 0)]) rfl
  refine xt_norm ?_
  refine wp_ret ?_
  refine ret1 (fn := Tryd.f11) hA rfl rfl ?_
  replace hS := hS.drop1
  exact ⟨rfl, hS⟩

def mid (x : Msg) : Int := x.2.2.1
def encU (x : Int) : List Value := [.int .u32 x]
theorem encU_ok : Enc encU 1 := ⟨fun _ => rfl, fun x u hu => by rw [List.mem_singleton.1 hu]; rfl⟩
theorem wrap32 {k : Nat} (h : k < 64) : IntKind.u32.wrap ((k : Nat) : Int) = ((k : Nat) : Int) := by
  have : IntKind.u32.wrap ((k : Nat) : Int) = ((k : Nat) : Int) % 4294967296 := by unfold IntKind.wrap; simp [IntKind.min, IntKind.max, IntKind.bits, IntKind.signed]
  omega
theorem rn_conv {P : Program} {a : Act} {n : Nat} {e : Env} {o : Oper} {w : World} {s d : TypeId} {x : Operand} {v0 v : Value} (hA : Has a n e) (ho : o.op = .convert s d x) (hx : ev e x = some v0) (h : (convert s d v0).run P w = .ok v w) : (execOp a.eval o).run P w = .ok (.value v) w := by
  unfold execOp
  rw [ho]
  simp [hA.ev hx, h]
theorem cons_ex {α : Type} {l : List α} (h : 0 < l.length) : ∃ x l', l = x :: l' := by
  cases l with
  | nil => simp at h
  | cons x l => exact ⟨x, l, rfl⟩
def ixs (c : Bool) (l : List Bool) (k : Nat) : List Int := ((List.range k).filter (fun i => decide (i < 64) && (l[i]? == some c))).map (fun i => ((i : Nat) : Int))
theorem ixs_yes {c : Bool} {l : List Bool} {k : Nat} (h : l[k]? = some c) (hk : k < 64) : ixs c l (k + 1) = ixs c l k ++ [((k : Nat) : Int)] := by
  rw [ixs, ixs, List.range_succ, List.filter_append, List.map_append]; simp [h, hk]
theorem ixs_no {c d : Bool} {l : List Bool} {k : Nat} (h : l[k]? = some d) (hd : ¬ (d = c ∧ k < 64)) : ixs c l (k + 1) = ixs c l k := by
  rw [ixs, ixs, List.range_succ, List.filter_append, List.map_append]
  have : (decide (k < 64) && (l[k]? == some c)) = false := by
    rw [h, Bool.and_eq_false_iff]
    by_cases hk : k < 64
    · right; simp; exact fun e => hd ⟨e, hk⟩
    · left; simpa using hk
  simp [this]
theorem ixs_le (c : Bool) (l : List Bool) (k : Nat) : (ixs c l k).length ≤ k := by
  rw [ixs, List.length_map]; exact Nat.le_trans (List.length_filter_le _ _) (by simp)
theorem ixs_64 (c : Bool) (l : List Bool) : ∀ k, (ixs c l k).length ≤ 64
  | 0 => by simp [ixs]
  | k + 1 => by
    by_cases hk : k < 64
    · exact Nat.le_trans (ixs_le c l (k + 1)) (by omega)
    · have e : ixs c l (k + 1) = ixs c l k := by
        rw [ixs, ixs, List.range_succ, List.filter_append, List.map_append]
        have : (decide (k < 64) && (l[k]? == some c)) = false := by rw [Bool.and_eq_false_iff]; left; simpa using hk
        simp [this]
      rw [e]; exact ixs_64 c l k
def wnt (l : List Bool) (j : Nat) : List Int := (if 1 ≤ j then ixs true l l.length else []) ++ (if 2 ≤ j then ixs false l l.length else [])
theorem wnt_le (l : List Bool) (j : Nat) : (wnt l j).length ≤ 128 := by
  have h1 := ixs_64 true l l.length; have h2 := ixs_64 false l l.length
  rw [wnt, List.length_append]
  split <;> split <;> first | omega | (simp only [List.length_nil]; omega)
theorem map_snoc {us : List Msg} {m : Msg} {xs : List Int} (h : us.map mid = xs) : (us ++ [m]).map mid = xs ++ [mid m] := by rw [List.map_append, h]; rfl
theorem dr_cons {l : List Int} {i : Nat} {x : Int} (h : l[i]? = some x) : l.drop i = x :: l.drop (i + 1) := by
  have hk := (List.getElem?_eq_some_iff.1 h).1
  have he := (List.getElem?_eq_some_iff.1 h).2
  rw [List.drop_eq_getElem_cons hk, he]
theorem next_u {x : Msg} {us ps : List Msg} {w : List Int} {id : Int} (h : (x :: us).map mid ++ ps.map mid = id :: w) : mid x = id ∧ us.map mid ++ ps.map mid = w := by
  simpa using h
theorem next_p {x : Msg} {ps : List Msg} {w : List Int} {id : Int} (h : ([] : List Msg).map mid ++ (x :: ps).map mid = id :: w) : mid x = id ∧ ([] : List Msg).map mid ++ ps.map mid = w := by
  simpa using h
theorem next_no {w : List Int} {id : Int} (h : ([] : List Msg).map mid ++ ([] : List Msg).map mid = id :: w) : False := by simp at h
theorem last_no {us ps : List Msg} (h : us.map mid ++ ps.map mid = []) : us = [] ∧ ps = [] := by simpa using h

theorem cvr48 (w : World) : (convert 21 9 (.int .i32 48)).run Tryd.prog w = .ok (.string (bsv [48])) w := by kernel_rfl
theorem cvr49 (w : World) : (convert 21 9 (.int .i32 49)).run Tryd.prog w = .ok (.string (bsv [49])) w := by kernel_rfl
theorem cvr50 (w : World) : (convert 21 9 (.int .i32 50)).run Tryd.prog w = .ok (.string (bsv [50])) w := by kernel_rfl
theorem cvr51 (w : World) : (convert 21 9 (.int .i32 51)).run Tryd.prog w = .ok (.string (bsv [51])) w := by kernel_rfl

theorem awake7 {w0 w : World} {F : List Chunk} (hS : St w0 w F) (hg : HG w0) :
    Ret Tryd.prog 7 #[] w (fun v w' => v = .bool true ∧ St w0 w' F) := by
  refine enter (vs := []) 58 Tryd.func7 rfl rfl (by simp) ?_; intro a hA
  refine wp_seq ?_
  refine wp_region_lit ?_
  refine st_run tbOk 1 hA (e' := (0, .bool false) :: _) rfl ?_; clear hA; intro a hA
  refine wpList_nil ?_
  replace hA := hA.sel [] (e' := []) rfl
  refine xt_norm ?_
  refine wp_seq ?_
  refine wp_region_lit ?_
  refine st_call0 hA rfl rfl rfl isfn8 rfl rfl (by decide) (of8 hS 2 2 (by omega)) ?_
  clear hA hS; rintro _ w1 a ⟨bb2, L3, hM4, rfl, hS⟩ hA
  replace hS := hS.nil
  refine st_run tbOk 1 hA (e' := (1, .pointer (some ⟨bb2, 0, none⟩)) :: _) rfl ?_; clear hA; intro a hA
  refine wpList_nil ?_
  replace hA := hA.sel [1] (e' := [(1, .pointer (some ⟨bb2, 0, none⟩))]) rfl
  refine xt_norm ?_
  refine wp_seq ?_
  refine wp_seq ?_
  refine wp_region_lit ?_
  refine st_run tbOk 2 hA (e' := (11, .bool false) :: (10, .pointer (some ⟨bb2, 0, none⟩)) :: _) rfl ?_; clear hA; intro a hA
  refine wpList_nil ?_
  replace hA := hA.sel [1, 11] (e' := [(1, .pointer (some ⟨bb2, 0, none⟩)), (11, .bool false)]) rfl
  refine xt_norm ?_
  refine cd_cond_f hA rfl ?_
  refine wp_skip ?_
  refine xt_norm ?_
  refine wp_seq ?_
  refine wp_region_lit ?_
  refine st_run tbOk 1 hA (e' := (12, .pointer (some ⟨bb2, 0, none⟩)) :: _) rfl ?_; clear hA; intro a hA
  refine st_val hA rfl rfl (by decide) (rn_build tbOk hA rfl rfl rfl rfl rfl rfl rfl) ?_; clear hA; intro a hA
  replace hS := hS.front 1 (C := L3) (L' := [] :: F) rfl rfl
  refine st_call0 hA rfl rfl rfl isfn9 rfl rfl (by decide) (put_p_room9 hS hM4 0 0 1 0 0 0 0 0 0 0 (bs := ([] : List UInt8)) RdSX.nil (by first | omega | exact Nat.le_of_ble_eq_true rfl) (by simp)) ?_
  clear hA hS; rintro _ w5 a ⟨L6, E8, A9, c10, hM7, hE11, rfl, hS⟩ hA
  refine st_run tbOk 1 hA (e' := (2, .nilIface) :: _) rfl ?_; clear hA; intro a hA
  refine wpList_nil ?_
  replace hA := hA.sel [1, 2] (e' := [(1, .pointer (some ⟨bb2, 0, none⟩)), (2, .nilIface)]) rfl
  refine xt_norm ?_
  refine wp_seq ?_
  refine wp_region_lit ?_
  refine st_run tbOk 1 hA (e' := (15, .pointer (some ⟨bb2, 0, none⟩)) :: _) rfl ?_; clear hA; intro a hA
  refine st_val hA rfl rfl (by decide) (rn_build tbOk hA rfl rfl rfl rfl rfl rfl rfl) ?_; clear hA; intro a hA
  replace hS := hS.front 1 (C := (E8 ++ [])) (L' := L6 :: F) rfl rfl
  replace hS := hS.front 1 (C := L6) (L' := (E8 ++ []) :: F) rfl rfl
  refine st_call0 hA rfl rfl rfl isfn9 rfl rfl (by decide) (put_p_room9 hS hM7 0 0 2 0 0 0 0 0 0 0 (bs := ([] : List UInt8)) RdSX.nil (by first | omega | exact Nat.le_of_ble_eq_true rfl) (by simp)) ?_
  clear hA hS; rintro _ w12 a ⟨L13, E15, A16, c17, hM14, hE18, rfl, hS⟩ hA
  refine st_run tbOk 1 hA (e' := (3, .nilIface) :: _) rfl ?_; clear hA; intro a hA
  refine wpList_nil ?_
  replace hA := hA.sel [1, 2, 3] (e' := [(1, .pointer (some ⟨bb2, 0, none⟩)), (2, .nilIface), (3, .nilIface)]) rfl
  refine xt_norm ?_
  refine wp_seq ?_
  refine wp_region_lit ?_
  refine st_run tbOk 1 hA (e' := (18, .pointer (some ⟨bb2, 0, none⟩)) :: _) rfl ?_; clear hA; intro a hA
  refine st_val hA rfl rfl (by decide) (rn_build tbOk hA rfl rfl rfl rfl rfl rfl rfl) ?_; clear hA; intro a hA
  replace hS := hS.front 1 (C := (E15 ++ (E8 ++ []))) (L' := L13 :: F) rfl rfl
  replace hS := hS.front 1 (C := L13) (L' := (E15 ++ (E8 ++ [])) :: F) rfl rfl
  refine st_call0 hA rfl rfl rfl isfn9 rfl rfl (by decide) (put_u_room9 hS hM14 0 0 3 0 0 0 0 0 0 0 (bs := ([] : List UInt8)) RdSX.nil (by first | omega | exact Nat.le_of_ble_eq_true rfl) (by simp)) ?_
  clear hA hS; rintro _ w19 a ⟨L20, E22, A23, c24, hM21, hE25, rfl, hS⟩ hA
  refine st_run tbOk 1 hA (e' := (4, .nilIface) :: _) rfl ?_; clear hA; intro a hA
  refine wpList_nil ?_
  replace hA := hA.sel [1, 2, 3, 4] (e' := [(1, .pointer (some ⟨bb2, 0, none⟩)), (2, .nilIface), (3, .nilIface), (4, .nilIface)]) rfl
  refine xt_norm ?_
  refine wp_seq ?_
  refine wp_region_lit ?_
  refine st_run tbOk 1 hA (e' := (21, .pointer (some ⟨bb2, 0, none⟩)) :: _) rfl ?_; clear hA; intro a hA
  refine st_val hA rfl rfl (by decide) (rn_build tbOk hA rfl rfl rfl rfl rfl rfl rfl) ?_; clear hA; intro a hA
  replace hS := hS.front 1 (C := (E22 ++ (E15 ++ (E8 ++ [])))) (L' := L20 :: F) rfl rfl
  replace hS := hS.front 1 (C := L20) (L' := (E22 ++ (E15 ++ (E8 ++ []))) :: F) rfl rfl
  refine st_call0 hA rfl rfl rfl isfn9 rfl rfl (by decide) (put_p_full9 hS hM21 0 0 4 0 0 0 0 0 0 0 (bs := ([] : List UInt8)) RdSX.nil (by first | omega | exact Nat.le_of_ble_eq_true rfl) (by simp)) ?_
  clear hA hS; rintro _ w26 a ⟨L27, hM28, rfl, hS⟩ hA
  refine st_run tbOk 1 hA (e' := (5, .iface 41 (.int .i64 5)) :: _) rfl ?_; clear hA; intro a hA
  refine wpList_nil ?_
  replace hA := hA.sel [1, 2, 3, 4, 5] (e' := [(1, .pointer (some ⟨bb2, 0, none⟩)), (2, .nilIface), (3, .nilIface), (4, .nilIface), (5, .iface 41 (.int .i64 5))]) rfl
  refine xt_norm ?_
  refine wp_seq ?_
  refine wp_region_lit ?_
  refine st_run tbOk 1 hA (e' := (6, .string (⟨#[]⟩ : ByteArray)) :: _) rfl ?_; clear hA; intro a hA
  refine wpList_nil ?_
  refine xt_norm ?_
  refine wp_seq ?_
  refine wp_seq ?_
  refine wp_region_lit ?_
  refine st_run tbOk 1 hA (e' := (24, .int .i64 0) :: _) rfl ?_; clear hA; intro a hA
  refine wpList_nil ?_
  refine xt_norm ?_
  refine wp_block ?_
  replace hS := hS.front 1 (C := (E22 ++ (E15 ++ (E8 ++ [])))) (L' := L27 :: F) rfl rfl
  replace hS := hS.front 1 (C := L27) (L' := (E22 ++ (E15 ++ (E8 ++ []))) :: F) rfl rfl
  have hM29 : BX bb2 2 ([(0, 0, 3, 0, 0, 0, 0, 0, 0, 0, A23, c24, ([] : List UInt8))]) ([(0, 0, 1, 0, 0, 0, 0, 0, 0, 0, A9, c10, ([] : List UInt8)), (0, 0, 2, 0, 0, 0, 0, 0, 0, 0, A16, c17, ([] : List UInt8))]) L27 := hM28
  replace hA := hA.rw 6 (v' := .string (bsv [])) rfl rfl
  refine wp_loop_ghost (fun m a w => ∃ (k : Nat) (us : List Msg) (ps : List Msg) (sb : List UInt8) (L1 : Chunk), m = 4 - k ∧ Has a 58 [(1, .pointer (some ⟨bb2, 0, none⟩)), (2, .nilIface), (3, .nilIface), (4, .nilIface), (5, .iface 41 (.int .i64 5)), (6, .string (bsv sb)), (24, .int .i64 ((k : Nat) : Int))] ∧ St w0 w (L1 :: (E22 ++ (E15 ++ (E8 ++ []))) :: F) ∧ (k ≤ 4) ∧ ((k = 0 ∧ us = [(0, 0, 3, 0, 0, 0, 0, 0, 0, 0, A23, c24, ([] : List UInt8))] ∧ ps = [(0, 0, 1, 0, 0, 0, 0, 0, 0, 0, A9, c10, ([] : List UInt8)), (0, 0, 2, 0, 0, 0, 0, 0, 0, 0, A16, c17, ([] : List UInt8))] ∧ sb = []) ∨ (k = 1 ∧ us = [] ∧ ps = [(0, 0, 1, 0, 0, 0, 0, 0, 0, 0, A9, c10, ([] : List UInt8)), (0, 0, 2, 0, 0, 0, 0, 0, 0, 0, A16, c17, ([] : List UInt8))] ∧ sb = [51]) ∨ (k = 2 ∧ us = [] ∧ ps = [(0, 0, 2, 0, 0, 0, 0, 0, 0, 0, A16, c17, ([] : List UInt8))] ∧ sb = [51, 49]) ∨ (k = 3 ∧ us = [] ∧ ps = [] ∧ sb = [51, 49, 50]) ∨ (k = 4 ∧ us = [] ∧ ps = [] ∧ sb = [51, 49, 50, 48])) ∧ (BX bb2 2 us ps L1)) (4 - 0)
    ⟨0, ([(0, 0, 3, 0, 0, 0, 0, 0, 0, 0, A23, c24, ([] : List UInt8))]), ([(0, 0, 1, 0, 0, 0, 0, 0, 0, 0, A9, c10, ([] : List UInt8)), (0, 0, 2, 0, 0, 0, 0, 0, 0, 0, A16, c17, ([] : List UInt8))]), ([]), L27, rfl, (hA.sel [1, 2, 3, 4, 5, 6, 24] rfl), hS, Nat.zero_le _, .inl ⟨rfl, rfl, rfl, rfl⟩, hM29⟩ ?_
  clear hA hS; rintro m0 a w30 ⟨k, us, ps, sb, L1, rfl, hA, hS, hk, hst, hM1⟩
  refine wp_seq ?_
  refine wp_region_lit ?_
  refine st_run tbOk 1 hA (e' := (25, .bool (decide (((k : Nat) : Int) < 4))) :: _) rfl ?_; clear hA; intro a hA
  refine wpList_nil ?_
  refine xt_norm ?_
  refine wp_seq ?_
  by_cases hc31 : ((k : Nat) : Int) < 4
  · first
    | (exfalso; first | omega | decide)
    | (replace hA := hA.rw 25 (v' := .bool true) rfl (vb_true hc31)
       refine cd_cond_t hA rfl ?_
       refine wp_skip ?_
       refine xt_norm ?_
       refine wp_seq ?_
       refine wp_block ?_
       refine wp_seq ?_
       refine wp_region_lit ?_
       rcases hst with ⟨hk9, hu9, hp9, hs9⟩ | ⟨hk9, hu9, hp9, hs9⟩ | ⟨hk9, hu9, hp9, hs9⟩ | ⟨hk9, hu9, hp9, hs9⟩ | ⟨hk9, hu9, hp9, hs9⟩
       · subst hu9; subst hp9; subst hs9
         refine st_run tbOk 1 hA (e' := (27, .pointer (some ⟨bb2, 0, none⟩)) :: _) rfl ?_; clear hA; intro a hA
         replace hS := hS.front 1 (C := (E22 ++ (E15 ++ (E8 ++ [])))) (L' := L1 :: F) rfl rfl
         replace hS := hS.front 1 (C := L1) (L' := (E22 ++ (E15 ++ (E8 ++ []))) :: F) rfl rfl
         refine st_call0 hA rfl rfl rfl isfn10 rfl rfl (by decide) (get_u10 hS hM1) ?_
         clear hA hS; rintro _ w32 a ⟨L33, hM34, rfl, hS⟩ hA
         refine st_run tbOk 3 hA (e' := (30, .bool true) :: (29, .agg #[.int .u64 0, .int .u64 0, .int .u32 3, .int .u16 0, .int .u16 0, .int .u64 0, .int .u32 0, .int .u8 0, .int .u64 0, .int .u64 0, .slice A23 0 c24]) :: (26, .tuple #[.agg #[.int .u64 0, .int .u64 0, .int .u32 3, .int .u16 0, .int .u16 0, .int .u64 0, .int .u32 0, .int .u8 0, .int .u64 0, .int .u64 0, .slice A23 0 c24], .bool true]) :: _) rfl ?_; clear hA; intro a hA
         refine st_alloc tbOk hA hS [.int .u64 0, .int .u64 0, .int .u32 0, .int .u16 0, .int .u16 0, .int .u64 0, .int .u32 0, .int .u8 0, .int .u64 0, .int .u64 0, .slice none 0 0] rfl rfl rfl rfl rfl (by decide) ?_; clear hA hS; intro b35 w36 a hS hA
         refine st_store tbOk hA hS [.int .u64 0, .int .u64 0, .int .u32 3, .int .u16 0, .int .u16 0, .int .u64 0, .int .u32 0, .int .u8 0, .int .u64 0, .int .u64 0, .slice A23 0 c24] [.int .u64 0, .int .u64 0, .int .u32 3, .int .u16 0, .int .u16 0, .int .u64 0, .int .u32 0, .int .u8 0, .int .u64 0, .int .u64 0, .slice A23 0 c24] rfl rfl rfl rfl rfl rfl (by simp [Value.oneCell']) (Nat.le_of_ble_eq_true rfl) rfl rfl rfl ?_; clear hS; intro w37 hS
         refine st_run tbOk 1 hA (e' := (8, .bool true) :: _) rfl ?_; clear hA; intro a hA
         refine wpList_nil ?_
         replace hA := hA.sel [1, 2, 3, 4, 5, 6, 7, 24] (e' := [(1, .pointer (some ⟨bb2, 0, none⟩)), (2, .nilIface), (3, .nilIface), (4, .nilIface), (5, .iface 41 (.int .i64 5)), (6, .string (bsv [])), (7, .pointer (some ⟨b35, 0, none⟩)), (24, .int .i64 ((k : Nat) : Int))]) rfl
         refine xt_norm ?_
         refine wp_region_lit ?_
         refine st_run tbOk 2 hA (e' := (32, .pointer (some ⟨b35, 2, none⟩)) :: (31, .string (bsv [])) :: _) rfl ?_; clear hA; intro a hA
         refine st_val hA rfl rfl (by decide) (rn_load tbOk hA rfl rfl rfl rfl (cell_row (hS.heapAt 0 rfl) rfl)) ?_; clear hA; intro a hA
         refine st_run tbOk 1 hA (e' := (34, .int .u32 (IntKind.u32.wrap (48 + 3))) :: _) rfl ?_; clear hA; intro a hA
         replace hA := hA.rw 34 (v' := .int .u32 51) rfl (vint (by decide))
         refine st_run tbOk 1 hA (e' := (35, .int .i32 (IntKind.i32.wrap 51)) :: _) rfl ?_; clear hA; intro a hA
         replace hA := hA.rw 35 (v' := .int .i32 51) rfl (vint (by decide))
         refine st_val hA rfl rfl (by decide) (rn_conv hA rfl rfl (cvr51 _)) ?_; clear hA; intro a hA
         refine st_val hA rfl rfl (by decide) (rn_stradd hA rfl rfl rfl (by first | omega | decide)) ?_; clear hA; intro a hA
         refine st_run tbOk 1 hA (e' := (6, .string (bsv (([] : List UInt8) ++ ([51] : List UInt8)))) :: _) rfl ?_; clear hA; intro a hA
         refine wpList_nil ?_
         replace hA := hA.sel [1, 2, 3, 4, 5, 6, 24] (e' := [(1, .pointer (some ⟨bb2, 0, none⟩)), (2, .nilIface), (3, .nilIface), (4, .nilIface), (5, .iface 41 (.int .i64 5)), (6, .string (bsv (([] : List UInt8) ++ ([51] : List UInt8)))), (24, .int .i64 ((k : Nat) : Int))]) rfl
         refine xb_norm ?_
         refine xt_norm ?_
         refine wp_region_lit ?_
         replace hA := hA.rw 6 (v' := .string (bsv [51])) rfl (by rfl)
         refine st_run tbOk 1 hA (e' := (38, .int .i64 (IntKind.i64.wrap (((k : Nat) : Int) + 1))) :: _) rfl ?_; clear hA; intro a hA
         replace hA := hA.rw 38 (v' := .int .i64 ((k + 1 : Nat) : Int)) rfl (wr64 (by first | omega | decide) (by first | omega | decide) (by first | omega | decide))
         refine st_run tbOk 1 hA (e' := (24, .int .i64 ((k + 1 : Nat) : Int)) :: _) rfl ?_; clear hA; intro a hA
         refine wpList_nil ?_
         replace hA := hA.sel [1, 2, 3, 4, 5, 6, 24] (e' := [(1, .pointer (some ⟨bb2, 0, none⟩)), (2, .nilIface), (3, .nilIface), (4, .nilIface), (5, .iface 41 (.int .i64 5)), (6, .string (bsv [51])), (24, .int .i64 ((k + 1 : Nat) : Int))]) rfl
         replace hS := hS.drop1
         replace hS := hS.front 1 (C := (E22 ++ (E15 ++ (E8 ++ [])))) (L' := L33 :: F) rfl rfl
         replace hS := hS.front 1 (C := L33) (L' := (E22 ++ (E15 ++ (E8 ++ []))) :: F) rfl rfl
         exact lp_next _ (by omega) ⟨(k + 1), ([]), ([(0, 0, 1, 0, 0, 0, 0, 0, 0, 0, A9, c10, ([] : List UInt8)), (0, 0, 2, 0, 0, 0, 0, 0, 0, 0, A16, c17, ([] : List UInt8))]), ([51] : List UInt8), L33, rfl, (hA.sel [1, 2, 3, 4, 5, 6, 24] rfl), hS, by omega, .inr (.inl ⟨by omega, rfl, rfl, rfl⟩), hM34⟩
       · subst hu9; subst hp9; subst hs9
         refine st_run tbOk 1 hA (e' := (27, .pointer (some ⟨bb2, 0, none⟩)) :: _) rfl ?_; clear hA; intro a hA
         replace hS := hS.front 1 (C := (E22 ++ (E15 ++ (E8 ++ [])))) (L' := L1 :: F) rfl rfl
         replace hS := hS.front 1 (C := L1) (L' := (E22 ++ (E15 ++ (E8 ++ []))) :: F) rfl rfl
         refine st_call0 hA rfl rfl rfl isfn10 rfl rfl (by decide) (get_p10 hS hM1) ?_
         clear hA hS; rintro _ w38 a ⟨L39, hM40, rfl, hS⟩ hA
         refine st_run tbOk 3 hA (e' := (30, .bool true) :: (29, .agg #[.int .u64 0, .int .u64 0, .int .u32 1, .int .u16 0, .int .u16 0, .int .u64 0, .int .u32 0, .int .u8 0, .int .u64 0, .int .u64 0, .slice A9 0 c10]) :: (26, .tuple #[.agg #[.int .u64 0, .int .u64 0, .int .u32 1, .int .u16 0, .int .u16 0, .int .u64 0, .int .u32 0, .int .u8 0, .int .u64 0, .int .u64 0, .slice A9 0 c10], .bool true]) :: _) rfl ?_; clear hA; intro a hA
         refine st_alloc tbOk hA hS [.int .u64 0, .int .u64 0, .int .u32 0, .int .u16 0, .int .u16 0, .int .u64 0, .int .u32 0, .int .u8 0, .int .u64 0, .int .u64 0, .slice none 0 0] rfl rfl rfl rfl rfl (by decide) ?_; clear hA hS; intro b41 w42 a hS hA
         refine st_store tbOk hA hS [.int .u64 0, .int .u64 0, .int .u32 1, .int .u16 0, .int .u16 0, .int .u64 0, .int .u32 0, .int .u8 0, .int .u64 0, .int .u64 0, .slice A9 0 c10] [.int .u64 0, .int .u64 0, .int .u32 1, .int .u16 0, .int .u16 0, .int .u64 0, .int .u32 0, .int .u8 0, .int .u64 0, .int .u64 0, .slice A9 0 c10] rfl rfl rfl rfl rfl rfl (by simp [Value.oneCell']) (Nat.le_of_ble_eq_true rfl) rfl rfl rfl ?_; clear hS; intro w43 hS
         refine st_run tbOk 1 hA (e' := (8, .bool true) :: _) rfl ?_; clear hA; intro a hA
         refine wpList_nil ?_
         replace hA := hA.sel [1, 2, 3, 4, 5, 6, 7, 24] (e' := [(1, .pointer (some ⟨bb2, 0, none⟩)), (2, .nilIface), (3, .nilIface), (4, .nilIface), (5, .iface 41 (.int .i64 5)), (6, .string (bsv [51])), (7, .pointer (some ⟨b41, 0, none⟩)), (24, .int .i64 ((k : Nat) : Int))]) rfl
         refine xt_norm ?_
         refine wp_region_lit ?_
         refine st_run tbOk 2 hA (e' := (32, .pointer (some ⟨b41, 2, none⟩)) :: (31, .string (bsv [51])) :: _) rfl ?_; clear hA; intro a hA
         refine st_val hA rfl rfl (by decide) (rn_load tbOk hA rfl rfl rfl rfl (cell_row (hS.heapAt 0 rfl) rfl)) ?_; clear hA; intro a hA
         refine st_run tbOk 1 hA (e' := (34, .int .u32 (IntKind.u32.wrap (48 + 1))) :: _) rfl ?_; clear hA; intro a hA
         replace hA := hA.rw 34 (v' := .int .u32 49) rfl (vint (by decide))
         refine st_run tbOk 1 hA (e' := (35, .int .i32 (IntKind.i32.wrap 49)) :: _) rfl ?_; clear hA; intro a hA
         replace hA := hA.rw 35 (v' := .int .i32 49) rfl (vint (by decide))
         refine st_val hA rfl rfl (by decide) (rn_conv hA rfl rfl (cvr49 _)) ?_; clear hA; intro a hA
         refine st_val hA rfl rfl (by decide) (rn_stradd hA rfl rfl rfl (by first | omega | decide)) ?_; clear hA; intro a hA
         refine st_run tbOk 1 hA (e' := (6, .string (bsv (([51] : List UInt8) ++ ([49] : List UInt8)))) :: _) rfl ?_; clear hA; intro a hA
         refine wpList_nil ?_
         replace hA := hA.sel [1, 2, 3, 4, 5, 6, 24] (e' := [(1, .pointer (some ⟨bb2, 0, none⟩)), (2, .nilIface), (3, .nilIface), (4, .nilIface), (5, .iface 41 (.int .i64 5)), (6, .string (bsv (([51] : List UInt8) ++ ([49] : List UInt8)))), (24, .int .i64 ((k : Nat) : Int))]) rfl
         refine xb_norm ?_
         refine xt_norm ?_
         refine wp_region_lit ?_
         replace hA := hA.rw 6 (v' := .string (bsv [51, 49])) rfl (by rfl)
         refine st_run tbOk 1 hA (e' := (38, .int .i64 (IntKind.i64.wrap (((k : Nat) : Int) + 1))) :: _) rfl ?_; clear hA; intro a hA
         replace hA := hA.rw 38 (v' := .int .i64 ((k + 1 : Nat) : Int)) rfl (wr64 (by first | omega | decide) (by first | omega | decide) (by first | omega | decide))
         refine st_run tbOk 1 hA (e' := (24, .int .i64 ((k + 1 : Nat) : Int)) :: _) rfl ?_; clear hA; intro a hA
         refine wpList_nil ?_
         replace hA := hA.sel [1, 2, 3, 4, 5, 6, 24] (e' := [(1, .pointer (some ⟨bb2, 0, none⟩)), (2, .nilIface), (3, .nilIface), (4, .nilIface), (5, .iface 41 (.int .i64 5)), (6, .string (bsv [51, 49])), (24, .int .i64 ((k + 1 : Nat) : Int))]) rfl
         replace hS := hS.drop1
         replace hS := hS.front 1 (C := (E22 ++ (E15 ++ (E8 ++ [])))) (L' := L39 :: F) rfl rfl
         replace hS := hS.front 1 (C := L39) (L' := (E22 ++ (E15 ++ (E8 ++ []))) :: F) rfl rfl
         exact lp_next _ (by omega) ⟨(k + 1), ([]), ([(0, 0, 2, 0, 0, 0, 0, 0, 0, 0, A16, c17, ([] : List UInt8))]), ([51, 49] : List UInt8), L39, rfl, (hA.sel [1, 2, 3, 4, 5, 6, 24] rfl), hS, by omega, .inr (.inr (.inl ⟨by omega, rfl, rfl, rfl⟩)), hM40⟩
       · subst hu9; subst hp9; subst hs9
         refine st_run tbOk 1 hA (e' := (27, .pointer (some ⟨bb2, 0, none⟩)) :: _) rfl ?_; clear hA; intro a hA
         replace hS := hS.front 1 (C := (E22 ++ (E15 ++ (E8 ++ [])))) (L' := L1 :: F) rfl rfl
         replace hS := hS.front 1 (C := L1) (L' := (E22 ++ (E15 ++ (E8 ++ []))) :: F) rfl rfl
         refine st_call0 hA rfl rfl rfl isfn10 rfl rfl (by decide) (get_p10 hS hM1) ?_
         clear hA hS; rintro _ w44 a ⟨L45, hM46, rfl, hS⟩ hA
         refine st_run tbOk 3 hA (e' := (30, .bool true) :: (29, .agg #[.int .u64 0, .int .u64 0, .int .u32 2, .int .u16 0, .int .u16 0, .int .u64 0, .int .u32 0, .int .u8 0, .int .u64 0, .int .u64 0, .slice A16 0 c17]) :: (26, .tuple #[.agg #[.int .u64 0, .int .u64 0, .int .u32 2, .int .u16 0, .int .u16 0, .int .u64 0, .int .u32 0, .int .u8 0, .int .u64 0, .int .u64 0, .slice A16 0 c17], .bool true]) :: _) rfl ?_; clear hA; intro a hA
         refine st_alloc tbOk hA hS [.int .u64 0, .int .u64 0, .int .u32 0, .int .u16 0, .int .u16 0, .int .u64 0, .int .u32 0, .int .u8 0, .int .u64 0, .int .u64 0, .slice none 0 0] rfl rfl rfl rfl rfl (by decide) ?_; clear hA hS; intro b47 w48 a hS hA
         refine st_store tbOk hA hS [.int .u64 0, .int .u64 0, .int .u32 2, .int .u16 0, .int .u16 0, .int .u64 0, .int .u32 0, .int .u8 0, .int .u64 0, .int .u64 0, .slice A16 0 c17] [.int .u64 0, .int .u64 0, .int .u32 2, .int .u16 0, .int .u16 0, .int .u64 0, .int .u32 0, .int .u8 0, .int .u64 0, .int .u64 0, .slice A16 0 c17] rfl rfl rfl rfl rfl rfl (by simp [Value.oneCell']) (Nat.le_of_ble_eq_true rfl) rfl rfl rfl ?_; clear hS; intro w49 hS
         refine st_run tbOk 1 hA (e' := (8, .bool true) :: _) rfl ?_; clear hA; intro a hA
         refine wpList_nil ?_
         replace hA := hA.sel [1, 2, 3, 4, 5, 6, 7, 24] (e' := [(1, .pointer (some ⟨bb2, 0, none⟩)), (2, .nilIface), (3, .nilIface), (4, .nilIface), (5, .iface 41 (.int .i64 5)), (6, .string (bsv [51, 49])), (7, .pointer (some ⟨b47, 0, none⟩)), (24, .int .i64 ((k : Nat) : Int))]) rfl
         refine xt_norm ?_
         refine wp_region_lit ?_
         refine st_run tbOk 2 hA (e' := (32, .pointer (some ⟨b47, 2, none⟩)) :: (31, .string (bsv [51, 49])) :: _) rfl ?_; clear hA; intro a hA
         refine st_val hA rfl rfl (by decide) (rn_load tbOk hA rfl rfl rfl rfl (cell_row (hS.heapAt 0 rfl) rfl)) ?_; clear hA; intro a hA
         refine st_run tbOk 1 hA (e' := (34, .int .u32 (IntKind.u32.wrap (48 + 2))) :: _) rfl ?_; clear hA; intro a hA
         replace hA := hA.rw 34 (v' := .int .u32 50) rfl (vint (by decide))
         refine st_run tbOk 1 hA (e' := (35, .int .i32 (IntKind.i32.wrap 50)) :: _) rfl ?_; clear hA; intro a hA
         replace hA := hA.rw 35 (v' := .int .i32 50) rfl (vint (by decide))
         refine st_val hA rfl rfl (by decide) (rn_conv hA rfl rfl (cvr50 _)) ?_; clear hA; intro a hA
         refine st_val hA rfl rfl (by decide) (rn_stradd hA rfl rfl rfl (by first | omega | decide)) ?_; clear hA; intro a hA
         refine st_run tbOk 1 hA (e' := (6, .string (bsv (([51, 49] : List UInt8) ++ ([50] : List UInt8)))) :: _) rfl ?_; clear hA; intro a hA
         refine wpList_nil ?_
         replace hA := hA.sel [1, 2, 3, 4, 5, 6, 24] (e' := [(1, .pointer (some ⟨bb2, 0, none⟩)), (2, .nilIface), (3, .nilIface), (4, .nilIface), (5, .iface 41 (.int .i64 5)), (6, .string (bsv (([51, 49] : List UInt8) ++ ([50] : List UInt8)))), (24, .int .i64 ((k : Nat) : Int))]) rfl
         refine xb_norm ?_
         refine xt_norm ?_
         refine wp_region_lit ?_
         replace hA := hA.rw 6 (v' := .string (bsv [51, 49, 50])) rfl (by rfl)
         refine st_run tbOk 1 hA (e' := (38, .int .i64 (IntKind.i64.wrap (((k : Nat) : Int) + 1))) :: _) rfl ?_; clear hA; intro a hA
         replace hA := hA.rw 38 (v' := .int .i64 ((k + 1 : Nat) : Int)) rfl (wr64 (by first | omega | decide) (by first | omega | decide) (by first | omega | decide))
         refine st_run tbOk 1 hA (e' := (24, .int .i64 ((k + 1 : Nat) : Int)) :: _) rfl ?_; clear hA; intro a hA
         refine wpList_nil ?_
         replace hA := hA.sel [1, 2, 3, 4, 5, 6, 24] (e' := [(1, .pointer (some ⟨bb2, 0, none⟩)), (2, .nilIface), (3, .nilIface), (4, .nilIface), (5, .iface 41 (.int .i64 5)), (6, .string (bsv [51, 49, 50])), (24, .int .i64 ((k + 1 : Nat) : Int))]) rfl
         replace hS := hS.drop1
         replace hS := hS.front 1 (C := (E22 ++ (E15 ++ (E8 ++ [])))) (L' := L45 :: F) rfl rfl
         replace hS := hS.front 1 (C := L45) (L' := (E22 ++ (E15 ++ (E8 ++ []))) :: F) rfl rfl
         exact lp_next _ (by omega) ⟨(k + 1), ([]), ([]), ([51, 49, 50] : List UInt8), L45, rfl, (hA.sel [1, 2, 3, 4, 5, 6, 24] rfl), hS, by omega, .inr (.inr (.inr (.inl ⟨by omega, rfl, rfl, rfl⟩))), hM46⟩
       · subst hu9; subst hp9; subst hs9
         refine st_run tbOk 1 hA (e' := (27, .pointer (some ⟨bb2, 0, none⟩)) :: _) rfl ?_; clear hA; intro a hA
         replace hS := hS.front 1 (C := (E22 ++ (E15 ++ (E8 ++ [])))) (L' := L1 :: F) rfl rfl
         replace hS := hS.front 1 (C := L1) (L' := (E22 ++ (E15 ++ (E8 ++ []))) :: F) rfl rfl
         refine st_call0 hA rfl rfl rfl isfn10 rfl rfl (by decide) (get_none10 hS hM1) ?_
         clear hA hS; rintro _ w50 a ⟨L51, hM52, rfl, hS⟩ hA
         refine st_run tbOk 3 hA (e' := (30, .bool false) :: (29, .agg #[.int .u64 0, .int .u64 0, .int .u32 0, .int .u16 0, .int .u16 0, .int .u64 0, .int .u32 0, .int .u8 0, .int .u64 0, .int .u64 0, .slice none 0 0]) :: (26, .tuple #[.agg #[.int .u64 0, .int .u64 0, .int .u32 0, .int .u16 0, .int .u16 0, .int .u64 0, .int .u32 0, .int .u8 0, .int .u64 0, .int .u64 0, .slice none 0 0], .bool false]) :: _) rfl ?_; clear hA; intro a hA
         refine st_alloc tbOk hA hS [.int .u64 0, .int .u64 0, .int .u32 0, .int .u16 0, .int .u16 0, .int .u64 0, .int .u32 0, .int .u8 0, .int .u64 0, .int .u64 0, .slice none 0 0] rfl rfl rfl rfl rfl (by decide) ?_; clear hA hS; intro b53 w54 a hS hA
         refine st_store tbOk hA hS [.int .u64 0, .int .u64 0, .int .u32 0, .int .u16 0, .int .u16 0, .int .u64 0, .int .u32 0, .int .u8 0, .int .u64 0, .int .u64 0, .slice none 0 0] [.int .u64 0, .int .u64 0, .int .u32 0, .int .u16 0, .int .u16 0, .int .u64 0, .int .u32 0, .int .u8 0, .int .u64 0, .int .u64 0, .slice none 0 0] rfl rfl rfl rfl rfl rfl (by simp [Value.oneCell']) (Nat.le_of_ble_eq_true rfl) rfl rfl rfl ?_; clear hS; intro w55 hS
         refine st_run tbOk 1 hA (e' := (8, .bool false) :: _) rfl ?_; clear hA; intro a hA
         refine wpList_nil ?_
         replace hA := hA.sel [1, 2, 3, 4, 5, 6, 7, 24] (e' := [(1, .pointer (some ⟨bb2, 0, none⟩)), (2, .nilIface), (3, .nilIface), (4, .nilIface), (5, .iface 41 (.int .i64 5)), (6, .string (bsv [51, 49, 50])), (7, .pointer (some ⟨b53, 0, none⟩)), (24, .int .i64 ((k : Nat) : Int))]) rfl
         refine xt_norm ?_
         refine wp_region_lit ?_
         refine st_run tbOk 2 hA (e' := (32, .pointer (some ⟨b53, 2, none⟩)) :: (31, .string (bsv [51, 49, 50])) :: _) rfl ?_; clear hA; intro a hA
         refine st_val hA rfl rfl (by decide) (rn_load tbOk hA rfl rfl rfl rfl (cell_row (hS.heapAt 0 rfl) rfl)) ?_; clear hA; intro a hA
         refine st_run tbOk 1 hA (e' := (34, .int .u32 (IntKind.u32.wrap (48 + 0))) :: _) rfl ?_; clear hA; intro a hA
         replace hA := hA.rw 34 (v' := .int .u32 48) rfl (vint (by decide))
         refine st_run tbOk 1 hA (e' := (35, .int .i32 (IntKind.i32.wrap 48)) :: _) rfl ?_; clear hA; intro a hA
         replace hA := hA.rw 35 (v' := .int .i32 48) rfl (vint (by decide))
         refine st_val hA rfl rfl (by decide) (rn_conv hA rfl rfl (cvr48 _)) ?_; clear hA; intro a hA
         refine st_val hA rfl rfl (by decide) (rn_stradd hA rfl rfl rfl (by first | omega | decide)) ?_; clear hA; intro a hA
         refine st_run tbOk 1 hA (e' := (6, .string (bsv (([51, 49, 50] : List UInt8) ++ ([48] : List UInt8)))) :: _) rfl ?_; clear hA; intro a hA
         refine wpList_nil ?_
         replace hA := hA.sel [1, 2, 3, 4, 5, 6, 24] (e' := [(1, .pointer (some ⟨bb2, 0, none⟩)), (2, .nilIface), (3, .nilIface), (4, .nilIface), (5, .iface 41 (.int .i64 5)), (6, .string (bsv (([51, 49, 50] : List UInt8) ++ ([48] : List UInt8)))), (24, .int .i64 ((k : Nat) : Int))]) rfl
         refine xb_norm ?_
         refine xt_norm ?_
         refine wp_region_lit ?_
         replace hA := hA.rw 6 (v' := .string (bsv [51, 49, 50, 48])) rfl (by rfl)
         refine st_run tbOk 1 hA (e' := (38, .int .i64 (IntKind.i64.wrap (((k : Nat) : Int) + 1))) :: _) rfl ?_; clear hA; intro a hA
         replace hA := hA.rw 38 (v' := .int .i64 ((k + 1 : Nat) : Int)) rfl (wr64 (by first | omega | decide) (by first | omega | decide) (by first | omega | decide))
         refine st_run tbOk 1 hA (e' := (24, .int .i64 ((k + 1 : Nat) : Int)) :: _) rfl ?_; clear hA; intro a hA
         refine wpList_nil ?_
         replace hA := hA.sel [1, 2, 3, 4, 5, 6, 24] (e' := [(1, .pointer (some ⟨bb2, 0, none⟩)), (2, .nilIface), (3, .nilIface), (4, .nilIface), (5, .iface 41 (.int .i64 5)), (6, .string (bsv [51, 49, 50, 48])), (24, .int .i64 ((k + 1 : Nat) : Int))]) rfl
         replace hS := hS.drop1
         replace hS := hS.front 1 (C := (E22 ++ (E15 ++ (E8 ++ [])))) (L' := L51 :: F) rfl rfl
         replace hS := hS.front 1 (C := L51) (L' := (E22 ++ (E15 ++ (E8 ++ []))) :: F) rfl rfl
         exact lp_next _ (by omega) ⟨(k + 1), ([]), ([]), ([51, 49, 50, 48] : List UInt8), L51, rfl, (hA.sel [1, 2, 3, 4, 5, 6, 24] rfl), hS, by omega, .inr (.inr (.inr (.inr (⟨by omega, rfl, rfl, rfl⟩)))), hM52⟩
       · exfalso; omega)
  · first
    | (exfalso; first | omega | decide)
    | (replace hA := hA.rw 25 (v' := .bool false) rfl (vb_false hc31)
       refine cd_cond_f hA rfl ?_
       refine wp_exit ?_
       refine xt_exit ?_
       refine xt_exit ?_
       refine cd_exit_eq ?_
       refine xt_norm ?_
       refine wp_seq ?_
       refine wp_region_lit ?_
       have hsb : sb = [51, 49, 50, 48] := by rcases hst with h | h | h | h | h <;> first | (exfalso; omega) | exact h.2.2.2
       subst hsb
       refine st_run tbOk 12 hA (e' := (50, .iface 41 (.int .i64 5)) :: (49, .bool true) :: (48, .bool true) :: (47, .bool true) :: (46, .nilIface) :: (45, .bool true) :: (44, .bool true) :: (43, .bool true) :: (42, .nilIface) :: (41, .bool true) :: (40, .bool true) :: (39, .nilIface) :: _) rfl ?_; clear hA; intro a hA
       refine st_call0 hA rfl rfl rfl isfn11 rfl rfl (by decide) (number_hit11 hS hg 5) ?_
       clear hA hS; rintro v w56 a ⟨rfl, hS⟩ hA
       refine st_run tbOk 5 hA (e' := (56, .bool ((bsv [51, 49, 50, 48]).toList == (⟨#[51, 49, 50, 48]⟩ : ByteArray).toList)) :: (55, .string (bsv [51, 49, 50, 48])) :: (54, .bool true) :: (53, .bool true) :: (52, .bool true) :: _) rfl ?_; clear hA; intro a hA
       replace hA := hA.rw 56 (v' := .bool true) rfl (congrArg Value.bool (by rw [show (⟨#[51, 49, 50, 48]⟩ : ByteArray) = bsv [51, 49, 50, 48] from rfl, bsv_eq]; decide))
       refine st_run tbOk 2 hA (e' := (0, .bool true) :: (57, .bool true) :: _) rfl ?_; clear hA; intro a hA
       refine wpList_nil ?_
       replace hA := hA.sel [0] (e' := [(0, .bool true)]) rfl
       refine xt_norm ?_
       refine wp_ret ?_
       refine ret1 (fn := Tryd.f7) hA rfl rfl ?_
       replace hS := hS.drop1
       replace hS := hS.drop1
       exact ⟨rfl, hS⟩)

theorem room4 {w0 w : World} {F : List Chunk} (hS : St w0 w F) (hg : HG w0) (b1 : Int) (ug : Bool) (h1 : 0 ≤ b1 ∧ b1 < 256) :
    Ret Tryd.prog 4 #[.int .u8 b1, .bool ug] w (fun v w' => v = .bool true ∧ St w0 w' F) := by
  obtain ⟨z, rfl⟩ := Int.eq_ofNat_of_zero_le h1.1
  refine enter (vs := [.int .u8 ((z : Nat) : Int), .bool ug]) 65 Tryd.func4 rfl rfl (by simp) ?_; intro a hA
  refine wp_seq ?_
  refine wp_region_lit ?_
  refine st_run tbOk 1 hA (e' := (4, .bool false) :: _) rfl ?_; clear hA; intro a hA
  refine wpList_nil ?_
  replace hA := hA.sel [0, 1] (e' := [(0, .int .u8 ((z : Nat) : Int)), (1, .bool ug)]) rfl
  refine xt_norm ?_
  refine wp_seq ?_
  refine wp_seq ?_
  refine wp_region_lit ?_
  refine st_call0 hA rfl rfl rfl isfn7 rfl rfl (by decide) (awake7 hS hg) ?_
  clear hA hS; rintro v w1 a ⟨rfl, hS⟩ hA
  refine st_run tbOk 1 hA (e' := (11, .bool false) :: _) rfl ?_; clear hA; intro a hA
  refine wpList_nil ?_
  replace hA := hA.sel [0, 1, 11] (e' := [(0, .int .u8 ((z : Nat) : Int)), (1, .bool ug), (11, .bool false)]) rfl
  refine xt_norm ?_
  refine cd_cond_f hA rfl ?_
  refine wp_skip ?_
  refine xt_norm ?_
  refine wp_seq ?_
  refine wp_region_lit ?_
  rcases Bool.eq_false_or_eq_true ug with hu | hu
  · subst hu
    refine st_run tbOk 2 hA (e' := (13, .int .u8 (((z : Nat) : Int).tmod 64)) :: (12, .int .u8 ((z : Nat) : Int)) :: _) rfl ?_; clear hA; intro a hA
    replace hA := hA.rw 13 (v' := .int .u8 ((z % 64 : Nat) : Int)) rfl (vint (Int.ofNat_tmod _ _).symm)
    refine st_run tbOk 1 hA (e' := (14, .int .i64 (IntKind.i64.wrap ((z % 64 : Nat) : Int))) :: _) rfl ?_; clear hA; intro a hA
    replace hA := hA.rw 14 (v' := .int .i64 ((z % 64 : Nat) : Int)) rfl (wr64 (by rfl) (by omega) (by omega))
    refine st_run tbOk 1 hA (e' := (15, .int .i64 (IntKind.i64.wrap (1 + ((z % 64 : Nat) : Int)))) :: _) rfl ?_; clear hA; intro a hA
    replace hA := hA.rw 15 (v' := .int .i64 ((1 + (z % 64) : Nat) : Int)) rfl (wr64 (by omega) (by omega) (by omega))
    refine st_run tbOk 1 hA (e' := (5, .int .i64 ((1 + (z % 64) : Nat) : Int)) :: _) rfl ?_; clear hA; intro a hA
    refine wpList_nil ?_
    replace hA := hA.sel [1, 5] (e' := [(1, .bool true), (5, .int .i64 ((1 + (z % 64) : Nat) : Int))]) rfl
    refine xt_norm ?_
    refine wp_seq ?_
    refine wp_region_lit ?_
    obtain ⟨n, hn⟩ : ∃ n, n = 1 + z % 64 := ⟨_, rfl⟩
    replace hA := hA.rw 5 (v' := .int .i64 ((n : Nat) : Int)) rfl (by rw [hn])
    refine st_run tbOk 1 hA (e' := (16, .int .i64 ((n : Nat) : Int)) :: _) rfl ?_; clear hA; intro a hA
    refine st_call0 hA rfl rfl rfl isfn8 rfl rfl (by decide) (of8 hS ((n : Nat) : Int) n (.inr (.inl (by omega)))) ?_
    clear hA hS; rintro _ w2 a ⟨bb3, L4, hM5, rfl, hS⟩ hA
    replace hS := hS.nil
    refine st_run tbOk 1 hA (e' := (6, .pointer (some ⟨bb3, 0, none⟩)) :: _) rfl ?_; clear hA; intro a hA
    refine wpList_nil ?_
    replace hA := hA.sel [1, 5, 6] (e' := [(1, .bool true), (5, .int .i64 ((n : Nat) : Int)), (6, .pointer (some ⟨bb3, 0, none⟩))]) rfl
    refine xt_norm ?_
    refine wp_seq ?_
    refine wp_seq ?_
    refine wp_region_lit ?_
    refine st_run tbOk 1 hA (e' := (7, .int .i64 0) :: _) rfl ?_; clear hA; intro a hA
    refine wpList_nil ?_
    refine xt_norm ?_
    refine wp_block ?_
    replace hS := hS.front 1 (C := L4) (L' := [] :: F) rfl rfl
    refine wp_loop_ghost (fun m a w => ∃ (k : Nat) (qs : List Msg) (L1 : Chunk) (D1 : Chunk), m = n - k ∧ Has a 65 [(1, .bool true), (5, .int .i64 ((n : Nat) : Int)), (6, .pointer (some ⟨bb3, 0, none⟩)), (7, .int .i64 ((k : Nat) : Int))] ∧ St w0 w (L1 :: D1 :: F) ∧ (k ≤ n) ∧ (qs.length = k) ∧ (BX bb3 n qs [] L1)) (n - 0)
      ⟨0, ([]), L4, ([]), rfl, (hA.sel [1, 5, 6, 7] rfl), hS, Nat.zero_le _, rfl, hM5⟩ ?_
    clear hA hS; rintro m0 a w6 ⟨k, qs, L1, D1, rfl, hA, hS, hk, hql, hM1⟩
    refine wp_seq ?_
    refine wp_seq ?_
    refine wp_region_lit ?_
    refine st_run tbOk 3 hA (e' := (20, .bool (decide (((k : Nat) : Int) < ((n : Nat) : Int)))) :: (19, .int .i64 ((n : Nat) : Int)) :: (18, .int .i64 ((k : Nat) : Int)) :: _) rfl ?_; clear hA; intro a hA
    refine wpList_nil ?_
    replace hA := hA.sel [1, 5, 6, 7, 20] (e' := [(1, .bool true), (5, .int .i64 ((n : Nat) : Int)), (6, .pointer (some ⟨bb3, 0, none⟩)), (7, .int .i64 ((k : Nat) : Int)), (20, .bool (decide (((k : Nat) : Int) < ((n : Nat) : Int))))]) rfl
    refine xt_norm ?_
    by_cases hc7 : ((k : Nat) : Int) < ((n : Nat) : Int)
    · first
      | (exfalso; omega)
      | (replace hA := hA.rw 20 (v' := .bool true) rfl (vb_true hc7)
         refine cd_cond_t hA rfl ?_
         refine wp_skip ?_
         refine xt_norm ?_
         refine wp_seq ?_
         refine wp_block ?_
         refine wp_seq ?_
         refine wp_region_lit ?_
         refine st_run tbOk 3 hA (e' := (25, .int .u32 (IntKind.u32.wrap ((k : Nat) : Int))) :: (24, .int .i64 ((k : Nat) : Int)) :: (23, .pointer (some ⟨bb3, 0, none⟩)) :: _) rfl ?_; clear hA; intro a hA
         refine st_val hA rfl rfl (by decide) (rn_build tbOk hA rfl rfl rfl rfl rfl rfl rfl) ?_; clear hA; intro a hA
         refine st_run tbOk 1 hA (e' := (27, .bool true) :: _) rfl ?_; clear hA; intro a hA
         replace hS := hS.front 1 (C := D1) (L' := L1 :: F) rfl rfl
         replace hS := hS.front 1 (C := L1) (L' := D1 :: F) rfl rfl
         refine st_call0 hA rfl rfl rfl isfn9 rfl rfl (by decide) (put_u_room9 hS hM1 0 0 (IntKind.u32.wrap ((k : Nat) : Int)) 0 0 0 0 0 0 0 (bs := ([] : List UInt8)) RdSX.nil (by first | omega | exact Nat.le_of_ble_eq_true rfl) (by first | omega | (simp; omega))) ?_
         clear hA hS; rintro _ w8 a ⟨L9, E11, A12, c13, hM10, hE14, rfl, hS⟩ hA
         refine st_run tbOk 1 hA (e' := (29, .bool false) :: _) rfl ?_; clear hA; intro a hA
         refine wpList_nil ?_
         replace hA := hA.sel [1, 5, 6, 7, 29] (e' := [(1, .bool true), (5, .int .i64 ((n : Nat) : Int)), (6, .pointer (some ⟨bb3, 0, none⟩)), (7, .int .i64 ((k : Nat) : Int)), (29, .bool false)]) rfl
         refine xt_norm ?_
         refine cd_cond_f hA rfl ?_
         refine wp_skip ?_
         refine xb_norm ?_
         refine xt_norm ?_
         refine wp_region_lit ?_
         refine st_run tbOk 2 hA (e' := (22, .int .i64 (IntKind.i64.wrap (((k : Nat) : Int) + 1))) :: (21, .int .i64 ((k : Nat) : Int)) :: _) rfl ?_; clear hA; intro a hA
         replace hA := hA.rw 22 (v' := .int .i64 ((k + 1 : Nat) : Int)) rfl (wr64 (by omega) (by omega) (by omega))
         refine st_run tbOk 1 hA (e' := (7, .int .i64 ((k + 1 : Nat) : Int)) :: _) rfl ?_; clear hA; intro a hA
         refine wpList_nil ?_
         replace hA := hA.sel [1, 5, 6, 7] (e' := [(1, .bool true), (5, .int .i64 ((n : Nat) : Int)), (6, .pointer (some ⟨bb3, 0, none⟩)), (7, .int .i64 ((k + 1 : Nat) : Int))]) rfl
         replace hS := hS.front 1 (C := (E11 ++ D1)) (L' := L9 :: F) rfl rfl
         replace hS := hS.front 1 (C := L9) (L' := (E11 ++ D1) :: F) rfl rfl
         exact lp_next _ (by omega) ⟨(k + 1), (qs ++ [(0, 0, IntKind.u32.wrap ((k : Nat) : Int), 0, 0, 0, 0, 0, 0, 0, A12, c13, ([] : List UInt8))]), L9, (E11 ++ D1), rfl, (hA.sel [1, 5, 6, 7] rfl), hS, by omega, (by rw [List.length_append, hql]; rfl), hM10⟩)
    · first
      | (exfalso; omega)
      | (replace hA := hA.rw 20 (v' := .bool false) rfl (vb_false hc7)
         refine cd_cond_f hA rfl ?_
         refine wp_exit ?_
         refine xt_exit ?_
         refine xt_exit ?_
         refine cd_exit_eq ?_
         refine xt_norm ?_
         refine wp_seq ?_
         refine wp_region_lit ?_
         have hkn : k = n := by omega
         obtain ⟨x, q2, hq2⟩ := cons_ex (l := qs) (by omega)
         subst hq2
         have hq3 : q2.length + 1 = n := by rw [← hkn, ← hql]; rfl
         have hM15 : BX bb3 n (x :: q2) ([] : List Msg) L1 := hM1
         have hq4 : (x :: q2).length = n := by rw [List.length_cons]; exact hq3
         refine st_run tbOk 1 hA (e' := (30, .pointer (some ⟨bb3, 0, none⟩)) :: _) rfl ?_; clear hA; intro a hA
         refine st_val hA rfl rfl (by decide) (rn_build tbOk hA rfl rfl rfl rfl rfl rfl rfl) ?_; clear hA; intro a hA
         refine st_run tbOk 1 hA (e' := (32, .bool true) :: _) rfl ?_; clear hA; intro a hA
         replace hS := hS.front 1 (C := D1) (L' := L1 :: F) rfl rfl
         replace hS := hS.front 1 (C := L1) (L' := D1 :: F) rfl rfl
         refine st_call0 hA rfl rfl rfl isfn9 rfl rfl (by decide) (put_u_full9 hS hM15 0 0 0 0 0 0 0 0 0 0 (bs := ([] : List UInt8)) RdSX.nil (by first | omega | exact Nat.le_of_ble_eq_true rfl) (by first | omega | (simp; omega))) ?_
         clear hA hS; rintro _ w16 a ⟨L17, hM18, rfl, hS⟩ hA
         refine st_run tbOk 1 hA (e' := (8, .iface 41 (.int .i64 5)) :: _) rfl ?_; clear hA; intro a hA
         refine wpList_nil ?_
         replace hA := hA.sel [1, 6, 8] (e' := [(1, .bool true), (6, .pointer (some ⟨bb3, 0, none⟩)), (8, .iface 41 (.int .i64 5))]) rfl
         refine xt_norm ?_
         refine wp_seq ?_
         refine wp_region_lit ?_
         refine st_run tbOk 1 hA (e' := (34, .pointer (some ⟨bb3, 0, none⟩)) :: _) rfl ?_; clear hA; intro a hA
         refine st_val hA rfl rfl (by decide) (rn_build tbOk hA rfl rfl rfl rfl rfl rfl rfl) ?_; clear hA; intro a hA
         refine st_run tbOk 2 hA (e' := (37, .bool false) :: (36, .bool true) :: _) rfl ?_; clear hA; intro a hA
         replace hS := hS.front 1 (C := D1) (L' := L17 :: F) rfl rfl
         replace hS := hS.front 1 (C := L17) (L' := D1 :: F) rfl rfl
         refine st_call0 hA rfl rfl rfl isfn9 rfl rfl (by decide) (put_p_room9 hS hM18 0 0 0 0 0 0 0 0 0 0 (bs := ([] : List UInt8)) RdSX.nil (by first | omega | exact Nat.le_of_ble_eq_true rfl) (by first | omega | (simp; omega))) ?_
         clear hA hS; rintro _ w19 a ⟨L20, E22, A23, c24, hM21, hE25, rfl, hS⟩ hA
         refine st_run tbOk 1 hA (e' := (9, .nilIface) :: _) rfl ?_; clear hA; intro a hA
         refine wpList_nil ?_
         replace hA := hA.sel [1, 6, 8, 9] (e' := [(1, .bool true), (6, .pointer (some ⟨bb3, 0, none⟩)), (8, .iface 41 (.int .i64 5)), (9, .nilIface)]) rfl
         refine xt_norm ?_
         refine wp_seq ?_
         refine wp_region_lit ?_
         refine st_run tbOk 1 hA (e' := (40, .pointer (some ⟨bb3, 0, none⟩)) :: _) rfl ?_; clear hA; intro a hA
         replace hS := hS.front 1 (C := (E22 ++ D1)) (L' := L20 :: F) rfl rfl
         replace hS := hS.front 1 (C := L20) (L' := (E22 ++ D1) :: F) rfl rfl
         refine st_call0 hA rfl rfl rfl isfn10 rfl rfl (by decide) (get_u10 hS hM21) ?_
         clear hA hS; rintro _ w26 a ⟨L27, hM28, rfl, hS⟩ hA
         refine st_run tbOk 3 hA (e' := (43, .bool true) :: (42, .agg #[.int .u64 ((x).1), .int .u64 ((x).2.1), .int .u32 ((x).2.2.1), .int .u16 ((x).2.2.2.1), .int .u16 ((x).2.2.2.2.1), .int .u64 ((x).2.2.2.2.2.1), .int .u32 ((x).2.2.2.2.2.2.1), .int .u8 ((x).2.2.2.2.2.2.2.1), .int .u64 ((x).2.2.2.2.2.2.2.2.1), .int .u64 ((x).2.2.2.2.2.2.2.2.2.1), .slice ((x).2.2.2.2.2.2.2.2.2.2.1) (((x).2.2.2.2.2.2.2.2.2.2.2.2).length) ((x).2.2.2.2.2.2.2.2.2.2.2.1)]) :: (39, .tuple #[.agg #[.int .u64 ((x).1), .int .u64 ((x).2.1), .int .u32 ((x).2.2.1), .int .u16 ((x).2.2.2.1), .int .u16 ((x).2.2.2.2.1), .int .u64 ((x).2.2.2.2.2.1), .int .u32 ((x).2.2.2.2.2.2.1), .int .u8 ((x).2.2.2.2.2.2.2.1), .int .u64 ((x).2.2.2.2.2.2.2.2.1), .int .u64 ((x).2.2.2.2.2.2.2.2.2.1), .slice ((x).2.2.2.2.2.2.2.2.2.2.1) (((x).2.2.2.2.2.2.2.2.2.2.2.2).length) ((x).2.2.2.2.2.2.2.2.2.2.2.1)], .bool true]) :: _) rfl ?_; clear hA; intro a hA
         refine wpList_nil ?_
         replace hA := hA.sel [1, 6, 8, 9] (e' := [(1, .bool true), (6, .pointer (some ⟨bb3, 0, none⟩)), (8, .iface 41 (.int .i64 5)), (9, .nilIface)]) rfl
         refine xt_norm ?_
         refine wp_seq ?_
         refine wp_seq ?_
         refine wp_region_lit ?_
         refine st_run tbOk 2 hA (e' := (45, .bool false) :: (44, .bool true) :: _) rfl ?_; clear hA; intro a hA
         refine wpList_nil ?_
         replace hA := hA.sel [1, 6, 8, 9, 45] (e' := [(1, .bool true), (6, .pointer (some ⟨bb3, 0, none⟩)), (8, .iface 41 (.int .i64 5)), (9, .nilIface), (45, .bool false)]) rfl
         refine xt_norm ?_
         refine cd_cond_f hA rfl ?_
         refine wp_skip ?_
         refine xt_norm ?_
         refine wp_seq ?_
         refine wp_region_lit ?_
         refine st_run tbOk 1 hA (e' := (51, .iface 41 (.int .i64 5)) :: _) rfl ?_; clear hA; intro a hA
         refine st_call0 hA rfl rfl rfl isfn11 rfl rfl (by decide) (number_hit11 hS hg 5) ?_
         clear hA hS; rintro v w29 a ⟨rfl, hS⟩ hA
         refine st_run tbOk 7 hA (e' := (59, .pointer (some ⟨bb3, 0, none⟩)) :: (58, .bool true) :: (57, .bool true) :: (56, .bool true) :: (55, .nilIface) :: (54, .bool true) :: (53, .bool true) :: _) rfl ?_; clear hA; intro a hA
         refine st_val hA rfl rfl (by decide) (rn_build tbOk hA rfl rfl rfl rfl rfl rfl rfl) ?_; clear hA; intro a hA
         refine st_run tbOk 1 hA (e' := (61, .bool true) :: _) rfl ?_; clear hA; intro a hA
         replace hS := hS.front 1 (C := (E22 ++ D1)) (L' := L27 :: F) rfl rfl
         replace hS := hS.front 1 (C := L27) (L' := (E22 ++ D1) :: F) rfl rfl
         refine st_call0 hA rfl rfl rfl isfn9 rfl rfl (by decide) (put_u_room9 hS hM28 0 0 0 0 0 0 0 0 0 0 (bs := ([] : List UInt8)) RdSX.nil (by first | omega | exact Nat.le_of_ble_eq_true rfl) (by first | omega | (simp; omega))) ?_
         clear hA hS; rintro _ w30 a ⟨L31, E33, A34, c35, hM32, hE36, rfl, hS⟩ hA
         refine st_run tbOk 3 hA (e' := (4, .bool true) :: (64, .bool true) :: (63, .bool true) :: _) rfl ?_; clear hA; intro a hA
         refine wpList_nil ?_
         replace hA := hA.sel [4] (e' := [(4, .bool true)]) rfl
         refine xt_norm ?_
         refine wp_ret ?_
         refine ret1 (fn := Tryd.f4) hA rfl rfl ?_
         replace hS := hS.drop1
         replace hS := hS.drop1
         exact ⟨rfl, hS⟩)
  · subst hu
    refine st_run tbOk 2 hA (e' := (13, .int .u8 (((z : Nat) : Int).tmod 64)) :: (12, .int .u8 ((z : Nat) : Int)) :: _) rfl ?_; clear hA; intro a hA
    replace hA := hA.rw 13 (v' := .int .u8 ((z % 64 : Nat) : Int)) rfl (vint (Int.ofNat_tmod _ _).symm)
    refine st_run tbOk 1 hA (e' := (14, .int .i64 (IntKind.i64.wrap ((z % 64 : Nat) : Int))) :: _) rfl ?_; clear hA; intro a hA
    replace hA := hA.rw 14 (v' := .int .i64 ((z % 64 : Nat) : Int)) rfl (wr64 (by rfl) (by omega) (by omega))
    refine st_run tbOk 1 hA (e' := (15, .int .i64 (IntKind.i64.wrap (1 + ((z % 64 : Nat) : Int)))) :: _) rfl ?_; clear hA; intro a hA
    replace hA := hA.rw 15 (v' := .int .i64 ((1 + (z % 64) : Nat) : Int)) rfl (wr64 (by omega) (by omega) (by omega))
    refine st_run tbOk 1 hA (e' := (5, .int .i64 ((1 + (z % 64) : Nat) : Int)) :: _) rfl ?_; clear hA; intro a hA
    refine wpList_nil ?_
    replace hA := hA.sel [1, 5] (e' := [(1, .bool false), (5, .int .i64 ((1 + (z % 64) : Nat) : Int))]) rfl
    refine xt_norm ?_
    refine wp_seq ?_
    refine wp_region_lit ?_
    obtain ⟨n, hn⟩ : ∃ n, n = 1 + z % 64 := ⟨_, rfl⟩
    replace hA := hA.rw 5 (v' := .int .i64 ((n : Nat) : Int)) rfl (by rw [hn])
    refine st_run tbOk 1 hA (e' := (16, .int .i64 ((n : Nat) : Int)) :: _) rfl ?_; clear hA; intro a hA
    refine st_call0 hA rfl rfl rfl isfn8 rfl rfl (by decide) (of8 hS ((n : Nat) : Int) n (.inr (.inl (by omega)))) ?_
    clear hA hS; rintro _ w37 a ⟨bb38, L39, hM40, rfl, hS⟩ hA
    replace hS := hS.nil
    refine st_run tbOk 1 hA (e' := (6, .pointer (some ⟨bb38, 0, none⟩)) :: _) rfl ?_; clear hA; intro a hA
    refine wpList_nil ?_
    replace hA := hA.sel [1, 5, 6] (e' := [(1, .bool false), (5, .int .i64 ((n : Nat) : Int)), (6, .pointer (some ⟨bb38, 0, none⟩))]) rfl
    refine xt_norm ?_
    refine wp_seq ?_
    refine wp_seq ?_
    refine wp_region_lit ?_
    refine st_run tbOk 1 hA (e' := (7, .int .i64 0) :: _) rfl ?_; clear hA; intro a hA
    refine wpList_nil ?_
    refine xt_norm ?_
    refine wp_block ?_
    replace hS := hS.front 1 (C := L39) (L' := [] :: F) rfl rfl
    refine wp_loop_ghost (fun m a w => ∃ (k : Nat) (qs : List Msg) (L1 : Chunk) (D1 : Chunk), m = n - k ∧ Has a 65 [(1, .bool false), (5, .int .i64 ((n : Nat) : Int)), (6, .pointer (some ⟨bb38, 0, none⟩)), (7, .int .i64 ((k : Nat) : Int))] ∧ St w0 w (L1 :: D1 :: F) ∧ (k ≤ n) ∧ (qs.length = k) ∧ (BX bb38 n [] qs L1)) (n - 0)
      ⟨0, ([]), L39, ([]), rfl, (hA.sel [1, 5, 6, 7] rfl), hS, Nat.zero_le _, rfl, hM40⟩ ?_
    clear hA hS; rintro m0 a w41 ⟨k, qs, L1, D1, rfl, hA, hS, hk, hql, hM1⟩
    refine wp_seq ?_
    refine wp_seq ?_
    refine wp_region_lit ?_
    refine st_run tbOk 3 hA (e' := (20, .bool (decide (((k : Nat) : Int) < ((n : Nat) : Int)))) :: (19, .int .i64 ((n : Nat) : Int)) :: (18, .int .i64 ((k : Nat) : Int)) :: _) rfl ?_; clear hA; intro a hA
    refine wpList_nil ?_
    replace hA := hA.sel [1, 5, 6, 7, 20] (e' := [(1, .bool false), (5, .int .i64 ((n : Nat) : Int)), (6, .pointer (some ⟨bb38, 0, none⟩)), (7, .int .i64 ((k : Nat) : Int)), (20, .bool (decide (((k : Nat) : Int) < ((n : Nat) : Int))))]) rfl
    refine xt_norm ?_
    by_cases hc42 : ((k : Nat) : Int) < ((n : Nat) : Int)
    · first
      | (exfalso; omega)
      | (replace hA := hA.rw 20 (v' := .bool true) rfl (vb_true hc42)
         refine cd_cond_t hA rfl ?_
         refine wp_skip ?_
         refine xt_norm ?_
         refine wp_seq ?_
         refine wp_block ?_
         refine wp_seq ?_
         refine wp_region_lit ?_
         refine st_run tbOk 3 hA (e' := (25, .int .u32 (IntKind.u32.wrap ((k : Nat) : Int))) :: (24, .int .i64 ((k : Nat) : Int)) :: (23, .pointer (some ⟨bb38, 0, none⟩)) :: _) rfl ?_; clear hA; intro a hA
         refine st_val hA rfl rfl (by decide) (rn_build tbOk hA rfl rfl rfl rfl rfl rfl rfl) ?_; clear hA; intro a hA
         refine st_run tbOk 1 hA (e' := (27, .bool false) :: _) rfl ?_; clear hA; intro a hA
         replace hS := hS.front 1 (C := D1) (L' := L1 :: F) rfl rfl
         replace hS := hS.front 1 (C := L1) (L' := D1 :: F) rfl rfl
         refine st_call0 hA rfl rfl rfl isfn9 rfl rfl (by decide) (put_p_room9 hS hM1 0 0 (IntKind.u32.wrap ((k : Nat) : Int)) 0 0 0 0 0 0 0 (bs := ([] : List UInt8)) RdSX.nil (by first | omega | exact Nat.le_of_ble_eq_true rfl) (by first | omega | (simp; omega))) ?_
         clear hA hS; rintro _ w43 a ⟨L44, E46, A47, c48, hM45, hE49, rfl, hS⟩ hA
         refine st_run tbOk 1 hA (e' := (29, .bool false) :: _) rfl ?_; clear hA; intro a hA
         refine wpList_nil ?_
         replace hA := hA.sel [1, 5, 6, 7, 29] (e' := [(1, .bool false), (5, .int .i64 ((n : Nat) : Int)), (6, .pointer (some ⟨bb38, 0, none⟩)), (7, .int .i64 ((k : Nat) : Int)), (29, .bool false)]) rfl
         refine xt_norm ?_
         refine cd_cond_f hA rfl ?_
         refine wp_skip ?_
         refine xb_norm ?_
         refine xt_norm ?_
         refine wp_region_lit ?_
         refine st_run tbOk 2 hA (e' := (22, .int .i64 (IntKind.i64.wrap (((k : Nat) : Int) + 1))) :: (21, .int .i64 ((k : Nat) : Int)) :: _) rfl ?_; clear hA; intro a hA
         replace hA := hA.rw 22 (v' := .int .i64 ((k + 1 : Nat) : Int)) rfl (wr64 (by omega) (by omega) (by omega))
         refine st_run tbOk 1 hA (e' := (7, .int .i64 ((k + 1 : Nat) : Int)) :: _) rfl ?_; clear hA; intro a hA
         refine wpList_nil ?_
         replace hA := hA.sel [1, 5, 6, 7] (e' := [(1, .bool false), (5, .int .i64 ((n : Nat) : Int)), (6, .pointer (some ⟨bb38, 0, none⟩)), (7, .int .i64 ((k + 1 : Nat) : Int))]) rfl
         replace hS := hS.front 1 (C := (E46 ++ D1)) (L' := L44 :: F) rfl rfl
         replace hS := hS.front 1 (C := L44) (L' := (E46 ++ D1) :: F) rfl rfl
         exact lp_next _ (by omega) ⟨(k + 1), (qs ++ [(0, 0, IntKind.u32.wrap ((k : Nat) : Int), 0, 0, 0, 0, 0, 0, 0, A47, c48, ([] : List UInt8))]), L44, (E46 ++ D1), rfl, (hA.sel [1, 5, 6, 7] rfl), hS, by omega, (by rw [List.length_append, hql]; rfl), hM45⟩)
    · first
      | (exfalso; omega)
      | (replace hA := hA.rw 20 (v' := .bool false) rfl (vb_false hc42)
         refine cd_cond_f hA rfl ?_
         refine wp_exit ?_
         refine xt_exit ?_
         refine xt_exit ?_
         refine cd_exit_eq ?_
         refine xt_norm ?_
         refine wp_seq ?_
         refine wp_region_lit ?_
         have hkn : k = n := by omega
         obtain ⟨x, q2, hq2⟩ := cons_ex (l := qs) (by omega)
         subst hq2
         have hq3 : q2.length + 1 = n := by rw [← hkn, ← hql]; rfl
         have hM50 : BX bb38 n ([] : List Msg) (x :: q2) L1 := hM1
         have hq4 : (x :: q2).length = n := by rw [List.length_cons]; exact hq3
         refine st_run tbOk 1 hA (e' := (30, .pointer (some ⟨bb38, 0, none⟩)) :: _) rfl ?_; clear hA; intro a hA
         refine st_val hA rfl rfl (by decide) (rn_build tbOk hA rfl rfl rfl rfl rfl rfl rfl) ?_; clear hA; intro a hA
         refine st_run tbOk 1 hA (e' := (32, .bool false) :: _) rfl ?_; clear hA; intro a hA
         replace hS := hS.front 1 (C := D1) (L' := L1 :: F) rfl rfl
         replace hS := hS.front 1 (C := L1) (L' := D1 :: F) rfl rfl
         refine st_call0 hA rfl rfl rfl isfn9 rfl rfl (by decide) (put_p_full9 hS hM50 0 0 0 0 0 0 0 0 0 0 (bs := ([] : List UInt8)) RdSX.nil (by first | omega | exact Nat.le_of_ble_eq_true rfl) (by first | omega | (simp; omega))) ?_
         clear hA hS; rintro _ w51 a ⟨L52, hM53, rfl, hS⟩ hA
         refine st_run tbOk 1 hA (e' := (8, .iface 41 (.int .i64 5)) :: _) rfl ?_; clear hA; intro a hA
         refine wpList_nil ?_
         replace hA := hA.sel [1, 6, 8] (e' := [(1, .bool false), (6, .pointer (some ⟨bb38, 0, none⟩)), (8, .iface 41 (.int .i64 5))]) rfl
         refine xt_norm ?_
         refine wp_seq ?_
         refine wp_region_lit ?_
         refine st_run tbOk 1 hA (e' := (34, .pointer (some ⟨bb38, 0, none⟩)) :: _) rfl ?_; clear hA; intro a hA
         refine st_val hA rfl rfl (by decide) (rn_build tbOk hA rfl rfl rfl rfl rfl rfl rfl) ?_; clear hA; intro a hA
         refine st_run tbOk 2 hA (e' := (37, .bool true) :: (36, .bool false) :: _) rfl ?_; clear hA; intro a hA
         replace hS := hS.front 1 (C := D1) (L' := L52 :: F) rfl rfl
         replace hS := hS.front 1 (C := L52) (L' := D1 :: F) rfl rfl
         refine st_call0 hA rfl rfl rfl isfn9 rfl rfl (by decide) (put_u_room9 hS hM53 0 0 0 0 0 0 0 0 0 0 (bs := ([] : List UInt8)) RdSX.nil (by first | omega | exact Nat.le_of_ble_eq_true rfl) (by first | omega | (simp; omega))) ?_
         clear hA hS; rintro _ w54 a ⟨L55, E57, A58, c59, hM56, hE60, rfl, hS⟩ hA
         refine st_run tbOk 1 hA (e' := (9, .nilIface) :: _) rfl ?_; clear hA; intro a hA
         refine wpList_nil ?_
         replace hA := hA.sel [1, 6, 8, 9] (e' := [(1, .bool false), (6, .pointer (some ⟨bb38, 0, none⟩)), (8, .iface 41 (.int .i64 5)), (9, .nilIface)]) rfl
         refine xt_norm ?_
         refine wp_seq ?_
         refine wp_region_lit ?_
         refine st_run tbOk 1 hA (e' := (40, .pointer (some ⟨bb38, 0, none⟩)) :: _) rfl ?_; clear hA; intro a hA
         replace hS := hS.front 1 (C := (E57 ++ D1)) (L' := L55 :: F) rfl rfl
         replace hS := hS.front 1 (C := L55) (L' := (E57 ++ D1) :: F) rfl rfl
         have hM61 : BX bb38 n ([(0, 0, 0, 0, 0, 0, 0, 0, 0, 0, A58, c59, ([] : List UInt8))]) (x :: q2) L55 := hM56
         replace hS := hS.front 1 (C := (E57 ++ D1)) (L' := L55 :: F) rfl rfl
         replace hS := hS.front 1 (C := L55) (L' := (E57 ++ D1) :: F) rfl rfl
         refine st_call0 hA rfl rfl rfl isfn10 rfl rfl (by decide) (get_u10 hS hM56) ?_
         clear hA hS; rintro _ w62 a ⟨L63, hM64, rfl, hS⟩ hA
         refine st_run tbOk 3 hA (e' := (43, .bool true) :: (42, .agg #[.int .u64 0, .int .u64 0, .int .u32 0, .int .u16 0, .int .u16 0, .int .u64 0, .int .u32 0, .int .u8 0, .int .u64 0, .int .u64 0, .slice A58 0 c59]) :: (39, .tuple #[.agg #[.int .u64 0, .int .u64 0, .int .u32 0, .int .u16 0, .int .u16 0, .int .u64 0, .int .u32 0, .int .u8 0, .int .u64 0, .int .u64 0, .slice A58 0 c59], .bool true]) :: _) rfl ?_; clear hA; intro a hA
         refine wpList_nil ?_
         replace hA := hA.sel [1, 6, 8, 9] (e' := [(1, .bool false), (6, .pointer (some ⟨bb38, 0, none⟩)), (8, .iface 41 (.int .i64 5)), (9, .nilIface)]) rfl
         refine xt_norm ?_
         refine wp_seq ?_
         refine wp_seq ?_
         refine wp_region_lit ?_
         refine st_run tbOk 2 hA (e' := (45, .bool true) :: (44, .bool false) :: _) rfl ?_; clear hA; intro a hA
         refine wpList_nil ?_
         replace hA := hA.sel [1, 6, 8, 9, 45] (e' := [(1, .bool false), (6, .pointer (some ⟨bb38, 0, none⟩)), (8, .iface 41 (.int .i64 5)), (9, .nilIface), (45, .bool true)]) rfl
         refine xt_norm ?_
         refine cd_cond_t hA rfl ?_
         refine wp_region_lit ?_
         refine st_run tbOk 1 hA (e' := (47, .pointer (some ⟨bb38, 0, none⟩)) :: _) rfl ?_; clear hA; intro a hA
         replace hS := hS.front 1 (C := (E57 ++ D1)) (L' := L63 :: F) rfl rfl
         replace hS := hS.front 1 (C := L63) (L' := (E57 ++ D1) :: F) rfl rfl
         refine st_call0 hA rfl rfl rfl isfn10 rfl rfl (by decide) (get_p10 hS hM64) ?_
         clear hA hS; rintro _ w65 a ⟨L66, hM67, rfl, hS⟩ hA
         refine st_run tbOk 3 hA (e' := (50, .bool true) :: (49, .agg #[.int .u64 ((x).1), .int .u64 ((x).2.1), .int .u32 ((x).2.2.1), .int .u16 ((x).2.2.2.1), .int .u16 ((x).2.2.2.2.1), .int .u64 ((x).2.2.2.2.2.1), .int .u32 ((x).2.2.2.2.2.2.1), .int .u8 ((x).2.2.2.2.2.2.2.1), .int .u64 ((x).2.2.2.2.2.2.2.2.1), .int .u64 ((x).2.2.2.2.2.2.2.2.2.1), .slice ((x).2.2.2.2.2.2.2.2.2.2.1) (((x).2.2.2.2.2.2.2.2.2.2.2.2).length) ((x).2.2.2.2.2.2.2.2.2.2.2.1)]) :: (46, .tuple #[.agg #[.int .u64 ((x).1), .int .u64 ((x).2.1), .int .u32 ((x).2.2.1), .int .u16 ((x).2.2.2.1), .int .u16 ((x).2.2.2.2.1), .int .u64 ((x).2.2.2.2.2.1), .int .u32 ((x).2.2.2.2.2.2.1), .int .u8 ((x).2.2.2.2.2.2.2.1), .int .u64 ((x).2.2.2.2.2.2.2.2.1), .int .u64 ((x).2.2.2.2.2.2.2.2.2.1), .slice ((x).2.2.2.2.2.2.2.2.2.2.1) (((x).2.2.2.2.2.2.2.2.2.2.2.2).length) ((x).2.2.2.2.2.2.2.2.2.2.2.1)], .bool true]) :: _) rfl ?_; clear hA; intro a hA
         refine wpList_nil ?_
         replace hA := hA.sel [1, 6, 8, 9] (e' := [(1, .bool false), (6, .pointer (some ⟨bb38, 0, none⟩)), (8, .iface 41 (.int .i64 5)), (9, .nilIface)]) rfl
         refine xt_norm ?_
         refine wp_seq ?_
         refine wp_region_lit ?_
         refine st_run tbOk 1 hA (e' := (51, .iface 41 (.int .i64 5)) :: _) rfl ?_; clear hA; intro a hA
         refine st_call0 hA rfl rfl rfl isfn11 rfl rfl (by decide) (number_hit11 hS hg 5) ?_
         clear hA hS; rintro v w68 a ⟨rfl, hS⟩ hA
         refine st_run tbOk 7 hA (e' := (59, .pointer (some ⟨bb38, 0, none⟩)) :: (58, .bool true) :: (57, .bool true) :: (56, .bool true) :: (55, .nilIface) :: (54, .bool true) :: (53, .bool true) :: _) rfl ?_; clear hA; intro a hA
         refine st_val hA rfl rfl (by decide) (rn_build tbOk hA rfl rfl rfl rfl rfl rfl rfl) ?_; clear hA; intro a hA
         refine st_run tbOk 1 hA (e' := (61, .bool false) :: _) rfl ?_; clear hA; intro a hA
         replace hS := hS.front 1 (C := (E57 ++ D1)) (L' := L66 :: F) rfl rfl
         replace hS := hS.front 1 (C := L66) (L' := (E57 ++ D1) :: F) rfl rfl
         refine st_call0 hA rfl rfl rfl isfn9 rfl rfl (by decide) (put_p_room9 hS hM67 0 0 0 0 0 0 0 0 0 0 (bs := ([] : List UInt8)) RdSX.nil (by first | omega | exact Nat.le_of_ble_eq_true rfl) (by first | omega | (simp; omega))) ?_
         clear hA hS; rintro _ w69 a ⟨L70, E72, A73, c74, hM71, hE75, rfl, hS⟩ hA
         refine st_run tbOk 3 hA (e' := (4, .bool true) :: (64, .bool true) :: (63, .bool true) :: _) rfl ?_; clear hA; intro a hA
         refine wpList_nil ?_
         replace hA := hA.sel [4] (e' := [(4, .bool true)]) rfl
         refine xt_norm ?_
         refine wp_ret ?_
         refine ret1 (fn := Tryd.f4) hA rfl rfl ?_
         replace hS := hS.drop1
         replace hS := hS.drop1
         exact ⟨rfl, hS⟩)

theorem order3 {w0 w : World} {F : List Chunk} (hS : St w0 w F) (hg : HG w0) {v : Value} {l : List Bool} (hr : RdS w0 F 1 v l.length (rows encBo l)) (hb : l.length * 1 ≤ 140737488351232) :
    Ret Tryd.prog 3 #[v] w (fun v w' => v = .bool true ∧ St w0 w' F) := by
  obtain ⟨A, c, rfl, hmc, hcx⟩ := (hr w hS).open'
  refine enter (vs := [.slice A l.length c]) 93 Tryd.func3 rfl rfl (by simp) ?_; intro a hA
  refine wp_seq ?_
  refine wp_region_lit ?_
  refine st_run tbOk 1 hA (e' := (2, .bool false) :: _) rfl ?_; clear hA; intro a hA
  refine wpList_nil ?_
  replace hA := hA.sel [0] (e' := [(0, .slice A l.length c)]) rfl
  refine xt_norm ?_
  refine wp_seq ?_
  refine wp_seq ?_
  refine wp_region_lit ?_
  refine st_call0 hA rfl rfl rfl isfn7 rfl rfl (by decide) (awake7 hS hg) ?_
  clear hA hS; rintro v w1 a ⟨rfl, hS⟩ hA
  refine st_run tbOk 1 hA (e' := (18, .bool false) :: _) rfl ?_; clear hA; intro a hA
  refine wpList_nil ?_
  replace hA := hA.sel [0, 18] (e' := [(0, .slice A l.length c), (18, .bool false)]) rfl
  refine xt_norm ?_
  refine cd_cond_f hA rfl ?_
  refine wp_skip ?_
  refine xt_norm ?_
  refine wp_seq ?_
  refine wp_region_lit ?_
  refine st_call0 hA rfl rfl rfl isfn8 rfl rfl (by decide) (of8 hS 64 64 (by omega)) ?_
  clear hA hS; rintro _ w2 a ⟨bb3, L4, hM5, rfl, hS⟩ hA
  replace hS := hS.nil
  refine st_run tbOk 1 hA (e' := (3, .pointer (some ⟨bb3, 0, none⟩)) :: _) rfl ?_; clear hA; intro a hA
  refine wpList_nil ?_
  replace hA := hA.sel [0, 3] (e' := [(0, .slice A l.length c), (3, .pointer (some ⟨bb3, 0, none⟩))]) rfl
  refine xt_norm ?_
  refine wp_seq ?_
  refine wp_region_lit ?_
  refine st_run tbOk 1 hA (e' := (4, .slice none 0 0) :: _) rfl ?_; clear hA; intro a hA
  refine wpList_nil ?_
  refine xt_norm ?_
  refine wp_seq ?_
  refine wp_seq ?_
  refine wp_region_lit ?_
  refine st_buildSlice tbOk hA hS [.bool true, .bool false] rfl rfl rfl rfl rfl (by decide) (by kernel_rfl) rfl rfl (by decide) ?_; clear hA hS; intro b6 w7 a hS hA
  obtain ⟨C8, hO9, hS⟩ : ∃ Cq9, Own 4 1 (.slice (some ⟨b6, 0, none⟩) 2 2) 2 (rows encBo ([true, false] : List Bool)) Cq9 ∧ St w0 w7 (Cq9 :: [] :: L4 :: F) := ⟨_, Own.full (T := 4) (size := 1) (g := b6) (m := 2) rfl (by decide), hS⟩
  generalize (some (⟨b6, 0, none⟩ : Addr)) = A9 at hO9 hA
  refine st_run tbOk 2 hA (e' := (22, .int .i64 0) :: (21, .int .i64 2) :: _) rfl ?_; clear hA; intro a hA
  refine wpList_nil ?_
  refine xt_norm ?_
  refine wp_block ?_
  replace hS := hS.nil
  replace hS := hS.front 1 (C := C8) (L' := [] :: [] :: L4 :: F) rfl rfl
  replace hS := hS.front 2 (C := []) (L' := C8 :: [] :: L4 :: F) rfl rfl
  replace hS := hS.front 3 (C := L4) (L' := [] :: C8 :: [] :: F) rfl rfl
  replace hS := hS.front 3 (C := []) (L' := L4 :: [] :: C8 :: F) rfl rfl
  refine wp_loop_ghost (fun m a w => ∃ (j : Nat) (Aw : Option Addr) (cw : Nat) (Cw : Chunk), m = 2 - j ∧ Has a 93 [(0, .slice A l.length c), (3, .pointer (some ⟨bb3, 0, none⟩)), (4, .slice Aw ((wnt l j).length) cw), (20, .slice A9 2 2), (21, .int .i64 2), (22, .int .i64 ((j : Nat) : Int))] ∧ St w0 w (Cw :: L4 :: [] :: C8 :: F) ∧ (j ≤ 2) ∧ (Own 27 1 (.slice Aw (wnt l j).length cw) (wnt l j).length (rows encU (wnt l j)) Cw)) (2 - 0)
    ⟨0, none, 0, ([]), rfl, (hA.sel [0, 3, 4, 20, 21, 22] rfl), hS, Nat.zero_le _, (Own.nil 27 1)⟩ ?_
  clear hA hS; rintro m0 a w10 ⟨j, Aw, cw, Cw, rfl, hA, hS, hj, hW⟩
  refine wp_seq ?_
  refine wp_region_lit ?_
  refine st_run tbOk 1 hA (e' := (23, .bool (decide (((j : Nat) : Int) < 2))) :: _) rfl ?_; clear hA; intro a hA
  refine wpList_nil ?_
  refine xt_norm ?_
  refine wp_seq ?_
  by_cases hc11 : ((j : Nat) : Int) < 2
  · first
    | (exfalso; omega)
    | (replace hA := hA.rw 23 (v' := .bool true) rfl (vb_true hc11)
       refine cd_cond_t hA rfl ?_
       refine wp_skip ?_
       refine xt_norm ?_
       refine wp_seq ?_
       refine wp_block ?_
       refine wp_seq ?_
       refine wp_region_lit ?_
       rcases (show j = 0 ∨ j = 1 by omega) with hj9 | hj9
       · obtain ⟨b12, o13, rfl⟩ := hO9.isSome (k := j) (by omega)
         refine st_val hA rfl rfl (by decide) (rn_indexAddr tbOk hA j (o13 + j) rfl rfl rfl rfl rfl rfl (by rfl) (by omega) (by first | rfl | simp [Nat.mul_one, Nat.zero_add] | omega)) ?_; clear hA; intro a hA
         refine st_val hA rfl rfl (by decide) (rn_load tbOk hA rfl rfl rfl rfl ((hO9.rd (hS.own_ 3 rfl)).elem0 (k := j) encBo_ok (show ([true, false] : List Bool)[j]? = some true from by rw [hj9]; rfl) rfl)) ?_; clear hA; intro a hA
         refine st_run tbOk 1 hA (e' := (6, .bool true) :: _) rfl ?_; clear hA; intro a hA
         refine wpList_nil ?_
         replace hA := hA.sel [0, 3, 4, 6, 20, 21, 22] (e' := [(0, .slice A l.length c), (3, .pointer (some ⟨bb3, 0, none⟩)), (4, .slice Aw ((wnt l j).length) cw), (6, .bool true), (20, .slice (some ⟨b12, o13, none⟩) 2 2), (21, .int .i64 2), (22, .int .i64 ((j : Nat) : Int))]) rfl
         refine xt_norm ?_
         refine wp_seq ?_
         refine wp_region_lit ?_
         refine st_run tbOk 3 hA (e' := (28, .int .i64 0) :: (27, .int .i64 ((l.length : Nat) : Int)) :: (26, .slice A l.length c) :: _) rfl ?_; clear hA; intro a hA
         refine wpList_nil ?_
         refine xt_norm ?_
         refine wp_block ?_
         replace hS := hS.front 3 (C := C8) (L' := Cw :: L4 :: [] :: F) rfl rfl
         replace hS := hS.front 3 (C := []) (L' := C8 :: Cw :: L4 :: F) rfl rfl
         replace hS := hS.front 3 (C := L4) (L' := [] :: C8 :: Cw :: F) rfl rfl
         replace hS := hS.front 3 (C := Cw) (L' := L4 :: [] :: C8 :: F) rfl rfl
         have hx0 : wnt l j ++ ixs true l 0 = wnt l j := by simp [ixs]
         replace hA := hA.rw 4 (v' := .slice Aw ((wnt l j ++ ixs true l 0).length) cw) rfl (by rw [hx0])
         refine wp_loop_ghost (fun m a w => ∃ (k : Nat) (Ax : Option Addr) (cx : Nat) (Cx : Chunk), m = l.length - k ∧ Has a 93 [(0, .slice A l.length c), (3, .pointer (some ⟨bb3, 0, none⟩)), (4, .slice Ax ((wnt l j ++ ixs true l k).length) cx), (6, .bool true), (20, .slice (some ⟨b12, o13, none⟩) 2 2), (21, .int .i64 2), (22, .int .i64 ((j : Nat) : Int)), (26, .slice A l.length c), (27, .int .i64 ((l.length : Nat) : Int)), (28, .int .i64 ((k : Nat) : Int))] ∧ St w0 w (Cx :: L4 :: [] :: C8 :: F) ∧ (k ≤ l.length) ∧ (Own 27 1 (.slice Ax (wnt l j ++ ixs true l k).length cx) (wnt l j ++ ixs true l k).length (rows encU (wnt l j ++ ixs true l k)) Cx)) (l.length - 0)
           ⟨0, Aw, cw, Cw, rfl, (hA.sel [0, 3, 4, 6, 20, 21, 22, 26, 27, 28] rfl), hS, Nat.zero_le _, (by rw [hx0]; exact hW)⟩ ?_
         clear hA hS; rintro m0 a w14 ⟨k, Ax, cx, Cx, rfl, hA, hS, hk, hX⟩
         refine wp_seq ?_
         refine wp_region_lit ?_
         refine st_run tbOk 1 hA (e' := (29, .bool (decide (((k : Nat) : Int) < ((l.length : Nat) : Int)))) :: _) rfl ?_; clear hA; intro a hA
         refine wpList_nil ?_
         refine xt_norm ?_
         refine wp_seq ?_
         by_cases hc15 : ((k : Nat) : Int) < ((l.length : Nat) : Int)
         · first
           | (exfalso; omega)
           | (replace hA := hA.rw 29 (v' := .bool true) rfl (vb_true hc15)
              refine cd_cond_t hA rfl ?_
              refine wp_skip ?_
              refine xt_norm ?_
              refine wp_seq ?_
              refine wp_block ?_
              refine wp_seq ?_
              refine wp_region_lit ?_
              obtain ⟨x9, hx8⟩ := get_ex (l := l) (k := k) (by omega)
              rcases Bool.eq_false_or_eq_true x9 with h9 | h9
              · subst h9
                refine st_run tbOk 1 hA (e' := (30, .int .i64 ((k : Nat) : Int)) :: _) rfl ?_; clear hA; intro a hA
                obtain ⟨b16, o17, rfl⟩ := (hr _ (hS.tail 4 rfl)).isSome (k := k) (by omega)
                refine st_val hA rfl rfl (by decide) (rn_indexAddr tbOk hA k (o17 + k) rfl rfl rfl rfl rfl rfl (by rfl) (by omega) (by first | rfl | simp [Nat.mul_one, Nat.zero_add] | omega)) ?_; clear hA; intro a hA
                refine st_val hA rfl rfl (by decide) (rn_load tbOk hA rfl rfl rfl rfl ((hr _ (hS.tail 4 rfl)).elem0 (k := k) encBo_ok hx8 rfl)) ?_; clear hA; intro a hA
                refine st_run tbOk 2 hA (e' := (8, .bool true) :: (7, .int .i64 ((k : Nat) : Int)) :: _) rfl ?_; clear hA; intro a hA
                refine wpList_nil ?_
                replace hA := hA.sel [0, 3, 4, 6, 7, 8, 20, 21, 22, 26, 27, 28] (e' := [(0, .slice (some ⟨b16, o17, none⟩) l.length c), (3, .pointer (some ⟨bb3, 0, none⟩)), (4, .slice Ax ((wnt l j ++ ixs true l k).length) cx), (6, .bool true), (7, .int .i64 ((k : Nat) : Int)), (8, .bool true), (20, .slice (some ⟨b12, o13, none⟩) 2 2), (21, .int .i64 2), (22, .int .i64 ((j : Nat) : Int)), (26, .slice (some ⟨b16, o17, none⟩) l.length c), (27, .int .i64 ((l.length : Nat) : Int)), (28, .int .i64 ((k : Nat) : Int))]) rfl
                refine xt_norm ?_
                refine wp_seq ?_
                refine wp_region_lit ?_
                refine st_run tbOk 7 hA (e' := (39, .bool (decide (((k : Nat) : Int) < 64))) :: (38, .bool (decide (((k : Nat) : Int) < 64))) :: (37, .int .i64 ((k : Nat) : Int)) :: (36, .bool true) :: (35, .bool true) :: (34, .bool true) :: (33, .bool true) :: _) rfl ?_; clear hA; intro a hA
                refine wpList_nil ?_
                replace hA := hA.sel [0, 3, 4, 6, 7, 20, 21, 22, 26, 27, 28, 39] (e' := [(0, .slice (some ⟨b16, o17, none⟩) l.length c), (3, .pointer (some ⟨bb3, 0, none⟩)), (4, .slice Ax ((wnt l j ++ ixs true l k).length) cx), (6, .bool true), (7, .int .i64 ((k : Nat) : Int)), (20, .slice (some ⟨b12, o13, none⟩) 2 2), (21, .int .i64 2), (22, .int .i64 ((j : Nat) : Int)), (26, .slice (some ⟨b16, o17, none⟩) l.length c), (27, .int .i64 ((l.length : Nat) : Int)), (28, .int .i64 ((k : Nat) : Int)), (39, .bool (decide (((k : Nat) : Int) < 64)))]) rfl
                refine xt_norm ?_
                by_cases hc18 : ((k : Nat) : Int) < 64
                · first
                  | (exfalso; omega)
                  | (replace hA := hA.rw 39 (v' := .bool true) rfl (vb_true hc18)
                     refine cd_cond_t hA rfl ?_
                     refine wp_region_lit ?_
                     have hx9 : true = true := rfl
                     refine st_run tbOk 3 hA (e' := (42, .int .u32 (IntKind.u32.wrap ((k : Nat) : Int))) :: (41, .int .i64 ((k : Nat) : Int)) :: (40, .slice Ax ((wnt l j ++ ixs true l k).length) cx) :: _) rfl ?_; clear hA; intro a hA
                     replace hA := hA.rw 42 (v' := .int .u32 ((k : Nat) : Int)) rfl (vint (wrap32 (by omega)))
                     refine st_buildSlice tbOk hA hS [.int .u32 ((k : Nat) : Int)] rfl rfl rfl rfl rfl (by decide) (by kernel_rfl) rfl rfl (by decide) ?_; clear hA hS; intro b19 w20 a hS hA
                     replace hS := hS.front 1 (C := Cx) (L' := [(b19, rowO [.int .u32 ((k : Nat) : Int)] 27)] :: L4 :: [] :: C8 :: F) rfl rfl
                     refine st_append tbOk hA (m := (wnt l j ++ ixs true l k).length) (q := 1) (xs := rows encU (wnt l j ++ ixs true l k)) (news := rows encU ([((k : Nat) : Int)] : List Int)) rfl rfl rfl rfl rfl rfl rfl rfl (by decide) hX hS (((Own.full (T := 27) (size := 1) (g := b19) (m := 1) rfl (by decide)).rd (hS.own_ 1 rfl)).x) (rows_one encU_ok _) (maxLen_le (by first | omega | (have h9 := wnt_le l j; have h7 := ixs_64 true l k; have h6 := ixs_64 false l k; simp only [List.length_append]; omega))) (by show ((wnt l j ++ ixs true l k).length + 1) * 4 ≤ 140737488355328; first | omega | (have h9 := wnt_le l j; have h7 := ixs_64 true l k; have h6 := ixs_64 false l k; simp only [List.length_append]; omega)) rfl rfl (by decide) ?_
                     clear hA hS; intro v21 w22 C23 a hO23 hS hA
                     replace hO23 := Own.app (l := wnt l j ++ ixs true l k) (l2 := ([((k : Nat) : Int)] : List Int)) hO23
                     obtain ⟨A24, c25, rfl, hmc25, hxc25⟩ := hO23.open'
                     refine st_run tbOk 1 hA (e' := (4, .slice A24 (((wnt l j ++ ixs true l k) ++ ([((k : Nat) : Int)] : List Int)).length) c25) :: _) rfl ?_; clear hA; intro a hA
                     refine wpList_nil ?_
                     replace hA := hA.sel [0, 3, 4, 6, 20, 21, 22, 26, 27, 28] (e' := [(0, .slice (some ⟨b16, o17, none⟩) l.length c), (3, .pointer (some ⟨bb3, 0, none⟩)), (4, .slice A24 (((wnt l j ++ ixs true l k) ++ ([((k : Nat) : Int)] : List Int)).length) c25), (6, .bool true), (20, .slice (some ⟨b12, o13, none⟩) 2 2), (21, .int .i64 2), (22, .int .i64 ((j : Nat) : Int)), (26, .slice (some ⟨b16, o17, none⟩) l.length c), (27, .int .i64 ((l.length : Nat) : Int)), (28, .int .i64 ((k : Nat) : Int))]) rfl
                     refine xb_norm ?_
                     refine xt_norm ?_
                     refine wp_region_lit ?_
                     refine st_run tbOk 1 hA (e' := (45, .int .i64 (IntKind.i64.wrap (((k : Nat) : Int) + 1))) :: _) rfl ?_; clear hA; intro a hA
                     replace hA := hA.rw 45 (v' := .int .i64 ((k + 1 : Nat) : Int)) rfl (wr64 (by omega) (by omega) (by omega))
                     refine st_run tbOk 1 hA (e' := (28, .int .i64 ((k + 1 : Nat) : Int)) :: _) rfl ?_; clear hA; intro a hA
                     refine wpList_nil ?_
                     replace hA := hA.sel [0, 3, 4, 6, 20, 21, 22, 26, 27, 28] (e' := [(0, .slice (some ⟨b16, o17, none⟩) l.length c), (3, .pointer (some ⟨bb3, 0, none⟩)), (4, .slice A24 (((wnt l j ++ ixs true l k) ++ ([((k : Nat) : Int)] : List Int)).length) c25), (6, .bool true), (20, .slice (some ⟨b12, o13, none⟩) 2 2), (21, .int .i64 2), (22, .int .i64 ((j : Nat) : Int)), (26, .slice (some ⟨b16, o17, none⟩) l.length c), (27, .int .i64 ((l.length : Nat) : Int)), (28, .int .i64 ((k + 1 : Nat) : Int))]) rfl
                     replace hS := hS.front 1 (C := [(b19, rowO [.int .u32 ((k : Nat) : Int)] 27)]) (L' := C23 :: L4 :: [] :: C8 :: F) rfl rfl
                     replace hS := hS.drop1
                     replace hS := hS.front 3 (C := C8) (L' := C23 :: L4 :: [] :: F) rfl rfl
                     replace hS := hS.front 3 (C := []) (L' := C8 :: C23 :: L4 :: F) rfl rfl
                     replace hS := hS.front 3 (C := L4) (L' := [] :: C8 :: C23 :: F) rfl rfl
                     replace hS := hS.front 3 (C := C23) (L' := L4 :: [] :: C8 :: F) rfl rfl
                     have hxs : wnt l j ++ ixs true l (k + 1) = (wnt l j ++ ixs true l k) ++ ([((k : Nat) : Int)] : List Int) := by rw [ixs_yes (k := k) hx8 (by omega), ← List.append_assoc]
                     replace hA := hA.rw 4 (v' := .slice A24 ((wnt l j ++ ixs true l (k + 1)).length) c25) rfl (by rw [hxs])
                     exact lp_next _ (by omega) ⟨(k + 1), A24, c25, C23, rfl, (hA.sel [0, 3, 4, 6, 20, 21, 22, 26, 27, 28] rfl), hS, by omega, (by rw [hxs]; exact hO23)⟩)
                · first
                  | (exfalso; omega)
                  | (replace hA := hA.rw 39 (v' := .bool false) rfl (vb_false hc18)
                     refine cd_cond_f hA rfl ?_
                     refine wp_skip ?_
                     refine xb_norm ?_
                     refine xt_norm ?_
                     refine wp_region_lit ?_
                     have hx9 : ¬ (true = true ∧ k < 64) := fun h => absurd h.2 (by omega)
                     refine st_run tbOk 1 hA (e' := (45, .int .i64 (IntKind.i64.wrap (((k : Nat) : Int) + 1))) :: _) rfl ?_; clear hA; intro a hA
                     replace hA := hA.rw 45 (v' := .int .i64 ((k + 1 : Nat) : Int)) rfl (wr64 (by omega) (by omega) (by omega))
                     refine st_run tbOk 1 hA (e' := (28, .int .i64 ((k + 1 : Nat) : Int)) :: _) rfl ?_; clear hA; intro a hA
                     refine wpList_nil ?_
                     replace hA := hA.sel [0, 3, 4, 6, 20, 21, 22, 26, 27, 28] (e' := [(0, .slice (some ⟨b16, o17, none⟩) l.length c), (3, .pointer (some ⟨bb3, 0, none⟩)), (4, .slice Ax ((wnt l j ++ ixs true l k).length) cx), (6, .bool true), (20, .slice (some ⟨b12, o13, none⟩) 2 2), (21, .int .i64 2), (22, .int .i64 ((j : Nat) : Int)), (26, .slice (some ⟨b16, o17, none⟩) l.length c), (27, .int .i64 ((l.length : Nat) : Int)), (28, .int .i64 ((k + 1 : Nat) : Int))]) rfl
                     replace hS := hS.front 3 (C := C8) (L' := Cx :: L4 :: [] :: F) rfl rfl
                     replace hS := hS.front 3 (C := []) (L' := C8 :: Cx :: L4 :: F) rfl rfl
                     replace hS := hS.front 3 (C := L4) (L' := [] :: C8 :: Cx :: F) rfl rfl
                     replace hS := hS.front 3 (C := Cx) (L' := L4 :: [] :: C8 :: F) rfl rfl
                     have hxs : wnt l j ++ ixs true l (k + 1) = wnt l j ++ ixs true l k := by rw [ixs_no hx8 hx9]
                     replace hA := hA.rw 4 (v' := .slice Ax ((wnt l j ++ ixs true l (k + 1)).length) cx) rfl (by rw [hxs])
                     exact lp_next _ (by omega) ⟨(k + 1), Ax, cx, Cx, rfl, (hA.sel [0, 3, 4, 6, 20, 21, 22, 26, 27, 28] rfl), hS, by omega, (by rw [hxs]; exact hX)⟩)
              · subst h9
                have hx9 : ¬ (false = true ∧ k < 64) := fun h => by cases h.1
                refine st_run tbOk 1 hA (e' := (30, .int .i64 ((k : Nat) : Int)) :: _) rfl ?_; clear hA; intro a hA
                obtain ⟨b26, o27, rfl⟩ := (hr _ (hS.tail 4 rfl)).isSome (k := k) (by omega)
                refine st_val hA rfl rfl (by decide) (rn_indexAddr tbOk hA k (o27 + k) rfl rfl rfl rfl rfl rfl (by rfl) (by omega) (by first | rfl | simp [Nat.mul_one, Nat.zero_add] | omega)) ?_; clear hA; intro a hA
                refine st_val hA rfl rfl (by decide) (rn_load tbOk hA rfl rfl rfl rfl ((hr _ (hS.tail 4 rfl)).elem0 (k := k) encBo_ok hx8 rfl)) ?_; clear hA; intro a hA
                refine st_run tbOk 2 hA (e' := (8, .bool false) :: (7, .int .i64 ((k : Nat) : Int)) :: _) rfl ?_; clear hA; intro a hA
                refine wpList_nil ?_
                replace hA := hA.sel [0, 3, 4, 6, 7, 8, 20, 21, 22, 26, 27, 28] (e' := [(0, .slice (some ⟨b26, o27, none⟩) l.length c), (3, .pointer (some ⟨bb3, 0, none⟩)), (4, .slice Ax ((wnt l j ++ ixs true l k).length) cx), (6, .bool true), (7, .int .i64 ((k : Nat) : Int)), (8, .bool false), (20, .slice (some ⟨b12, o13, none⟩) 2 2), (21, .int .i64 2), (22, .int .i64 ((j : Nat) : Int)), (26, .slice (some ⟨b26, o27, none⟩) l.length c), (27, .int .i64 ((l.length : Nat) : Int)), (28, .int .i64 ((k : Nat) : Int))]) rfl
                refine xt_norm ?_
                refine wp_seq ?_
                refine wp_region_lit ?_
                refine st_run tbOk 7 hA (e' := (39, .bool false) :: (38, undef) :: (37, undef) :: (36, .bool false) :: (35, .bool false) :: (34, .bool true) :: (33, .bool false) :: _) rfl ?_; clear hA; intro a hA
                refine wpList_nil ?_
                replace hA := hA.sel [0, 3, 4, 6, 7, 20, 21, 22, 26, 27, 28, 39] (e' := [(0, .slice (some ⟨b26, o27, none⟩) l.length c), (3, .pointer (some ⟨bb3, 0, none⟩)), (4, .slice Ax ((wnt l j ++ ixs true l k).length) cx), (6, .bool true), (7, .int .i64 ((k : Nat) : Int)), (20, .slice (some ⟨b12, o13, none⟩) 2 2), (21, .int .i64 2), (22, .int .i64 ((j : Nat) : Int)), (26, .slice (some ⟨b26, o27, none⟩) l.length c), (27, .int .i64 ((l.length : Nat) : Int)), (28, .int .i64 ((k : Nat) : Int)), (39, .bool false)]) rfl
                refine xt_norm ?_
                refine cd_cond_f hA rfl ?_
                refine wp_skip ?_
                refine xb_norm ?_
                refine xt_norm ?_
                refine wp_region_lit ?_
                refine st_run tbOk 1 hA (e' := (45, .int .i64 (IntKind.i64.wrap (((k : Nat) : Int) + 1))) :: _) rfl ?_; clear hA; intro a hA
                replace hA := hA.rw 45 (v' := .int .i64 ((k + 1 : Nat) : Int)) rfl (wr64 (by omega) (by omega) (by omega))
                refine st_run tbOk 1 hA (e' := (28, .int .i64 ((k + 1 : Nat) : Int)) :: _) rfl ?_; clear hA; intro a hA
                refine wpList_nil ?_
                replace hA := hA.sel [0, 3, 4, 6, 20, 21, 22, 26, 27, 28] (e' := [(0, .slice (some ⟨b26, o27, none⟩) l.length c), (3, .pointer (some ⟨bb3, 0, none⟩)), (4, .slice Ax ((wnt l j ++ ixs true l k).length) cx), (6, .bool true), (20, .slice (some ⟨b12, o13, none⟩) 2 2), (21, .int .i64 2), (22, .int .i64 ((j : Nat) : Int)), (26, .slice (some ⟨b26, o27, none⟩) l.length c), (27, .int .i64 ((l.length : Nat) : Int)), (28, .int .i64 ((k + 1 : Nat) : Int))]) rfl
                replace hS := hS.front 3 (C := C8) (L' := Cx :: L4 :: [] :: F) rfl rfl
                replace hS := hS.front 3 (C := []) (L' := C8 :: Cx :: L4 :: F) rfl rfl
                replace hS := hS.front 3 (C := L4) (L' := [] :: C8 :: Cx :: F) rfl rfl
                replace hS := hS.front 3 (C := Cx) (L' := L4 :: [] :: C8 :: F) rfl rfl
                have hxs : wnt l j ++ ixs true l (k + 1) = wnt l j ++ ixs true l k := by rw [ixs_no hx8 hx9]
                replace hA := hA.rw 4 (v' := .slice Ax ((wnt l j ++ ixs true l (k + 1)).length) cx) rfl (by rw [hxs])
                exact lp_next _ (by omega) ⟨(k + 1), Ax, cx, Cx, rfl, (hA.sel [0, 3, 4, 6, 20, 21, 22, 26, 27, 28] rfl), hS, by omega, (by rw [hxs]; exact hX)⟩)
         · first
           | (exfalso; omega)
           | (replace hA := hA.rw 29 (v' := .bool false) rfl (vb_false hc15)
              refine cd_cond_f hA rfl ?_
              refine wp_exit ?_
              refine xt_exit ?_
              refine xt_exit ?_
              refine cd_exit_eq ?_
              refine xb_norm ?_
              refine xt_norm ?_
              refine wp_region_lit ?_
              have hkl : k = l.length := by omega
              have hwn : wnt l j ++ ixs true l k = wnt l (j + 1) := by rw [hj9, hkl]; simp [wnt]
              rw [hwn] at hX
              replace hA := hA.rw 4 (v' := .slice Ax ((wnt l (j + 1)).length) cx) rfl (by rw [hwn])
              refine st_run tbOk 1 hA (e' := (46, .int .i64 (IntKind.i64.wrap (((j : Nat) : Int) + 1))) :: _) rfl ?_; clear hA; intro a hA
              replace hA := hA.rw 46 (v' := .int .i64 ((j + 1 : Nat) : Int)) rfl (wr64 (by omega) (by omega) (by omega))
              refine st_run tbOk 1 hA (e' := (22, .int .i64 ((j + 1 : Nat) : Int)) :: _) rfl ?_; clear hA; intro a hA
              refine wpList_nil ?_
              replace hA := hA.sel [0, 3, 4, 20, 21, 22] (e' := [(0, .slice A l.length c), (3, .pointer (some ⟨bb3, 0, none⟩)), (4, .slice Ax ((wnt l (j + 1)).length) cx), (20, .slice (some ⟨b12, o13, none⟩) 2 2), (21, .int .i64 2), (22, .int .i64 ((j + 1 : Nat) : Int))]) rfl
              replace hS := hS.front 3 (C := C8) (L' := Cx :: L4 :: [] :: F) rfl rfl
              replace hS := hS.front 3 (C := []) (L' := C8 :: Cx :: L4 :: F) rfl rfl
              replace hS := hS.front 3 (C := L4) (L' := [] :: C8 :: Cx :: F) rfl rfl
              replace hS := hS.front 3 (C := Cx) (L' := L4 :: [] :: C8 :: F) rfl rfl
              exact lp_next _ (by omega) ⟨(j + 1), Ax, cx, Cx, rfl, (hA.sel [0, 3, 4, 20, 21, 22] rfl), hS, by omega, hX⟩)
       · obtain ⟨b28, o29, rfl⟩ := hO9.isSome (k := j) (by omega)
         refine st_val hA rfl rfl (by decide) (rn_indexAddr tbOk hA j (o29 + j) rfl rfl rfl rfl rfl rfl (by rfl) (by omega) (by first | rfl | simp [Nat.mul_one, Nat.zero_add] | omega)) ?_; clear hA; intro a hA
         refine st_val hA rfl rfl (by decide) (rn_load tbOk hA rfl rfl rfl rfl ((hO9.rd (hS.own_ 3 rfl)).elem0 (k := j) encBo_ok (show ([true, false] : List Bool)[j]? = some false from by rw [hj9]; rfl) rfl)) ?_; clear hA; intro a hA
         refine st_run tbOk 1 hA (e' := (6, .bool false) :: _) rfl ?_; clear hA; intro a hA
         refine wpList_nil ?_
         replace hA := hA.sel [0, 3, 4, 6, 20, 21, 22] (e' := [(0, .slice A l.length c), (3, .pointer (some ⟨bb3, 0, none⟩)), (4, .slice Aw ((wnt l j).length) cw), (6, .bool false), (20, .slice (some ⟨b28, o29, none⟩) 2 2), (21, .int .i64 2), (22, .int .i64 ((j : Nat) : Int))]) rfl
         refine xt_norm ?_
         refine wp_seq ?_
         refine wp_region_lit ?_
         refine st_run tbOk 3 hA (e' := (28, .int .i64 0) :: (27, .int .i64 ((l.length : Nat) : Int)) :: (26, .slice A l.length c) :: _) rfl ?_; clear hA; intro a hA
         refine wpList_nil ?_
         refine xt_norm ?_
         refine wp_block ?_
         replace hS := hS.front 3 (C := C8) (L' := Cw :: L4 :: [] :: F) rfl rfl
         replace hS := hS.front 3 (C := []) (L' := C8 :: Cw :: L4 :: F) rfl rfl
         replace hS := hS.front 3 (C := L4) (L' := [] :: C8 :: Cw :: F) rfl rfl
         replace hS := hS.front 3 (C := Cw) (L' := L4 :: [] :: C8 :: F) rfl rfl
         have hx0 : wnt l j ++ ixs false l 0 = wnt l j := by simp [ixs]
         replace hA := hA.rw 4 (v' := .slice Aw ((wnt l j ++ ixs false l 0).length) cw) rfl (by rw [hx0])
         refine wp_loop_ghost (fun m a w => ∃ (k : Nat) (Ax : Option Addr) (cx : Nat) (Cx : Chunk), m = l.length - k ∧ Has a 93 [(0, .slice A l.length c), (3, .pointer (some ⟨bb3, 0, none⟩)), (4, .slice Ax ((wnt l j ++ ixs false l k).length) cx), (6, .bool false), (20, .slice (some ⟨b28, o29, none⟩) 2 2), (21, .int .i64 2), (22, .int .i64 ((j : Nat) : Int)), (26, .slice A l.length c), (27, .int .i64 ((l.length : Nat) : Int)), (28, .int .i64 ((k : Nat) : Int))] ∧ St w0 w (Cx :: L4 :: [] :: C8 :: F) ∧ (k ≤ l.length) ∧ (Own 27 1 (.slice Ax (wnt l j ++ ixs false l k).length cx) (wnt l j ++ ixs false l k).length (rows encU (wnt l j ++ ixs false l k)) Cx)) (l.length - 0)
           ⟨0, Aw, cw, Cw, rfl, (hA.sel [0, 3, 4, 6, 20, 21, 22, 26, 27, 28] rfl), hS, Nat.zero_le _, (by rw [hx0]; exact hW)⟩ ?_
         clear hA hS; rintro m0 a w30 ⟨k, Ax, cx, Cx, rfl, hA, hS, hk, hX⟩
         refine wp_seq ?_
         refine wp_region_lit ?_
         refine st_run tbOk 1 hA (e' := (29, .bool (decide (((k : Nat) : Int) < ((l.length : Nat) : Int)))) :: _) rfl ?_; clear hA; intro a hA
         refine wpList_nil ?_
         refine xt_norm ?_
         refine wp_seq ?_
         by_cases hc31 : ((k : Nat) : Int) < ((l.length : Nat) : Int)
         · first
           | (exfalso; omega)
           | (replace hA := hA.rw 29 (v' := .bool true) rfl (vb_true hc31)
              refine cd_cond_t hA rfl ?_
              refine wp_skip ?_
              refine xt_norm ?_
              refine wp_seq ?_
              refine wp_block ?_
              refine wp_seq ?_
              refine wp_region_lit ?_
              obtain ⟨x9, hx8⟩ := get_ex (l := l) (k := k) (by omega)
              rcases Bool.eq_false_or_eq_true x9 with h9 | h9
              · subst h9
                have hx9 : ¬ (true = false ∧ k < 64) := fun h => by cases h.1
                refine st_run tbOk 1 hA (e' := (30, .int .i64 ((k : Nat) : Int)) :: _) rfl ?_; clear hA; intro a hA
                obtain ⟨b32, o33, rfl⟩ := (hr _ (hS.tail 4 rfl)).isSome (k := k) (by omega)
                refine st_val hA rfl rfl (by decide) (rn_indexAddr tbOk hA k (o33 + k) rfl rfl rfl rfl rfl rfl (by rfl) (by omega) (by first | rfl | simp [Nat.mul_one, Nat.zero_add] | omega)) ?_; clear hA; intro a hA
                refine st_val hA rfl rfl (by decide) (rn_load tbOk hA rfl rfl rfl rfl ((hr _ (hS.tail 4 rfl)).elem0 (k := k) encBo_ok hx8 rfl)) ?_; clear hA; intro a hA
                refine st_run tbOk 2 hA (e' := (8, .bool true) :: (7, .int .i64 ((k : Nat) : Int)) :: _) rfl ?_; clear hA; intro a hA
                refine wpList_nil ?_
                replace hA := hA.sel [0, 3, 4, 6, 7, 8, 20, 21, 22, 26, 27, 28] (e' := [(0, .slice (some ⟨b32, o33, none⟩) l.length c), (3, .pointer (some ⟨bb3, 0, none⟩)), (4, .slice Ax ((wnt l j ++ ixs false l k).length) cx), (6, .bool false), (7, .int .i64 ((k : Nat) : Int)), (8, .bool true), (20, .slice (some ⟨b28, o29, none⟩) 2 2), (21, .int .i64 2), (22, .int .i64 ((j : Nat) : Int)), (26, .slice (some ⟨b32, o33, none⟩) l.length c), (27, .int .i64 ((l.length : Nat) : Int)), (28, .int .i64 ((k : Nat) : Int))]) rfl
                refine xt_norm ?_
                refine wp_seq ?_
                refine wp_region_lit ?_
                refine st_run tbOk 7 hA (e' := (39, .bool false) :: (38, undef) :: (37, undef) :: (36, .bool false) :: (35, .bool false) :: (34, .bool false) :: (33, .bool true) :: _) rfl ?_; clear hA; intro a hA
                refine wpList_nil ?_
                replace hA := hA.sel [0, 3, 4, 6, 7, 20, 21, 22, 26, 27, 28, 39] (e' := [(0, .slice (some ⟨b32, o33, none⟩) l.length c), (3, .pointer (some ⟨bb3, 0, none⟩)), (4, .slice Ax ((wnt l j ++ ixs false l k).length) cx), (6, .bool false), (7, .int .i64 ((k : Nat) : Int)), (20, .slice (some ⟨b28, o29, none⟩) 2 2), (21, .int .i64 2), (22, .int .i64 ((j : Nat) : Int)), (26, .slice (some ⟨b32, o33, none⟩) l.length c), (27, .int .i64 ((l.length : Nat) : Int)), (28, .int .i64 ((k : Nat) : Int)), (39, .bool false)]) rfl
                refine xt_norm ?_
                refine cd_cond_f hA rfl ?_
                refine wp_skip ?_
                refine xb_norm ?_
                refine xt_norm ?_
                refine wp_region_lit ?_
                refine st_run tbOk 1 hA (e' := (45, .int .i64 (IntKind.i64.wrap (((k : Nat) : Int) + 1))) :: _) rfl ?_; clear hA; intro a hA
                replace hA := hA.rw 45 (v' := .int .i64 ((k + 1 : Nat) : Int)) rfl (wr64 (by omega) (by omega) (by omega))
                refine st_run tbOk 1 hA (e' := (28, .int .i64 ((k + 1 : Nat) : Int)) :: _) rfl ?_; clear hA; intro a hA
                refine wpList_nil ?_
                replace hA := hA.sel [0, 3, 4, 6, 20, 21, 22, 26, 27, 28] (e' := [(0, .slice (some ⟨b32, o33, none⟩) l.length c), (3, .pointer (some ⟨bb3, 0, none⟩)), (4, .slice Ax ((wnt l j ++ ixs false l k).length) cx), (6, .bool false), (20, .slice (some ⟨b28, o29, none⟩) 2 2), (21, .int .i64 2), (22, .int .i64 ((j : Nat) : Int)), (26, .slice (some ⟨b32, o33, none⟩) l.length c), (27, .int .i64 ((l.length : Nat) : Int)), (28, .int .i64 ((k + 1 : Nat) : Int))]) rfl
                replace hS := hS.front 3 (C := C8) (L' := Cx :: L4 :: [] :: F) rfl rfl
                replace hS := hS.front 3 (C := []) (L' := C8 :: Cx :: L4 :: F) rfl rfl
                replace hS := hS.front 3 (C := L4) (L' := [] :: C8 :: Cx :: F) rfl rfl
                replace hS := hS.front 3 (C := Cx) (L' := L4 :: [] :: C8 :: F) rfl rfl
                have hxs : wnt l j ++ ixs false l (k + 1) = wnt l j ++ ixs false l k := by rw [ixs_no hx8 hx9]
                replace hA := hA.rw 4 (v' := .slice Ax ((wnt l j ++ ixs false l (k + 1)).length) cx) rfl (by rw [hxs])
                exact lp_next _ (by omega) ⟨(k + 1), Ax, cx, Cx, rfl, (hA.sel [0, 3, 4, 6, 20, 21, 22, 26, 27, 28] rfl), hS, by omega, (by rw [hxs]; exact hX)⟩
              · subst h9
                refine st_run tbOk 1 hA (e' := (30, .int .i64 ((k : Nat) : Int)) :: _) rfl ?_; clear hA; intro a hA
                obtain ⟨b34, o35, rfl⟩ := (hr _ (hS.tail 4 rfl)).isSome (k := k) (by omega)
                refine st_val hA rfl rfl (by decide) (rn_indexAddr tbOk hA k (o35 + k) rfl rfl rfl rfl rfl rfl (by rfl) (by omega) (by first | rfl | simp [Nat.mul_one, Nat.zero_add] | omega)) ?_; clear hA; intro a hA
                refine st_val hA rfl rfl (by decide) (rn_load tbOk hA rfl rfl rfl rfl ((hr _ (hS.tail 4 rfl)).elem0 (k := k) encBo_ok hx8 rfl)) ?_; clear hA; intro a hA
                refine st_run tbOk 2 hA (e' := (8, .bool false) :: (7, .int .i64 ((k : Nat) : Int)) :: _) rfl ?_; clear hA; intro a hA
                refine wpList_nil ?_
                replace hA := hA.sel [0, 3, 4, 6, 7, 8, 20, 21, 22, 26, 27, 28] (e' := [(0, .slice (some ⟨b34, o35, none⟩) l.length c), (3, .pointer (some ⟨bb3, 0, none⟩)), (4, .slice Ax ((wnt l j ++ ixs false l k).length) cx), (6, .bool false), (7, .int .i64 ((k : Nat) : Int)), (8, .bool false), (20, .slice (some ⟨b28, o29, none⟩) 2 2), (21, .int .i64 2), (22, .int .i64 ((j : Nat) : Int)), (26, .slice (some ⟨b34, o35, none⟩) l.length c), (27, .int .i64 ((l.length : Nat) : Int)), (28, .int .i64 ((k : Nat) : Int))]) rfl
                refine xt_norm ?_
                refine wp_seq ?_
                refine wp_region_lit ?_
                refine st_run tbOk 7 hA (e' := (39, .bool (decide (((k : Nat) : Int) < 64))) :: (38, .bool (decide (((k : Nat) : Int) < 64))) :: (37, .int .i64 ((k : Nat) : Int)) :: (36, .bool true) :: (35, .bool true) :: (34, .bool false) :: (33, .bool false) :: _) rfl ?_; clear hA; intro a hA
                refine wpList_nil ?_
                replace hA := hA.sel [0, 3, 4, 6, 7, 20, 21, 22, 26, 27, 28, 39] (e' := [(0, .slice (some ⟨b34, o35, none⟩) l.length c), (3, .pointer (some ⟨bb3, 0, none⟩)), (4, .slice Ax ((wnt l j ++ ixs false l k).length) cx), (6, .bool false), (7, .int .i64 ((k : Nat) : Int)), (20, .slice (some ⟨b28, o29, none⟩) 2 2), (21, .int .i64 2), (22, .int .i64 ((j : Nat) : Int)), (26, .slice (some ⟨b34, o35, none⟩) l.length c), (27, .int .i64 ((l.length : Nat) : Int)), (28, .int .i64 ((k : Nat) : Int)), (39, .bool (decide (((k : Nat) : Int) < 64)))]) rfl
                refine xt_norm ?_
                by_cases hc36 : ((k : Nat) : Int) < 64
                · first
                  | (exfalso; omega)
                  | (replace hA := hA.rw 39 (v' := .bool true) rfl (vb_true hc36)
                     refine cd_cond_t hA rfl ?_
                     refine wp_region_lit ?_
                     have hx9 : false = false := rfl
                     refine st_run tbOk 3 hA (e' := (42, .int .u32 (IntKind.u32.wrap ((k : Nat) : Int))) :: (41, .int .i64 ((k : Nat) : Int)) :: (40, .slice Ax ((wnt l j ++ ixs false l k).length) cx) :: _) rfl ?_; clear hA; intro a hA
                     replace hA := hA.rw 42 (v' := .int .u32 ((k : Nat) : Int)) rfl (vint (wrap32 (by omega)))
                     refine st_buildSlice tbOk hA hS [.int .u32 ((k : Nat) : Int)] rfl rfl rfl rfl rfl (by decide) (by kernel_rfl) rfl rfl (by decide) ?_; clear hA hS; intro b37 w38 a hS hA
                     replace hS := hS.front 1 (C := Cx) (L' := [(b37, rowO [.int .u32 ((k : Nat) : Int)] 27)] :: L4 :: [] :: C8 :: F) rfl rfl
                     refine st_append tbOk hA (m := (wnt l j ++ ixs false l k).length) (q := 1) (xs := rows encU (wnt l j ++ ixs false l k)) (news := rows encU ([((k : Nat) : Int)] : List Int)) rfl rfl rfl rfl rfl rfl rfl rfl (by decide) hX hS (((Own.full (T := 27) (size := 1) (g := b37) (m := 1) rfl (by decide)).rd (hS.own_ 1 rfl)).x) (rows_one encU_ok _) (maxLen_le (by first | omega | (have h9 := wnt_le l j; have h7 := ixs_64 true l k; have h6 := ixs_64 false l k; simp only [List.length_append]; omega))) (by show ((wnt l j ++ ixs false l k).length + 1) * 4 ≤ 140737488355328; first | omega | (have h9 := wnt_le l j; have h7 := ixs_64 true l k; have h6 := ixs_64 false l k; simp only [List.length_append]; omega)) rfl rfl (by decide) ?_
                     clear hA hS; intro v39 w40 C41 a hO41 hS hA
                     replace hO41 := Own.app (l := wnt l j ++ ixs false l k) (l2 := ([((k : Nat) : Int)] : List Int)) hO41
                     obtain ⟨A42, c43, rfl, hmc43, hxc43⟩ := hO41.open'
                     refine st_run tbOk 1 hA (e' := (4, .slice A42 (((wnt l j ++ ixs false l k) ++ ([((k : Nat) : Int)] : List Int)).length) c43) :: _) rfl ?_; clear hA; intro a hA
                     refine wpList_nil ?_
                     replace hA := hA.sel [0, 3, 4, 6, 20, 21, 22, 26, 27, 28] (e' := [(0, .slice (some ⟨b34, o35, none⟩) l.length c), (3, .pointer (some ⟨bb3, 0, none⟩)), (4, .slice A42 (((wnt l j ++ ixs false l k) ++ ([((k : Nat) : Int)] : List Int)).length) c43), (6, .bool false), (20, .slice (some ⟨b28, o29, none⟩) 2 2), (21, .int .i64 2), (22, .int .i64 ((j : Nat) : Int)), (26, .slice (some ⟨b34, o35, none⟩) l.length c), (27, .int .i64 ((l.length : Nat) : Int)), (28, .int .i64 ((k : Nat) : Int))]) rfl
                     refine xb_norm ?_
                     refine xt_norm ?_
                     refine wp_region_lit ?_
                     refine st_run tbOk 1 hA (e' := (45, .int .i64 (IntKind.i64.wrap (((k : Nat) : Int) + 1))) :: _) rfl ?_; clear hA; intro a hA
                     replace hA := hA.rw 45 (v' := .int .i64 ((k + 1 : Nat) : Int)) rfl (wr64 (by omega) (by omega) (by omega))
                     refine st_run tbOk 1 hA (e' := (28, .int .i64 ((k + 1 : Nat) : Int)) :: _) rfl ?_; clear hA; intro a hA
                     refine wpList_nil ?_
                     replace hA := hA.sel [0, 3, 4, 6, 20, 21, 22, 26, 27, 28] (e' := [(0, .slice (some ⟨b34, o35, none⟩) l.length c), (3, .pointer (some ⟨bb3, 0, none⟩)), (4, .slice A42 (((wnt l j ++ ixs false l k) ++ ([((k : Nat) : Int)] : List Int)).length) c43), (6, .bool false), (20, .slice (some ⟨b28, o29, none⟩) 2 2), (21, .int .i64 2), (22, .int .i64 ((j : Nat) : Int)), (26, .slice (some ⟨b34, o35, none⟩) l.length c), (27, .int .i64 ((l.length : Nat) : Int)), (28, .int .i64 ((k + 1 : Nat) : Int))]) rfl
                     replace hS := hS.front 1 (C := [(b37, rowO [.int .u32 ((k : Nat) : Int)] 27)]) (L' := C41 :: L4 :: [] :: C8 :: F) rfl rfl
                     replace hS := hS.drop1
                     replace hS := hS.front 3 (C := C8) (L' := C41 :: L4 :: [] :: F) rfl rfl
                     replace hS := hS.front 3 (C := []) (L' := C8 :: C41 :: L4 :: F) rfl rfl
                     replace hS := hS.front 3 (C := L4) (L' := [] :: C8 :: C41 :: F) rfl rfl
                     replace hS := hS.front 3 (C := C41) (L' := L4 :: [] :: C8 :: F) rfl rfl
                     have hxs : wnt l j ++ ixs false l (k + 1) = (wnt l j ++ ixs false l k) ++ ([((k : Nat) : Int)] : List Int) := by rw [ixs_yes (k := k) hx8 (by omega), ← List.append_assoc]
                     replace hA := hA.rw 4 (v' := .slice A42 ((wnt l j ++ ixs false l (k + 1)).length) c43) rfl (by rw [hxs])
                     exact lp_next _ (by omega) ⟨(k + 1), A42, c43, C41, rfl, (hA.sel [0, 3, 4, 6, 20, 21, 22, 26, 27, 28] rfl), hS, by omega, (by rw [hxs]; exact hO41)⟩)
                · first
                  | (exfalso; omega)
                  | (replace hA := hA.rw 39 (v' := .bool false) rfl (vb_false hc36)
                     refine cd_cond_f hA rfl ?_
                     refine wp_skip ?_
                     refine xb_norm ?_
                     refine xt_norm ?_
                     refine wp_region_lit ?_
                     have hx9 : ¬ (false = false ∧ k < 64) := fun h => absurd h.2 (by omega)
                     refine st_run tbOk 1 hA (e' := (45, .int .i64 (IntKind.i64.wrap (((k : Nat) : Int) + 1))) :: _) rfl ?_; clear hA; intro a hA
                     replace hA := hA.rw 45 (v' := .int .i64 ((k + 1 : Nat) : Int)) rfl (wr64 (by omega) (by omega) (by omega))
                     refine st_run tbOk 1 hA (e' := (28, .int .i64 ((k + 1 : Nat) : Int)) :: _) rfl ?_; clear hA; intro a hA
                     refine wpList_nil ?_
                     replace hA := hA.sel [0, 3, 4, 6, 20, 21, 22, 26, 27, 28] (e' := [(0, .slice (some ⟨b34, o35, none⟩) l.length c), (3, .pointer (some ⟨bb3, 0, none⟩)), (4, .slice Ax ((wnt l j ++ ixs false l k).length) cx), (6, .bool false), (20, .slice (some ⟨b28, o29, none⟩) 2 2), (21, .int .i64 2), (22, .int .i64 ((j : Nat) : Int)), (26, .slice (some ⟨b34, o35, none⟩) l.length c), (27, .int .i64 ((l.length : Nat) : Int)), (28, .int .i64 ((k + 1 : Nat) : Int))]) rfl
                     replace hS := hS.front 3 (C := C8) (L' := Cx :: L4 :: [] :: F) rfl rfl
                     replace hS := hS.front 3 (C := []) (L' := C8 :: Cx :: L4 :: F) rfl rfl
                     replace hS := hS.front 3 (C := L4) (L' := [] :: C8 :: Cx :: F) rfl rfl
                     replace hS := hS.front 3 (C := Cx) (L' := L4 :: [] :: C8 :: F) rfl rfl
                     have hxs : wnt l j ++ ixs false l (k + 1) = wnt l j ++ ixs false l k := by rw [ixs_no hx8 hx9]
                     replace hA := hA.rw 4 (v' := .slice Ax ((wnt l j ++ ixs false l (k + 1)).length) cx) rfl (by rw [hxs])
                     exact lp_next _ (by omega) ⟨(k + 1), Ax, cx, Cx, rfl, (hA.sel [0, 3, 4, 6, 20, 21, 22, 26, 27, 28] rfl), hS, by omega, (by rw [hxs]; exact hX)⟩))
         · first
           | (exfalso; omega)
           | (replace hA := hA.rw 29 (v' := .bool false) rfl (vb_false hc31)
              refine cd_cond_f hA rfl ?_
              refine wp_exit ?_
              refine xt_exit ?_
              refine xt_exit ?_
              refine cd_exit_eq ?_
              refine xb_norm ?_
              refine xt_norm ?_
              refine wp_region_lit ?_
              have hkl : k = l.length := by omega
              have hwn : wnt l j ++ ixs false l k = wnt l (j + 1) := by rw [hj9, hkl]; simp [wnt]
              rw [hwn] at hX
              replace hA := hA.rw 4 (v' := .slice Ax ((wnt l (j + 1)).length) cx) rfl (by rw [hwn])
              refine st_run tbOk 1 hA (e' := (46, .int .i64 (IntKind.i64.wrap (((j : Nat) : Int) + 1))) :: _) rfl ?_; clear hA; intro a hA
              replace hA := hA.rw 46 (v' := .int .i64 ((j + 1 : Nat) : Int)) rfl (wr64 (by omega) (by omega) (by omega))
              refine st_run tbOk 1 hA (e' := (22, .int .i64 ((j + 1 : Nat) : Int)) :: _) rfl ?_; clear hA; intro a hA
              refine wpList_nil ?_
              replace hA := hA.sel [0, 3, 4, 20, 21, 22] (e' := [(0, .slice A l.length c), (3, .pointer (some ⟨bb3, 0, none⟩)), (4, .slice Ax ((wnt l (j + 1)).length) cx), (20, .slice (some ⟨b28, o29, none⟩) 2 2), (21, .int .i64 2), (22, .int .i64 ((j + 1 : Nat) : Int))]) rfl
              replace hS := hS.front 3 (C := C8) (L' := Cx :: L4 :: [] :: F) rfl rfl
              replace hS := hS.front 3 (C := []) (L' := C8 :: Cx :: L4 :: F) rfl rfl
              replace hS := hS.front 3 (C := L4) (L' := [] :: C8 :: Cx :: F) rfl rfl
              replace hS := hS.front 3 (C := Cx) (L' := L4 :: [] :: C8 :: F) rfl rfl
              exact lp_next _ (by omega) ⟨(j + 1), Ax, cx, Cx, rfl, (hA.sel [0, 3, 4, 20, 21, 22] rfl), hS, by omega, hX⟩))
  · first
    | (exfalso; omega)
    | (replace hA := hA.rw 23 (v' := .bool false) rfl (vb_false hc11)
       refine cd_cond_f hA rfl ?_
       refine wp_exit ?_
       refine xt_exit ?_
       refine xt_exit ?_
       refine cd_exit_eq ?_
       refine xt_norm ?_
       refine wp_seq ?_
       refine wp_seq ?_
       refine wp_region_lit ?_
       have hj2 : j = 2 := by omega
       have hwn : wnt l j = (ixs true l l.length ++ ixs false l l.length) := by rw [hj2]; simp [wnt]
       rw [hwn] at hW
       replace hA := hA.rw 4 (v' := .slice Aw ((ixs true l l.length ++ ixs false l l.length).length) cw) rfl (by rw [hwn])
       refine st_run tbOk 3 hA (e' := (49, .int .i64 0) :: (48, .int .i64 ((l.length : Nat) : Int)) :: (47, .slice A l.length c) :: _) rfl ?_; clear hA; intro a hA
       refine wpList_nil ?_
       replace hA := hA.sel [3, 4, 47, 48, 49] (e' := [(3, .pointer (some ⟨bb3, 0, none⟩)), (4, .slice Aw ((ixs true l l.length ++ ixs false l l.length).length) cw), (47, .slice A l.length c), (48, .int .i64 ((l.length : Nat) : Int)), (49, .int .i64 0)]) rfl
       refine xt_norm ?_
       refine wp_block ?_
       replace hS := hS.front 3 (C := C8) (L' := Cw :: L4 :: [] :: F) rfl rfl
       replace hS := hS.drop1
       replace hS := hS.front 2 (C := []) (L' := Cw :: L4 :: F) rfl rfl
       replace hS := hS.front 2 (C := L4) (L' := [] :: Cw :: F) rfl rfl
       refine wp_loop_ghost (fun m a w => ∃ (k : Nat) (us : List Msg) (ps : List Msg) (L1 : Chunk) (D1 : Chunk), m = l.length - k ∧ Has a 93 [(3, .pointer (some ⟨bb3, 0, none⟩)), (4, .slice Aw ((ixs true l l.length ++ ixs false l l.length).length) cw), (47, .slice A l.length c), (48, .int .i64 ((l.length : Nat) : Int)), (49, .int .i64 ((k : Nat) : Int))] ∧ St w0 w (L1 :: D1 :: Cw :: F) ∧ (k ≤ l.length) ∧ (us.map mid = ixs true l k) ∧ (ps.map mid = ixs false l k) ∧ (BX bb3 64 us ps L1)) (l.length - 0)
         ⟨0, ([]), ([]), L4, ([]), rfl, (hA.sel [3, 4, 47, 48, 49] rfl), hS, Nat.zero_le _, (by simp [ixs]), (by simp [ixs]), hM5⟩ ?_
       clear hA hS; rintro m0 a w44 ⟨k, us, ps, L1, D1, rfl, hA, hS, hk, hu, hp, hM1⟩
       have hul : us.length = (ixs true l k).length := by rw [← hu, List.length_map]
       have hpl : ps.length = (ixs false l k).length := by rw [← hp, List.length_map]
       have h64 := ixs_le true l k; have h63 := ixs_le false l k
       refine wp_seq ?_
       refine wp_region_lit ?_
       refine st_run tbOk 1 hA (e' := (50, .bool (decide (((k : Nat) : Int) < ((l.length : Nat) : Int)))) :: _) rfl ?_; clear hA; intro a hA
       refine wpList_nil ?_
       refine xt_norm ?_
       refine wp_seq ?_
       by_cases hc45 : ((k : Nat) : Int) < ((l.length : Nat) : Int)
       · first
         | (exfalso; omega)
         | (replace hA := hA.rw 50 (v' := .bool true) rfl (vb_true hc45)
            refine cd_cond_t hA rfl ?_
            refine wp_skip ?_
            refine xt_norm ?_
            refine wp_seq ?_
            refine wp_block ?_
            refine wp_seq ?_
            refine wp_region_lit ?_
            obtain ⟨x9, hx8⟩ := get_ex (l := l) (k := k) (by omega)
            rcases Bool.eq_false_or_eq_true x9 with h9 | h9
            · subst h9
              refine st_run tbOk 1 hA (e' := (51, .int .i64 ((k : Nat) : Int)) :: _) rfl ?_; clear hA; intro a hA
              obtain ⟨b46, o47, rfl⟩ := (hr _ (hS.tail 3 rfl)).isSome (k := k) (by omega)
              refine st_val hA rfl rfl (by decide) (rn_indexAddr tbOk hA k (o47 + k) rfl rfl rfl rfl rfl rfl (by rfl) (by omega) (by first | rfl | simp [Nat.mul_one, Nat.zero_add] | omega)) ?_; clear hA; intro a hA
              refine st_val hA rfl rfl (by decide) (rn_load tbOk hA rfl rfl rfl rfl ((hr _ (hS.tail 3 rfl)).elem0 (k := k) encBo_ok hx8 rfl)) ?_; clear hA; intro a hA
              refine st_run tbOk 2 hA (e' := (10, .bool true) :: (9, .int .i64 ((k : Nat) : Int)) :: _) rfl ?_; clear hA; intro a hA
              refine wpList_nil ?_
              replace hA := hA.sel [3, 4, 9, 10, 47, 48, 49] (e' := [(3, .pointer (some ⟨bb3, 0, none⟩)), (4, .slice Aw ((ixs true l l.length ++ ixs false l l.length).length) cw), (9, .int .i64 ((k : Nat) : Int)), (10, .bool true), (47, .slice (some ⟨b46, o47, none⟩) l.length c), (48, .int .i64 ((l.length : Nat) : Int)), (49, .int .i64 ((k : Nat) : Int))]) rfl
              refine xt_norm ?_
              refine wp_seq ?_
              refine wp_region_lit ?_
              refine st_run tbOk 3 hA (e' := (56, .bool (decide (((k : Nat) : Int) < 64))) :: (55, .bool (decide (((k : Nat) : Int) < 64))) :: (54, .int .i64 ((k : Nat) : Int)) :: _) rfl ?_; clear hA; intro a hA
              by_cases hc48 : ((k : Nat) : Int) < 64
              · first
                | (exfalso; omega)
                | (replace hA := hA.rw 55 (v' := .bool true) rfl (vb_true hc48)
                   replace hA := hA.rw 56 (v' := .bool true) rfl (vb_true hc48)
                   refine st_run tbOk 3 hA (e' := (59, .int .u32 (IntKind.u32.wrap ((k : Nat) : Int))) :: (58, .int .i64 ((k : Nat) : Int)) :: (57, .pointer (some ⟨bb3, 0, none⟩)) :: _) rfl ?_; clear hA; intro a hA
                   replace hA := hA.rw 59 (v' := .int .u32 ((k : Nat) : Int)) rfl (vint (wrap32 (by omega)))
                   refine st_val hA rfl rfl (by decide) (rn_build tbOk hA rfl rfl rfl rfl rfl rfl rfl) ?_; clear hA; intro a hA
                   refine st_run tbOk 1 hA (e' := (61, .bool true) :: _) rfl ?_; clear hA; intro a hA
                   replace hS := hS.front 1 (C := D1) (L' := L1 :: Cw :: F) rfl rfl
                   replace hS := hS.front 1 (C := L1) (L' := D1 :: Cw :: F) rfl rfl
                   refine st_call0 hA rfl rfl rfl isfn9 rfl rfl (by decide) (put_u_room9 hS hM1 0 0 ((k : Nat) : Int) 0 0 0 0 0 0 0 (bs := ([] : List UInt8)) RdSX.nil (by first | omega | exact Nat.le_of_ble_eq_true rfl) (by first | omega | (simp; omega))) ?_
                   clear hA hS; rintro _ w49 a ⟨L50, E52, A53, c54, hM51, hE55, rfl, hS⟩ hA
                   refine st_run tbOk 2 hA (e' := (64, .bool false) :: (63, .bool false) :: _) rfl ?_; clear hA; intro a hA
                   refine wpList_nil ?_
                   replace hA := hA.sel [3, 4, 47, 48, 49, 64] (e' := [(3, .pointer (some ⟨bb3, 0, none⟩)), (4, .slice Aw ((ixs true l l.length ++ ixs false l l.length).length) cw), (47, .slice (some ⟨b46, o47, none⟩) l.length c), (48, .int .i64 ((l.length : Nat) : Int)), (49, .int .i64 ((k : Nat) : Int)), (64, .bool false)]) rfl
                   refine xt_norm ?_
                   refine cd_cond_f hA rfl ?_
                   refine wp_skip ?_
                   refine xb_norm ?_
                   refine xt_norm ?_
                   refine wp_region_lit ?_
                   refine st_run tbOk 1 hA (e' := (65, .int .i64 (IntKind.i64.wrap (((k : Nat) : Int) + 1))) :: _) rfl ?_; clear hA; intro a hA
                   replace hA := hA.rw 65 (v' := .int .i64 ((k + 1 : Nat) : Int)) rfl (wr64 (by omega) (by omega) (by omega))
                   refine st_run tbOk 1 hA (e' := (49, .int .i64 ((k + 1 : Nat) : Int)) :: _) rfl ?_; clear hA; intro a hA
                   refine wpList_nil ?_
                   replace hA := hA.sel [3, 4, 47, 48, 49] (e' := [(3, .pointer (some ⟨bb3, 0, none⟩)), (4, .slice Aw ((ixs true l l.length ++ ixs false l l.length).length) cw), (47, .slice (some ⟨b46, o47, none⟩) l.length c), (48, .int .i64 ((l.length : Nat) : Int)), (49, .int .i64 ((k + 1 : Nat) : Int))]) rfl
                   replace hS := hS.front 2 (C := Cw) (L' := L50 :: (E52 ++ D1) :: F) rfl rfl
                   replace hS := hS.front 2 (C := (E52 ++ D1)) (L' := Cw :: L50 :: F) rfl rfl
                   replace hS := hS.front 2 (C := L50) (L' := (E52 ++ D1) :: Cw :: F) rfl rfl
                   exact lp_next _ (by omega) ⟨(k + 1), (us ++ [(0, 0, ((k : Nat) : Int), 0, 0, 0, 0, 0, 0, 0, A53, c54, ([] : List UInt8))]), ps, L50, (E52 ++ D1), rfl, (hA.sel [3, 4, 47, 48, 49] rfl), hS, by omega, (by rw [ixs_yes hx8 (by omega)]; exact map_snoc hu), (by rw [ixs_no hx8 (fun h => by cases h.1)]; exact hp), hM51⟩)
              · first
                | (exfalso; omega)
                | (replace hA := hA.rw 55 (v' := .bool false) rfl (vb_false hc48)
                   replace hA := hA.rw 56 (v' := .bool false) rfl (vb_false hc48)
                   refine st_run tbOk 8 hA (e' := (64, .bool false) :: (63, undef) :: (62, undef) :: (61, undef) :: (60, undef) :: (59, undef) :: (58, undef) :: (57, undef) :: _) rfl ?_; clear hA; intro a hA
                   refine wpList_nil ?_
                   replace hA := hA.sel [3, 4, 47, 48, 49, 64] (e' := [(3, .pointer (some ⟨bb3, 0, none⟩)), (4, .slice Aw ((ixs true l l.length ++ ixs false l l.length).length) cw), (47, .slice (some ⟨b46, o47, none⟩) l.length c), (48, .int .i64 ((l.length : Nat) : Int)), (49, .int .i64 ((k : Nat) : Int)), (64, .bool false)]) rfl
                   refine xt_norm ?_
                   refine cd_cond_f hA rfl ?_
                   refine wp_skip ?_
                   refine xb_norm ?_
                   refine xt_norm ?_
                   refine wp_region_lit ?_
                   refine st_run tbOk 1 hA (e' := (65, .int .i64 (IntKind.i64.wrap (((k : Nat) : Int) + 1))) :: _) rfl ?_; clear hA; intro a hA
                   replace hA := hA.rw 65 (v' := .int .i64 ((k + 1 : Nat) : Int)) rfl (wr64 (by omega) (by omega) (by omega))
                   refine st_run tbOk 1 hA (e' := (49, .int .i64 ((k + 1 : Nat) : Int)) :: _) rfl ?_; clear hA; intro a hA
                   refine wpList_nil ?_
                   replace hA := hA.sel [3, 4, 47, 48, 49] (e' := [(3, .pointer (some ⟨bb3, 0, none⟩)), (4, .slice Aw ((ixs true l l.length ++ ixs false l l.length).length) cw), (47, .slice (some ⟨b46, o47, none⟩) l.length c), (48, .int .i64 ((l.length : Nat) : Int)), (49, .int .i64 ((k + 1 : Nat) : Int))]) rfl
                   replace hS := hS.front 2 (C := Cw) (L' := L1 :: D1 :: F) rfl rfl
                   replace hS := hS.front 2 (C := D1) (L' := Cw :: L1 :: F) rfl rfl
                   replace hS := hS.front 2 (C := L1) (L' := D1 :: Cw :: F) rfl rfl
                   exact lp_next _ (by omega) ⟨(k + 1), us, ps, L1, D1, rfl, (hA.sel [3, 4, 47, 48, 49] rfl), hS, by omega, (by rw [ixs_no hx8 (fun h => absurd h.2 (by omega))]; exact hu), (by rw [ixs_no hx8 (fun h => absurd h.2 (by omega))]; exact hp), hM1⟩)
            · subst h9
              refine st_run tbOk 1 hA (e' := (51, .int .i64 ((k : Nat) : Int)) :: _) rfl ?_; clear hA; intro a hA
              obtain ⟨b56, o57, rfl⟩ := (hr _ (hS.tail 3 rfl)).isSome (k := k) (by omega)
              refine st_val hA rfl rfl (by decide) (rn_indexAddr tbOk hA k (o57 + k) rfl rfl rfl rfl rfl rfl (by rfl) (by omega) (by first | rfl | simp [Nat.mul_one, Nat.zero_add] | omega)) ?_; clear hA; intro a hA
              refine st_val hA rfl rfl (by decide) (rn_load tbOk hA rfl rfl rfl rfl ((hr _ (hS.tail 3 rfl)).elem0 (k := k) encBo_ok hx8 rfl)) ?_; clear hA; intro a hA
              refine st_run tbOk 2 hA (e' := (10, .bool false) :: (9, .int .i64 ((k : Nat) : Int)) :: _) rfl ?_; clear hA; intro a hA
              refine wpList_nil ?_
              replace hA := hA.sel [3, 4, 9, 10, 47, 48, 49] (e' := [(3, .pointer (some ⟨bb3, 0, none⟩)), (4, .slice Aw ((ixs true l l.length ++ ixs false l l.length).length) cw), (9, .int .i64 ((k : Nat) : Int)), (10, .bool false), (47, .slice (some ⟨b56, o57, none⟩) l.length c), (48, .int .i64 ((l.length : Nat) : Int)), (49, .int .i64 ((k : Nat) : Int))]) rfl
              refine xt_norm ?_
              refine wp_seq ?_
              refine wp_region_lit ?_
              refine st_run tbOk 3 hA (e' := (56, .bool (decide (((k : Nat) : Int) < 64))) :: (55, .bool (decide (((k : Nat) : Int) < 64))) :: (54, .int .i64 ((k : Nat) : Int)) :: _) rfl ?_; clear hA; intro a hA
              by_cases hc58 : ((k : Nat) : Int) < 64
              · first
                | (exfalso; omega)
                | (replace hA := hA.rw 55 (v' := .bool true) rfl (vb_true hc58)
                   replace hA := hA.rw 56 (v' := .bool true) rfl (vb_true hc58)
                   refine st_run tbOk 3 hA (e' := (59, .int .u32 (IntKind.u32.wrap ((k : Nat) : Int))) :: (58, .int .i64 ((k : Nat) : Int)) :: (57, .pointer (some ⟨bb3, 0, none⟩)) :: _) rfl ?_; clear hA; intro a hA
                   replace hA := hA.rw 59 (v' := .int .u32 ((k : Nat) : Int)) rfl (vint (wrap32 (by omega)))
                   refine st_val hA rfl rfl (by decide) (rn_build tbOk hA rfl rfl rfl rfl rfl rfl rfl) ?_; clear hA; intro a hA
                   refine st_run tbOk 1 hA (e' := (61, .bool false) :: _) rfl ?_; clear hA; intro a hA
                   replace hS := hS.front 1 (C := D1) (L' := L1 :: Cw :: F) rfl rfl
                   replace hS := hS.front 1 (C := L1) (L' := D1 :: Cw :: F) rfl rfl
                   refine st_call0 hA rfl rfl rfl isfn9 rfl rfl (by decide) (put_p_room9 hS hM1 0 0 ((k : Nat) : Int) 0 0 0 0 0 0 0 (bs := ([] : List UInt8)) RdSX.nil (by first | omega | exact Nat.le_of_ble_eq_true rfl) (by first | omega | (simp; omega))) ?_
                   clear hA hS; rintro _ w59 a ⟨L60, E62, A63, c64, hM61, hE65, rfl, hS⟩ hA
                   refine st_run tbOk 2 hA (e' := (64, .bool false) :: (63, .bool false) :: _) rfl ?_; clear hA; intro a hA
                   refine wpList_nil ?_
                   replace hA := hA.sel [3, 4, 47, 48, 49, 64] (e' := [(3, .pointer (some ⟨bb3, 0, none⟩)), (4, .slice Aw ((ixs true l l.length ++ ixs false l l.length).length) cw), (47, .slice (some ⟨b56, o57, none⟩) l.length c), (48, .int .i64 ((l.length : Nat) : Int)), (49, .int .i64 ((k : Nat) : Int)), (64, .bool false)]) rfl
                   refine xt_norm ?_
                   refine cd_cond_f hA rfl ?_
                   refine wp_skip ?_
                   refine xb_norm ?_
                   refine xt_norm ?_
                   refine wp_region_lit ?_
                   refine st_run tbOk 1 hA (e' := (65, .int .i64 (IntKind.i64.wrap (((k : Nat) : Int) + 1))) :: _) rfl ?_; clear hA; intro a hA
                   replace hA := hA.rw 65 (v' := .int .i64 ((k + 1 : Nat) : Int)) rfl (wr64 (by omega) (by omega) (by omega))
                   refine st_run tbOk 1 hA (e' := (49, .int .i64 ((k + 1 : Nat) : Int)) :: _) rfl ?_; clear hA; intro a hA
                   refine wpList_nil ?_
                   replace hA := hA.sel [3, 4, 47, 48, 49] (e' := [(3, .pointer (some ⟨bb3, 0, none⟩)), (4, .slice Aw ((ixs true l l.length ++ ixs false l l.length).length) cw), (47, .slice (some ⟨b56, o57, none⟩) l.length c), (48, .int .i64 ((l.length : Nat) : Int)), (49, .int .i64 ((k + 1 : Nat) : Int))]) rfl
                   replace hS := hS.front 2 (C := Cw) (L' := L60 :: (E62 ++ D1) :: F) rfl rfl
                   replace hS := hS.front 2 (C := (E62 ++ D1)) (L' := Cw :: L60 :: F) rfl rfl
                   replace hS := hS.front 2 (C := L60) (L' := (E62 ++ D1) :: Cw :: F) rfl rfl
                   exact lp_next _ (by omega) ⟨(k + 1), us, (ps ++ [(0, 0, ((k : Nat) : Int), 0, 0, 0, 0, 0, 0, 0, A63, c64, ([] : List UInt8))]), L60, (E62 ++ D1), rfl, (hA.sel [3, 4, 47, 48, 49] rfl), hS, by omega, (by rw [ixs_no hx8 (fun h => by cases h.1)]; exact hu), (by rw [ixs_yes hx8 (by omega)]; exact map_snoc hp), hM61⟩)
              · first
                | (exfalso; omega)
                | (replace hA := hA.rw 55 (v' := .bool false) rfl (vb_false hc58)
                   replace hA := hA.rw 56 (v' := .bool false) rfl (vb_false hc58)
                   refine st_run tbOk 8 hA (e' := (64, .bool false) :: (63, undef) :: (62, undef) :: (61, undef) :: (60, undef) :: (59, undef) :: (58, undef) :: (57, undef) :: _) rfl ?_; clear hA; intro a hA
                   refine wpList_nil ?_
                   replace hA := hA.sel [3, 4, 47, 48, 49, 64] (e' := [(3, .pointer (some ⟨bb3, 0, none⟩)), (4, .slice Aw ((ixs true l l.length ++ ixs false l l.length).length) cw), (47, .slice (some ⟨b56, o57, none⟩) l.length c), (48, .int .i64 ((l.length : Nat) : Int)), (49, .int .i64 ((k : Nat) : Int)), (64, .bool false)]) rfl
                   refine xt_norm ?_
                   refine cd_cond_f hA rfl ?_
                   refine wp_skip ?_
                   refine xb_norm ?_
                   refine xt_norm ?_
                   refine wp_region_lit ?_
                   refine st_run tbOk 1 hA (e' := (65, .int .i64 (IntKind.i64.wrap (((k : Nat) : Int) + 1))) :: _) rfl ?_; clear hA; intro a hA
                   replace hA := hA.rw 65 (v' := .int .i64 ((k + 1 : Nat) : Int)) rfl (wr64 (by omega) (by omega) (by omega))
                   refine st_run tbOk 1 hA (e' := (49, .int .i64 ((k + 1 : Nat) : Int)) :: _) rfl ?_; clear hA; intro a hA
                   refine wpList_nil ?_
                   replace hA := hA.sel [3, 4, 47, 48, 49] (e' := [(3, .pointer (some ⟨bb3, 0, none⟩)), (4, .slice Aw ((ixs true l l.length ++ ixs false l l.length).length) cw), (47, .slice (some ⟨b56, o57, none⟩) l.length c), (48, .int .i64 ((l.length : Nat) : Int)), (49, .int .i64 ((k + 1 : Nat) : Int))]) rfl
                   replace hS := hS.front 2 (C := Cw) (L' := L1 :: D1 :: F) rfl rfl
                   replace hS := hS.front 2 (C := D1) (L' := Cw :: L1 :: F) rfl rfl
                   replace hS := hS.front 2 (C := L1) (L' := D1 :: Cw :: F) rfl rfl
                   exact lp_next _ (by omega) ⟨(k + 1), us, ps, L1, D1, rfl, (hA.sel [3, 4, 47, 48, 49] rfl), hS, by omega, (by rw [ixs_no hx8 (fun h => absurd h.2 (by omega))]; exact hu), (by rw [ixs_no hx8 (fun h => absurd h.2 (by omega))]; exact hp), hM1⟩))
       · first
         | (exfalso; omega)
         | (replace hA := hA.rw 50 (v' := .bool false) rfl (vb_false hc45)
            refine cd_cond_f hA rfl ?_
            refine wp_exit ?_
            refine xt_exit ?_
            refine xt_exit ?_
            refine cd_exit_eq ?_
            refine xt_norm ?_
            refine wp_seq ?_
            refine wp_seq ?_
            refine wp_region_lit ?_
            refine st_run tbOk 3 hA (e' := (68, .int .i64 0) :: (67, .int .i64 (((ixs true l l.length ++ ixs false l l.length).length : Nat) : Int)) :: (66, .slice Aw ((ixs true l l.length ++ ixs false l l.length).length) cw) :: _) rfl ?_; clear hA; intro a hA
            refine wpList_nil ?_
            replace hA := hA.sel [3, 66, 67, 68] (e' := [(3, .pointer (some ⟨bb3, 0, none⟩)), (66, .slice Aw ((ixs true l l.length ++ ixs false l l.length).length) cw), (67, .int .i64 (((ixs true l l.length ++ ixs false l l.length).length : Nat) : Int)), (68, .int .i64 0)]) rfl
            refine xt_norm ?_
            refine wp_block ?_
            replace hS := hS.front 2 (C := Cw) (L' := L1 :: D1 :: F) rfl rfl
            replace hS := hS.front 2 (C := D1) (L' := Cw :: L1 :: F) rfl rfl
            replace hS := hS.front 2 (C := L1) (L' := D1 :: Cw :: F) rfl rfl
            have hkl : k = l.length := by omega
            have hrest : us.map mid ++ ps.map mid = (ixs true l l.length ++ ixs false l l.length).drop 0 := by rw [List.drop_zero, hu, hp, hkl]
            refine wp_loop_ghost (fun m a w => ∃ (i : Nat) (vs : List Msg) (qs : List Msg) (L2 : Chunk), m = (ixs true l l.length ++ ixs false l l.length).length - i ∧ Has a 93 [(3, .pointer (some ⟨bb3, 0, none⟩)), (66, .slice Aw ((ixs true l l.length ++ ixs false l l.length).length) cw), (67, .int .i64 (((ixs true l l.length ++ ixs false l l.length).length : Nat) : Int)), (68, .int .i64 ((i : Nat) : Int))] ∧ St w0 w (L2 :: D1 :: Cw :: F) ∧ (i ≤ (ixs true l l.length ++ ixs false l l.length).length) ∧ (vs.map mid ++ qs.map mid = (ixs true l l.length ++ ixs false l l.length).drop i) ∧ (BX bb3 64 vs qs L2)) ((ixs true l l.length ++ ixs false l l.length).length - 0)
              ⟨0, us, ps, L1, rfl, (hA.sel [3, 66, 67, 68] rfl), hS, Nat.zero_le _, hrest, hM1⟩ ?_
            clear hA hS; rintro m0 a w66 ⟨i, vs, qs, L2, rfl, hA, hS, hi, hvq, hM2⟩
            have h9 := ixs_64 true l l.length; have h8 := ixs_64 false l l.length
            have hwl : (ixs true l l.length ++ ixs false l l.length).length = (ixs true l l.length).length + (ixs false l l.length).length := List.length_append
            refine wp_seq ?_
            refine wp_region_lit ?_
            refine st_run tbOk 1 hA (e' := (69, .bool (decide (((i : Nat) : Int) < (((ixs true l l.length ++ ixs false l l.length).length : Nat) : Int)))) :: _) rfl ?_; clear hA; intro a hA
            refine wpList_nil ?_
            refine xt_norm ?_
            refine wp_seq ?_
            by_cases hc67 : ((i : Nat) : Int) < (((ixs true l l.length ++ ixs false l l.length).length : Nat) : Int)
            · first
              | (exfalso; omega)
              | (replace hA := hA.rw 69 (v' := .bool true) rfl (vb_true hc67)
                 refine cd_cond_t hA rfl ?_
                 refine wp_skip ?_
                 refine xt_norm ?_
                 refine wp_seq ?_
                 refine wp_block ?_
                 refine wp_seq ?_
                 refine wp_region_lit ?_
                 obtain ⟨b68, o69, rfl⟩ := hW.isSome (k := i) (by omega)
                 refine st_val hA rfl rfl (by decide) (rn_indexAddr tbOk hA i (o69 + i) rfl rfl rfl rfl rfl rfl (by rfl) (by omega) (by first | rfl | simp [Nat.mul_one, Nat.zero_add] | omega)) ?_; clear hA; intro a hA
                 obtain ⟨x70, hx70⟩ := get_ex (l := (ixs true l l.length ++ ixs false l l.length)) (k := i) (by omega)
                 refine st_val hA rfl rfl (by decide) (rn_load tbOk hA rfl rfl rfl rfl ((hW.rd (hS.own_ 2 rfl)).elem0 (k := i) encU_ok hx70 rfl)) ?_; clear hA; intro a hA
                 refine st_run tbOk 1 hA (e' := (12, .int .u32 x70) :: _) rfl ?_; clear hA; intro a hA
                 refine wpList_nil ?_
                 replace hA := hA.sel [3, 12, 66, 67, 68] (e' := [(3, .pointer (some ⟨bb3, 0, none⟩)), (12, .int .u32 x70), (66, .slice (some ⟨b68, o69, none⟩) ((ixs true l l.length ++ ixs false l l.length).length) cw), (67, .int .i64 (((ixs true l l.length ++ ixs false l l.length).length : Nat) : Int)), (68, .int .i64 ((i : Nat) : Int))]) rfl
                 refine xt_norm ?_
                 refine wp_seq ?_
                 refine wp_region_lit ?_
                 rw [dr_cons hx70] at hvq
                 have hcs : (∃ y9 vs9, vs = y9 :: vs9) ∨ vs = [] ∧ (∃ y9 qs9, qs = y9 :: qs9) := by
                     cases vs with
                     | cons y9 vs9 => exact .inl ⟨y9, vs9, rfl⟩
                     | nil =>
                       cases qs with
                       | cons y9 qs9 => exact .inr ⟨rfl, y9, qs9, rfl⟩
                       | nil => exact (next_no hvq).elim
                 rcases hcs with ⟨⟨y0, y1, y2, y3, y4, y5, y6, y7, y8, y9, yA, yc, yb⟩, vs9, hvs⟩ | ⟨hvs, ⟨y0, y1, y2, y3, y4, y5, y6, y7, y8, y9, yA, yc, yb⟩, qs9, hqs⟩
                 · subst hvs
                   have hnx := next_u hvq
                   have hid := hnx.1; dsimp only [mid] at hid
                   refine st_run tbOk 1 hA (e' := (73, .pointer (some ⟨bb3, 0, none⟩)) :: _) rfl ?_; clear hA; intro a hA
                   replace hS := hS.front 1 (C := D1) (L' := L2 :: Cw :: F) rfl rfl
                   replace hS := hS.front 1 (C := L2) (L' := D1 :: Cw :: F) rfl rfl
                   refine st_call0 hA rfl rfl rfl isfn10 rfl rfl (by decide) (get_u10 hS hM2) ?_
                   clear hA hS; rintro _ w71 a ⟨L72, hM73, rfl, hS⟩ hA
                   refine st_run tbOk 3 hA (e' := (76, .bool true) :: (75, .agg #[.int .u64 y0, .int .u64 y1, .int .u32 y2, .int .u16 y3, .int .u16 y4, .int .u64 y5, .int .u32 y6, .int .u8 y7, .int .u64 y8, .int .u64 y9, .slice yA yb.length yc]) :: (72, .tuple #[.agg #[.int .u64 y0, .int .u64 y1, .int .u32 y2, .int .u16 y3, .int .u16 y4, .int .u64 y5, .int .u32 y6, .int .u8 y7, .int .u64 y8, .int .u64 y9, .slice yA yb.length yc], .bool true]) :: _) rfl ?_; clear hA; intro a hA
                   refine st_alloc tbOk hA hS [.int .u64 0, .int .u64 0, .int .u32 0, .int .u16 0, .int .u16 0, .int .u64 0, .int .u32 0, .int .u8 0, .int .u64 0, .int .u64 0, .slice none 0 0] rfl rfl rfl rfl rfl (by decide) ?_; clear hA hS; intro b74 w75 a hS hA
                   refine st_store tbOk hA hS [.int .u64 y0, .int .u64 y1, .int .u32 y2, .int .u16 y3, .int .u16 y4, .int .u64 y5, .int .u32 y6, .int .u8 y7, .int .u64 y8, .int .u64 y9, .slice yA yb.length yc] [.int .u64 y0, .int .u64 y1, .int .u32 y2, .int .u16 y3, .int .u16 y4, .int .u64 y5, .int .u32 y6, .int .u8 y7, .int .u64 y8, .int .u64 y9, .slice yA yb.length yc] rfl rfl rfl rfl rfl rfl (by simp [Value.oneCell']) (Nat.le_of_ble_eq_true rfl) rfl rfl rfl ?_; clear hS; intro w76 hS
                   refine st_run tbOk 1 hA (e' := (14, .bool true) :: _) rfl ?_; clear hA; intro a hA
                   refine wpList_nil ?_
                   replace hA := hA.sel [3, 12, 13, 14, 66, 67, 68] (e' := [(3, .pointer (some ⟨bb3, 0, none⟩)), (12, .int .u32 x70), (13, .pointer (some ⟨b74, 0, none⟩)), (14, .bool true), (66, .slice (some ⟨b68, o69, none⟩) ((ixs true l l.length ++ ixs false l l.length).length) cw), (67, .int .i64 (((ixs true l l.length ++ ixs false l l.length).length : Nat) : Int)), (68, .int .i64 ((i : Nat) : Int))]) rfl
                   refine xt_norm ?_
                   refine wp_seq ?_
                   refine wp_region_lit ?_
                   refine st_run tbOk 4 hA (e' := (80, .pointer (some ⟨b74, 2, none⟩)) :: (79, .bool false) :: (78, .bool false) :: (77, .bool true) :: _) rfl ?_; clear hA; intro a hA
                   refine st_val hA rfl rfl (by decide) (rn_load tbOk hA rfl rfl rfl rfl (cell_row (hS.heapAt 0 rfl) rfl)) ?_; clear hA; intro a hA
                   refine st_run tbOk 3 hA (e' := (84, .bool (y2 != x70)) :: (83, .bool (y2 != x70)) :: (82, .int .u32 x70) :: _) rfl ?_; clear hA; intro a hA
                   refine wpList_nil ?_
                   replace hA := hA.sel [3, 66, 67, 68, 84] (e' := [(3, .pointer (some ⟨bb3, 0, none⟩)), (66, .slice (some ⟨b68, o69, none⟩) ((ixs true l l.length ++ ixs false l l.length).length) cw), (67, .int .i64 (((ixs true l l.length ++ ixs false l l.length).length : Nat) : Int)), (68, .int .i64 ((i : Nat) : Int)), (84, .bool (y2 != x70))]) rfl
                   refine xt_norm ?_
                   by_cases hc77 : y2 = x70
                   · first
                     | (exfalso; omega)
                     | (replace hA := hA.rw 84 (v' := .bool false) rfl (vb_ne_f hc77)
                        refine cd_cond_f hA rfl ?_
                        refine wp_skip ?_
                        refine xb_norm ?_
                        refine xt_norm ?_
                        refine wp_region_lit ?_
                        refine st_run tbOk 1 hA (e' := (85, .int .i64 (IntKind.i64.wrap (((i : Nat) : Int) + 1))) :: _) rfl ?_; clear hA; intro a hA
                        replace hA := hA.rw 85 (v' := .int .i64 ((i + 1 : Nat) : Int)) rfl (wr64 (by omega) (by omega) (by omega))
                        refine st_run tbOk 1 hA (e' := (68, .int .i64 ((i + 1 : Nat) : Int)) :: _) rfl ?_; clear hA; intro a hA
                        refine wpList_nil ?_
                        replace hA := hA.sel [3, 66, 67, 68] (e' := [(3, .pointer (some ⟨bb3, 0, none⟩)), (66, .slice (some ⟨b68, o69, none⟩) ((ixs true l l.length ++ ixs false l l.length).length) cw), (67, .int .i64 (((ixs true l l.length ++ ixs false l l.length).length : Nat) : Int)), (68, .int .i64 ((i + 1 : Nat) : Int))]) rfl
                        replace hS := hS.drop1
                        replace hS := hS.front 2 (C := Cw) (L' := L72 :: D1 :: F) rfl rfl
                        replace hS := hS.front 2 (C := D1) (L' := Cw :: L72 :: F) rfl rfl
                        replace hS := hS.front 2 (C := L72) (L' := D1 :: Cw :: F) rfl rfl
                        exact lp_next _ (by omega) ⟨(i + 1), vs9, qs, L72, rfl, (hA.sel [3, 66, 67, 68] rfl), hS, by omega, hnx.2, hM73⟩)
                   · first
                     | (exfalso; omega)
                     | (replace hA := hA.rw 84 (v' := .bool true) rfl (vb_ne_t hc77)
                        refine cd_cond_t hA rfl ?_
                        refine wp_seq ?_
                        refine wp_region_lit ?_
                        refine st_run tbOk 1 hA (e' := (2, .bool false) :: _) rfl ?_; clear hA; intro a hA
                        refine wpList_nil ?_
                        replace hA := hA.sel [2] (e' := [(2, .bool false)]) rfl
                        refine xt_norm ?_
                        refine wp_ret (xb_ret (xt_ret (xt_ret (xb_ret (xt_ret ?_)))))
                        refine ret1 (fn := Tryd.f3) hA rfl rfl ?_
                        exfalso; omega)
                 · subst hvs; subst hqs
                   have hnx := next_p hvq
                   have hid := hnx.1; dsimp only [mid] at hid
                   refine st_run tbOk 1 hA (e' := (73, .pointer (some ⟨bb3, 0, none⟩)) :: _) rfl ?_; clear hA; intro a hA
                   replace hS := hS.front 1 (C := D1) (L' := L2 :: Cw :: F) rfl rfl
                   replace hS := hS.front 1 (C := L2) (L' := D1 :: Cw :: F) rfl rfl
                   refine st_call0 hA rfl rfl rfl isfn10 rfl rfl (by decide) (get_p10 hS hM2) ?_
                   clear hA hS; rintro _ w78 a ⟨L79, hM80, rfl, hS⟩ hA
                   refine st_run tbOk 3 hA (e' := (76, .bool true) :: (75, .agg #[.int .u64 y0, .int .u64 y1, .int .u32 y2, .int .u16 y3, .int .u16 y4, .int .u64 y5, .int .u32 y6, .int .u8 y7, .int .u64 y8, .int .u64 y9, .slice yA yb.length yc]) :: (72, .tuple #[.agg #[.int .u64 y0, .int .u64 y1, .int .u32 y2, .int .u16 y3, .int .u16 y4, .int .u64 y5, .int .u32 y6, .int .u8 y7, .int .u64 y8, .int .u64 y9, .slice yA yb.length yc], .bool true]) :: _) rfl ?_; clear hA; intro a hA
                   refine st_alloc tbOk hA hS [.int .u64 0, .int .u64 0, .int .u32 0, .int .u16 0, .int .u16 0, .int .u64 0, .int .u32 0, .int .u8 0, .int .u64 0, .int .u64 0, .slice none 0 0] rfl rfl rfl rfl rfl (by decide) ?_; clear hA hS; intro b81 w82 a hS hA
                   refine st_store tbOk hA hS [.int .u64 y0, .int .u64 y1, .int .u32 y2, .int .u16 y3, .int .u16 y4, .int .u64 y5, .int .u32 y6, .int .u8 y7, .int .u64 y8, .int .u64 y9, .slice yA yb.length yc] [.int .u64 y0, .int .u64 y1, .int .u32 y2, .int .u16 y3, .int .u16 y4, .int .u64 y5, .int .u32 y6, .int .u8 y7, .int .u64 y8, .int .u64 y9, .slice yA yb.length yc] rfl rfl rfl rfl rfl rfl (by simp [Value.oneCell']) (Nat.le_of_ble_eq_true rfl) rfl rfl rfl ?_; clear hS; intro w83 hS
                   refine st_run tbOk 1 hA (e' := (14, .bool true) :: _) rfl ?_; clear hA; intro a hA
                   refine wpList_nil ?_
                   replace hA := hA.sel [3, 12, 13, 14, 66, 67, 68] (e' := [(3, .pointer (some ⟨bb3, 0, none⟩)), (12, .int .u32 x70), (13, .pointer (some ⟨b81, 0, none⟩)), (14, .bool true), (66, .slice (some ⟨b68, o69, none⟩) ((ixs true l l.length ++ ixs false l l.length).length) cw), (67, .int .i64 (((ixs true l l.length ++ ixs false l l.length).length : Nat) : Int)), (68, .int .i64 ((i : Nat) : Int))]) rfl
                   refine xt_norm ?_
                   refine wp_seq ?_
                   refine wp_region_lit ?_
                   refine st_run tbOk 4 hA (e' := (80, .pointer (some ⟨b81, 2, none⟩)) :: (79, .bool false) :: (78, .bool false) :: (77, .bool true) :: _) rfl ?_; clear hA; intro a hA
                   refine st_val hA rfl rfl (by decide) (rn_load tbOk hA rfl rfl rfl rfl (cell_row (hS.heapAt 0 rfl) rfl)) ?_; clear hA; intro a hA
                   refine st_run tbOk 3 hA (e' := (84, .bool (y2 != x70)) :: (83, .bool (y2 != x70)) :: (82, .int .u32 x70) :: _) rfl ?_; clear hA; intro a hA
                   refine wpList_nil ?_
                   replace hA := hA.sel [3, 66, 67, 68, 84] (e' := [(3, .pointer (some ⟨bb3, 0, none⟩)), (66, .slice (some ⟨b68, o69, none⟩) ((ixs true l l.length ++ ixs false l l.length).length) cw), (67, .int .i64 (((ixs true l l.length ++ ixs false l l.length).length : Nat) : Int)), (68, .int .i64 ((i : Nat) : Int)), (84, .bool (y2 != x70))]) rfl
                   refine xt_norm ?_
                   by_cases hc84 : y2 = x70
                   · first
                     | (exfalso; omega)
                     | (replace hA := hA.rw 84 (v' := .bool false) rfl (vb_ne_f hc84)
                        refine cd_cond_f hA rfl ?_
                        refine wp_skip ?_
                        refine xb_norm ?_
                        refine xt_norm ?_
                        refine wp_region_lit ?_
                        refine st_run tbOk 1 hA (e' := (85, .int .i64 (IntKind.i64.wrap (((i : Nat) : Int) + 1))) :: _) rfl ?_; clear hA; intro a hA
                        replace hA := hA.rw 85 (v' := .int .i64 ((i + 1 : Nat) : Int)) rfl (wr64 (by omega) (by omega) (by omega))
                        refine st_run tbOk 1 hA (e' := (68, .int .i64 ((i + 1 : Nat) : Int)) :: _) rfl ?_; clear hA; intro a hA
                        refine wpList_nil ?_
                        replace hA := hA.sel [3, 66, 67, 68] (e' := [(3, .pointer (some ⟨bb3, 0, none⟩)), (66, .slice (some ⟨b68, o69, none⟩) ((ixs true l l.length ++ ixs false l l.length).length) cw), (67, .int .i64 (((ixs true l l.length ++ ixs false l l.length).length : Nat) : Int)), (68, .int .i64 ((i + 1 : Nat) : Int))]) rfl
                        replace hS := hS.drop1
                        replace hS := hS.front 2 (C := Cw) (L' := L79 :: D1 :: F) rfl rfl
                        replace hS := hS.front 2 (C := D1) (L' := Cw :: L79 :: F) rfl rfl
                        replace hS := hS.front 2 (C := L79) (L' := D1 :: Cw :: F) rfl rfl
                        exact lp_next _ (by omega) ⟨(i + 1), ([] : List Msg), qs9, L79, rfl, (hA.sel [3, 66, 67, 68] rfl), hS, by omega, hnx.2, hM80⟩)
                   · first
                     | (exfalso; omega)
                     | (replace hA := hA.rw 84 (v' := .bool true) rfl (vb_ne_t hc84)
                        refine cd_cond_t hA rfl ?_
                        refine wp_seq ?_
                        refine wp_region_lit ?_
                        refine st_run tbOk 1 hA (e' := (2, .bool false) :: _) rfl ?_; clear hA; intro a hA
                        refine wpList_nil ?_
                        replace hA := hA.sel [2] (e' := [(2, .bool false)]) rfl
                        refine xt_norm ?_
                        refine wp_ret (xb_ret (xt_ret (xt_ret (xb_ret (xt_ret ?_)))))
                        refine ret1 (fn := Tryd.f3) hA rfl rfl ?_
                        exfalso; omega))
            · first
              | (exfalso; omega)
              | (replace hA := hA.rw 69 (v' := .bool false) rfl (vb_false hc67)
                 refine cd_cond_f hA rfl ?_
                 refine wp_exit ?_
                 refine xt_exit ?_
                 refine xt_exit ?_
                 refine cd_exit_eq ?_
                 refine xt_norm ?_
                 refine wp_seq ?_
                 refine wp_region_lit ?_
                 have hil : i = (ixs true l l.length ++ ixs false l l.length).length := by omega
                 rw [hil, List.drop_eq_nil_of_le (Nat.le_refl _)] at hvq
                 obtain ⟨rfl, rfl⟩ := last_no hvq
                 refine st_run tbOk 1 hA (e' := (87, .pointer (some ⟨bb3, 0, none⟩)) :: _) rfl ?_; clear hA; intro a hA
                 replace hS := hS.front 1 (C := D1) (L' := L2 :: Cw :: F) rfl rfl
                 replace hS := hS.front 1 (C := L2) (L' := D1 :: Cw :: F) rfl rfl
                 refine st_call0 hA rfl rfl rfl isfn10 rfl rfl (by decide) (get_none10 hS hM2) ?_
                 clear hA hS; rintro _ w85 a ⟨L86, hM87, rfl, hS⟩ hA
                 refine st_run tbOk 3 hA (e' := (90, .bool false) :: (89, .agg #[.int .u64 0, .int .u64 0, .int .u32 0, .int .u16 0, .int .u16 0, .int .u64 0, .int .u32 0, .int .u8 0, .int .u64 0, .int .u64 0, .slice none 0 0]) :: (86, .tuple #[.agg #[.int .u64 0, .int .u64 0, .int .u32 0, .int .u16 0, .int .u16 0, .int .u64 0, .int .u32 0, .int .u8 0, .int .u64 0, .int .u64 0, .slice none 0 0], .bool false]) :: _) rfl ?_; clear hA; intro a hA
                 refine st_alloc tbOk hA hS [.int .u64 0, .int .u64 0, .int .u32 0, .int .u16 0, .int .u16 0, .int .u64 0, .int .u32 0, .int .u8 0, .int .u64 0, .int .u64 0, .slice none 0 0] rfl rfl rfl rfl rfl (by decide) ?_; clear hA hS; intro b88 w89 a hS hA
                 refine st_store tbOk hA hS [.int .u64 0, .int .u64 0, .int .u32 0, .int .u16 0, .int .u16 0, .int .u64 0, .int .u32 0, .int .u8 0, .int .u64 0, .int .u64 0, .slice none 0 0] [.int .u64 0, .int .u64 0, .int .u32 0, .int .u16 0, .int .u16 0, .int .u64 0, .int .u32 0, .int .u8 0, .int .u64 0, .int .u64 0, .slice none 0 0] rfl rfl rfl rfl rfl rfl (by simp [Value.oneCell']) (Nat.le_of_ble_eq_true rfl) rfl rfl rfl ?_; clear hS; intro w90 hS
                 refine st_run tbOk 1 hA (e' := (16, .bool false) :: _) rfl ?_; clear hA; intro a hA
                 refine wpList_nil ?_
                 replace hA := hA.sel [16] (e' := [(16, .bool false)]) rfl
                 refine xt_norm ?_
                 refine wp_seq ?_
                 refine wp_region_lit ?_
                 refine st_run tbOk 3 hA (e' := (2, .bool true) :: (92, .bool true) :: (91, .bool false) :: _) rfl ?_; clear hA; intro a hA
                 refine wpList_nil ?_
                 replace hA := hA.sel [2] (e' := [(2, .bool true)]) rfl
                 refine xt_norm ?_
                 refine wp_ret ?_
                 refine ret1 (fn := Tryd.f3) hA rfl rfl ?_
                 replace hS := hS.drop1
                 replace hS := hS.drop1
                 replace hS := hS.drop1
                 replace hS := hS.drop1
                 exact ⟨rfl, hS⟩)))
end Go.Proofs.YtjmnajcjbimbiaaDoor
