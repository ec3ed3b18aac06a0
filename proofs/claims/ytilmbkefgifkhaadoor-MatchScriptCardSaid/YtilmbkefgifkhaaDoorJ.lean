import Derived.Test.YtilmbkefgifkhaaDoorH
set_option linter.unusedVariables false
set_option linter.unusedSimpArgs false
set_option maxRecDepth 4000
namespace Go.Proofs.YtilmbkefgifkhaaDoor
open Go Go.SK
set_option maxHeartbeats 4000000 in
theorem script3 {w0 w : World} {F : List Chunk} (hS : St w0 w F) (hg : HG w0) {v : Value} {l : List (Int × Int × Int × Int × Int × Int × Int × Int × Int × Int × Int × Int × Int × Option Addr × Nat × List UInt8)} (hr : RdS w0 F 14 v l.length (rows encAct l)) (hw : ∀ x ∈ l, encAct_good w0 x) (hb : l.length * 88 ≤ 140737488351232) :
    Ret Tryd.prog 3 #[v] w (fun v w' => v = .bool true ∧ St w0 w' F) := by
  obtain ⟨A, c, rfl, hmc, hcx⟩ := (hr w hS).open'
  refine enter (vs := [.slice A l.length c]) 269 Tryd.func3 rfl rfl (by simp) ?_; intro a hA
  refine wp_seq ?_
  refine wp_region_lit ?_
  refine st_run tbOk 1 hA (e' := (2, .bool false) :: _) rfl ?_; clear hA; intro a hA
  refine wpList_nil ?_
  replace hA := hA.sel [0] (e' := [(0, .slice A l.length c)]) rfl
  refine xt_norm ?_
  refine wp_seq ?_
  refine wp_seq ?_
  refine wp_region_lit ?_
  refine st_call0 hA rfl rfl rfl isfn4 rfl rfl (by decide) (awake4 hS) ?_
  clear hA hS; rintro v w1 a ⟨rfl, hS⟩ hA
  refine st_run tbOk 1 hA (e' := (30, .bool false) :: _) rfl ?_; clear hA; intro a hA
  refine wpList_nil ?_
  replace hA := hA.sel [0, 30] (e' := [(0, .slice A l.length c), (30, .bool false)]) rfl
  refine xt_norm ?_
  refine cd_cond_f hA rfl ?_
  refine wp_skip ?_
  refine xt_norm ?_
  refine wp_seq ?_
  refine wp_region_lit ?_
  refine st_run tbOk 1 hA (e' := (31, .agg #[.slice none 0 0, .slice none 0 0]) :: _) rfl ?_; clear hA; intro a hA
  refine st_box hA hS [.slice none 0 0, .slice none 0 0] rfl rfl rfl rfl rfl (by decide) ?_; clear hA hS; intro b2 w3 a hS hA
  obtain ⟨L4, hM5, hS⟩ : ∃ Z, MR b2 [] [] Z ∧ St w0 w3 (Z :: F) := ⟨_, MR.new _, hS⟩
  replace hS := hS.nil
  refine st_run tbOk 1 hA (e' := (3, .pointer (some ⟨b2, 0, none⟩)) :: _) rfl ?_; clear hA; intro a hA
  refine wpList_nil ?_
  replace hA := hA.sel [0, 3] (e' := [(0, .slice A l.length c), (3, .pointer (some ⟨b2, 0, none⟩))]) rfl
  refine xt_norm ?_
  refine wp_seq ?_
  refine wp_region_lit ?_
  refine st_run tbOk 1 hA (e' := (4, .slice none 0 0) :: _) rfl ?_; clear hA; intro a hA
  refine wpList_nil ?_
  refine xt_norm ?_
  refine wp_seq ?_
  refine wp_region_lit ?_
  refine st_run tbOk 1 hA (e' := (5, .slice none 0 0) :: _) rfl ?_; clear hA; intro a hA
  refine wpList_nil ?_
  refine xt_norm ?_
  refine wp_seq ?_
  refine wp_seq ?_
  refine wp_region_lit ?_
  refine st_run tbOk 3 hA (e' := (35, .int .i64 0) :: (34, .int .i64 ((l.length : Nat) : Int)) :: (33, .slice A l.length c) :: _) rfl ?_; clear hA; intro a hA
  refine wpList_nil ?_
  replace hA := hA.sel [3, 4, 5, 33, 34, 35] (e' := [(3, .pointer (some ⟨b2, 0, none⟩)), (4, .slice none 0 0), (5, .slice none 0 0), (33, .slice A l.length c), (34, .int .i64 ((l.length : Nat) : Int)), (35, .int .i64 0)]) rfl
  refine xt_norm ?_
  refine wp_block ?_
  replace hS := hS.front 1 (C := L4) (L' := [] :: F) rfl rfl
  replace hS := hS.nil
  replace hS := hS.nil
  replace hS := hS.front 2 (C := L4) (L' := [] :: [] :: [] :: F) rfl rfl
  refine wp_loop_ghost (fun m a w => ∃ (k : Nat) (ws : List (Int × Int)) (ms : List Msg) (rs : List Msg) (L : Chunk) (D : Chunk) (Aw : Option Addr) (cw : Nat) (Cw : Chunk) (Ar : Option Addr) (cr : Nat) (Cr : Chunk), m = l.length - k ∧ Has a 269 [(3, .pointer (some ⟨b2, 0, none⟩)), (4, .slice Aw ((ws).length) cw), (5, .slice Ar ((rs).length) cr), (33, .slice A l.length c), (34, .int .i64 ((l.length : Nat) : Int)), (35, .int .i64 ((k : Nat) : Int))] ∧ St w0 w (L :: D :: Cw :: Cr :: F) ∧ (k ≤ l.length) ∧ (MI ws ms rs) ∧ (MR b2 ws ms L) ∧ (Own 41 2 (.slice Aw (ws).length cw) (ws).length (rows encWait (ws)) Cw) ∧ (Own 37 11 (.slice Ar (rs).length cr) (rs).length (rows encMessage (rs)) Cr) ∧ (∀ x ∈ ms, encMessage_dd w0 D x) ∧ (∀ x ∈ rs, ∀ D, encMessage_dd w0 D x)) (l.length - 0)
    ⟨0, ([]), ([]), ([]), L4, ([]), none, 0, ([]), none, 0, ([]), rfl, (hA.sel [3, 4, 5, 33, 34, 35] rfl), hS, Nat.zero_le _, MI.nil, hM5, (Own.nil 41 2), (Own.nil 37 11), fun x hx => by simp at hx, fun x hx => by simp at hx⟩ ?_
  clear hA hS; rintro m0 a w6 ⟨k, ws, ms, rs, L, D, Aw, cw, Cw, Ar, cr, Cr, rfl, hA, hS, hk, hI, hM, hW, hR, hdm, hdr⟩
  have hml := hI.len; have hwl := hI.wl; have hrl := hI.ln; have hcw := hW.rcap; have hcr := hR.rcap
  refine wp_seq ?_
  refine wp_region_lit ?_
  refine st_run tbOk 1 hA (e' := (36, .bool (decide (((k : Nat) : Int) < ((l.length : Nat) : Int)))) :: _) rfl ?_; clear hA; intro a hA
  refine wpList_nil ?_
  refine xt_norm ?_
  refine wp_seq ?_
  by_cases hc7 : ((k : Nat) : Int) < ((l.length : Nat) : Int)
  · first
    | (exfalso; omega)
    | (replace hA := hA.rw 36 (v' := .bool true) rfl (vb_true hc7)
       refine cd_cond_t hA rfl ?_
       refine wp_skip ?_
       refine xt_norm ?_
       refine wp_seq ?_
       refine wp_block ?_
       refine wp_seq ?_
       refine wp_region_lit ?_
       obtain ⟨b8, o9, rfl⟩ := (hr _ (hS.tail 4 rfl)).isSome (k := k) (by omega)
       refine st_val hA rfl rfl (by decide) (rn_indexAddr tbOk hA k (o9 + (k * 14)) rfl rfl rfl rfl rfl rfl (by rfl) (by omega) (by first | rfl | simp [Nat.mul_one, Nat.zero_add] | omega)) ?_; clear hA; intro a hA
       obtain ⟨x10, hx10⟩ := get_ex (l := l) (k := k) (by omega)
       obtain ⟨x10f0, x10f1, x10f2, x10f3, x10f4, x10f5, x10f6, x10f7, x10f8, x10f9, x10f10, x10f11, x10f12, x10A13, x10c13, x10b13⟩ := x10
       have hd11 := (fun x hx => encAct_gdd (D := D) (hw x hx)) _ (List.mem_of_getElem? hx10)
       obtain ⟨⟨ho1, ho2⟩, ⟨hp1, hp2⟩, ⟨ht1, ht2⟩, hgr⟩ := hw _ (List.mem_of_getElem? hx10)
       dsimp only at ho1 ho2 hp1 hp2 ht1 ht2 hgr
       have hbl := hgr.2.2.2.2.2.2.2.2.2.2.2
       have hpt1 : x10f1.tmod 4 = x10f1 % 4 := Int.tmod_eq_emod_of_nonneg (by omega)
       obtain ⟨pt, hpt⟩ : ∃ z, z = x10f1.tmod 4 := ⟨_, rfl⟩
       have hth1 : x10f2.tmod 8 = x10f2 % 8 := Int.tmod_eq_emod_of_nonneg (by omega)
       obtain ⟨th, hth⟩ : ∃ z, z = x10f2.tmod 8 := ⟨_, rfl⟩
       have hop1 : x10f0.tmod 4 = x10f0 % 4 := Int.tmod_eq_emod_of_nonneg (by omega)
       obtain ⟨op, hop⟩ : ∃ z, z = x10f0.tmod 4 := ⟨_, rfl⟩
       refine st_val hA rfl rfl (by decide) (rn_loadA tbOk hA ([.int .u8 x10f0, .int .u8 x10f1, .int .u8 x10f2, .int .u64 x10f3, .int .u64 x10f4, .int .u32 x10f5, .int .u16 x10f6, .int .u16 x10f7, .int .u64 x10f8, .int .u32 x10f9, .int .u8 x10f10, .int .u64 x10f11, .int .u64 x10f12, .slice x10A13 x10b13.length x10c13]) rfl rfl rfl rfl (by rfl) ((hr _ (hS.tail 4 rfl)).elem (k := k) encAct_ok hx10)) ?_; clear hA; intro a hA
       refine st_alloc tbOk hA hS [.int .u8 0, .int .u8 0, .int .u8 0, .int .u64 0, .int .u64 0, .int .u32 0, .int .u16 0, .int .u16 0, .int .u64 0, .int .u32 0, .int .u8 0, .int .u64 0, .int .u64 0, .slice none 0 0] rfl rfl rfl rfl rfl (by decide) ?_; clear hA hS; intro b12 w13 a hS hA
       refine st_store tbOk hA hS [.int .u8 x10f0, .int .u8 x10f1, .int .u8 x10f2, .int .u64 x10f3, .int .u64 x10f4, .int .u32 x10f5, .int .u16 x10f6, .int .u16 x10f7, .int .u64 x10f8, .int .u32 x10f9, .int .u8 x10f10, .int .u64 x10f11, .int .u64 x10f12, .slice x10A13 x10b13.length x10c13] [.int .u8 x10f0, .int .u8 x10f1, .int .u8 x10f2, .int .u64 x10f3, .int .u64 x10f4, .int .u32 x10f5, .int .u16 x10f6, .int .u16 x10f7, .int .u64 x10f8, .int .u32 x10f9, .int .u8 x10f10, .int .u64 x10f11, .int .u64 x10f12, .slice x10A13 x10b13.length x10c13] rfl rfl rfl rfl rfl rfl (by simp [Value.oneCell']) (Nat.le_of_ble_eq_true rfl) rfl rfl rfl ?_; clear hS; intro w14 hS
       refine wpList_nil ?_
       replace hA := hA.sel [3, 4, 5, 7, 33, 34, 35] (e' := [(3, .pointer (some ⟨b2, 0, none⟩)), (4, .slice Aw ((ws).length) cw), (5, .slice Ar ((rs).length) cr), (7, .pointer (some ⟨b12, 0, none⟩)), (33, .slice (some ⟨b8, o9, none⟩) l.length c), (34, .int .i64 ((l.length : Nat) : Int)), (35, .int .i64 ((k : Nat) : Int))]) rfl
       refine xt_norm ?_
       refine wp_seq ?_
       refine wp_draw (fun w' => St w0 w' ([(b12, rowO [.int .u8 x10f0, .int .u8 x10f1, .int .u8 x10f2, .int .u64 x10f3, .int .u64 x10f4, .int .u32 x10f5, .int .u16 x10f6, .int .u16 x10f7, .int .u64 x10f8, .int .u32 x10f9, .int .u8 x10f10, .int .u64 x10f11, .int .u64 x10f12, .slice x10A13 x10b13.length x10c13] 39)] :: L :: D :: Cw :: Cr :: F)) [] [(0, true), (1, true), (2, true), (3, true), (4, true), (5, true), (6, true), (7, true), (8, true), (9, true)] mixed (by kernel_rfl) (by rintro c a w ⟨_, _, h, _⟩; cases h) (by rfl) (by kernel_rfl) ?_
       replace hS := hS.drew
       refine dr_run tbOk 1 hA hS (e' := (39, .pointer (some ⟨b12, 1, none⟩)) :: _) rfl ?_; clear hA; intro a hA
       refine dr_y hA rfl rfl rfl (by decide) hS (fun w' hS' => rn_load tbOk hA rfl rfl rfl rfl (cell_row (hS'.heapAt 0 rfl) rfl)) ?_; clear hA; intro a hA
       refine dr_run tbOk 1 hA hS (e' := (41, .int .u8 (x10f1.tmod 4)) :: _) rfl ?_; clear hA; intro a hA
       replace hA := hA.rw 41 (v' := .int .u8 pt) rfl (by rw [hpt])
       refine dr_run tbOk 1 hA hS (e' := (42, .int .u64 (IntKind.u64.wrap pt)) :: _) rfl ?_; clear hA; intro a hA
       replace hA := hA.rw 42 (v' := .int .u64 pt) rfl (vint (wrap_u64 (by omega) (by omega)))
       refine dr_run tbOk 1 hA hS (e' := (43, .pointer (some ⟨b12, 2, none⟩)) :: _) rfl ?_; clear hA; intro a hA
       refine dr_y hA rfl rfl rfl (by decide) hS (fun w' hS' => rn_load tbOk hA rfl rfl rfl rfl (cell_row (hS'.heapAt 0 rfl) rfl)) ?_; clear hA; intro a hA
       refine dr_run tbOk 1 hA hS (e' := (45, .int .u8 (x10f2.tmod 8)) :: _) rfl ?_; clear hA; intro a hA
       replace hA := hA.rw 45 (v' := .int .u8 th) rfl (by rw [hth])
       refine dr_run tbOk 1 hA hS (e' := (46, .int .i64 (IntKind.i64.wrap th)) :: _) rfl ?_; clear hA; intro a hA
       replace hA := hA.rw 46 (v' := .int .i64 th) rfl (wr64 (by rfl) (by omega) (by omega))
       refine dr_run tbOk 2 hA hS (e' := (9, .int .i64 th) :: (8, .int .u64 pt) :: _) rfl ?_; clear hA; intro a hA
       refine dr_end ?_
       replace hA := hA.sel [3, 4, 5, 7, 8, 9, 33, 34, 35] (e' := [(3, .pointer (some ⟨b2, 0, none⟩)), (4, .slice Aw ((ws).length) cw), (5, .slice Ar ((rs).length) cr), (7, .pointer (some ⟨b12, 0, none⟩)), (8, .int .u64 pt), (9, .int .i64 th), (33, .slice (some ⟨b8, o9, none⟩) l.length c), (34, .int .i64 ((l.length : Nat) : Int)), (35, .int .i64 ((k : Nat) : Int))]) rfl
       refine xt_norm ?_
       refine wp_seq ?_
       refine wp_region_lit ?_
       refine st_run tbOk 1 hA (e' := (10, .bool false) :: _) rfl ?_; clear hA; intro a hA
       refine wpList_nil ?_
       refine xt_norm ?_
       refine wp_seq ?_
       refine wp_seq ?_
       refine wp_region_lit ?_
       refine st_run tbOk 3 hA (e' := (49, .int .i64 0) :: (48, .int .i64 (((ws).length : Nat) : Int)) :: (47, .slice Aw ((ws).length) cw) :: _) rfl ?_; clear hA; intro a hA
       refine wpList_nil ?_
       refine xt_norm ?_
       refine wp_block ?_
       replace hA := hA.rw 10 (v' := .bool ((ws.take 0).any (fun x => wth th x))) rfl (by rfl)
       refine wp_loop_ghost (fun m a w => ∃ (j : Nat), m = ws.length - j ∧ Has a 269 [(3, .pointer (some ⟨b2, 0, none⟩)), (4, .slice Aw ((ws).length) cw), (5, .slice Ar ((rs).length) cr), (7, .pointer (some ⟨b12, 0, none⟩)), (8, .int .u64 pt), (9, .int .i64 th), (10, .bool ((ws.take j).any (fun x => wth th x))), (33, .slice (some ⟨b8, o9, none⟩) l.length c), (34, .int .i64 ((l.length : Nat) : Int)), (35, .int .i64 ((k : Nat) : Int)), (47, .slice Aw ((ws).length) cw), (48, .int .i64 (((ws).length : Nat) : Int)), (49, .int .i64 ((j : Nat) : Int))] ∧ St w0 w ([(b12, rowO [.int .u8 x10f0, .int .u8 x10f1, .int .u8 x10f2, .int .u64 x10f3, .int .u64 x10f4, .int .u32 x10f5, .int .u16 x10f6, .int .u16 x10f7, .int .u64 x10f8, .int .u32 x10f9, .int .u8 x10f10, .int .u64 x10f11, .int .u64 x10f12, .slice x10A13 x10b13.length x10c13] 39)] :: L :: D :: Cw :: Cr :: F) ∧ (j ≤ ws.length)) (ws.length - 0)
         ⟨0, rfl, (hA.sel [3, 4, 5, 7, 8, 9, 10, 33, 34, 35, 47, 48, 49] rfl), hS, Nat.zero_le _⟩ ?_
       clear hA hS; rintro m0 a w15 ⟨j, rfl, hA, hS, hj⟩
       refine wp_seq ?_
       refine wp_region_lit ?_
       refine st_run tbOk 1 hA (e' := (50, .bool (decide (((j : Nat) : Int) < (((ws).length : Nat) : Int)))) :: _) rfl ?_; clear hA; intro a hA
       refine wpList_nil ?_
       refine xt_norm ?_
       refine wp_seq ?_
       by_cases hc16 : ((j : Nat) : Int) < (((ws).length : Nat) : Int)
       · first
         | (exfalso; omega)
         | (replace hA := hA.rw 50 (v' := .bool true) rfl (vb_true hc16)
            refine cd_cond_t hA rfl ?_
            refine wp_skip ?_
            refine xt_norm ?_
            refine wp_seq ?_
            refine wp_block ?_
            refine wp_seq ?_
            refine wp_region_lit ?_
            obtain ⟨b17, o18, rfl⟩ := hW.isSome (k := j) (by omega)
            refine st_val hA rfl rfl (by decide) (rn_indexAddr tbOk hA j (o18 + (j * 2)) rfl rfl rfl rfl rfl rfl (by rfl) (by omega) (by first | rfl | simp [Nat.mul_one, Nat.zero_add] | omega)) ?_; clear hA; intro a hA
            obtain ⟨x19, hx19⟩ := get_ex (l := ws) (k := j) (by omega)
            refine st_val hA rfl rfl (by decide) (rn_loadA tbOk hA ([.int .u64 x19.1, .int .i64 x19.2]) rfl rfl rfl rfl (by rfl) ((hW.rd (hS.own_ 3 rfl)).elem (k := j) encWait_ok hx19)) ?_; clear hA; intro a hA
            refine st_alloc tbOk hA hS [.int .u64 0, .int .i64 0] rfl rfl rfl rfl rfl (by decide) ?_; clear hA hS; intro b20 w21 a hS hA
            refine st_store tbOk hA hS [.int .u64 x19.1, .int .i64 x19.2] [.int .u64 x19.1, .int .i64 x19.2] rfl rfl rfl rfl rfl rfl (by simp [Value.oneCell']) (Nat.le_of_ble_eq_true rfl) rfl rfl rfl ?_; clear hS; intro w22 hS
            refine wpList_nil ?_
            replace hA := hA.sel [3, 4, 5, 7, 8, 9, 10, 12, 33, 34, 35, 47, 48, 49] (e' := [(3, .pointer (some ⟨b2, 0, none⟩)), (4, .slice (some ⟨b17, o18, none⟩) ((ws).length) cw), (5, .slice Ar ((rs).length) cr), (7, .pointer (some ⟨b12, 0, none⟩)), (8, .int .u64 pt), (9, .int .i64 th), (10, .bool ((ws.take j).any (fun x => wth th x))), (12, .pointer (some ⟨b20, 0, none⟩)), (33, .slice (some ⟨b8, o9, none⟩) l.length c), (34, .int .i64 ((l.length : Nat) : Int)), (35, .int .i64 ((k : Nat) : Int)), (47, .slice (some ⟨b17, o18, none⟩) ((ws).length) cw), (48, .int .i64 (((ws).length : Nat) : Int)), (49, .int .i64 ((j : Nat) : Int))]) rfl
            refine xt_norm ?_
            refine wp_region_lit ?_
            refine st_run tbOk 2 hA (e' := (54, .bool ((ws.take j).any (fun x => wth th x))) :: (53, .bool ((ws.take j).any (fun x => wth th x))) :: _) rfl ?_; clear hA; intro a hA
            by_cases hc23 : ((ws.take j).any (fun x => wth th x)) = true
            · first
              | (exfalso; omega)
              | (replace hA := hA.rw 10 (v' := .bool true) rfl (vb_t hc23)
                 replace hA := hA.rw 53 (v' := .bool true) rfl (vb_t hc23)
                 replace hA := hA.rw 54 (v' := .bool true) rfl (vb_t hc23)
                 refine st_run tbOk 6 hA (e' := (10, .bool true) :: (59, .bool true) :: (58, undef) :: (57, undef) :: (56, undef) :: (55, undef) :: _) rfl ?_; clear hA; intro a hA
                 refine wpList_nil ?_
                 replace hA := hA.sel [3, 4, 5, 7, 8, 9, 10, 33, 34, 35, 47, 48, 49] (e' := [(3, .pointer (some ⟨b2, 0, none⟩)), (4, .slice (some ⟨b17, o18, none⟩) ((ws).length) cw), (5, .slice Ar ((rs).length) cr), (7, .pointer (some ⟨b12, 0, none⟩)), (8, .int .u64 pt), (9, .int .i64 th), (10, .bool true), (33, .slice (some ⟨b8, o9, none⟩) l.length c), (34, .int .i64 ((l.length : Nat) : Int)), (35, .int .i64 ((k : Nat) : Int)), (47, .slice (some ⟨b17, o18, none⟩) ((ws).length) cw), (48, .int .i64 (((ws).length : Nat) : Int)), (49, .int .i64 ((j : Nat) : Int))]) rfl
                 refine xb_norm ?_
                 refine xt_norm ?_
                 refine wp_region_lit ?_
                 refine st_run tbOk 1 hA (e' := (60, .int .i64 (IntKind.i64.wrap (((j : Nat) : Int) + 1))) :: _) rfl ?_; clear hA; intro a hA
                 replace hA := hA.rw 60 (v' := .int .i64 ((j + 1 : Nat) : Int)) rfl (wr64 (by omega) (by omega) (by omega))
                 refine st_run tbOk 1 hA (e' := (49, .int .i64 ((j + 1 : Nat) : Int)) :: _) rfl ?_; clear hA; intro a hA
                 refine wpList_nil ?_
                 replace hA := hA.sel [3, 4, 5, 7, 8, 9, 10, 33, 34, 35, 47, 48, 49] (e' := [(3, .pointer (some ⟨b2, 0, none⟩)), (4, .slice (some ⟨b17, o18, none⟩) ((ws).length) cw), (5, .slice Ar ((rs).length) cr), (7, .pointer (some ⟨b12, 0, none⟩)), (8, .int .u64 pt), (9, .int .i64 th), (10, .bool true), (33, .slice (some ⟨b8, o9, none⟩) l.length c), (34, .int .i64 ((l.length : Nat) : Int)), (35, .int .i64 ((k : Nat) : Int)), (47, .slice (some ⟨b17, o18, none⟩) ((ws).length) cw), (48, .int .i64 (((ws).length : Nat) : Int)), (49, .int .i64 ((j + 1 : Nat) : Int))]) rfl
                 replace hA := hA.rw 10 (v' := .bool ((ws.take (j + 1)).any (fun x => wth th x))) rfl (congrArg Value.bool (by rw [any_succ hx19, (by assumption : (ws.take j).any (fun x => wth th x) = true)]; rfl))
                 replace hS := hS.drop1
                 replace hS := hS.front 4 (C := Cr) (L' := [(b12, rowO [.int .u8 x10f0, .int .u8 x10f1, .int .u8 x10f2, .int .u64 x10f3, .int .u64 x10f4, .int .u32 x10f5, .int .u16 x10f6, .int .u16 x10f7, .int .u64 x10f8, .int .u32 x10f9, .int .u8 x10f10, .int .u64 x10f11, .int .u64 x10f12, .slice x10A13 x10b13.length x10c13] 39)] :: L :: D :: Cw :: F) rfl rfl
                 replace hS := hS.front 4 (C := Cw) (L' := Cr :: [(b12, rowO [.int .u8 x10f0, .int .u8 x10f1, .int .u8 x10f2, .int .u64 x10f3, .int .u64 x10f4, .int .u32 x10f5, .int .u16 x10f6, .int .u16 x10f7, .int .u64 x10f8, .int .u32 x10f9, .int .u8 x10f10, .int .u64 x10f11, .int .u64 x10f12, .slice x10A13 x10b13.length x10c13] 39)] :: L :: D :: F) rfl rfl
                 replace hS := hS.front 4 (C := D) (L' := Cw :: Cr :: [(b12, rowO [.int .u8 x10f0, .int .u8 x10f1, .int .u8 x10f2, .int .u64 x10f3, .int .u64 x10f4, .int .u32 x10f5, .int .u16 x10f6, .int .u16 x10f7, .int .u64 x10f8, .int .u32 x10f9, .int .u8 x10f10, .int .u64 x10f11, .int .u64 x10f12, .slice x10A13 x10b13.length x10c13] 39)] :: L :: F) rfl rfl
                 replace hS := hS.front 4 (C := L) (L' := D :: Cw :: Cr :: [(b12, rowO [.int .u8 x10f0, .int .u8 x10f1, .int .u8 x10f2, .int .u64 x10f3, .int .u64 x10f4, .int .u32 x10f5, .int .u16 x10f6, .int .u16 x10f7, .int .u64 x10f8, .int .u32 x10f9, .int .u8 x10f10, .int .u64 x10f11, .int .u64 x10f12, .slice x10A13 x10b13.length x10c13] 39)] :: F) rfl rfl
                 replace hS := hS.front 4 (C := [(b12, rowO [.int .u8 x10f0, .int .u8 x10f1, .int .u8 x10f2, .int .u64 x10f3, .int .u64 x10f4, .int .u32 x10f5, .int .u16 x10f6, .int .u16 x10f7, .int .u64 x10f8, .int .u32 x10f9, .int .u8 x10f10, .int .u64 x10f11, .int .u64 x10f12, .slice x10A13 x10b13.length x10c13] 39)]) (L' := L :: D :: Cw :: Cr :: F) rfl rfl
                 exact lp_next _ (by omega) ⟨(j + 1), rfl, (hA.sel [3, 4, 5, 7, 8, 9, 10, 33, 34, 35, 47, 48, 49] rfl), hS, by omega⟩)
            · first
              | (exfalso; omega)
              | (replace hA := hA.rw 10 (v' := .bool false) rfl (vb_f hc23)
                 replace hA := hA.rw 53 (v' := .bool false) rfl (vb_f hc23)
                 replace hA := hA.rw 54 (v' := .bool false) rfl (vb_f hc23)
                 refine st_run tbOk 1 hA (e' := (55, .pointer (some ⟨b20, 1, none⟩)) :: _) rfl ?_; clear hA; intro a hA
                 refine st_val hA rfl rfl (by decide) (rn_load tbOk hA rfl rfl rfl rfl (cell_row (hS.heapAt 0 rfl) rfl)) ?_; clear hA; intro a hA
                 refine st_run tbOk 4 hA (e' := (10, .bool (x19.2 == th)) :: (59, .bool (x19.2 == th)) :: (58, .bool (x19.2 == th)) :: (57, .int .i64 th) :: _) rfl ?_; clear hA; intro a hA
                 refine wpList_nil ?_
                 replace hA := hA.sel [3, 4, 5, 7, 8, 9, 10, 33, 34, 35, 47, 48, 49] (e' := [(3, .pointer (some ⟨b2, 0, none⟩)), (4, .slice (some ⟨b17, o18, none⟩) ((ws).length) cw), (5, .slice Ar ((rs).length) cr), (7, .pointer (some ⟨b12, 0, none⟩)), (8, .int .u64 pt), (9, .int .i64 th), (10, .bool (x19.2 == th)), (33, .slice (some ⟨b8, o9, none⟩) l.length c), (34, .int .i64 ((l.length : Nat) : Int)), (35, .int .i64 ((k : Nat) : Int)), (47, .slice (some ⟨b17, o18, none⟩) ((ws).length) cw), (48, .int .i64 (((ws).length : Nat) : Int)), (49, .int .i64 ((j : Nat) : Int))]) rfl
                 refine xb_norm ?_
                 refine xt_norm ?_
                 refine wp_region_lit ?_
                 refine st_run tbOk 1 hA (e' := (60, .int .i64 (IntKind.i64.wrap (((j : Nat) : Int) + 1))) :: _) rfl ?_; clear hA; intro a hA
                 replace hA := hA.rw 60 (v' := .int .i64 ((j + 1 : Nat) : Int)) rfl (wr64 (by omega) (by omega) (by omega))
                 refine st_run tbOk 1 hA (e' := (49, .int .i64 ((j + 1 : Nat) : Int)) :: _) rfl ?_; clear hA; intro a hA
                 refine wpList_nil ?_
                 replace hA := hA.sel [3, 4, 5, 7, 8, 9, 10, 33, 34, 35, 47, 48, 49] (e' := [(3, .pointer (some ⟨b2, 0, none⟩)), (4, .slice (some ⟨b17, o18, none⟩) ((ws).length) cw), (5, .slice Ar ((rs).length) cr), (7, .pointer (some ⟨b12, 0, none⟩)), (8, .int .u64 pt), (9, .int .i64 th), (10, .bool (x19.2 == th)), (33, .slice (some ⟨b8, o9, none⟩) l.length c), (34, .int .i64 ((l.length : Nat) : Int)), (35, .int .i64 ((k : Nat) : Int)), (47, .slice (some ⟨b17, o18, none⟩) ((ws).length) cw), (48, .int .i64 (((ws).length : Nat) : Int)), (49, .int .i64 ((j + 1 : Nat) : Int))]) rfl
                 replace hA := hA.rw 10 (v' := .bool ((ws.take (j + 1)).any (fun x => wth th x))) rfl (congrArg Value.bool (by rw [any_succ hx19, Bool.eq_false_iff.2 (by assumption : ¬ (ws.take j).any (fun x => wth th x) = true)]; rfl))
                 replace hS := hS.drop1
                 replace hS := hS.front 4 (C := Cr) (L' := [(b12, rowO [.int .u8 x10f0, .int .u8 x10f1, .int .u8 x10f2, .int .u64 x10f3, .int .u64 x10f4, .int .u32 x10f5, .int .u16 x10f6, .int .u16 x10f7, .int .u64 x10f8, .int .u32 x10f9, .int .u8 x10f10, .int .u64 x10f11, .int .u64 x10f12, .slice x10A13 x10b13.length x10c13] 39)] :: L :: D :: Cw :: F) rfl rfl
                 replace hS := hS.front 4 (C := Cw) (L' := Cr :: [(b12, rowO [.int .u8 x10f0, .int .u8 x10f1, .int .u8 x10f2, .int .u64 x10f3, .int .u64 x10f4, .int .u32 x10f5, .int .u16 x10f6, .int .u16 x10f7, .int .u64 x10f8, .int .u32 x10f9, .int .u8 x10f10, .int .u64 x10f11, .int .u64 x10f12, .slice x10A13 x10b13.length x10c13] 39)] :: L :: D :: F) rfl rfl
                 replace hS := hS.front 4 (C := D) (L' := Cw :: Cr :: [(b12, rowO [.int .u8 x10f0, .int .u8 x10f1, .int .u8 x10f2, .int .u64 x10f3, .int .u64 x10f4, .int .u32 x10f5, .int .u16 x10f6, .int .u16 x10f7, .int .u64 x10f8, .int .u32 x10f9, .int .u8 x10f10, .int .u64 x10f11, .int .u64 x10f12, .slice x10A13 x10b13.length x10c13] 39)] :: L :: F) rfl rfl
                 replace hS := hS.front 4 (C := L) (L' := D :: Cw :: Cr :: [(b12, rowO [.int .u8 x10f0, .int .u8 x10f1, .int .u8 x10f2, .int .u64 x10f3, .int .u64 x10f4, .int .u32 x10f5, .int .u16 x10f6, .int .u16 x10f7, .int .u64 x10f8, .int .u32 x10f9, .int .u8 x10f10, .int .u64 x10f11, .int .u64 x10f12, .slice x10A13 x10b13.length x10c13] 39)] :: F) rfl rfl
                 replace hS := hS.front 4 (C := [(b12, rowO [.int .u8 x10f0, .int .u8 x10f1, .int .u8 x10f2, .int .u64 x10f3, .int .u64 x10f4, .int .u32 x10f5, .int .u16 x10f6, .int .u16 x10f7, .int .u64 x10f8, .int .u32 x10f9, .int .u8 x10f10, .int .u64 x10f11, .int .u64 x10f12, .slice x10A13 x10b13.length x10c13] 39)]) (L' := L :: D :: Cw :: Cr :: F) rfl rfl
                 exact lp_next _ (by omega) ⟨(j + 1), rfl, (hA.sel [3, 4, 5, 7, 8, 9, 10, 33, 34, 35, 47, 48, 49] rfl), hS, by omega⟩))
       · first
         | (exfalso; omega)
         | (replace hA := hA.rw 50 (v' := .bool false) rfl (vb_false hc16)
            refine cd_cond_f hA rfl ?_
            refine wp_exit ?_
            refine xt_exit ?_
            refine xt_exit ?_
            refine cd_exit_eq ?_
            refine xt_norm ?_
            refine wp_seq_join (fun a w => ∃ (L1 : Chunk), Has a 269 [(3, .pointer (some ⟨b2, 0, none⟩)), (4, .slice Aw ((ws).length) cw), (5, .slice Ar ((rs).length) cr), (7, .pointer (some ⟨b12, 0, none⟩)), (8, .int .u64 pt), (9, .int .i64 th), (10, .bool (ws.any (fun x => wth th x))), (33, .slice (some ⟨b8, o9, none⟩) l.length c), (34, .int .i64 ((l.length : Nat) : Int)), (35, .int .i64 ((k : Nat) : Int))] ∧ St w0 w ([(b12, rowO [.int .u8 x10f0, .int .u8 x10f1, .int .u8 x10f2, .int .u64 x10f3, .int .u64 x10f4, .int .u32 x10f5, .int .u16 x10f6, .int .u16 x10f7, .int .u64 x10f8, .int .u32 x10f9, .int .u8 x10f10, .int .u64 x10f11, .int .u64 x10f12, .slice x10A13 x10b13.length x10c13] 39)] :: L1 :: D :: Cw :: Cr :: F) ∧ (MR b2 ws ms L1)) ?_ ?_
            · refine wp_seq ?_
              refine wp_region_lit ?_
              replace hA := hA.rw 10 (v' := .bool (ws.any (fun x => wth th x))) rfl (congrArg (fun l => Value.bool (List.any l (fun x => wth th x))) (by rw [show j = ws.length by omega, List.take_length]))
              refine st_run tbOk 2 hA (e' := (62, .int .i64 th) :: (61, .pointer (some ⟨b2, 0, none⟩)) :: _) rfl ?_; clear hA; intro a hA
              replace hS := hS.front 1 (C := L) (L' := [(b12, rowO [.int .u8 x10f0, .int .u8 x10f1, .int .u8 x10f2, .int .u64 x10f3, .int .u64 x10f4, .int .u32 x10f5, .int .u16 x10f6, .int .u16 x10f7, .int .u64 x10f8, .int .u32 x10f9, .int .u8 x10f10, .int .u64 x10f11, .int .u64 x10f12, .slice x10A13 x10b13.length x10c13] 39)] :: D :: Cw :: Cr :: F) rfl rfl
              refine st_call0 hA rfl rfl rfl isfn5 rfl rfl (by decide) (mwaits5 hS hM th) ?_
              clear hA hS; rintro _ w24 a ⟨L25, hM26, rfl, hS⟩ hA
              refine st_run tbOk 1 hA (e' := (64, .bool (ws.any (fun x => wth th x))) :: _) rfl ?_; clear hA; intro a hA
              by_cases hc27 : (ws.any (fun x => wth th x)) = true
              · first
                | (exfalso; omega)
                | (replace hA := hA.rw 10 (v' := .bool true) rfl (vb_t hc27)
                   replace hA := hA.rw 63 (v' := .bool true) rfl (vb_t hc27)
                   replace hA := hA.rw 64 (v' := .bool true) rfl (vb_t hc27)
                   refine st_run tbOk 1 hA (e' := (65, .bool false) :: _) rfl ?_; clear hA; intro a hA
                   refine wpList_nil ?_
                   replace hA := hA.sel [3, 4, 5, 7, 8, 9, 10, 33, 34, 35, 65] (e' := [(3, .pointer (some ⟨b2, 0, none⟩)), (4, .slice Aw ((ws).length) cw), (5, .slice Ar ((rs).length) cr), (7, .pointer (some ⟨b12, 0, none⟩)), (8, .int .u64 pt), (9, .int .i64 th), (10, .bool true), (33, .slice (some ⟨b8, o9, none⟩) l.length c), (34, .int .i64 ((l.length : Nat) : Int)), (35, .int .i64 ((k : Nat) : Int)), (65, .bool false)]) rfl
                   refine xt_norm ?_
                   refine cd_cond_f hA rfl ?_
                   refine wp_skip ?_
                   refine xt_norm ?_
                   replace hA := hA.rw 10 (v' := .bool (ws.any (fun x => wth th x))) rfl (congrArg Value.bool (hc27).symm)
                   replace hS := hS.front 4 (C := Cr) (L' := L25 :: [(b12, rowO [.int .u8 x10f0, .int .u8 x10f1, .int .u8 x10f2, .int .u64 x10f3, .int .u64 x10f4, .int .u32 x10f5, .int .u16 x10f6, .int .u16 x10f7, .int .u64 x10f8, .int .u32 x10f9, .int .u8 x10f10, .int .u64 x10f11, .int .u64 x10f12, .slice x10A13 x10b13.length x10c13] 39)] :: D :: Cw :: F) rfl rfl
                   replace hS := hS.front 4 (C := Cw) (L' := Cr :: L25 :: [(b12, rowO [.int .u8 x10f0, .int .u8 x10f1, .int .u8 x10f2, .int .u64 x10f3, .int .u64 x10f4, .int .u32 x10f5, .int .u16 x10f6, .int .u16 x10f7, .int .u64 x10f8, .int .u32 x10f9, .int .u8 x10f10, .int .u64 x10f11, .int .u64 x10f12, .slice x10A13 x10b13.length x10c13] 39)] :: D :: F) rfl rfl
                   replace hS := hS.front 4 (C := D) (L' := Cw :: Cr :: L25 :: [(b12, rowO [.int .u8 x10f0, .int .u8 x10f1, .int .u8 x10f2, .int .u64 x10f3, .int .u64 x10f4, .int .u32 x10f5, .int .u16 x10f6, .int .u16 x10f7, .int .u64 x10f8, .int .u32 x10f9, .int .u8 x10f10, .int .u64 x10f11, .int .u64 x10f12, .slice x10A13 x10b13.length x10c13] 39)] :: F) rfl rfl
                   replace hS := hS.front 3 (C := L25) (L' := D :: Cw :: Cr :: [(b12, rowO [.int .u8 x10f0, .int .u8 x10f1, .int .u8 x10f2, .int .u64 x10f3, .int .u64 x10f4, .int .u32 x10f5, .int .u16 x10f6, .int .u16 x10f7, .int .u64 x10f8, .int .u32 x10f9, .int .u8 x10f10, .int .u64 x10f11, .int .u64 x10f12, .slice x10A13 x10b13.length x10c13] 39)] :: F) rfl rfl
                   replace hS := hS.front 4 (C := [(b12, rowO [.int .u8 x10f0, .int .u8 x10f1, .int .u8 x10f2, .int .u64 x10f3, .int .u64 x10f4, .int .u32 x10f5, .int .u16 x10f6, .int .u16 x10f7, .int .u64 x10f8, .int .u32 x10f9, .int .u8 x10f10, .int .u64 x10f11, .int .u64 x10f12, .slice x10A13 x10b13.length x10c13] 39)]) (L' := L25 :: D :: Cw :: Cr :: F) rfl rfl
                   exact ⟨L25, (hA.sel [3, 4, 5, 7, 8, 9, 10, 33, 34, 35] rfl), hS, hM26⟩)
              · first
                | (exfalso; omega)
                | (replace hA := hA.rw 10 (v' := .bool false) rfl (vb_f hc27)
                   replace hA := hA.rw 63 (v' := .bool false) rfl (vb_f hc27)
                   replace hA := hA.rw 64 (v' := .bool false) rfl (vb_f hc27)
                   refine st_run tbOk 1 hA (e' := (65, .bool false) :: _) rfl ?_; clear hA; intro a hA
                   refine wpList_nil ?_
                   replace hA := hA.sel [3, 4, 5, 7, 8, 9, 10, 33, 34, 35, 65] (e' := [(3, .pointer (some ⟨b2, 0, none⟩)), (4, .slice Aw ((ws).length) cw), (5, .slice Ar ((rs).length) cr), (7, .pointer (some ⟨b12, 0, none⟩)), (8, .int .u64 pt), (9, .int .i64 th), (10, .bool false), (33, .slice (some ⟨b8, o9, none⟩) l.length c), (34, .int .i64 ((l.length : Nat) : Int)), (35, .int .i64 ((k : Nat) : Int)), (65, .bool false)]) rfl
                   refine xt_norm ?_
                   refine cd_cond_f hA rfl ?_
                   refine wp_skip ?_
                   refine xt_norm ?_
                   replace hA := hA.rw 10 (v' := .bool (ws.any (fun x => wth th x))) rfl (congrArg Value.bool (Bool.eq_false_iff.2 hc27).symm)
                   replace hS := hS.front 4 (C := Cr) (L' := L25 :: [(b12, rowO [.int .u8 x10f0, .int .u8 x10f1, .int .u8 x10f2, .int .u64 x10f3, .int .u64 x10f4, .int .u32 x10f5, .int .u16 x10f6, .int .u16 x10f7, .int .u64 x10f8, .int .u32 x10f9, .int .u8 x10f10, .int .u64 x10f11, .int .u64 x10f12, .slice x10A13 x10b13.length x10c13] 39)] :: D :: Cw :: F) rfl rfl
                   replace hS := hS.front 4 (C := Cw) (L' := Cr :: L25 :: [(b12, rowO [.int .u8 x10f0, .int .u8 x10f1, .int .u8 x10f2, .int .u64 x10f3, .int .u64 x10f4, .int .u32 x10f5, .int .u16 x10f6, .int .u16 x10f7, .int .u64 x10f8, .int .u32 x10f9, .int .u8 x10f10, .int .u64 x10f11, .int .u64 x10f12, .slice x10A13 x10b13.length x10c13] 39)] :: D :: F) rfl rfl
                   replace hS := hS.front 4 (C := D) (L' := Cw :: Cr :: L25 :: [(b12, rowO [.int .u8 x10f0, .int .u8 x10f1, .int .u8 x10f2, .int .u64 x10f3, .int .u64 x10f4, .int .u32 x10f5, .int .u16 x10f6, .int .u16 x10f7, .int .u64 x10f8, .int .u32 x10f9, .int .u8 x10f10, .int .u64 x10f11, .int .u64 x10f12, .slice x10A13 x10b13.length x10c13] 39)] :: F) rfl rfl
                   replace hS := hS.front 3 (C := L25) (L' := D :: Cw :: Cr :: [(b12, rowO [.int .u8 x10f0, .int .u8 x10f1, .int .u8 x10f2, .int .u64 x10f3, .int .u64 x10f4, .int .u32 x10f5, .int .u16 x10f6, .int .u16 x10f7, .int .u64 x10f8, .int .u32 x10f9, .int .u8 x10f10, .int .u64 x10f11, .int .u64 x10f12, .slice x10A13 x10b13.length x10c13] 39)] :: F) rfl rfl
                   replace hS := hS.front 4 (C := [(b12, rowO [.int .u8 x10f0, .int .u8 x10f1, .int .u8 x10f2, .int .u64 x10f3, .int .u64 x10f4, .int .u32 x10f5, .int .u16 x10f6, .int .u16 x10f7, .int .u64 x10f8, .int .u32 x10f9, .int .u8 x10f10, .int .u64 x10f11, .int .u64 x10f12, .slice x10A13 x10b13.length x10c13] 39)]) (L' := L25 :: D :: Cw :: Cr :: F) rfl rfl
                   exact ⟨L25, (hA.sel [3, 4, 5, 7, 8, 9, 10, 33, 34, 35] rfl), hS, hM26⟩)
            · clear hA hS; rintro a w28 ⟨L1, hA, hS, hM1⟩
              refine wp_seq_join (fun a w => ∃ (ws' : List (Int × Int)) (ms' : List Msg) (rs' : List Msg) (L' : Chunk) (D' : Chunk) (Aw' : Option Addr) (cw' : Nat) (Cw' : Chunk) (Ar' : Option Addr) (cr' : Nat) (Cr' : Chunk), Has a 269 [(3, .pointer (some ⟨b2, 0, none⟩)), (4, .slice Aw' ((ws').length) cw'), (5, .slice Ar' ((rs').length) cr'), (33, .slice (some ⟨b8, o9, none⟩) l.length c), (34, .int .i64 ((l.length : Nat) : Int)), (35, .int .i64 ((k : Nat) : Int))] ∧ St w0 w (L' :: D' :: Cw' :: Cr' :: F) ∧ (MI ws' ms' rs') ∧ (MR b2 ws' ms' L') ∧ (Own 41 2 (.slice Aw' (ws').length cw') (ws').length (rows encWait (ws')) Cw') ∧ (Own 37 11 (.slice Ar' (rs').length cr') (rs').length (rows encMessage (rs')) Cr') ∧ (∀ x ∈ ms', encMessage_dd w0 D' x) ∧ (∀ x ∈ rs', ∀ D, encMessage_dd w0 D x)) ?_ ?_
              · refine wp_seq ?_
                refine wp_region_lit ?_
                refine st_run tbOk 1 hA (e' := (66, .pointer (some ⟨b12, 0, none⟩)) :: _) rfl ?_; clear hA; intro a hA
                refine st_val hA rfl rfl (by decide) (rn_load tbOk hA rfl rfl rfl rfl (cell_row (hS.heapAt 0 rfl) rfl)) ?_; clear hA; intro a hA
                refine st_run tbOk 1 hA (e' := (68, .int .u8 (x10f0.tmod 4)) :: _) rfl ?_; clear hA; intro a hA
                refine wpList_nil ?_
                replace hA := hA.sel [3, 4, 5, 7, 8, 9, 10, 33, 34, 35, 68] (e' := [(3, .pointer (some ⟨b2, 0, none⟩)), (4, .slice Aw ((ws).length) cw), (5, .slice Ar ((rs).length) cr), (7, .pointer (some ⟨b12, 0, none⟩)), (8, .int .u64 pt), (9, .int .i64 th), (10, .bool (ws.any (fun x => wth th x))), (33, .slice (some ⟨b8, o9, none⟩) l.length c), (34, .int .i64 ((l.length : Nat) : Int)), (35, .int .i64 ((k : Nat) : Int)), (68, .int .u8 (x10f0.tmod 4))]) rfl
                refine xt_norm ?_
                refine wp_block ?_
                refine wp_seq_join (fun a w => ∃ (bb : Bool), Has a 269 [(3, .pointer (some ⟨b2, 0, none⟩)), (4, .slice Aw ((ws).length) cw), (5, .slice Ar ((rs).length) cr), (7, .pointer (some ⟨b12, 0, none⟩)), (8, .int .u64 pt), (9, .int .i64 th), (10, .bool (ws.any (fun x => wth th x))), (33, .slice (some ⟨b8, o9, none⟩) l.length c), (34, .int .i64 ((l.length : Nat) : Int)), (35, .int .i64 ((k : Nat) : Int)), (68, .int .u8 op), (90, .bool bb)] ∧ St w0 w ([(b12, rowO [.int .u8 x10f0, .int .u8 x10f1, .int .u8 x10f2, .int .u64 x10f3, .int .u64 x10f4, .int .u32 x10f5, .int .u16 x10f6, .int .u16 x10f7, .int .u64 x10f8, .int .u32 x10f9, .int .u8 x10f10, .int .u64 x10f11, .int .u64 x10f12, .slice x10A13 x10b13.length x10c13] 39)] :: L1 :: D :: Cw :: Cr :: F) ∧ ((bb = true → op = 0 ∨ op = 1) ∧ (bb = false → ¬ op = 0 ∧ ¬ op = 1))) ?_ ?_
                · refine wp_seq ?_
                  refine wp_region_lit ?_
                  replace hA := hA.rw 68 (v' := .int .u8 op) rfl (by rw [hop])
                  refine st_run tbOk 2 hA (e' := (90, .bool (op == 0)) :: (91, .bool (op == 0)) :: _) rfl ?_; clear hA; intro a hA
                  refine wpList_nil ?_
                  replace hA := hA.sel [3, 4, 5, 7, 8, 9, 10, 33, 34, 35, 68, 90] (e' := [(3, .pointer (some ⟨b2, 0, none⟩)), (4, .slice Aw ((ws).length) cw), (5, .slice Ar ((rs).length) cr), (7, .pointer (some ⟨b12, 0, none⟩)), (8, .int .u64 pt), (9, .int .i64 th), (10, .bool (ws.any (fun x => wth th x))), (33, .slice (some ⟨b8, o9, none⟩) l.length c), (34, .int .i64 ((l.length : Nat) : Int)), (35, .int .i64 ((k : Nat) : Int)), (68, .int .u8 op), (90, .bool (op == 0))]) rfl
                  refine xt_norm ?_
                  by_cases hc29 : op = 0
                  · first
                    | (exfalso; omega)
                    | (replace hA := hA.rw 90 (v' := .bool true) rfl (vb_eq_t hc29)
                       refine cd_cond_t hA rfl ?_
                       refine wp_skip ?_
                       refine xt_norm ?_
                       exact ⟨true, (hA.sel [3, 4, 5, 7, 8, 9, 10, 33, 34, 35, 68, 90] rfl), hS, ⟨fun _ => by omega, fun h => by cases h⟩⟩)
                  · first
                    | (exfalso; omega)
                    | (replace hA := hA.rw 90 (v' := .bool false) rfl (vb_eq_f hc29)
                       refine cd_cond_f hA rfl ?_
                       refine wp_region_lit ?_
                       refine st_run tbOk 2 hA (e' := (90, .bool (op == 1)) :: (92, .bool (op == 1)) :: _) rfl ?_; clear hA; intro a hA
                       refine wpList_nil ?_
                       replace hA := hA.sel [3, 4, 5, 7, 8, 9, 10, 33, 34, 35, 68, 90] (e' := [(3, .pointer (some ⟨b2, 0, none⟩)), (4, .slice Aw ((ws).length) cw), (5, .slice Ar ((rs).length) cr), (7, .pointer (some ⟨b12, 0, none⟩)), (8, .int .u64 pt), (9, .int .i64 th), (10, .bool (ws.any (fun x => wth th x))), (33, .slice (some ⟨b8, o9, none⟩) l.length c), (34, .int .i64 ((l.length : Nat) : Int)), (35, .int .i64 ((k : Nat) : Int)), (68, .int .u8 op), (90, .bool (op == 1))]) rfl
                       refine xt_norm ?_
                       exact ⟨(op == 1), (hA.sel [3, 4, 5, 7, 8, 9, 10, 33, 34, 35, 68, 90] rfl), hS, ⟨fun h => by have := beq_iff_eq.1 h; omega, fun h => by have := beq_eq_false_iff_ne.1 h; omega⟩⟩)
                · clear hA hS; rintro a w30 ⟨bb, hA, hS, hbb⟩
                  by_cases hc31 : bb = true
                  · first
                    | (exfalso; omega)
                    | (replace hA := hA.rw 90 (v' := .bool true) rfl (vb_t hc31)
                       refine cd_cond_t hA rfl ?_
                       refine wp_seq ?_
                       refine wp_region_lit ?_
                       have hbt := hbb.1 (by assumption)
                       refine st_run tbOk 1 hA (e' := (93, .pointer (some ⟨b12, 3, none⟩)) :: _) rfl ?_; clear hA; intro a hA
                       refine st_val hA rfl rfl (by decide) (rn_loadA tbOk hA [.int .u64 x10f3, .int .u64 x10f4, .int .u32 x10f5, .int .u16 x10f6, .int .u16 x10f7, .int .u64 x10f8, .int .u32 x10f9, .int .u8 x10f10, .int .u64 x10f11, .int .u64 x10f12, .slice x10A13 x10b13.length x10c13] rfl rfl rfl rfl rfl (cells_row (hS.heapAt 0 rfl) rfl)) ?_; clear hA; intro a hA
                       refine st_alloc tbOk hA hS [.int .u64 0, .int .u64 0, .int .u32 0, .int .u16 0, .int .u16 0, .int .u64 0, .int .u32 0, .int .u8 0, .int .u64 0, .int .u64 0, .slice none 0 0] rfl rfl rfl rfl rfl (by decide) ?_; clear hA hS; intro b32 w33 a hS hA
                       refine st_store tbOk hA hS [.int .u64 x10f3, .int .u64 x10f4, .int .u32 x10f5, .int .u16 x10f6, .int .u16 x10f7, .int .u64 x10f8, .int .u32 x10f9, .int .u8 x10f10, .int .u64 x10f11, .int .u64 x10f12, .slice x10A13 x10b13.length x10c13] [.int .u64 x10f3, .int .u64 x10f4, .int .u32 x10f5, .int .u16 x10f6, .int .u16 x10f7, .int .u64 x10f8, .int .u32 x10f9, .int .u8 x10f10, .int .u64 x10f11, .int .u64 x10f12, .slice x10A13 x10b13.length x10c13] rfl rfl rfl rfl rfl rfl (by simp [Value.oneCell']) (Nat.le_of_ble_eq_true rfl) rfl rfl rfl ?_; clear hS; intro w34 hS
                       refine wpList_nil ?_
                       replace hA := hA.sel [3, 4, 5, 8, 13, 33, 34, 35] (e' := [(3, .pointer (some ⟨b2, 0, none⟩)), (4, .slice Aw ((ws).length) cw), (5, .slice Ar ((rs).length) cr), (8, .int .u64 pt), (13, .pointer (some ⟨b32, 0, none⟩)), (33, .slice (some ⟨b8, o9, none⟩) l.length c), (34, .int .i64 ((l.length : Nat) : Int)), (35, .int .i64 ((k : Nat) : Int))]) rfl
                       refine xt_norm ?_
                       refine wp_seq ?_
                       refine wp_region_lit ?_
                       refine st_run tbOk 2 hA (e' := (96, .pointer (some ⟨b32, 0, none⟩)) :: (95, .int .u64 pt) :: _) rfl ?_; clear hA; intro a hA
                       refine st_store tbOk hA hS [.int .u64 pt] [.int .u64 pt, .int .u64 x10f4, .int .u32 x10f5, .int .u16 x10f6, .int .u16 x10f7, .int .u64 x10f8, .int .u32 x10f9, .int .u8 x10f10, .int .u64 x10f11, .int .u64 x10f12, .slice x10A13 x10b13.length x10c13] rfl rfl rfl rfl rfl rfl (by intro u hu; rw [List.mem_singleton.1 hu]; rfl) (Nat.le_of_ble_eq_true rfl) rfl rfl rfl ?_; clear hS; intro w35 hS
                       refine wpList_nil ?_
                       replace hA := hA.sel [3, 4, 5, 8, 13, 33, 34, 35] (e' := [(3, .pointer (some ⟨b2, 0, none⟩)), (4, .slice Aw ((ws).length) cw), (5, .slice Ar ((rs).length) cr), (8, .int .u64 pt), (13, .pointer (some ⟨b32, 0, none⟩)), (33, .slice (some ⟨b8, o9, none⟩) l.length c), (34, .int .i64 ((l.length : Nat) : Int)), (35, .int .i64 ((k : Nat) : Int))]) rfl
                       refine xt_norm ?_
                       refine wp_seq ?_
                       refine wp_region_lit ?_
                       refine st_run tbOk 1 hA (e' := (98, .pointer (some ⟨b2, 0, none⟩)) :: _) rfl ?_; clear hA; intro a hA
                       refine st_val hA rfl rfl (by decide) (rn_loadA tbOk hA [.int .u64 pt, .int .u64 x10f4, .int .u32 x10f5, .int .u16 x10f6, .int .u16 x10f7, .int .u64 x10f8, .int .u32 x10f9, .int .u8 x10f10, .int .u64 x10f11, .int .u64 x10f12, .slice x10A13 x10b13.length x10c13] rfl rfl rfl rfl rfl (cells_row (hS.heapAt 0 rfl) rfl)) ?_; clear hA; intro a hA
                       have hcs : ((∀ (i : Nat) (y : Int × Int), ws[i]? = some y → ¬ y.1 = pt) ∧ rs.length < 64) ∨ ((∀ (i : Nat) (y : Int × Int), ws[i]? = some y → ¬ y.1 = pt) ∧ 64 ≤ rs.length) ∨ ∃ (k0 : Nat) (x0 : Int × Int), ws[k0]? = some x0 ∧ x0.1 = pt ∧ ∀ (i : Nat) (y : Int × Int), i < k0 → ws[i]? = some y → ¬ y.1 = pt := by
                           rcases first_of (fun y : Int × Int => y.1 = pt) ws with h | h
                           · rcases Nat.lt_or_ge rs.length 64 with h2 | h2
                             · exact .inl ⟨h, h2⟩
                             · exact .inr (.inl ⟨h, h2⟩)
                           · exact .inr (.inr h)
                       rcases hcs with ⟨hno, hr64⟩ | ⟨hno, hr64⟩ | ⟨k0, ⟨x01, x02⟩, hk0, hp0, hb0⟩
                       · replace hS := hS.front 3 (C := D) (L' := [(b32, rowO [.int .u64 pt, .int .u64 x10f4, .int .u32 x10f5, .int .u16 x10f6, .int .u16 x10f7, .int .u64 x10f8, .int .u32 x10f9, .int .u8 x10f10, .int .u64 x10f11, .int .u64 x10f12, .slice x10A13 x10b13.length x10c13] 37)] :: [(b12, rowO [.int .u8 x10f0, .int .u8 x10f1, .int .u8 x10f2, .int .u64 x10f3, .int .u64 x10f4, .int .u32 x10f5, .int .u16 x10f6, .int .u16 x10f7, .int .u64 x10f8, .int .u32 x10f9, .int .u8 x10f10, .int .u64 x10f11, .int .u64 x10f12, .slice x10A13 x10b13.length x10c13] 39)] :: L1 :: Cw :: Cr :: F) rfl rfl
                         replace hS := hS.front 3 (C := L1) (L' := D :: [(b32, rowO [.int .u64 pt, .int .u64 x10f4, .int .u32 x10f5, .int .u16 x10f6, .int .u16 x10f7, .int .u64 x10f8, .int .u32 x10f9, .int .u8 x10f10, .int .u64 x10f11, .int .u64 x10f12, .slice x10A13 x10b13.length x10c13] 37)] :: [(b12, rowO [.int .u8 x10f0, .int .u8 x10f1, .int .u8 x10f2, .int .u64 x10f3, .int .u64 x10f4, .int .u32 x10f5, .int .u16 x10f6, .int .u16 x10f7, .int .u64 x10f8, .int .u32 x10f9, .int .u8 x10f10, .int .u64 x10f11, .int .u64 x10f12, .slice x10A13 x10b13.length x10c13] 39)] :: Cw :: Cr :: F) rfl rfl
                         refine st_call0 hA rfl rfl rfl isfn6 rfl rfl (by decide) (offer_ok6 hS hM1 pt x10f4 x10f5 x10f6 x10f7 x10f8 x10f9 x10f10 x10f11 x10f12 (bs := x10b13) (fun w' h => (hd11 _ (h.only 0 rfl))) (by first | omega | exact Nat.zero_le _) hno (by omega)) ?_
                         clear hA hS; rintro _ w36 a ⟨L37, E39, A40, c41, hM38, hE42, rfl, hS⟩ hA
                         have hdm2 : ∀ x ∈ (ms ++ [(pt, x10f4, x10f5, x10f6, x10f7, x10f8, x10f9, x10f10, x10f11, x10f12, A40, c41, x10b13)]), encMessage_dd w0 (E39 ++ D) x := fun x hx => (List.mem_append.1 hx).elim (fun h => encMessage_left (hdm x h)) (fun h => by rw [List.mem_singleton.1 h]; exact hE42.right)
                         refine st_run tbOk 7 hA (e' := (16, .nilIface) :: (15, .bool false) :: (14, .int .i64 0) :: (103, .nilIface) :: (102, .bool false) :: (101, .int .i64 0) :: (97, .tuple #[.int .i64 0, .bool false, .nilIface]) :: _) rfl ?_; clear hA; intro a hA
                         refine wpList_nil ?_
                         replace hA := hA.sel [3, 4, 5, 8, 13, 14, 15, 16, 33, 34, 35] (e' := [(3, .pointer (some ⟨b2, 0, none⟩)), (4, .slice Aw ((ws).length) cw), (5, .slice Ar ((rs).length) cr), (8, .int .u64 pt), (13, .pointer (some ⟨b32, 0, none⟩)), (14, .int .i64 0), (15, .bool false), (16, .nilIface), (33, .slice (some ⟨b8, o9, none⟩) l.length c), (34, .int .i64 ((l.length : Nat) : Int)), (35, .int .i64 ((k : Nat) : Int))]) rfl
                         refine xt_norm ?_
                         refine wp_seq ?_
                         refine wp_region_lit ?_
                         refine st_run tbOk 1 hA (e' := (17, .int .i64 (-1)) :: _) rfl ?_; clear hA; intro a hA
                         refine wpList_nil ?_
                         refine xt_norm ?_
                         refine wp_seq ?_
                         refine wp_seq ?_
                         refine wp_region_lit ?_
                         refine st_run tbOk 3 hA (e' := (106, .int .i64 (IntKind.i64.wrap ((((ws).length : Nat) : Int) - 1))) :: (105, .int .i64 (((ws).length : Nat) : Int)) :: (104, .slice Aw ((ws).length) cw) :: _) rfl ?_; clear hA; intro a hA
                         replace hA := hA.rw 106 (v' := .int .i64 ((((ws).length : Nat) : Int) - 1)) rfl (wr64 (by omega) (by omega) (by omega))
                         refine st_run tbOk 1 hA (e' := (18, .int .i64 ((((ws).length : Nat) : Int) - 1)) :: _) rfl ?_; clear hA; intro a hA
                         refine wpList_nil ?_
                         replace hA := hA.sel [3, 4, 5, 8, 13, 14, 15, 16, 17, 18, 33, 34, 35] (e' := [(3, .pointer (some ⟨b2, 0, none⟩)), (4, .slice Aw ((ws).length) cw), (5, .slice Ar ((rs).length) cr), (8, .int .u64 pt), (13, .pointer (some ⟨b32, 0, none⟩)), (14, .int .i64 0), (15, .bool false), (16, .nilIface), (17, .int .i64 (-1)), (18, .int .i64 ((((ws).length : Nat) : Int) - 1)), (33, .slice (some ⟨b8, o9, none⟩) l.length c), (34, .int .i64 ((l.length : Nat) : Int)), (35, .int .i64 ((k : Nat) : Int))]) rfl
                         refine xt_norm ?_
                         refine wp_block ?_
                         refine wp_loop_ghost (fun m a w => ∃ (j : Nat) (av : Int), m = 0 + j ∧ Has a 269 [(3, .pointer (some ⟨b2, 0, none⟩)), (4, .slice Aw ((ws).length) cw), (5, .slice Ar ((rs).length) cr), (8, .int .u64 pt), (13, .pointer (some ⟨b32, 0, none⟩)), (14, .int .i64 0), (15, .bool false), (16, .nilIface), (17, .int .i64 av), (18, .int .i64 (((j : Nat) : Int) - 1)), (33, .slice (some ⟨b8, o9, none⟩) l.length c), (34, .int .i64 ((l.length : Nat) : Int)), (35, .int .i64 ((k : Nat) : Int))] ∧ St w0 w (L37 :: (E39 ++ D) :: [(b32, rowO [.int .u64 pt, .int .u64 x10f4, .int .u32 x10f5, .int .u16 x10f6, .int .u16 x10f7, .int .u64 x10f8, .int .u32 x10f9, .int .u8 x10f10, .int .u64 x10f11, .int .u64 x10f12, .slice x10A13 x10b13.length x10c13] 37)] :: [(b12, rowO [.int .u8 x10f0, .int .u8 x10f1, .int .u8 x10f2, .int .u64 x10f3, .int .u64 x10f4, .int .u32 x10f5, .int .u16 x10f6, .int .u16 x10f7, .int .u64 x10f8, .int .u32 x10f9, .int .u8 x10f10, .int .u64 x10f11, .int .u64 x10f12, .slice x10A13 x10b13.length x10c13] 39)] :: Cw :: Cr :: F) ∧ (j ≤ ws.length) ∧ (fnd2 (fun y : Int × Int => y.1 = pt) ws j av)) (0 + ws.length)
                           ⟨ws.length, (-1), rfl, (hA.sel [3, 4, 5, 8, 13, 14, 15, 16, 17, 18, 33, 34, 35] rfl), hS, Nat.le_refl _, fnd2.init⟩ ?_
                         clear hA hS; rintro m0 a w43 ⟨j, av, rfl, hA, hS, hj, hav⟩
                         refine wp_seq ?_
                         refine wp_seq ?_
                         refine wp_region_lit ?_
                         refine st_run tbOk 2 hA (e' := (108, .bool (decide (((j : Nat) : Int) - 1 ≥ 0))) :: (107, .int .i64 (((j : Nat) : Int) - 1)) :: _) rfl ?_; clear hA; intro a hA
                         refine wpList_nil ?_
                         replace hA := hA.sel [3, 4, 5, 8, 13, 14, 15, 16, 17, 18, 33, 34, 35, 108] (e' := [(3, .pointer (some ⟨b2, 0, none⟩)), (4, .slice Aw ((ws).length) cw), (5, .slice Ar ((rs).length) cr), (8, .int .u64 pt), (13, .pointer (some ⟨b32, 0, none⟩)), (14, .int .i64 0), (15, .bool false), (16, .nilIface), (17, .int .i64 av), (18, .int .i64 (((j : Nat) : Int) - 1)), (33, .slice (some ⟨b8, o9, none⟩) l.length c), (34, .int .i64 ((l.length : Nat) : Int)), (35, .int .i64 ((k : Nat) : Int)), (108, .bool (decide (((j : Nat) : Int) - 1 ≥ 0)))]) rfl
                         refine xt_norm ?_
                         by_cases hc44 : ((j : Nat) : Int) - 1 ≥ 0
                         · first
                           | (exfalso; omega)
                           | (replace hA := hA.rw 108 (v' := .bool true) rfl (vb_true hc44)
                              refine cd_cond_t hA rfl ?_
                              refine wp_skip ?_
                              refine xt_norm ?_
                              refine wp_seq ?_
                              refine wp_block ?_
                              refine wp_seq ?_
                              refine wp_region_lit ?_
                              obtain ⟨i, hij⟩ : ∃ i, j = i + 1 := ⟨j - 1, by omega⟩
                              subst hij
                              replace hA := hA.rw 18 (v' := .int .i64 ((i : Nat) : Int)) rfl (vint (by omega))
                              refine st_run tbOk 2 hA (e' := (112, .int .i64 ((i : Nat) : Int)) :: (111, .slice Aw ((ws).length) cw) :: _) rfl ?_; clear hA; intro a hA
                              obtain ⟨b45, o46, rfl⟩ := hW.isSome (k := i) (by omega)
                              refine st_val hA rfl rfl (by decide) (rn_indexAddr tbOk hA i (o46 + (i * 2)) rfl rfl rfl rfl rfl rfl (by rfl) (by omega) (by first | rfl | simp [Nat.mul_one, Nat.zero_add] | omega)) ?_; clear hA; intro a hA
                              refine st_run tbOk 1 hA (e' := (114, .pointer (some ⟨b45, o46 + (i * 2), none⟩)) :: _) rfl ?_; clear hA; intro a hA
                              obtain ⟨x47, hx47⟩ := get_ex (l := ws) (k := i) (by omega)
                              refine st_val hA rfl rfl (by decide) (rn_load tbOk hA rfl rfl rfl rfl ((hW.rd (hS.own_ 4 rfl)).elemf (k := i) encWait_ok hx47 (j := 0) rfl)) ?_; clear hA; intro a hA
                              refine st_run tbOk 2 hA (e' := (117, .bool (x47.1 == pt)) :: (116, .int .u64 pt) :: _) rfl ?_; clear hA; intro a hA
                              refine wpList_nil ?_
                              replace hA := hA.sel [3, 4, 5, 8, 13, 14, 15, 16, 17, 18, 33, 34, 35, 117] (e' := [(3, .pointer (some ⟨b2, 0, none⟩)), (4, .slice (some ⟨b45, o46, none⟩) ((ws).length) cw), (5, .slice Ar ((rs).length) cr), (8, .int .u64 pt), (13, .pointer (some ⟨b32, 0, none⟩)), (14, .int .i64 0), (15, .bool false), (16, .nilIface), (17, .int .i64 av), (18, .int .i64 ((i : Nat) : Int)), (33, .slice (some ⟨b8, o9, none⟩) l.length c), (34, .int .i64 ((l.length : Nat) : Int)), (35, .int .i64 ((k : Nat) : Int)), (117, .bool (x47.1 == pt))]) rfl
                              refine xt_norm ?_
                              by_cases hc48 : x47.1 = pt
                              · first
                                | (exfalso; omega)
                                | (replace hA := hA.rw 117 (v' := .bool true) rfl (vb_eq_t hc48)
                                   refine cd_cond_t hA rfl ?_
                                   refine wp_region_lit ?_
                                   refine st_run tbOk 2 hA (e' := (17, .int .i64 ((i : Nat) : Int)) :: (118, .int .i64 ((i : Nat) : Int)) :: _) rfl ?_; clear hA; intro a hA
                                   refine wpList_nil ?_
                                   replace hA := hA.sel [3, 4, 5, 8, 13, 14, 15, 16, 17, 18, 33, 34, 35] (e' := [(3, .pointer (some ⟨b2, 0, none⟩)), (4, .slice (some ⟨b45, o46, none⟩) ((ws).length) cw), (5, .slice Ar ((rs).length) cr), (8, .int .u64 pt), (13, .pointer (some ⟨b32, 0, none⟩)), (14, .int .i64 0), (15, .bool false), (16, .nilIface), (17, .int .i64 ((i : Nat) : Int)), (18, .int .i64 ((i : Nat) : Int)), (33, .slice (some ⟨b8, o9, none⟩) l.length c), (34, .int .i64 ((l.length : Nat) : Int)), (35, .int .i64 ((k : Nat) : Int))]) rfl
                                   refine xb_norm ?_
                                   refine xt_norm ?_
                                   refine wp_region_lit ?_
                                   refine st_run tbOk 2 hA (e' := (110, .int .i64 (IntKind.i64.wrap (((i : Nat) : Int) - 1))) :: (109, .int .i64 ((i : Nat) : Int)) :: _) rfl ?_; clear hA; intro a hA
                                   replace hA := hA.rw 110 (v' := .int .i64 (((i : Nat) : Int) - 1)) rfl (wr64 (by omega) (by omega) (by omega))
                                   refine st_run tbOk 1 hA (e' := (18, .int .i64 (((i : Nat) : Int) - 1)) :: _) rfl ?_; clear hA; intro a hA
                                   refine wpList_nil ?_
                                   replace hA := hA.sel [3, 4, 5, 8, 13, 14, 15, 16, 17, 18, 33, 34, 35] (e' := [(3, .pointer (some ⟨b2, 0, none⟩)), (4, .slice (some ⟨b45, o46, none⟩) ((ws).length) cw), (5, .slice Ar ((rs).length) cr), (8, .int .u64 pt), (13, .pointer (some ⟨b32, 0, none⟩)), (14, .int .i64 0), (15, .bool false), (16, .nilIface), (17, .int .i64 ((i : Nat) : Int)), (18, .int .i64 (((i : Nat) : Int) - 1)), (33, .slice (some ⟨b8, o9, none⟩) l.length c), (34, .int .i64 ((l.length : Nat) : Int)), (35, .int .i64 ((k : Nat) : Int))]) rfl
                                   replace hA := hA.rw 17 (v' := .int .i64 ((i : Nat) : Int)) rfl (vint (by omega))
                                   replace hA := hA.rw 18 (v' := .int .i64 (((i : Nat) : Int) - 1)) rfl (vint (by omega))
                                   replace hS := hS.front 5 (C := Cr) (L' := L37 :: (E39 ++ D) :: [(b32, rowO [.int .u64 pt, .int .u64 x10f4, .int .u32 x10f5, .int .u16 x10f6, .int .u16 x10f7, .int .u64 x10f8, .int .u32 x10f9, .int .u8 x10f10, .int .u64 x10f11, .int .u64 x10f12, .slice x10A13 x10b13.length x10c13] 37)] :: [(b12, rowO [.int .u8 x10f0, .int .u8 x10f1, .int .u8 x10f2, .int .u64 x10f3, .int .u64 x10f4, .int .u32 x10f5, .int .u16 x10f6, .int .u16 x10f7, .int .u64 x10f8, .int .u32 x10f9, .int .u8 x10f10, .int .u64 x10f11, .int .u64 x10f12, .slice x10A13 x10b13.length x10c13] 39)] :: Cw :: F) rfl rfl
                                   replace hS := hS.front 5 (C := Cw) (L' := Cr :: L37 :: (E39 ++ D) :: [(b32, rowO [.int .u64 pt, .int .u64 x10f4, .int .u32 x10f5, .int .u16 x10f6, .int .u16 x10f7, .int .u64 x10f8, .int .u32 x10f9, .int .u8 x10f10, .int .u64 x10f11, .int .u64 x10f12, .slice x10A13 x10b13.length x10c13] 37)] :: [(b12, rowO [.int .u8 x10f0, .int .u8 x10f1, .int .u8 x10f2, .int .u64 x10f3, .int .u64 x10f4, .int .u32 x10f5, .int .u16 x10f6, .int .u16 x10f7, .int .u64 x10f8, .int .u32 x10f9, .int .u8 x10f10, .int .u64 x10f11, .int .u64 x10f12, .slice x10A13 x10b13.length x10c13] 39)] :: F) rfl rfl
                                   replace hS := hS.front 5 (C := [(b12, rowO [.int .u8 x10f0, .int .u8 x10f1, .int .u8 x10f2, .int .u64 x10f3, .int .u64 x10f4, .int .u32 x10f5, .int .u16 x10f6, .int .u16 x10f7, .int .u64 x10f8, .int .u32 x10f9, .int .u8 x10f10, .int .u64 x10f11, .int .u64 x10f12, .slice x10A13 x10b13.length x10c13] 39)]) (L' := Cw :: Cr :: L37 :: (E39 ++ D) :: [(b32, rowO [.int .u64 pt, .int .u64 x10f4, .int .u32 x10f5, .int .u16 x10f6, .int .u16 x10f7, .int .u64 x10f8, .int .u32 x10f9, .int .u8 x10f10, .int .u64 x10f11, .int .u64 x10f12, .slice x10A13 x10b13.length x10c13] 37)] :: F) rfl rfl
                                   replace hS := hS.front 5 (C := [(b32, rowO [.int .u64 pt, .int .u64 x10f4, .int .u32 x10f5, .int .u16 x10f6, .int .u16 x10f7, .int .u64 x10f8, .int .u32 x10f9, .int .u8 x10f10, .int .u64 x10f11, .int .u64 x10f12, .slice x10A13 x10b13.length x10c13] 37)]) (L' := [(b12, rowO [.int .u8 x10f0, .int .u8 x10f1, .int .u8 x10f2, .int .u64 x10f3, .int .u64 x10f4, .int .u32 x10f5, .int .u16 x10f6, .int .u16 x10f7, .int .u64 x10f8, .int .u32 x10f9, .int .u8 x10f10, .int .u64 x10f11, .int .u64 x10f12, .slice x10A13 x10b13.length x10c13] 39)] :: Cw :: Cr :: L37 :: (E39 ++ D) :: F) rfl rfl
                                   replace hS := hS.front 5 (C := (E39 ++ D)) (L' := [(b32, rowO [.int .u64 pt, .int .u64 x10f4, .int .u32 x10f5, .int .u16 x10f6, .int .u16 x10f7, .int .u64 x10f8, .int .u32 x10f9, .int .u8 x10f10, .int .u64 x10f11, .int .u64 x10f12, .slice x10A13 x10b13.length x10c13] 37)] :: [(b12, rowO [.int .u8 x10f0, .int .u8 x10f1, .int .u8 x10f2, .int .u64 x10f3, .int .u64 x10f4, .int .u32 x10f5, .int .u16 x10f6, .int .u16 x10f7, .int .u64 x10f8, .int .u32 x10f9, .int .u8 x10f10, .int .u64 x10f11, .int .u64 x10f12, .slice x10A13 x10b13.length x10c13] 39)] :: Cw :: Cr :: L37 :: F) rfl rfl
                                   replace hS := hS.front 5 (C := L37) (L' := (E39 ++ D) :: [(b32, rowO [.int .u64 pt, .int .u64 x10f4, .int .u32 x10f5, .int .u16 x10f6, .int .u16 x10f7, .int .u64 x10f8, .int .u32 x10f9, .int .u8 x10f10, .int .u64 x10f11, .int .u64 x10f12, .slice x10A13 x10b13.length x10c13] 37)] :: [(b12, rowO [.int .u8 x10f0, .int .u8 x10f1, .int .u8 x10f2, .int .u64 x10f3, .int .u64 x10f4, .int .u32 x10f5, .int .u16 x10f6, .int .u16 x10f7, .int .u64 x10f8, .int .u32 x10f9, .int .u8 x10f10, .int .u64 x10f11, .int .u64 x10f12, .slice x10A13 x10b13.length x10c13] 39)] :: Cw :: Cr :: F) rfl rfl
                                   exact lp_next _ (by omega) ⟨i, ((i : Nat) : Int), rfl, (hA.sel [3, 4, 5, 8, 13, 14, 15, 16, 17, 18, 33, 34, 35] rfl), hS, by omega, fnd2.yes hx47 (by assumption)⟩)
                              · first
                                | (exfalso; omega)
                                | (replace hA := hA.rw 117 (v' := .bool false) rfl (vb_eq_f hc48)
                                   refine cd_cond_f hA rfl ?_
                                   refine wp_skip ?_
                                   refine xb_norm ?_
                                   refine xt_norm ?_
                                   refine wp_region_lit ?_
                                   refine st_run tbOk 2 hA (e' := (110, .int .i64 (IntKind.i64.wrap (((i : Nat) : Int) - 1))) :: (109, .int .i64 ((i : Nat) : Int)) :: _) rfl ?_; clear hA; intro a hA
                                   replace hA := hA.rw 110 (v' := .int .i64 (((i : Nat) : Int) - 1)) rfl (wr64 (by omega) (by omega) (by omega))
                                   refine st_run tbOk 1 hA (e' := (18, .int .i64 (((i : Nat) : Int) - 1)) :: _) rfl ?_; clear hA; intro a hA
                                   refine wpList_nil ?_
                                   replace hA := hA.sel [3, 4, 5, 8, 13, 14, 15, 16, 17, 18, 33, 34, 35] (e' := [(3, .pointer (some ⟨b2, 0, none⟩)), (4, .slice (some ⟨b45, o46, none⟩) ((ws).length) cw), (5, .slice Ar ((rs).length) cr), (8, .int .u64 pt), (13, .pointer (some ⟨b32, 0, none⟩)), (14, .int .i64 0), (15, .bool false), (16, .nilIface), (17, .int .i64 av), (18, .int .i64 (((i : Nat) : Int) - 1)), (33, .slice (some ⟨b8, o9, none⟩) l.length c), (34, .int .i64 ((l.length : Nat) : Int)), (35, .int .i64 ((k : Nat) : Int))]) rfl
                                   replace hA := hA.rw 18 (v' := .int .i64 (((i : Nat) : Int) - 1)) rfl (vint (by omega))
                                   replace hS := hS.front 5 (C := Cr) (L' := L37 :: (E39 ++ D) :: [(b32, rowO [.int .u64 pt, .int .u64 x10f4, .int .u32 x10f5, .int .u16 x10f6, .int .u16 x10f7, .int .u64 x10f8, .int .u32 x10f9, .int .u8 x10f10, .int .u64 x10f11, .int .u64 x10f12, .slice x10A13 x10b13.length x10c13] 37)] :: [(b12, rowO [.int .u8 x10f0, .int .u8 x10f1, .int .u8 x10f2, .int .u64 x10f3, .int .u64 x10f4, .int .u32 x10f5, .int .u16 x10f6, .int .u16 x10f7, .int .u64 x10f8, .int .u32 x10f9, .int .u8 x10f10, .int .u64 x10f11, .int .u64 x10f12, .slice x10A13 x10b13.length x10c13] 39)] :: Cw :: F) rfl rfl
                                   replace hS := hS.front 5 (C := Cw) (L' := Cr :: L37 :: (E39 ++ D) :: [(b32, rowO [.int .u64 pt, .int .u64 x10f4, .int .u32 x10f5, .int .u16 x10f6, .int .u16 x10f7, .int .u64 x10f8, .int .u32 x10f9, .int .u8 x10f10, .int .u64 x10f11, .int .u64 x10f12, .slice x10A13 x10b13.length x10c13] 37)] :: [(b12, rowO [.int .u8 x10f0, .int .u8 x10f1, .int .u8 x10f2, .int .u64 x10f3, .int .u64 x10f4, .int .u32 x10f5, .int .u16 x10f6, .int .u16 x10f7, .int .u64 x10f8, .int .u32 x10f9, .int .u8 x10f10, .int .u64 x10f11, .int .u64 x10f12, .slice x10A13 x10b13.length x10c13] 39)] :: F) rfl rfl
                                   replace hS := hS.front 5 (C := [(b12, rowO [.int .u8 x10f0, .int .u8 x10f1, .int .u8 x10f2, .int .u64 x10f3, .int .u64 x10f4, .int .u32 x10f5, .int .u16 x10f6, .int .u16 x10f7, .int .u64 x10f8, .int .u32 x10f9, .int .u8 x10f10, .int .u64 x10f11, .int .u64 x10f12, .slice x10A13 x10b13.length x10c13] 39)]) (L' := Cw :: Cr :: L37 :: (E39 ++ D) :: [(b32, rowO [.int .u64 pt, .int .u64 x10f4, .int .u32 x10f5, .int .u16 x10f6, .int .u16 x10f7, .int .u64 x10f8, .int .u32 x10f9, .int .u8 x10f10, .int .u64 x10f11, .int .u64 x10f12, .slice x10A13 x10b13.length x10c13] 37)] :: F) rfl rfl
                                   replace hS := hS.front 5 (C := [(b32, rowO [.int .u64 pt, .int .u64 x10f4, .int .u32 x10f5, .int .u16 x10f6, .int .u16 x10f7, .int .u64 x10f8, .int .u32 x10f9, .int .u8 x10f10, .int .u64 x10f11, .int .u64 x10f12, .slice x10A13 x10b13.length x10c13] 37)]) (L' := [(b12, rowO [.int .u8 x10f0, .int .u8 x10f1, .int .u8 x10f2, .int .u64 x10f3, .int .u64 x10f4, .int .u32 x10f5, .int .u16 x10f6, .int .u16 x10f7, .int .u64 x10f8, .int .u32 x10f9, .int .u8 x10f10, .int .u64 x10f11, .int .u64 x10f12, .slice x10A13 x10b13.length x10c13] 39)] :: Cw :: Cr :: L37 :: (E39 ++ D) :: F) rfl rfl
                                   replace hS := hS.front 5 (C := (E39 ++ D)) (L' := [(b32, rowO [.int .u64 pt, .int .u64 x10f4, .int .u32 x10f5, .int .u16 x10f6, .int .u16 x10f7, .int .u64 x10f8, .int .u32 x10f9, .int .u8 x10f10, .int .u64 x10f11, .int .u64 x10f12, .slice x10A13 x10b13.length x10c13] 37)] :: [(b12, rowO [.int .u8 x10f0, .int .u8 x10f1, .int .u8 x10f2, .int .u64 x10f3, .int .u64 x10f4, .int .u32 x10f5, .int .u16 x10f6, .int .u16 x10f7, .int .u64 x10f8, .int .u32 x10f9, .int .u8 x10f10, .int .u64 x10f11, .int .u64 x10f12, .slice x10A13 x10b13.length x10c13] 39)] :: Cw :: Cr :: L37 :: F) rfl rfl
                                   replace hS := hS.front 5 (C := L37) (L' := (E39 ++ D) :: [(b32, rowO [.int .u64 pt, .int .u64 x10f4, .int .u32 x10f5, .int .u16 x10f6, .int .u16 x10f7, .int .u64 x10f8, .int .u32 x10f9, .int .u8 x10f10, .int .u64 x10f11, .int .u64 x10f12, .slice x10A13 x10b13.length x10c13] 37)] :: [(b12, rowO [.int .u8 x10f0, .int .u8 x10f1, .int .u8 x10f2, .int .u64 x10f3, .int .u64 x10f4, .int .u32 x10f5, .int .u16 x10f6, .int .u16 x10f7, .int .u64 x10f8, .int .u32 x10f9, .int .u8 x10f10, .int .u64 x10f11, .int .u64 x10f12, .slice x10A13 x10b13.length x10c13] 39)] :: Cw :: Cr :: F) rfl rfl
                                   exact lp_next _ (by omega) ⟨i, av, rfl, (hA.sel [3, 4, 5, 8, 13, 14, 15, 16, 17, 18, 33, 34, 35] rfl), hS, by omega, hav.no hx47 (by assumption)⟩))
                         · first
                           | (exfalso; omega)
                           | (replace hA := hA.rw 108 (v' := .bool false) rfl (vb_false hc44)
                              refine cd_cond_f hA rfl ?_
                              refine wp_exit ?_
                              refine xt_exit ?_
                              refine xt_exit ?_
                              refine cd_exit_eq ?_
                              refine xt_norm ?_
                              refine wp_seq ?_
                              refine wp_seq ?_
                              refine wp_region_lit ?_
                              have hj0 : j = 0 := by omega
                              rw [hj0] at hav
                              have hae := hav.none hno
                              replace hA := hA.rw 17 (v' := .int .i64 (-1)) rfl (by rw [hae])
                              refine st_run tbOk 2 hA (e' := (120, .bool false) :: (119, .int .i64 (-1)) :: _) rfl ?_; clear hA; intro a hA
                              refine wpList_nil ?_
                              replace hA := hA.sel [3, 4, 5, 13, 14, 15, 16, 17, 33, 34, 35, 120] (e' := [(3, .pointer (some ⟨b2, 0, none⟩)), (4, .slice Aw ((ws).length) cw), (5, .slice Ar ((rs).length) cr), (13, .pointer (some ⟨b32, 0, none⟩)), (14, .int .i64 0), (15, .bool false), (16, .nilIface), (17, .int .i64 (-1)), (33, .slice (some ⟨b8, o9, none⟩) l.length c), (34, .int .i64 ((l.length : Nat) : Int)), (35, .int .i64 ((k : Nat) : Int)), (120, .bool false)]) rfl
                              refine xt_norm ?_
                              refine cd_cond_f hA rfl ?_
                              refine wp_skip ?_
                              refine xt_norm ?_
                              refine wp_seq ?_
                              refine wp_seq ?_
                              refine wp_region_lit ?_
                              refine st_run tbOk 10 hA (e' := (154, .bool (decide ((((rs).length : Nat) : Int) ≥ 64))) :: (153, .bool (decide ((((rs).length : Nat) : Int) ≥ 64))) :: (152, .int .i64 (((rs).length : Nat) : Int)) :: (151, .slice Ar ((rs).length) cr) :: (150, .bool false) :: (149, .bool false) :: (148, .bool false) :: (147, .int .i64 0) :: (146, .bool false) :: (145, .bool false) :: _) rfl ?_; clear hA; intro a hA
                              have hc49 : ¬ ((((rs).length : Nat) : Int) ≥ 64) := by omega
                              replace hA := hA.rw 153 (v' := .bool false) rfl (vb_false hc49)
                              replace hA := hA.rw 154 (v' := .bool false) rfl (vb_false hc49)
                              refine st_run tbOk 10 hA (e' := (164, .bool (decide ((((rs).length : Nat) : Int) < 64))) :: (163, .bool (decide ((((rs).length : Nat) : Int) < 64))) :: (162, .int .i64 (((rs).length : Nat) : Int)) :: (161, .slice Ar ((rs).length) cr) :: (160, .bool false) :: (159, .bool false) :: (158, .bool false) :: (157, undef) :: (156, undef) :: (155, undef) :: _) rfl ?_; clear hA; intro a hA
                              have hc50 : (((rs).length : Nat) : Int) < 64 := by omega
                              replace hA := hA.rw 163 (v' := .bool true) rfl (vb_true hc50)
                              replace hA := hA.rw 164 (v' := .bool true) rfl (vb_true hc50)
                              refine st_run tbOk 4 hA (e' := (168, .bool false) :: (167, .bool false) :: (166, .bool false) :: (165, .nilIface) :: _) rfl ?_; clear hA; intro a hA
                              refine wpList_nil ?_
                              replace hA := hA.sel [3, 4, 5, 13, 33, 34, 35, 168] (e' := [(3, .pointer (some ⟨b2, 0, none⟩)), (4, .slice Aw ((ws).length) cw), (5, .slice Ar ((rs).length) cr), (13, .pointer (some ⟨b32, 0, none⟩)), (33, .slice (some ⟨b8, o9, none⟩) l.length c), (34, .int .i64 ((l.length : Nat) : Int)), (35, .int .i64 ((k : Nat) : Int)), (168, .bool false)]) rfl
                              refine xt_norm ?_
                              refine cd_cond_f hA rfl ?_
                              refine wp_skip ?_
                              refine xt_norm ?_
                              refine wp_seq ?_
                              refine wp_region_lit ?_
                              refine st_run tbOk 3 hA (e' := (171, .bool (decide ((((rs).length : Nat) : Int) < 64))) :: (170, .int .i64 (((rs).length : Nat) : Int)) :: (169, .slice Ar ((rs).length) cr) :: _) rfl ?_; clear hA; intro a hA
                              refine wpList_nil ?_
                              replace hA := hA.sel [3, 4, 5, 13, 33, 34, 35, 171] (e' := [(3, .pointer (some ⟨b2, 0, none⟩)), (4, .slice Aw ((ws).length) cw), (5, .slice Ar ((rs).length) cr), (13, .pointer (some ⟨b32, 0, none⟩)), (33, .slice (some ⟨b8, o9, none⟩) l.length c), (34, .int .i64 ((l.length : Nat) : Int)), (35, .int .i64 ((k : Nat) : Int)), (171, .bool (decide ((((rs).length : Nat) : Int) < 64)))]) rfl
                              refine xt_norm ?_
                              have hc51 : (((rs).length : Nat) : Int) < 64 := by omega
                              replace hA := hA.rw 171 (v' := .bool true) rfl (vb_true hc51)
                              refine cd_cond_t hA rfl ?_
                              refine wp_region_lit ?_
                              refine st_run tbOk 1 hA (e' := (172, .slice Ar ((rs).length) cr) :: _) rfl ?_; clear hA; intro a hA
                              refine st_val hA rfl rfl (by decide) (rn_loadA tbOk hA [.int .u64 pt, .int .u64 x10f4, .int .u32 x10f5, .int .u16 x10f6, .int .u16 x10f7, .int .u64 x10f8, .int .u32 x10f9, .int .u8 x10f10, .int .u64 x10f11, .int .u64 x10f12, .slice x10A13 x10b13.length x10c13] rfl rfl rfl rfl rfl (cells_row (hS.heapAt 2 rfl) rfl)) ?_; clear hA; intro a hA
                              refine st_buildSlice tbOk hA hS [.int .u64 pt, .int .u64 x10f4, .int .u32 x10f5, .int .u16 x10f6, .int .u16 x10f7, .int .u64 x10f8, .int .u32 x10f9, .int .u8 x10f10, .int .u64 x10f11, .int .u64 x10f12, .slice x10A13 x10b13.length x10c13] rfl rfl rfl rfl rfl (by decide) (by kernel_rfl) rfl rfl (by decide) ?_; clear hA hS; intro b52 w53 a hS hA
                              replace hS := hS.front 6 (C := Cr) (L' := [(b52, rowO [.int .u64 pt, .int .u64 x10f4, .int .u32 x10f5, .int .u16 x10f6, .int .u16 x10f7, .int .u64 x10f8, .int .u32 x10f9, .int .u8 x10f10, .int .u64 x10f11, .int .u64 x10f12, .slice x10A13 x10b13.length x10c13] 37)] :: L37 :: (E39 ++ D) :: [(b32, rowO [.int .u64 pt, .int .u64 x10f4, .int .u32 x10f5, .int .u16 x10f6, .int .u16 x10f7, .int .u64 x10f8, .int .u32 x10f9, .int .u8 x10f10, .int .u64 x10f11, .int .u64 x10f12, .slice x10A13 x10b13.length x10c13] 37)] :: [(b12, rowO [.int .u8 x10f0, .int .u8 x10f1, .int .u8 x10f2, .int .u64 x10f3, .int .u64 x10f4, .int .u32 x10f5, .int .u16 x10f6, .int .u16 x10f7, .int .u64 x10f8, .int .u32 x10f9, .int .u8 x10f10, .int .u64 x10f11, .int .u64 x10f12, .slice x10A13 x10b13.length x10c13] 39)] :: Cw :: F) rfl rfl
                              refine st_append tbOk hA (m := rs.length) (q := 1) (xs := rows encMessage rs) (news := rows encMessage ([(pt, x10f4, x10f5, x10f6, x10f7, x10f8, x10f9, x10f10, x10f11, x10f12, x10A13, x10c13, x10b13)] : List (Int × Int × Int × Int × Int × Int × Int × Int × Int × Int × Option Addr × Nat × List UInt8))) rfl rfl rfl rfl rfl rfl rfl rfl (by decide) hR hS (((Own.full (T := 37) (size := 11) (g := b52) (m := 1) rfl (by decide)).rd (hS.own_ 1 rfl)).x) (rows_one encMessage_ok _) (maxLen_le (by first | omega | (simp; omega))) (by show (rs.length + 1) * 80 ≤ 140737488355328; first | omega | (simp; omega)) rfl rfl (by decide) ?_
                              clear hA hS; intro v54 w55 C56 a hO56 hS hA
                              replace hO56 := Own.app (l := rs) (l2 := ([(pt, x10f4, x10f5, x10f6, x10f7, x10f8, x10f9, x10f10, x10f11, x10f12, x10A13, x10c13, x10b13)] : List (Int × Int × Int × Int × Int × Int × Int × Int × Int × Int × Option Addr × Nat × List UInt8))) hO56
                              obtain ⟨A57, c58, rfl, hmc58, hxc58⟩ := hO56.open'
                              refine st_run tbOk 1 hA (e' := (5, .slice A57 ((rs ++ ([(pt, x10f4, x10f5, x10f6, x10f7, x10f8, x10f9, x10f10, x10f11, x10f12, x10A13, x10c13, x10b13)] : List (Int × Int × Int × Int × Int × Int × Int × Int × Int × Int × Option Addr × Nat × List UInt8))).length) c58) :: _) rfl ?_; clear hA; intro a hA
                              refine wpList_nil ?_
                              replace hA := hA.sel [3, 4, 5, 33, 34, 35] (e' := [(3, .pointer (some ⟨b2, 0, none⟩)), (4, .slice Aw ((ws).length) cw), (5, .slice A57 ((rs ++ ([(pt, x10f4, x10f5, x10f6, x10f7, x10f8, x10f9, x10f10, x10f11, x10f12, x10A13, x10c13, x10b13)] : List (Int × Int × Int × Int × Int × Int × Int × Int × Int × Int × Option Addr × Nat × List UInt8))).length) c58), (33, .slice (some ⟨b8, o9, none⟩) l.length c), (34, .int .i64 ((l.length : Nat) : Int)), (35, .int .i64 ((k : Nat) : Int))]) rfl
                              refine xb_norm ?_
                              refine xt_norm ?_
                              have hdr2 : ∀ x ∈ (rs ++ ([(pt, x10f4, x10f5, x10f6, x10f7, x10f8, x10f9, x10f10, x10f11, x10f12, x10A13, x10c13, x10b13)] : List (Int × Int × Int × Int × Int × Int × Int × Int × Int × Int × Option Addr × Nat × List UInt8))), ∀ D, encMessage_dd w0 D x := fun x hx D => (List.mem_append.1 hx).elim (fun h => hdr x h D) (fun h => by rw [List.mem_singleton.1 h]; exact DD.of hgr.2.2.2.2.2.2.2.2.2.2.1)
                              replace hS := hS.front 1 (C := [(b52, rowO [.int .u64 pt, .int .u64 x10f4, .int .u32 x10f5, .int .u16 x10f6, .int .u16 x10f7, .int .u64 x10f8, .int .u32 x10f9, .int .u8 x10f10, .int .u64 x10f11, .int .u64 x10f12, .slice x10A13 x10b13.length x10c13] 37)]) (L' := C56 :: L37 :: (E39 ++ D) :: [(b32, rowO [.int .u64 pt, .int .u64 x10f4, .int .u32 x10f5, .int .u16 x10f6, .int .u16 x10f7, .int .u64 x10f8, .int .u32 x10f9, .int .u8 x10f10, .int .u64 x10f11, .int .u64 x10f12, .slice x10A13 x10b13.length x10c13] 37)] :: [(b12, rowO [.int .u8 x10f0, .int .u8 x10f1, .int .u8 x10f2, .int .u64 x10f3, .int .u64 x10f4, .int .u32 x10f5, .int .u16 x10f6, .int .u16 x10f7, .int .u64 x10f8, .int .u32 x10f9, .int .u8 x10f10, .int .u64 x10f11, .int .u64 x10f12, .slice x10A13 x10b13.length x10c13] 39)] :: Cw :: F) rfl rfl
                              replace hS := hS.drop1
                              replace hS := hS.front 3 (C := [(b32, rowO [.int .u64 pt, .int .u64 x10f4, .int .u32 x10f5, .int .u16 x10f6, .int .u16 x10f7, .int .u64 x10f8, .int .u32 x10f9, .int .u8 x10f10, .int .u64 x10f11, .int .u64 x10f12, .slice x10A13 x10b13.length x10c13] 37)]) (L' := C56 :: L37 :: (E39 ++ D) :: [(b12, rowO [.int .u8 x10f0, .int .u8 x10f1, .int .u8 x10f2, .int .u64 x10f3, .int .u64 x10f4, .int .u32 x10f5, .int .u16 x10f6, .int .u16 x10f7, .int .u64 x10f8, .int .u32 x10f9, .int .u8 x10f10, .int .u64 x10f11, .int .u64 x10f12, .slice x10A13 x10b13.length x10c13] 39)] :: Cw :: F) rfl rfl
                              replace hS := hS.drop1
                              replace hS := hS.front 3 (C := [(b12, rowO [.int .u8 x10f0, .int .u8 x10f1, .int .u8 x10f2, .int .u64 x10f3, .int .u64 x10f4, .int .u32 x10f5, .int .u16 x10f6, .int .u16 x10f7, .int .u64 x10f8, .int .u32 x10f9, .int .u8 x10f10, .int .u64 x10f11, .int .u64 x10f12, .slice x10A13 x10b13.length x10c13] 39)]) (L' := C56 :: L37 :: (E39 ++ D) :: Cw :: F) rfl rfl
                              replace hS := hS.drop1
                              replace hS := hS.front 3 (C := Cw) (L' := C56 :: L37 :: (E39 ++ D) :: F) rfl rfl
                              replace hS := hS.front 3 (C := (E39 ++ D)) (L' := Cw :: C56 :: L37 :: F) rfl rfl
                              replace hS := hS.front 3 (C := L37) (L' := (E39 ++ D) :: Cw :: C56 :: F) rfl rfl
                              exact ⟨(ws), (ms ++ [(pt, x10f4, x10f5, x10f6, x10f7, x10f8, x10f9, x10f10, x10f11, x10f12, A40, c41, x10b13)]), (rs ++ ([(pt, x10f4, x10f5, x10f6, x10f7, x10f8, x10f9, x10f10, x10f11, x10f12, x10A13, x10c13, x10b13)] : List (Int × Int × Int × Int × Int × Int × Int × Int × Int × Int × Option Addr × Nat × List UInt8))), L37, (E39 ++ D), Aw, cw, Cw, A57, c58, C56, (hA.sel [3, 4, 5, 33, 34, 35] rfl), hS, (hI.req rfl hr64), hM38, hW, hO56, hdm2, hdr2⟩)
                       · replace hS := hS.front 3 (C := D) (L' := [(b32, rowO [.int .u64 pt, .int .u64 x10f4, .int .u32 x10f5, .int .u16 x10f6, .int .u16 x10f7, .int .u64 x10f8, .int .u32 x10f9, .int .u8 x10f10, .int .u64 x10f11, .int .u64 x10f12, .slice x10A13 x10b13.length x10c13] 37)] :: [(b12, rowO [.int .u8 x10f0, .int .u8 x10f1, .int .u8 x10f2, .int .u64 x10f3, .int .u64 x10f4, .int .u32 x10f5, .int .u16 x10f6, .int .u16 x10f7, .int .u64 x10f8, .int .u32 x10f9, .int .u8 x10f10, .int .u64 x10f11, .int .u64 x10f12, .slice x10A13 x10b13.length x10c13] 39)] :: L1 :: Cw :: Cr :: F) rfl rfl
                         replace hS := hS.front 3 (C := L1) (L' := D :: [(b32, rowO [.int .u64 pt, .int .u64 x10f4, .int .u32 x10f5, .int .u16 x10f6, .int .u16 x10f7, .int .u64 x10f8, .int .u32 x10f9, .int .u8 x10f10, .int .u64 x10f11, .int .u64 x10f12, .slice x10A13 x10b13.length x10c13] 37)] :: [(b12, rowO [.int .u8 x10f0, .int .u8 x10f1, .int .u8 x10f2, .int .u64 x10f3, .int .u64 x10f4, .int .u32 x10f5, .int .u16 x10f6, .int .u16 x10f7, .int .u64 x10f8, .int .u32 x10f9, .int .u8 x10f10, .int .u64 x10f11, .int .u64 x10f12, .slice x10A13 x10b13.length x10c13] 39)] :: Cw :: Cr :: F) rfl rfl
                         refine st_call0 hA rfl rfl rfl isfn6 rfl rfl (by decide) (offer_full6 hS hM1 pt x10f4 x10f5 x10f6 x10f7 x10f8 x10f9 x10f10 x10f11 x10f12 (bs := x10b13) (fun w' h => (hd11 _ (h.only 0 rfl))) (by first | omega | exact Nat.zero_le _) hno (by omega)) ?_
                         clear hA hS; rintro _ w59 a ⟨L60, hM61, rfl, hS⟩ hA
                         refine st_run tbOk 7 hA (e' := (16, .iface 47 (.int .i64 5)) :: (15, .bool false) :: (14, .int .i64 0) :: (103, .iface 47 (.int .i64 5)) :: (102, .bool false) :: (101, .int .i64 0) :: (97, .tuple #[.int .i64 0, .bool false, .iface 47 (.int .i64 5)]) :: _) rfl ?_; clear hA; intro a hA
                         refine wpList_nil ?_
                         replace hA := hA.sel [3, 4, 5, 8, 13, 14, 15, 16, 33, 34, 35] (e' := [(3, .pointer (some ⟨b2, 0, none⟩)), (4, .slice Aw ((ws).length) cw), (5, .slice Ar ((rs).length) cr), (8, .int .u64 pt), (13, .pointer (some ⟨b32, 0, none⟩)), (14, .int .i64 0), (15, .bool false), (16, .iface 47 (.int .i64 5)), (33, .slice (some ⟨b8, o9, none⟩) l.length c), (34, .int .i64 ((l.length : Nat) : Int)), (35, .int .i64 ((k : Nat) : Int))]) rfl
                         refine xt_norm ?_
                         refine wp_seq ?_
                         refine wp_region_lit ?_
                         refine st_run tbOk 1 hA (e' := (17, .int .i64 (-1)) :: _) rfl ?_; clear hA; intro a hA
                         refine wpList_nil ?_
                         refine xt_norm ?_
                         refine wp_seq ?_
                         refine wp_seq ?_
                         refine wp_region_lit ?_
                         refine st_run tbOk 3 hA (e' := (106, .int .i64 (IntKind.i64.wrap ((((ws).length : Nat) : Int) - 1))) :: (105, .int .i64 (((ws).length : Nat) : Int)) :: (104, .slice Aw ((ws).length) cw) :: _) rfl ?_; clear hA; intro a hA
                         replace hA := hA.rw 106 (v' := .int .i64 ((((ws).length : Nat) : Int) - 1)) rfl (wr64 (by omega) (by omega) (by omega))
                         refine st_run tbOk 1 hA (e' := (18, .int .i64 ((((ws).length : Nat) : Int) - 1)) :: _) rfl ?_; clear hA; intro a hA
                         refine wpList_nil ?_
                         replace hA := hA.sel [3, 4, 5, 8, 13, 14, 15, 16, 17, 18, 33, 34, 35] (e' := [(3, .pointer (some ⟨b2, 0, none⟩)), (4, .slice Aw ((ws).length) cw), (5, .slice Ar ((rs).length) cr), (8, .int .u64 pt), (13, .pointer (some ⟨b32, 0, none⟩)), (14, .int .i64 0), (15, .bool false), (16, .iface 47 (.int .i64 5)), (17, .int .i64 (-1)), (18, .int .i64 ((((ws).length : Nat) : Int) - 1)), (33, .slice (some ⟨b8, o9, none⟩) l.length c), (34, .int .i64 ((l.length : Nat) : Int)), (35, .int .i64 ((k : Nat) : Int))]) rfl
                         refine xt_norm ?_
                         refine wp_block ?_
                         refine wp_loop_ghost (fun m a w => ∃ (j : Nat) (av : Int), m = 0 + j ∧ Has a 269 [(3, .pointer (some ⟨b2, 0, none⟩)), (4, .slice Aw ((ws).length) cw), (5, .slice Ar ((rs).length) cr), (8, .int .u64 pt), (13, .pointer (some ⟨b32, 0, none⟩)), (14, .int .i64 0), (15, .bool false), (16, .iface 47 (.int .i64 5)), (17, .int .i64 av), (18, .int .i64 (((j : Nat) : Int) - 1)), (33, .slice (some ⟨b8, o9, none⟩) l.length c), (34, .int .i64 ((l.length : Nat) : Int)), (35, .int .i64 ((k : Nat) : Int))] ∧ St w0 w (L60 :: D :: [(b32, rowO [.int .u64 pt, .int .u64 x10f4, .int .u32 x10f5, .int .u16 x10f6, .int .u16 x10f7, .int .u64 x10f8, .int .u32 x10f9, .int .u8 x10f10, .int .u64 x10f11, .int .u64 x10f12, .slice x10A13 x10b13.length x10c13] 37)] :: [(b12, rowO [.int .u8 x10f0, .int .u8 x10f1, .int .u8 x10f2, .int .u64 x10f3, .int .u64 x10f4, .int .u32 x10f5, .int .u16 x10f6, .int .u16 x10f7, .int .u64 x10f8, .int .u32 x10f9, .int .u8 x10f10, .int .u64 x10f11, .int .u64 x10f12, .slice x10A13 x10b13.length x10c13] 39)] :: Cw :: Cr :: F) ∧ (j ≤ ws.length) ∧ (fnd2 (fun y : Int × Int => y.1 = pt) ws j av)) (0 + ws.length)
                           ⟨ws.length, (-1), rfl, (hA.sel [3, 4, 5, 8, 13, 14, 15, 16, 17, 18, 33, 34, 35] rfl), hS, Nat.le_refl _, fnd2.init⟩ ?_
                         clear hA hS; rintro m0 a w62 ⟨j, av, rfl, hA, hS, hj, hav⟩
                         refine wp_seq ?_
                         refine wp_seq ?_
                         refine wp_region_lit ?_
                         refine st_run tbOk 2 hA (e' := (108, .bool (decide (((j : Nat) : Int) - 1 ≥ 0))) :: (107, .int .i64 (((j : Nat) : Int) - 1)) :: _) rfl ?_; clear hA; intro a hA
                         refine wpList_nil ?_
                         replace hA := hA.sel [3, 4, 5, 8, 13, 14, 15, 16, 17, 18, 33, 34, 35, 108] (e' := [(3, .pointer (some ⟨b2, 0, none⟩)), (4, .slice Aw ((ws).length) cw), (5, .slice Ar ((rs).length) cr), (8, .int .u64 pt), (13, .pointer (some ⟨b32, 0, none⟩)), (14, .int .i64 0), (15, .bool false), (16, .iface 47 (.int .i64 5)), (17, .int .i64 av), (18, .int .i64 (((j : Nat) : Int) - 1)), (33, .slice (some ⟨b8, o9, none⟩) l.length c), (34, .int .i64 ((l.length : Nat) : Int)), (35, .int .i64 ((k : Nat) : Int)), (108, .bool (decide (((j : Nat) : Int) - 1 ≥ 0)))]) rfl
                         refine xt_norm ?_
                         by_cases hc63 : ((j : Nat) : Int) - 1 ≥ 0
                         · first
                           | (exfalso; omega)
                           | (replace hA := hA.rw 108 (v' := .bool true) rfl (vb_true hc63)
                              refine cd_cond_t hA rfl ?_
                              refine wp_skip ?_
                              refine xt_norm ?_
                              refine wp_seq ?_
                              refine wp_block ?_
                              refine wp_seq ?_
                              refine wp_region_lit ?_
                              obtain ⟨i, hij⟩ : ∃ i, j = i + 1 := ⟨j - 1, by omega⟩
                              subst hij
                              replace hA := hA.rw 18 (v' := .int .i64 ((i : Nat) : Int)) rfl (vint (by omega))
                              refine st_run tbOk 2 hA (e' := (112, .int .i64 ((i : Nat) : Int)) :: (111, .slice Aw ((ws).length) cw) :: _) rfl ?_; clear hA; intro a hA
                              obtain ⟨b64, o65, rfl⟩ := hW.isSome (k := i) (by omega)
                              refine st_val hA rfl rfl (by decide) (rn_indexAddr tbOk hA i (o65 + (i * 2)) rfl rfl rfl rfl rfl rfl (by rfl) (by omega) (by first | rfl | simp [Nat.mul_one, Nat.zero_add] | omega)) ?_; clear hA; intro a hA
                              refine st_run tbOk 1 hA (e' := (114, .pointer (some ⟨b64, o65 + (i * 2), none⟩)) :: _) rfl ?_; clear hA; intro a hA
                              obtain ⟨x66, hx66⟩ := get_ex (l := ws) (k := i) (by omega)
                              refine st_val hA rfl rfl (by decide) (rn_load tbOk hA rfl rfl rfl rfl ((hW.rd (hS.own_ 4 rfl)).elemf (k := i) encWait_ok hx66 (j := 0) rfl)) ?_; clear hA; intro a hA
                              refine st_run tbOk 2 hA (e' := (117, .bool (x66.1 == pt)) :: (116, .int .u64 pt) :: _) rfl ?_; clear hA; intro a hA
                              refine wpList_nil ?_
                              replace hA := hA.sel [3, 4, 5, 8, 13, 14, 15, 16, 17, 18, 33, 34, 35, 117] (e' := [(3, .pointer (some ⟨b2, 0, none⟩)), (4, .slice (some ⟨b64, o65, none⟩) ((ws).length) cw), (5, .slice Ar ((rs).length) cr), (8, .int .u64 pt), (13, .pointer (some ⟨b32, 0, none⟩)), (14, .int .i64 0), (15, .bool false), (16, .iface 47 (.int .i64 5)), (17, .int .i64 av), (18, .int .i64 ((i : Nat) : Int)), (33, .slice (some ⟨b8, o9, none⟩) l.length c), (34, .int .i64 ((l.length : Nat) : Int)), (35, .int .i64 ((k : Nat) : Int)), (117, .bool (x66.1 == pt))]) rfl
                              refine xt_norm ?_
                              by_cases hc67 : x66.1 = pt
                              · first
                                | (exfalso; omega)
                                | (replace hA := hA.rw 117 (v' := .bool true) rfl (vb_eq_t hc67)
                                   refine cd_cond_t hA rfl ?_
                                   refine wp_region_lit ?_
                                   refine st_run tbOk 2 hA (e' := (17, .int .i64 ((i : Nat) : Int)) :: (118, .int .i64 ((i : Nat) : Int)) :: _) rfl ?_; clear hA; intro a hA
                                   refine wpList_nil ?_
                                   replace hA := hA.sel [3, 4, 5, 8, 13, 14, 15, 16, 17, 18, 33, 34, 35] (e' := [(3, .pointer (some ⟨b2, 0, none⟩)), (4, .slice (some ⟨b64, o65, none⟩) ((ws).length) cw), (5, .slice Ar ((rs).length) cr), (8, .int .u64 pt), (13, .pointer (some ⟨b32, 0, none⟩)), (14, .int .i64 0), (15, .bool false), (16, .iface 47 (.int .i64 5)), (17, .int .i64 ((i : Nat) : Int)), (18, .int .i64 ((i : Nat) : Int)), (33, .slice (some ⟨b8, o9, none⟩) l.length c), (34, .int .i64 ((l.length : Nat) : Int)), (35, .int .i64 ((k : Nat) : Int))]) rfl
                                   refine xb_norm ?_
                                   refine xt_norm ?_
                                   refine wp_region_lit ?_
                                   refine st_run tbOk 2 hA (e' := (110, .int .i64 (IntKind.i64.wrap (((i : Nat) : Int) - 1))) :: (109, .int .i64 ((i : Nat) : Int)) :: _) rfl ?_; clear hA; intro a hA
                                   replace hA := hA.rw 110 (v' := .int .i64 (((i : Nat) : Int) - 1)) rfl (wr64 (by omega) (by omega) (by omega))
                                   refine st_run tbOk 1 hA (e' := (18, .int .i64 (((i : Nat) : Int) - 1)) :: _) rfl ?_; clear hA; intro a hA
                                   refine wpList_nil ?_
                                   replace hA := hA.sel [3, 4, 5, 8, 13, 14, 15, 16, 17, 18, 33, 34, 35] (e' := [(3, .pointer (some ⟨b2, 0, none⟩)), (4, .slice (some ⟨b64, o65, none⟩) ((ws).length) cw), (5, .slice Ar ((rs).length) cr), (8, .int .u64 pt), (13, .pointer (some ⟨b32, 0, none⟩)), (14, .int .i64 0), (15, .bool false), (16, .iface 47 (.int .i64 5)), (17, .int .i64 ((i : Nat) : Int)), (18, .int .i64 (((i : Nat) : Int) - 1)), (33, .slice (some ⟨b8, o9, none⟩) l.length c), (34, .int .i64 ((l.length : Nat) : Int)), (35, .int .i64 ((k : Nat) : Int))]) rfl
                                   replace hA := hA.rw 17 (v' := .int .i64 ((i : Nat) : Int)) rfl (vint (by omega))
                                   replace hA := hA.rw 18 (v' := .int .i64 (((i : Nat) : Int) - 1)) rfl (vint (by omega))
                                   replace hS := hS.front 5 (C := Cr) (L' := L60 :: D :: [(b32, rowO [.int .u64 pt, .int .u64 x10f4, .int .u32 x10f5, .int .u16 x10f6, .int .u16 x10f7, .int .u64 x10f8, .int .u32 x10f9, .int .u8 x10f10, .int .u64 x10f11, .int .u64 x10f12, .slice x10A13 x10b13.length x10c13] 37)] :: [(b12, rowO [.int .u8 x10f0, .int .u8 x10f1, .int .u8 x10f2, .int .u64 x10f3, .int .u64 x10f4, .int .u32 x10f5, .int .u16 x10f6, .int .u16 x10f7, .int .u64 x10f8, .int .u32 x10f9, .int .u8 x10f10, .int .u64 x10f11, .int .u64 x10f12, .slice x10A13 x10b13.length x10c13] 39)] :: Cw :: F) rfl rfl
                                   replace hS := hS.front 5 (C := Cw) (L' := Cr :: L60 :: D :: [(b32, rowO [.int .u64 pt, .int .u64 x10f4, .int .u32 x10f5, .int .u16 x10f6, .int .u16 x10f7, .int .u64 x10f8, .int .u32 x10f9, .int .u8 x10f10, .int .u64 x10f11, .int .u64 x10f12, .slice x10A13 x10b13.length x10c13] 37)] :: [(b12, rowO [.int .u8 x10f0, .int .u8 x10f1, .int .u8 x10f2, .int .u64 x10f3, .int .u64 x10f4, .int .u32 x10f5, .int .u16 x10f6, .int .u16 x10f7, .int .u64 x10f8, .int .u32 x10f9, .int .u8 x10f10, .int .u64 x10f11, .int .u64 x10f12, .slice x10A13 x10b13.length x10c13] 39)] :: F) rfl rfl
                                   replace hS := hS.front 5 (C := [(b12, rowO [.int .u8 x10f0, .int .u8 x10f1, .int .u8 x10f2, .int .u64 x10f3, .int .u64 x10f4, .int .u32 x10f5, .int .u16 x10f6, .int .u16 x10f7, .int .u64 x10f8, .int .u32 x10f9, .int .u8 x10f10, .int .u64 x10f11, .int .u64 x10f12, .slice x10A13 x10b13.length x10c13] 39)]) (L' := Cw :: Cr :: L60 :: D :: [(b32, rowO [.int .u64 pt, .int .u64 x10f4, .int .u32 x10f5, .int .u16 x10f6, .int .u16 x10f7, .int .u64 x10f8, .int .u32 x10f9, .int .u8 x10f10, .int .u64 x10f11, .int .u64 x10f12, .slice x10A13 x10b13.length x10c13] 37)] :: F) rfl rfl
                                   replace hS := hS.front 5 (C := [(b32, rowO [.int .u64 pt, .int .u64 x10f4, .int .u32 x10f5, .int .u16 x10f6, .int .u16 x10f7, .int .u64 x10f8, .int .u32 x10f9, .int .u8 x10f10, .int .u64 x10f11, .int .u64 x10f12, .slice x10A13 x10b13.length x10c13] 37)]) (L' := [(b12, rowO [.int .u8 x10f0, .int .u8 x10f1, .int .u8 x10f2, .int .u64 x10f3, .int .u64 x10f4, .int .u32 x10f5, .int .u16 x10f6, .int .u16 x10f7, .int .u64 x10f8, .int .u32 x10f9, .int .u8 x10f10, .int .u64 x10f11, .int .u64 x10f12, .slice x10A13 x10b13.length x10c13] 39)] :: Cw :: Cr :: L60 :: D :: F) rfl rfl
                                   replace hS := hS.front 5 (C := D) (L' := [(b32, rowO [.int .u64 pt, .int .u64 x10f4, .int .u32 x10f5, .int .u16 x10f6, .int .u16 x10f7, .int .u64 x10f8, .int .u32 x10f9, .int .u8 x10f10, .int .u64 x10f11, .int .u64 x10f12, .slice x10A13 x10b13.length x10c13] 37)] :: [(b12, rowO [.int .u8 x10f0, .int .u8 x10f1, .int .u8 x10f2, .int .u64 x10f3, .int .u64 x10f4, .int .u32 x10f5, .int .u16 x10f6, .int .u16 x10f7, .int .u64 x10f8, .int .u32 x10f9, .int .u8 x10f10, .int .u64 x10f11, .int .u64 x10f12, .slice x10A13 x10b13.length x10c13] 39)] :: Cw :: Cr :: L60 :: F) rfl rfl
                                   replace hS := hS.front 5 (C := L60) (L' := D :: [(b32, rowO [.int .u64 pt, .int .u64 x10f4, .int .u32 x10f5, .int .u16 x10f6, .int .u16 x10f7, .int .u64 x10f8, .int .u32 x10f9, .int .u8 x10f10, .int .u64 x10f11, .int .u64 x10f12, .slice x10A13 x10b13.length x10c13] 37)] :: [(b12, rowO [.int .u8 x10f0, .int .u8 x10f1, .int .u8 x10f2, .int .u64 x10f3, .int .u64 x10f4, .int .u32 x10f5, .int .u16 x10f6, .int .u16 x10f7, .int .u64 x10f8, .int .u32 x10f9, .int .u8 x10f10, .int .u64 x10f11, .int .u64 x10f12, .slice x10A13 x10b13.length x10c13] 39)] :: Cw :: Cr :: F) rfl rfl
                                   exact lp_next _ (by omega) ⟨i, ((i : Nat) : Int), rfl, (hA.sel [3, 4, 5, 8, 13, 14, 15, 16, 17, 18, 33, 34, 35] rfl), hS, by omega, fnd2.yes hx66 (by assumption)⟩)
                              · first
                                | (exfalso; omega)
                                | (replace hA := hA.rw 117 (v' := .bool false) rfl (vb_eq_f hc67)
                                   refine cd_cond_f hA rfl ?_
                                   refine wp_skip ?_
                                   refine xb_norm ?_
                                   refine xt_norm ?_
                                   refine wp_region_lit ?_
                                   refine st_run tbOk 2 hA (e' := (110, .int .i64 (IntKind.i64.wrap (((i : Nat) : Int) - 1))) :: (109, .int .i64 ((i : Nat) : Int)) :: _) rfl ?_; clear hA; intro a hA
                                   replace hA := hA.rw 110 (v' := .int .i64 (((i : Nat) : Int) - 1)) rfl (wr64 (by omega) (by omega) (by omega))
                                   refine st_run tbOk 1 hA (e' := (18, .int .i64 (((i : Nat) : Int) - 1)) :: _) rfl ?_; clear hA; intro a hA
                                   refine wpList_nil ?_
                                   replace hA := hA.sel [3, 4, 5, 8, 13, 14, 15, 16, 17, 18, 33, 34, 35] (e' := [(3, .pointer (some ⟨b2, 0, none⟩)), (4, .slice (some ⟨b64, o65, none⟩) ((ws).length) cw), (5, .slice Ar ((rs).length) cr), (8, .int .u64 pt), (13, .pointer (some ⟨b32, 0, none⟩)), (14, .int .i64 0), (15, .bool false), (16, .iface 47 (.int .i64 5)), (17, .int .i64 av), (18, .int .i64 (((i : Nat) : Int) - 1)), (33, .slice (some ⟨b8, o9, none⟩) l.length c), (34, .int .i64 ((l.length : Nat) : Int)), (35, .int .i64 ((k : Nat) : Int))]) rfl
                                   replace hA := hA.rw 18 (v' := .int .i64 (((i : Nat) : Int) - 1)) rfl (vint (by omega))
                                   replace hS := hS.front 5 (C := Cr) (L' := L60 :: D :: [(b32, rowO [.int .u64 pt, .int .u64 x10f4, .int .u32 x10f5, .int .u16 x10f6, .int .u16 x10f7, .int .u64 x10f8, .int .u32 x10f9, .int .u8 x10f10, .int .u64 x10f11, .int .u64 x10f12, .slice x10A13 x10b13.length x10c13] 37)] :: [(b12, rowO [.int .u8 x10f0, .int .u8 x10f1, .int .u8 x10f2, .int .u64 x10f3, .int .u64 x10f4, .int .u32 x10f5, .int .u16 x10f6, .int .u16 x10f7, .int .u64 x10f8, .int .u32 x10f9, .int .u8 x10f10, .int .u64 x10f11, .int .u64 x10f12, .slice x10A13 x10b13.length x10c13] 39)] :: Cw :: F) rfl rfl
                                   replace hS := hS.front 5 (C := Cw) (L' := Cr :: L60 :: D :: [(b32, rowO [.int .u64 pt, .int .u64 x10f4, .int .u32 x10f5, .int .u16 x10f6, .int .u16 x10f7, .int .u64 x10f8, .int .u32 x10f9, .int .u8 x10f10, .int .u64 x10f11, .int .u64 x10f12, .slice x10A13 x10b13.length x10c13] 37)] :: [(b12, rowO [.int .u8 x10f0, .int .u8 x10f1, .int .u8 x10f2, .int .u64 x10f3, .int .u64 x10f4, .int .u32 x10f5, .int .u16 x10f6, .int .u16 x10f7, .int .u64 x10f8, .int .u32 x10f9, .int .u8 x10f10, .int .u64 x10f11, .int .u64 x10f12, .slice x10A13 x10b13.length x10c13] 39)] :: F) rfl rfl
                                   replace hS := hS.front 5 (C := [(b12, rowO [.int .u8 x10f0, .int .u8 x10f1, .int .u8 x10f2, .int .u64 x10f3, .int .u64 x10f4, .int .u32 x10f5, .int .u16 x10f6, .int .u16 x10f7, .int .u64 x10f8, .int .u32 x10f9, .int .u8 x10f10, .int .u64 x10f11, .int .u64 x10f12, .slice x10A13 x10b13.length x10c13] 39)]) (L' := Cw :: Cr :: L60 :: D :: [(b32, rowO [.int .u64 pt, .int .u64 x10f4, .int .u32 x10f5, .int .u16 x10f6, .int .u16 x10f7, .int .u64 x10f8, .int .u32 x10f9, .int .u8 x10f10, .int .u64 x10f11, .int .u64 x10f12, .slice x10A13 x10b13.length x10c13] 37)] :: F) rfl rfl
                                   replace hS := hS.front 5 (C := [(b32, rowO [.int .u64 pt, .int .u64 x10f4, .int .u32 x10f5, .int .u16 x10f6, .int .u16 x10f7, .int .u64 x10f8, .int .u32 x10f9, .int .u8 x10f10, .int .u64 x10f11, .int .u64 x10f12, .slice x10A13 x10b13.length x10c13] 37)]) (L' := [(b12, rowO [.int .u8 x10f0, .int .u8 x10f1, .int .u8 x10f2, .int .u64 x10f3, .int .u64 x10f4, .int .u32 x10f5, .int .u16 x10f6, .int .u16 x10f7, .int .u64 x10f8, .int .u32 x10f9, .int .u8 x10f10, .int .u64 x10f11, .int .u64 x10f12, .slice x10A13 x10b13.length x10c13] 39)] :: Cw :: Cr :: L60 :: D :: F) rfl rfl
                                   replace hS := hS.front 5 (C := D) (L' := [(b32, rowO [.int .u64 pt, .int .u64 x10f4, .int .u32 x10f5, .int .u16 x10f6, .int .u16 x10f7, .int .u64 x10f8, .int .u32 x10f9, .int .u8 x10f10, .int .u64 x10f11, .int .u64 x10f12, .slice x10A13 x10b13.length x10c13] 37)] :: [(b12, rowO [.int .u8 x10f0, .int .u8 x10f1, .int .u8 x10f2, .int .u64 x10f3, .int .u64 x10f4, .int .u32 x10f5, .int .u16 x10f6, .int .u16 x10f7, .int .u64 x10f8, .int .u32 x10f9, .int .u8 x10f10, .int .u64 x10f11, .int .u64 x10f12, .slice x10A13 x10b13.length x10c13] 39)] :: Cw :: Cr :: L60 :: F) rfl rfl
                                   replace hS := hS.front 5 (C := L60) (L' := D :: [(b32, rowO [.int .u64 pt, .int .u64 x10f4, .int .u32 x10f5, .int .u16 x10f6, .int .u16 x10f7, .int .u64 x10f8, .int .u32 x10f9, .int .u8 x10f10, .int .u64 x10f11, .int .u64 x10f12, .slice x10A13 x10b13.length x10c13] 37)] :: [(b12, rowO [.int .u8 x10f0, .int .u8 x10f1, .int .u8 x10f2, .int .u64 x10f3, .int .u64 x10f4, .int .u32 x10f5, .int .u16 x10f6, .int .u16 x10f7, .int .u64 x10f8, .int .u32 x10f9, .int .u8 x10f10, .int .u64 x10f11, .int .u64 x10f12, .slice x10A13 x10b13.length x10c13] 39)] :: Cw :: Cr :: F) rfl rfl
                                   exact lp_next _ (by omega) ⟨i, av, rfl, (hA.sel [3, 4, 5, 8, 13, 14, 15, 16, 17, 18, 33, 34, 35] rfl), hS, by omega, hav.no hx66 (by assumption)⟩))
                         · first
                           | (exfalso; omega)
                           | (replace hA := hA.rw 108 (v' := .bool false) rfl (vb_false hc63)
                              refine cd_cond_f hA rfl ?_
                              refine wp_exit ?_
                              refine xt_exit ?_
                              refine xt_exit ?_
                              refine cd_exit_eq ?_
                              refine xt_norm ?_
                              refine wp_seq ?_
                              refine wp_seq ?_
                              refine wp_region_lit ?_
                              have hj0 : j = 0 := by omega
                              rw [hj0] at hav
                              have hae := hav.none hno
                              replace hA := hA.rw 17 (v' := .int .i64 (-1)) rfl (by rw [hae])
                              refine st_run tbOk 2 hA (e' := (120, .bool false) :: (119, .int .i64 (-1)) :: _) rfl ?_; clear hA; intro a hA
                              refine wpList_nil ?_
                              replace hA := hA.sel [3, 4, 5, 13, 14, 15, 16, 17, 33, 34, 35, 120] (e' := [(3, .pointer (some ⟨b2, 0, none⟩)), (4, .slice Aw ((ws).length) cw), (5, .slice Ar ((rs).length) cr), (13, .pointer (some ⟨b32, 0, none⟩)), (14, .int .i64 0), (15, .bool false), (16, .iface 47 (.int .i64 5)), (17, .int .i64 (-1)), (33, .slice (some ⟨b8, o9, none⟩) l.length c), (34, .int .i64 ((l.length : Nat) : Int)), (35, .int .i64 ((k : Nat) : Int)), (120, .bool false)]) rfl
                              refine xt_norm ?_
                              refine cd_cond_f hA rfl ?_
                              refine wp_skip ?_
                              refine xt_norm ?_
                              refine wp_seq ?_
                              refine wp_seq ?_
                              refine wp_region_lit ?_
                              refine st_run tbOk 10 hA (e' := (154, .bool (decide ((((rs).length : Nat) : Int) ≥ 64))) :: (153, .bool (decide ((((rs).length : Nat) : Int) ≥ 64))) :: (152, .int .i64 (((rs).length : Nat) : Int)) :: (151, .slice Ar ((rs).length) cr) :: (150, .bool false) :: (149, .bool false) :: (148, .bool false) :: (147, .int .i64 0) :: (146, .bool false) :: (145, .bool false) :: _) rfl ?_; clear hA; intro a hA
                              have hc68 : (((rs).length : Nat) : Int) ≥ 64 := by omega
                              replace hA := hA.rw 153 (v' := .bool true) rfl (vb_true hc68)
                              replace hA := hA.rw 154 (v' := .bool true) rfl (vb_true hc68)
                              refine st_run tbOk 1 hA (e' := (155, .iface 47 (.int .i64 5)) :: _) rfl ?_; clear hA; intro a hA
                              refine st_call0 hA rfl rfl rfl isfn7 rfl rfl (by decide) (number_hit7 hS hg 5) ?_
                              clear hA hS; rintro v w69 a ⟨rfl, hS⟩ hA
                              refine st_run tbOk 8 hA (e' := (164, .bool (decide ((((rs).length : Nat) : Int) < 64))) :: (163, .bool (decide ((((rs).length : Nat) : Int) < 64))) :: (162, .int .i64 (((rs).length : Nat) : Int)) :: (161, .slice Ar ((rs).length) cr) :: (160, .bool false) :: (159, .bool false) :: (158, .bool false) :: (157, .bool false) :: _) rfl ?_; clear hA; intro a hA
                              have hc70 : ¬ ((((rs).length : Nat) : Int) < 64) := by omega
                              replace hA := hA.rw 163 (v' := .bool false) rfl (vb_false hc70)
                              replace hA := hA.rw 164 (v' := .bool false) rfl (vb_false hc70)
                              refine st_run tbOk 4 hA (e' := (168, .bool false) :: (167, .bool false) :: (166, undef) :: (165, undef) :: _) rfl ?_; clear hA; intro a hA
                              refine wpList_nil ?_
                              replace hA := hA.sel [3, 4, 5, 13, 33, 34, 35, 168] (e' := [(3, .pointer (some ⟨b2, 0, none⟩)), (4, .slice Aw ((ws).length) cw), (5, .slice Ar ((rs).length) cr), (13, .pointer (some ⟨b32, 0, none⟩)), (33, .slice (some ⟨b8, o9, none⟩) l.length c), (34, .int .i64 ((l.length : Nat) : Int)), (35, .int .i64 ((k : Nat) : Int)), (168, .bool false)]) rfl
                              refine xt_norm ?_
                              refine cd_cond_f hA rfl ?_
                              refine wp_skip ?_
                              refine xt_norm ?_
                              refine wp_seq ?_
                              refine wp_region_lit ?_
                              refine st_run tbOk 3 hA (e' := (171, .bool (decide ((((rs).length : Nat) : Int) < 64))) :: (170, .int .i64 (((rs).length : Nat) : Int)) :: (169, .slice Ar ((rs).length) cr) :: _) rfl ?_; clear hA; intro a hA
                              refine wpList_nil ?_
                              replace hA := hA.sel [3, 4, 5, 13, 33, 34, 35, 171] (e' := [(3, .pointer (some ⟨b2, 0, none⟩)), (4, .slice Aw ((ws).length) cw), (5, .slice Ar ((rs).length) cr), (13, .pointer (some ⟨b32, 0, none⟩)), (33, .slice (some ⟨b8, o9, none⟩) l.length c), (34, .int .i64 ((l.length : Nat) : Int)), (35, .int .i64 ((k : Nat) : Int)), (171, .bool (decide ((((rs).length : Nat) : Int) < 64)))]) rfl
                              refine xt_norm ?_
                              have hc71 : ¬ ((((rs).length : Nat) : Int) < 64) := by omega
                              replace hA := hA.rw 171 (v' := .bool false) rfl (vb_false hc71)
                              refine cd_cond_f hA rfl ?_
                              refine wp_skip ?_
                              refine xb_norm ?_
                              refine xt_norm ?_
                              replace hS := hS.front 2 (C := [(b32, rowO [.int .u64 pt, .int .u64 x10f4, .int .u32 x10f5, .int .u16 x10f6, .int .u16 x10f7, .int .u64 x10f8, .int .u32 x10f9, .int .u8 x10f10, .int .u64 x10f11, .int .u64 x10f12, .slice x10A13 x10b13.length x10c13] 37)]) (L' := L60 :: D :: [(b12, rowO [.int .u8 x10f0, .int .u8 x10f1, .int .u8 x10f2, .int .u64 x10f3, .int .u64 x10f4, .int .u32 x10f5, .int .u16 x10f6, .int .u16 x10f7, .int .u64 x10f8, .int .u32 x10f9, .int .u8 x10f10, .int .u64 x10f11, .int .u64 x10f12, .slice x10A13 x10b13.length x10c13] 39)] :: Cw :: Cr :: F) rfl rfl
                              replace hS := hS.drop1
                              replace hS := hS.front 2 (C := [(b12, rowO [.int .u8 x10f0, .int .u8 x10f1, .int .u8 x10f2, .int .u64 x10f3, .int .u64 x10f4, .int .u32 x10f5, .int .u16 x10f6, .int .u16 x10f7, .int .u64 x10f8, .int .u32 x10f9, .int .u8 x10f10, .int .u64 x10f11, .int .u64 x10f12, .slice x10A13 x10b13.length x10c13] 39)]) (L' := L60 :: D :: Cw :: Cr :: F) rfl rfl
                              replace hS := hS.drop1
                              replace hS := hS.front 3 (C := Cr) (L' := L60 :: D :: Cw :: F) rfl rfl
                              replace hS := hS.front 3 (C := Cw) (L' := Cr :: L60 :: D :: F) rfl rfl
                              replace hS := hS.front 3 (C := D) (L' := Cw :: Cr :: L60 :: F) rfl rfl
                              replace hS := hS.front 3 (C := L60) (L' := D :: Cw :: Cr :: F) rfl rfl
                              exact ⟨(ws), (ms), (rs), L60, D, Aw, cw, Cw, Ar, cr, Cr, (hA.sel [3, 4, 5, 33, 34, 35] rfl), hS, hI, hM61, hW, hR, hdm, hdr⟩)
                       · have hk0l := (List.getElem?_eq_some_iff.1 hk0).1
                         replace hS := hS.front 3 (C := D) (L' := [(b32, rowO [.int .u64 pt, .int .u64 x10f4, .int .u32 x10f5, .int .u16 x10f6, .int .u16 x10f7, .int .u64 x10f8, .int .u32 x10f9, .int .u8 x10f10, .int .u64 x10f11, .int .u64 x10f12, .slice x10A13 x10b13.length x10c13] 37)] :: [(b12, rowO [.int .u8 x10f0, .int .u8 x10f1, .int .u8 x10f2, .int .u64 x10f3, .int .u64 x10f4, .int .u32 x10f5, .int .u16 x10f6, .int .u16 x10f7, .int .u64 x10f8, .int .u32 x10f9, .int .u8 x10f10, .int .u64 x10f11, .int .u64 x10f12, .slice x10A13 x10b13.length x10c13] 39)] :: L1 :: Cw :: Cr :: F) rfl rfl
                         replace hS := hS.front 3 (C := L1) (L' := D :: [(b32, rowO [.int .u64 pt, .int .u64 x10f4, .int .u32 x10f5, .int .u16 x10f6, .int .u16 x10f7, .int .u64 x10f8, .int .u32 x10f9, .int .u8 x10f10, .int .u64 x10f11, .int .u64 x10f12, .slice x10A13 x10b13.length x10c13] 37)] :: [(b12, rowO [.int .u8 x10f0, .int .u8 x10f1, .int .u8 x10f2, .int .u64 x10f3, .int .u64 x10f4, .int .u32 x10f5, .int .u16 x10f6, .int .u16 x10f7, .int .u64 x10f8, .int .u32 x10f9, .int .u8 x10f10, .int .u64 x10f11, .int .u64 x10f12, .slice x10A13 x10b13.length x10c13] 39)] :: Cw :: Cr :: F) rfl rfl
                         refine st_call0 hA rfl rfl rfl isfn6 rfl rfl (by decide) (offer_hit6 hS hM1 pt x10f4 x10f5 x10f6 x10f7 x10f8 x10f9 x10f10 x10f11 x10f12 (bs := x10b13) (fun w' h => (hd11 _ (h.only 0 rfl))) (by first | omega | exact Nat.zero_le _) hk0 hp0 hb0) ?_
                         clear hA hS; rintro _ w72 a ⟨L73, hM74, rfl, hS⟩ hA
                         refine st_run tbOk 7 hA (e' := (16, .nilIface) :: (15, .bool true) :: (14, .int .i64 x02) :: (103, .nilIface) :: (102, .bool true) :: (101, .int .i64 x02) :: (97, .tuple #[.int .i64 x02, .bool true, .nilIface]) :: _) rfl ?_; clear hA; intro a hA
                         refine wpList_nil ?_
                         replace hA := hA.sel [3, 4, 5, 8, 13, 14, 15, 16, 33, 34, 35] (e' := [(3, .pointer (some ⟨b2, 0, none⟩)), (4, .slice Aw ((ws).length) cw), (5, .slice Ar ((rs).length) cr), (8, .int .u64 pt), (13, .pointer (some ⟨b32, 0, none⟩)), (14, .int .i64 x02), (15, .bool true), (16, .nilIface), (33, .slice (some ⟨b8, o9, none⟩) l.length c), (34, .int .i64 ((l.length : Nat) : Int)), (35, .int .i64 ((k : Nat) : Int))]) rfl
                         refine xt_norm ?_
                         refine wp_seq ?_
                         refine wp_region_lit ?_
                         refine st_run tbOk 1 hA (e' := (17, .int .i64 (-1)) :: _) rfl ?_; clear hA; intro a hA
                         refine wpList_nil ?_
                         refine xt_norm ?_
                         refine wp_seq ?_
                         refine wp_seq ?_
                         refine wp_region_lit ?_
                         refine st_run tbOk 3 hA (e' := (106, .int .i64 (IntKind.i64.wrap ((((ws).length : Nat) : Int) - 1))) :: (105, .int .i64 (((ws).length : Nat) : Int)) :: (104, .slice Aw ((ws).length) cw) :: _) rfl ?_; clear hA; intro a hA
                         replace hA := hA.rw 106 (v' := .int .i64 ((((ws).length : Nat) : Int) - 1)) rfl (wr64 (by omega) (by omega) (by omega))
                         refine st_run tbOk 1 hA (e' := (18, .int .i64 ((((ws).length : Nat) : Int) - 1)) :: _) rfl ?_; clear hA; intro a hA
                         refine wpList_nil ?_
                         replace hA := hA.sel [3, 4, 5, 8, 13, 14, 15, 16, 17, 18, 33, 34, 35] (e' := [(3, .pointer (some ⟨b2, 0, none⟩)), (4, .slice Aw ((ws).length) cw), (5, .slice Ar ((rs).length) cr), (8, .int .u64 pt), (13, .pointer (some ⟨b32, 0, none⟩)), (14, .int .i64 x02), (15, .bool true), (16, .nilIface), (17, .int .i64 (-1)), (18, .int .i64 ((((ws).length : Nat) : Int) - 1)), (33, .slice (some ⟨b8, o9, none⟩) l.length c), (34, .int .i64 ((l.length : Nat) : Int)), (35, .int .i64 ((k : Nat) : Int))]) rfl
                         refine xt_norm ?_
                         refine wp_block ?_
                         refine wp_loop_ghost (fun m a w => ∃ (j : Nat) (av : Int), m = 0 + j ∧ Has a 269 [(3, .pointer (some ⟨b2, 0, none⟩)), (4, .slice Aw ((ws).length) cw), (5, .slice Ar ((rs).length) cr), (8, .int .u64 pt), (13, .pointer (some ⟨b32, 0, none⟩)), (14, .int .i64 x02), (15, .bool true), (16, .nilIface), (17, .int .i64 av), (18, .int .i64 (((j : Nat) : Int) - 1)), (33, .slice (some ⟨b8, o9, none⟩) l.length c), (34, .int .i64 ((l.length : Nat) : Int)), (35, .int .i64 ((k : Nat) : Int))] ∧ St w0 w (L73 :: D :: [(b32, rowO [.int .u64 pt, .int .u64 x10f4, .int .u32 x10f5, .int .u16 x10f6, .int .u16 x10f7, .int .u64 x10f8, .int .u32 x10f9, .int .u8 x10f10, .int .u64 x10f11, .int .u64 x10f12, .slice x10A13 x10b13.length x10c13] 37)] :: [(b12, rowO [.int .u8 x10f0, .int .u8 x10f1, .int .u8 x10f2, .int .u64 x10f3, .int .u64 x10f4, .int .u32 x10f5, .int .u16 x10f6, .int .u16 x10f7, .int .u64 x10f8, .int .u32 x10f9, .int .u8 x10f10, .int .u64 x10f11, .int .u64 x10f12, .slice x10A13 x10b13.length x10c13] 39)] :: Cw :: Cr :: F) ∧ (j ≤ ws.length) ∧ (fnd2 (fun y : Int × Int => y.1 = pt) ws j av)) (0 + ws.length)
                           ⟨ws.length, (-1), rfl, (hA.sel [3, 4, 5, 8, 13, 14, 15, 16, 17, 18, 33, 34, 35] rfl), hS, Nat.le_refl _, fnd2.init⟩ ?_
                         clear hA hS; rintro m0 a w75 ⟨j, av, rfl, hA, hS, hj, hav⟩
                         refine wp_seq ?_
                         refine wp_seq ?_
                         refine wp_region_lit ?_
                         refine st_run tbOk 2 hA (e' := (108, .bool (decide (((j : Nat) : Int) - 1 ≥ 0))) :: (107, .int .i64 (((j : Nat) : Int) - 1)) :: _) rfl ?_; clear hA; intro a hA
                         refine wpList_nil ?_
                         replace hA := hA.sel [3, 4, 5, 8, 13, 14, 15, 16, 17, 18, 33, 34, 35, 108] (e' := [(3, .pointer (some ⟨b2, 0, none⟩)), (4, .slice Aw ((ws).length) cw), (5, .slice Ar ((rs).length) cr), (8, .int .u64 pt), (13, .pointer (some ⟨b32, 0, none⟩)), (14, .int .i64 x02), (15, .bool true), (16, .nilIface), (17, .int .i64 av), (18, .int .i64 (((j : Nat) : Int) - 1)), (33, .slice (some ⟨b8, o9, none⟩) l.length c), (34, .int .i64 ((l.length : Nat) : Int)), (35, .int .i64 ((k : Nat) : Int)), (108, .bool (decide (((j : Nat) : Int) - 1 ≥ 0)))]) rfl
                         refine xt_norm ?_
                         by_cases hc76 : ((j : Nat) : Int) - 1 ≥ 0
                         · first
                           | (exfalso; omega)
                           | (replace hA := hA.rw 108 (v' := .bool true) rfl (vb_true hc76)
                              refine cd_cond_t hA rfl ?_
                              refine wp_skip ?_
                              refine xt_norm ?_
                              refine wp_seq ?_
                              refine wp_block ?_
                              refine wp_seq ?_
                              refine wp_region_lit ?_
                              obtain ⟨i, hij⟩ : ∃ i, j = i + 1 := ⟨j - 1, by omega⟩
                              subst hij
                              replace hA := hA.rw 18 (v' := .int .i64 ((i : Nat) : Int)) rfl (vint (by omega))
                              refine st_run tbOk 2 hA (e' := (112, .int .i64 ((i : Nat) : Int)) :: (111, .slice Aw ((ws).length) cw) :: _) rfl ?_; clear hA; intro a hA
                              obtain ⟨b77, o78, rfl⟩ := hW.isSome (k := i) (by omega)
                              refine st_val hA rfl rfl (by decide) (rn_indexAddr tbOk hA i (o78 + (i * 2)) rfl rfl rfl rfl rfl rfl (by rfl) (by omega) (by first | rfl | simp [Nat.mul_one, Nat.zero_add] | omega)) ?_; clear hA; intro a hA
                              refine st_run tbOk 1 hA (e' := (114, .pointer (some ⟨b77, o78 + (i * 2), none⟩)) :: _) rfl ?_; clear hA; intro a hA
                              obtain ⟨x79, hx79⟩ := get_ex (l := ws) (k := i) (by omega)
                              refine st_val hA rfl rfl (by decide) (rn_load tbOk hA rfl rfl rfl rfl ((hW.rd (hS.own_ 4 rfl)).elemf (k := i) encWait_ok hx79 (j := 0) rfl)) ?_; clear hA; intro a hA
                              refine st_run tbOk 2 hA (e' := (117, .bool (x79.1 == pt)) :: (116, .int .u64 pt) :: _) rfl ?_; clear hA; intro a hA
                              refine wpList_nil ?_
                              replace hA := hA.sel [3, 4, 5, 8, 13, 14, 15, 16, 17, 18, 33, 34, 35, 117] (e' := [(3, .pointer (some ⟨b2, 0, none⟩)), (4, .slice (some ⟨b77, o78, none⟩) ((ws).length) cw), (5, .slice Ar ((rs).length) cr), (8, .int .u64 pt), (13, .pointer (some ⟨b32, 0, none⟩)), (14, .int .i64 x02), (15, .bool true), (16, .nilIface), (17, .int .i64 av), (18, .int .i64 ((i : Nat) : Int)), (33, .slice (some ⟨b8, o9, none⟩) l.length c), (34, .int .i64 ((l.length : Nat) : Int)), (35, .int .i64 ((k : Nat) : Int)), (117, .bool (x79.1 == pt))]) rfl
                              refine xt_norm ?_
                              by_cases hc80 : x79.1 = pt
                              · first
                                | (exfalso; omega)
                                | (replace hA := hA.rw 117 (v' := .bool true) rfl (vb_eq_t hc80)
                                   refine cd_cond_t hA rfl ?_
                                   refine wp_region_lit ?_
                                   refine st_run tbOk 2 hA (e' := (17, .int .i64 ((i : Nat) : Int)) :: (118, .int .i64 ((i : Nat) : Int)) :: _) rfl ?_; clear hA; intro a hA
                                   refine wpList_nil ?_
                                   replace hA := hA.sel [3, 4, 5, 8, 13, 14, 15, 16, 17, 18, 33, 34, 35] (e' := [(3, .pointer (some ⟨b2, 0, none⟩)), (4, .slice (some ⟨b77, o78, none⟩) ((ws).length) cw), (5, .slice Ar ((rs).length) cr), (8, .int .u64 pt), (13, .pointer (some ⟨b32, 0, none⟩)), (14, .int .i64 x02), (15, .bool true), (16, .nilIface), (17, .int .i64 ((i : Nat) : Int)), (18, .int .i64 ((i : Nat) : Int)), (33, .slice (some ⟨b8, o9, none⟩) l.length c), (34, .int .i64 ((l.length : Nat) : Int)), (35, .int .i64 ((k : Nat) : Int))]) rfl
                                   refine xb_norm ?_
                                   refine xt_norm ?_
                                   refine wp_region_lit ?_
                                   refine st_run tbOk 2 hA (e' := (110, .int .i64 (IntKind.i64.wrap (((i : Nat) : Int) - 1))) :: (109, .int .i64 ((i : Nat) : Int)) :: _) rfl ?_; clear hA; intro a hA
                                   replace hA := hA.rw 110 (v' := .int .i64 (((i : Nat) : Int) - 1)) rfl (wr64 (by omega) (by omega) (by omega))
                                   refine st_run tbOk 1 hA (e' := (18, .int .i64 (((i : Nat) : Int) - 1)) :: _) rfl ?_; clear hA; intro a hA
                                   refine wpList_nil ?_
                                   replace hA := hA.sel [3, 4, 5, 8, 13, 14, 15, 16, 17, 18, 33, 34, 35] (e' := [(3, .pointer (some ⟨b2, 0, none⟩)), (4, .slice (some ⟨b77, o78, none⟩) ((ws).length) cw), (5, .slice Ar ((rs).length) cr), (8, .int .u64 pt), (13, .pointer (some ⟨b32, 0, none⟩)), (14, .int .i64 x02), (15, .bool true), (16, .nilIface), (17, .int .i64 ((i : Nat) : Int)), (18, .int .i64 (((i : Nat) : Int) - 1)), (33, .slice (some ⟨b8, o9, none⟩) l.length c), (34, .int .i64 ((l.length : Nat) : Int)), (35, .int .i64 ((k : Nat) : Int))]) rfl
                                   replace hA := hA.rw 17 (v' := .int .i64 ((i : Nat) : Int)) rfl (vint (by omega))
                                   replace hA := hA.rw 18 (v' := .int .i64 (((i : Nat) : Int) - 1)) rfl (vint (by omega))
                                   replace hS := hS.front 5 (C := Cr) (L' := L73 :: D :: [(b32, rowO [.int .u64 pt, .int .u64 x10f4, .int .u32 x10f5, .int .u16 x10f6, .int .u16 x10f7, .int .u64 x10f8, .int .u32 x10f9, .int .u8 x10f10, .int .u64 x10f11, .int .u64 x10f12, .slice x10A13 x10b13.length x10c13] 37)] :: [(b12, rowO [.int .u8 x10f0, .int .u8 x10f1, .int .u8 x10f2, .int .u64 x10f3, .int .u64 x10f4, .int .u32 x10f5, .int .u16 x10f6, .int .u16 x10f7, .int .u64 x10f8, .int .u32 x10f9, .int .u8 x10f10, .int .u64 x10f11, .int .u64 x10f12, .slice x10A13 x10b13.length x10c13] 39)] :: Cw :: F) rfl rfl
                                   replace hS := hS.front 5 (C := Cw) (L' := Cr :: L73 :: D :: [(b32, rowO [.int .u64 pt, .int .u64 x10f4, .int .u32 x10f5, .int .u16 x10f6, .int .u16 x10f7, .int .u64 x10f8, .int .u32 x10f9, .int .u8 x10f10, .int .u64 x10f11, .int .u64 x10f12, .slice x10A13 x10b13.length x10c13] 37)] :: [(b12, rowO [.int .u8 x10f0, .int .u8 x10f1, .int .u8 x10f2, .int .u64 x10f3, .int .u64 x10f4, .int .u32 x10f5, .int .u16 x10f6, .int .u16 x10f7, .int .u64 x10f8, .int .u32 x10f9, .int .u8 x10f10, .int .u64 x10f11, .int .u64 x10f12, .slice x10A13 x10b13.length x10c13] 39)] :: F) rfl rfl
                                   replace hS := hS.front 5 (C := [(b12, rowO [.int .u8 x10f0, .int .u8 x10f1, .int .u8 x10f2, .int .u64 x10f3, .int .u64 x10f4, .int .u32 x10f5, .int .u16 x10f6, .int .u16 x10f7, .int .u64 x10f8, .int .u32 x10f9, .int .u8 x10f10, .int .u64 x10f11, .int .u64 x10f12, .slice x10A13 x10b13.length x10c13] 39)]) (L' := Cw :: Cr :: L73 :: D :: [(b32, rowO [.int .u64 pt, .int .u64 x10f4, .int .u32 x10f5, .int .u16 x10f6, .int .u16 x10f7, .int .u64 x10f8, .int .u32 x10f9, .int .u8 x10f10, .int .u64 x10f11, .int .u64 x10f12, .slice x10A13 x10b13.length x10c13] 37)] :: F) rfl rfl
                                   replace hS := hS.front 5 (C := [(b32, rowO [.int .u64 pt, .int .u64 x10f4, .int .u32 x10f5, .int .u16 x10f6, .int .u16 x10f7, .int .u64 x10f8, .int .u32 x10f9, .int .u8 x10f10, .int .u64 x10f11, .int .u64 x10f12, .slice x10A13 x10b13.length x10c13] 37)]) (L' := [(b12, rowO [.int .u8 x10f0, .int .u8 x10f1, .int .u8 x10f2, .int .u64 x10f3, .int .u64 x10f4, .int .u32 x10f5, .int .u16 x10f6, .int .u16 x10f7, .int .u64 x10f8, .int .u32 x10f9, .int .u8 x10f10, .int .u64 x10f11, .int .u64 x10f12, .slice x10A13 x10b13.length x10c13] 39)] :: Cw :: Cr :: L73 :: D :: F) rfl rfl
                                   replace hS := hS.front 5 (C := D) (L' := [(b32, rowO [.int .u64 pt, .int .u64 x10f4, .int .u32 x10f5, .int .u16 x10f6, .int .u16 x10f7, .int .u64 x10f8, .int .u32 x10f9, .int .u8 x10f10, .int .u64 x10f11, .int .u64 x10f12, .slice x10A13 x10b13.length x10c13] 37)] :: [(b12, rowO [.int .u8 x10f0, .int .u8 x10f1, .int .u8 x10f2, .int .u64 x10f3, .int .u64 x10f4, .int .u32 x10f5, .int .u16 x10f6, .int .u16 x10f7, .int .u64 x10f8, .int .u32 x10f9, .int .u8 x10f10, .int .u64 x10f11, .int .u64 x10f12, .slice x10A13 x10b13.length x10c13] 39)] :: Cw :: Cr :: L73 :: F) rfl rfl
                                   replace hS := hS.front 5 (C := L73) (L' := D :: [(b32, rowO [.int .u64 pt, .int .u64 x10f4, .int .u32 x10f5, .int .u16 x10f6, .int .u16 x10f7, .int .u64 x10f8, .int .u32 x10f9, .int .u8 x10f10, .int .u64 x10f11, .int .u64 x10f12, .slice x10A13 x10b13.length x10c13] 37)] :: [(b12, rowO [.int .u8 x10f0, .int .u8 x10f1, .int .u8 x10f2, .int .u64 x10f3, .int .u64 x10f4, .int .u32 x10f5, .int .u16 x10f6, .int .u16 x10f7, .int .u64 x10f8, .int .u32 x10f9, .int .u8 x10f10, .int .u64 x10f11, .int .u64 x10f12, .slice x10A13 x10b13.length x10c13] 39)] :: Cw :: Cr :: F) rfl rfl
                                   exact lp_next _ (by omega) ⟨i, ((i : Nat) : Int), rfl, (hA.sel [3, 4, 5, 8, 13, 14, 15, 16, 17, 18, 33, 34, 35] rfl), hS, by omega, fnd2.yes hx79 (by assumption)⟩)
                              · first
                                | (exfalso; omega)
                                | (replace hA := hA.rw 117 (v' := .bool false) rfl (vb_eq_f hc80)
                                   refine cd_cond_f hA rfl ?_
                                   refine wp_skip ?_
                                   refine xb_norm ?_
                                   refine xt_norm ?_
                                   refine wp_region_lit ?_
                                   refine st_run tbOk 2 hA (e' := (110, .int .i64 (IntKind.i64.wrap (((i : Nat) : Int) - 1))) :: (109, .int .i64 ((i : Nat) : Int)) :: _) rfl ?_; clear hA; intro a hA
                                   replace hA := hA.rw 110 (v' := .int .i64 (((i : Nat) : Int) - 1)) rfl (wr64 (by omega) (by omega) (by omega))
                                   refine st_run tbOk 1 hA (e' := (18, .int .i64 (((i : Nat) : Int) - 1)) :: _) rfl ?_; clear hA; intro a hA
                                   refine wpList_nil ?_
                                   replace hA := hA.sel [3, 4, 5, 8, 13, 14, 15, 16, 17, 18, 33, 34, 35] (e' := [(3, .pointer (some ⟨b2, 0, none⟩)), (4, .slice (some ⟨b77, o78, none⟩) ((ws).length) cw), (5, .slice Ar ((rs).length) cr), (8, .int .u64 pt), (13, .pointer (some ⟨b32, 0, none⟩)), (14, .int .i64 x02), (15, .bool true), (16, .nilIface), (17, .int .i64 av), (18, .int .i64 (((i : Nat) : Int) - 1)), (33, .slice (some ⟨b8, o9, none⟩) l.length c), (34, .int .i64 ((l.length : Nat) : Int)), (35, .int .i64 ((k : Nat) : Int))]) rfl
                                   replace hA := hA.rw 18 (v' := .int .i64 (((i : Nat) : Int) - 1)) rfl (vint (by omega))
                                   replace hS := hS.front 5 (C := Cr) (L' := L73 :: D :: [(b32, rowO [.int .u64 pt, .int .u64 x10f4, .int .u32 x10f5, .int .u16 x10f6, .int .u16 x10f7, .int .u64 x10f8, .int .u32 x10f9, .int .u8 x10f10, .int .u64 x10f11, .int .u64 x10f12, .slice x10A13 x10b13.length x10c13] 37)] :: [(b12, rowO [.int .u8 x10f0, .int .u8 x10f1, .int .u8 x10f2, .int .u64 x10f3, .int .u64 x10f4, .int .u32 x10f5, .int .u16 x10f6, .int .u16 x10f7, .int .u64 x10f8, .int .u32 x10f9, .int .u8 x10f10, .int .u64 x10f11, .int .u64 x10f12, .slice x10A13 x10b13.length x10c13] 39)] :: Cw :: F) rfl rfl
                                   replace hS := hS.front 5 (C := Cw) (L' := Cr :: L73 :: D :: [(b32, rowO [.int .u64 pt, .int .u64 x10f4, .int .u32 x10f5, .int .u16 x10f6, .int .u16 x10f7, .int .u64 x10f8, .int .u32 x10f9, .int .u8 x10f10, .int .u64 x10f11, .int .u64 x10f12, .slice x10A13 x10b13.length x10c13] 37)] :: [(b12, rowO [.int .u8 x10f0, .int .u8 x10f1, .int .u8 x10f2, .int .u64 x10f3, .int .u64 x10f4, .int .u32 x10f5, .int .u16 x10f6, .int .u16 x10f7, .int .u64 x10f8, .int .u32 x10f9, .int .u8 x10f10, .int .u64 x10f11, .int .u64 x10f12, .slice x10A13 x10b13.length x10c13] 39)] :: F) rfl rfl
                                   replace hS := hS.front 5 (C := [(b12, rowO [.int .u8 x10f0, .int .u8 x10f1, .int .u8 x10f2, .int .u64 x10f3, .int .u64 x10f4, .int .u32 x10f5, .int .u16 x10f6, .int .u16 x10f7, .int .u64 x10f8, .int .u32 x10f9, .int .u8 x10f10, .int .u64 x10f11, .int .u64 x10f12, .slice x10A13 x10b13.length x10c13] 39)]) (L' := Cw :: Cr :: L73 :: D :: [(b32, rowO [.int .u64 pt, .int .u64 x10f4, .int .u32 x10f5, .int .u16 x10f6, .int .u16 x10f7, .int .u64 x10f8, .int .u32 x10f9, .int .u8 x10f10, .int .u64 x10f11, .int .u64 x10f12, .slice x10A13 x10b13.length x10c13] 37)] :: F) rfl rfl
                                   replace hS := hS.front 5 (C := [(b32, rowO [.int .u64 pt, .int .u64 x10f4, .int .u32 x10f5, .int .u16 x10f6, .int .u16 x10f7, .int .u64 x10f8, .int .u32 x10f9, .int .u8 x10f10, .int .u64 x10f11, .int .u64 x10f12, .slice x10A13 x10b13.length x10c13] 37)]) (L' := [(b12, rowO [.int .u8 x10f0, .int .u8 x10f1, .int .u8 x10f2, .int .u64 x10f3, .int .u64 x10f4, .int .u32 x10f5, .int .u16 x10f6, .int .u16 x10f7, .int .u64 x10f8, .int .u32 x10f9, .int .u8 x10f10, .int .u64 x10f11, .int .u64 x10f12, .slice x10A13 x10b13.length x10c13] 39)] :: Cw :: Cr :: L73 :: D :: F) rfl rfl
                                   replace hS := hS.front 5 (C := D) (L' := [(b32, rowO [.int .u64 pt, .int .u64 x10f4, .int .u32 x10f5, .int .u16 x10f6, .int .u16 x10f7, .int .u64 x10f8, .int .u32 x10f9, .int .u8 x10f10, .int .u64 x10f11, .int .u64 x10f12, .slice x10A13 x10b13.length x10c13] 37)] :: [(b12, rowO [.int .u8 x10f0, .int .u8 x10f1, .int .u8 x10f2, .int .u64 x10f3, .int .u64 x10f4, .int .u32 x10f5, .int .u16 x10f6, .int .u16 x10f7, .int .u64 x10f8, .int .u32 x10f9, .int .u8 x10f10, .int .u64 x10f11, .int .u64 x10f12, .slice x10A13 x10b13.length x10c13] 39)] :: Cw :: Cr :: L73 :: F) rfl rfl
                                   replace hS := hS.front 5 (C := L73) (L' := D :: [(b32, rowO [.int .u64 pt, .int .u64 x10f4, .int .u32 x10f5, .int .u16 x10f6, .int .u16 x10f7, .int .u64 x10f8, .int .u32 x10f9, .int .u8 x10f10, .int .u64 x10f11, .int .u64 x10f12, .slice x10A13 x10b13.length x10c13] 37)] :: [(b12, rowO [.int .u8 x10f0, .int .u8 x10f1, .int .u8 x10f2, .int .u64 x10f3, .int .u64 x10f4, .int .u32 x10f5, .int .u16 x10f6, .int .u16 x10f7, .int .u64 x10f8, .int .u32 x10f9, .int .u8 x10f10, .int .u64 x10f11, .int .u64 x10f12, .slice x10A13 x10b13.length x10c13] 39)] :: Cw :: Cr :: F) rfl rfl
                                   exact lp_next _ (by omega) ⟨i, av, rfl, (hA.sel [3, 4, 5, 8, 13, 14, 15, 16, 17, 18, 33, 34, 35] rfl), hS, by omega, hav.no hx79 (by assumption)⟩))
                         · first
                           | (exfalso; omega)
                           | (replace hA := hA.rw 108 (v' := .bool false) rfl (vb_false hc76)
                              refine cd_cond_f hA rfl ?_
                              refine wp_exit ?_
                              refine xt_exit ?_
                              refine xt_exit ?_
                              refine cd_exit_eq ?_
                              refine xt_norm ?_
                              refine wp_seq ?_
                              refine wp_seq ?_
                              refine wp_region_lit ?_
                              have hj0 : j = 0 := by omega
                              rw [hj0] at hav
                              have hae := hav.some hk0 hp0 hb0
                              replace hA := hA.rw 17 (v' := .int .i64 ((k0 : Nat) : Int)) rfl (by rw [hae])
                              refine st_run tbOk 2 hA (e' := (120, .bool (decide (((k0 : Nat) : Int) ≥ 0))) :: (119, .int .i64 ((k0 : Nat) : Int)) :: _) rfl ?_; clear hA; intro a hA
                              refine wpList_nil ?_
                              replace hA := hA.sel [3, 4, 5, 13, 14, 15, 16, 17, 33, 34, 35, 120] (e' := [(3, .pointer (some ⟨b2, 0, none⟩)), (4, .slice Aw ((ws).length) cw), (5, .slice Ar ((rs).length) cr), (13, .pointer (some ⟨b32, 0, none⟩)), (14, .int .i64 x02), (15, .bool true), (16, .nilIface), (17, .int .i64 ((k0 : Nat) : Int)), (33, .slice (some ⟨b8, o9, none⟩) l.length c), (34, .int .i64 ((l.length : Nat) : Int)), (35, .int .i64 ((k : Nat) : Int)), (120, .bool (decide (((k0 : Nat) : Int) ≥ 0)))]) rfl
                              refine xt_norm ?_
                              have hc81 : ((k0 : Nat) : Int) ≥ 0 := by omega
                              replace hA := hA.rw 120 (v' := .bool true) rfl (vb_true hc81)
                              refine cd_cond_t hA rfl ?_
                              refine wp_seq ?_
                              refine wp_seq ?_
                              refine wp_region_lit ?_
                              have hkk0 : k0 < ws.length := hk0l
                              refine st_run tbOk 10 hA (e' := (130, .int .i64 ((k0 : Nat) : Int)) :: (129, .slice Aw ((ws).length) cw) :: (128, .int .i64 x02) :: (127, .bool false) :: (126, .bool false) :: (125, .bool false) :: (124, .nilIface) :: (123, .bool false) :: (122, .bool false) :: (121, .bool true) :: _) rfl ?_; clear hA; intro a hA
                              obtain ⟨b82, o83, rfl⟩ := hW.isSome (k := k0) (by omega)
                              refine st_val hA rfl rfl (by decide) (rn_indexAddr tbOk hA k0 (o83 + (k0 * 2)) rfl rfl rfl rfl rfl rfl (by rfl) (by omega) (by first | rfl | simp [Nat.mul_one, Nat.zero_add] | omega)) ?_; clear hA; intro a hA
                              refine st_run tbOk 1 hA (e' := (132, .pointer (some ⟨b82, o83 + (k0 * 2) + 1, none⟩)) :: _) rfl ?_; clear hA; intro a hA
                              refine st_val hA rfl rfl (by decide) (rn_load tbOk hA rfl rfl rfl rfl ((hW.rd (hS.own_ 4 rfl)).elemf (k := k0) encWait_ok hk0 (j := 1) rfl)) ?_; clear hA; intro a hA
                              refine st_run tbOk 2 hA (e' := (135, .bool (x02 != ((x01, x02).2))) :: (134, .bool (x02 != ((x01, x02).2))) :: _) rfl ?_; clear hA; intro a hA
                              refine wpList_nil ?_
                              replace hA := hA.sel [3, 4, 5, 17, 33, 34, 35, 135] (e' := [(3, .pointer (some ⟨b2, 0, none⟩)), (4, .slice (some ⟨b82, o83, none⟩) ((ws).length) cw), (5, .slice Ar ((rs).length) cr), (17, .int .i64 ((k0 : Nat) : Int)), (33, .slice (some ⟨b8, o9, none⟩) l.length c), (34, .int .i64 ((l.length : Nat) : Int)), (35, .int .i64 ((k : Nat) : Int)), (135, .bool (x02 != ((x01, x02).2)))]) rfl
                              refine xt_norm ?_
                              have hc84 : x02 = (x01, x02).2 := rfl
                              replace hA := hA.rw 135 (v' := .bool false) rfl (vb_ne_f hc84)
                              refine cd_cond_f hA rfl ?_
                              refine wp_skip ?_
                              refine xt_norm ?_
                              refine wp_seq ?_
                              refine wp_draw (fun w' => St w0 w' (L73 :: D :: [(b32, rowO [.int .u64 pt, .int .u64 x10f4, .int .u32 x10f5, .int .u16 x10f6, .int .u16 x10f7, .int .u64 x10f8, .int .u32 x10f9, .int .u8 x10f10, .int .u64 x10f11, .int .u64 x10f12, .slice x10A13 x10b13.length x10c13] 37)] :: [(b12, rowO [.int .u8 x10f0, .int .u8 x10f1, .int .u8 x10f2, .int .u64 x10f3, .int .u64 x10f4, .int .u32 x10f5, .int .u16 x10f6, .int .u16 x10f7, .int .u64 x10f8, .int .u32 x10f9, .int .u8 x10f10, .int .u64 x10f11, .int .u64 x10f12, .slice x10A13 x10b13.length x10c13] 39)] :: Cw :: Cr :: F)) [] [(0, true), (1, true), (2, true), (4, true), (5, true), (6, true), (7, true), (3, false), (8, false), (9, true)] mixed (by kernel_rfl) (by rintro c a w ⟨_, _, h, _⟩; cases h) (by rfl) (by kernel_rfl) ?_
                              replace hS := hS.drew
                              refine dr_run tbOk 2 hA hS (e' := (137, .int .i64 ((k0 : Nat) : Int)) :: (136, .slice (some ⟨b82, o83, none⟩) ((ws).length) cw) :: _) rfl ?_; clear hA; intro a hA
                              refine dr_y hA rfl rfl rfl (by decide) hS (fun w' hS' => rn_slice_h tbOk hA k0 rfl rfl rfl rfl rfl rfl (by rfl) (by omega)) ?_; clear hA; intro a hA
                              replace hA := hA.rw 138 (v' := .slice (some ⟨b82, o83, none⟩) ((ws.take k0).length) cw) rfl (congrArg (fun m => Value.slice _ m _) (by rw [List.length_take]; omega))
                              refine dr_run tbOk 3 hA hS (e' := (142, .int .i64 (IntKind.i64.wrap (((k0 : Nat) : Int) + 1))) :: (141, .int .i64 ((k0 : Nat) : Int)) :: (140, .slice (some ⟨b82, o83, none⟩) ((ws).length) cw) :: _) rfl ?_; clear hA; intro a hA
                              replace hA := hA.rw 142 (v' := .int .i64 ((k0 + 1 : Nat) : Int)) rfl (wr64 (by omega) (by omega) (by omega))
                              refine dr_y hA rfl rfl rfl (by decide) hS (fun w' hS' => rn_slice_l tbOk hA (k0 + 1) rfl rfl rfl rfl rfl rfl (by rfl) (by omega)) ?_; clear hA; intro a hA
                              refine dr_b (o := _) rfl ?_
                              replace hS := hS.nil
                              refine st_append tbOk hA (m := 0) (q := (ws.take k0).length) (xs := rows encWait ([] : List (Int × Int))) (news := rows encWait (ws.take k0)) rfl rfl rfl rfl rfl rfl rfl rfl (by decide) (Own.nil 41 2) hS (((hW.rd (hS.own_ 5 rfl)).rhead encWait_ok k0 (by omega)).x) (rows_one encWait_ok _) (maxLen_le (by first | omega | (simp; omega))) (by show (0 + (ws.take k0).length) * 16 ≤ 140737488355328; first | omega | (simp; omega)) rfl rfl (by decide) ?_
                              clear hA hS; intro v85 w86 C87 a hO87 hS hA
                              replace hO87 := Own.app (l := ([] : List (Int × Int))) (l2 := ws.take k0) hO87
                              replace hO87 : Own 41 2 v85 (ws.take k0).length (rows encWait (ws.take k0)) C87 := hO87
                              obtain ⟨A88, c89, rfl, hmc89, hxc89⟩ := hO87.open'
                              refine dr_nil (.inr (hS.tail 1 rfl)) ?_
                              refine dr_b (o := _) rfl ?_
                              refine st_append tbOk hA (m := (ws.take k0).length) (q := ((ws.take ws.length).drop (k0 + 1)).length) (xs := rows encWait (ws.take k0)) (news := rows encWait ((ws.take ws.length).drop (k0 + 1))) rfl rfl rfl rfl rfl rfl rfl rfl (by decide) hO87 hS (((hW.rd (hS.own_ 5 rfl)).rslv encWait_ok (k0 + 1) ws.length cw (by omega) (by omega) (by omega) (by omega)).x) (rows_one encWait_ok _) (maxLen_le (by first | omega | (simp; omega))) (by show ((ws.take k0).length + ((ws.take ws.length).drop (k0 + 1)).length) * 16 ≤ 140737488355328; first | omega | (simp; omega)) rfl rfl (by decide) ?_
                              clear hA hS; intro v90 w91 C92 a hO92 hS hA
                              replace hO92 := Own.app (l := ws.take k0) (l2 := (ws.take ws.length).drop (k0 + 1)) hO92
                              obtain ⟨A93, c94, rfl, hmc94, hxc94⟩ := hO92.open'
                              refine dr_nil (.inr (hS.tail 1 rfl)) ?_
                              refine dr_run tbOk 1 hA (hS.tail 1 rfl) (e' := (4, .slice A93 (((ws.take k0) ++ ((ws.take ws.length).drop (k0 + 1))).length) c94) :: _) rfl ?_; clear hA; intro a hA
                              refine dr_end ?_
                              replace hA := hA.sel [3, 4, 5, 33, 34, 35] (e' := [(3, .pointer (some ⟨b2, 0, none⟩)), (4, .slice A93 (((ws.take k0) ++ ((ws.take ws.length).drop (k0 + 1))).length) c94), (5, .slice Ar ((rs).length) cr), (33, .slice (some ⟨b8, o9, none⟩) l.length c), (34, .int .i64 ((l.length : Nat) : Int)), (35, .int .i64 ((k : Nat) : Int))]) rfl
                              refine xt_norm ?_
                              refine wp_exit ?_
                              refine xt_exit ?_
                              refine cd_exit_ne (by decide) ?_
                              refine xt_exit ?_
                              refine cd_exit_eq ?_
                              refine xt_norm ?_
                              refine wp_region_lit ?_
                              have hl : (ws.take k0) ++ ((ws.take ws.length).drop (k0 + 1)) = ws.take k0 ++ ws.drop (k0 + 1) := by rw [List.take_length]
                              rw [hl] at hO92; rw [hl] at hA
                              refine st_run tbOk 1 hA (e' := (268, .int .i64 (IntKind.i64.wrap (((k : Nat) : Int) + 1))) :: _) rfl ?_; clear hA; intro a hA
                              replace hA := hA.rw 268 (v' := .int .i64 ((k + 1 : Nat) : Int)) rfl (wr64 (by omega) (by omega) (by omega))
                              refine st_run tbOk 1 hA (e' := (35, .int .i64 ((k + 1 : Nat) : Int)) :: _) rfl ?_; clear hA; intro a hA
                              refine wpList_nil ?_
                              replace hA := hA.sel [3, 4, 5, 33, 34, 35] (e' := [(3, .pointer (some ⟨b2, 0, none⟩)), (4, .slice A93 ((ws.take k0 ++ ws.drop (k0 + 1)).length) c94), (5, .slice Ar ((rs).length) cr), (33, .slice (some ⟨b8, o9, none⟩) l.length c), (34, .int .i64 ((l.length : Nat) : Int)), (35, .int .i64 ((k + 1 : Nat) : Int))]) rfl
                              replace hS := hS.front 3 (C := [(b32, rowO [.int .u64 pt, .int .u64 x10f4, .int .u32 x10f5, .int .u16 x10f6, .int .u16 x10f7, .int .u64 x10f8, .int .u32 x10f9, .int .u8 x10f10, .int .u64 x10f11, .int .u64 x10f12, .slice x10A13 x10b13.length x10c13] 37)]) (L' := C92 :: L73 :: D :: [(b12, rowO [.int .u8 x10f0, .int .u8 x10f1, .int .u8 x10f2, .int .u64 x10f3, .int .u64 x10f4, .int .u32 x10f5, .int .u16 x10f6, .int .u16 x10f7, .int .u64 x10f8, .int .u32 x10f9, .int .u8 x10f10, .int .u64 x10f11, .int .u64 x10f12, .slice x10A13 x10b13.length x10c13] 39)] :: Cw :: Cr :: F) rfl rfl
                              replace hS := hS.drop1
                              replace hS := hS.front 3 (C := [(b12, rowO [.int .u8 x10f0, .int .u8 x10f1, .int .u8 x10f2, .int .u64 x10f3, .int .u64 x10f4, .int .u32 x10f5, .int .u16 x10f6, .int .u16 x10f7, .int .u64 x10f8, .int .u32 x10f9, .int .u8 x10f10, .int .u64 x10f11, .int .u64 x10f12, .slice x10A13 x10b13.length x10c13] 39)]) (L' := C92 :: L73 :: D :: Cw :: Cr :: F) rfl rfl
                              replace hS := hS.drop1
                              replace hS := hS.front 3 (C := Cw) (L' := C92 :: L73 :: D :: Cr :: F) rfl rfl
                              replace hS := hS.drop1
                              replace hS := hS.front 3 (C := Cr) (L' := C92 :: L73 :: D :: F) rfl rfl
                              replace hS := hS.front 1 (C := C92) (L' := Cr :: L73 :: D :: F) rfl rfl
                              replace hS := hS.front 3 (C := D) (L' := C92 :: Cr :: L73 :: F) rfl rfl
                              replace hS := hS.front 3 (C := L73) (L' := D :: C92 :: Cr :: F) rfl rfl
                              exact lp_next _ (by omega) ⟨(k + 1), (ws.take k0 ++ ws.drop (k0 + 1)), (ms), (rs), L73, D, A93, c94, C92, Ar, cr, Cr, rfl, (hA.sel [3, 4, 5, 33, 34, 35] rfl), hS, by omega, (hI.offer k0), hM74, hO92, hR, hdm, hdr⟩))
                  · first
                    | (exfalso; omega)
                    | (replace hA := hA.rw 90 (v' := .bool false) rfl (vb_f hc31)
                       refine cd_cond_f hA rfl ?_
                       refine wp_seq ?_
                       refine wp_region_lit ?_
                       have hbf := hbb.2 (by simpa using (by assumption : ¬ bb = true))
                       refine st_run tbOk 2 hA (e' := (176, .bool (op == 2)) :: (177, .bool (op == 2)) :: _) rfl ?_; clear hA; intro a hA
                       refine wpList_nil ?_
                       replace hA := hA.sel [3, 4, 5, 8, 9, 10, 33, 34, 35, 176] (e' := [(3, .pointer (some ⟨b2, 0, none⟩)), (4, .slice Aw ((ws).length) cw), (5, .slice Ar ((rs).length) cr), (8, .int .u64 pt), (9, .int .i64 th), (10, .bool (ws.any (fun x => wth th x))), (33, .slice (some ⟨b8, o9, none⟩) l.length c), (34, .int .i64 ((l.length : Nat) : Int)), (35, .int .i64 ((k : Nat) : Int)), (176, .bool (op == 2))]) rfl
                       refine xt_norm ?_
                       by_cases hc95 : op = 2
                       · first
                         | (exfalso; omega)
                         | (replace hA := hA.rw 176 (v' := .bool true) rfl (vb_eq_t hc95)
                            refine cd_cond_t hA rfl ?_
                            refine wp_seq ?_
                            refine wp_region_lit ?_
                            refine st_run tbOk 3 hA (e' := (181, .int .i64 th) :: (180, .int .u64 pt) :: (179, .pointer (some ⟨b2, 0, none⟩)) :: _) rfl ?_; clear hA; intro a hA
                            have hcs : ws.any (fun x => wth th x) = true ∨ (¬ ws.any (fun x => wth th x) = true ∧ ∀ (i : Nat) (y : Msg), rs[i]? = some y → ¬ y.1 = pt) ∨ (¬ ws.any (fun x => wth th x) = true ∧ ∃ (k0 : Nat) (y0 : Msg), rs[k0]? = some y0 ∧ y0.1 = pt ∧ ∀ (i : Nat) (y : Msg), i < k0 → rs[i]? = some y → ¬ y.1 = pt) := by
                                by_cases h : ws.any (fun x => wth th x) = true
                                · exact .inl h
                                · rcases first_of (fun y : Msg => y.1 = pt) rs with h2 | h2
                                  · exact .inr (.inl ⟨h, h2⟩)
                                  · exact .inr (.inr ⟨h, h2⟩)
                            rcases hcs with hisx | ⟨hisx, hno⟩ | ⟨hisx, k0, y0, hk0, hp0, hb0⟩
                            · replace hA := hA.rw 10 (v' := .bool true) rfl (vb_t hisx)
                              replace hS := hS.front 1 (C := L1) (L' := [(b12, rowO [.int .u8 x10f0, .int .u8 x10f1, .int .u8 x10f2, .int .u64 x10f3, .int .u64 x10f4, .int .u32 x10f5, .int .u16 x10f6, .int .u16 x10f7, .int .u64 x10f8, .int .u32 x10f9, .int .u8 x10f10, .int .u64 x10f11, .int .u64 x10f12, .slice x10A13 x10b13.length x10c13] 39)] :: D :: Cw :: Cr :: F) rfl rfl
                              refine st_call0 hA rfl rfl rfl isfn8 rfl rfl (by decide) (get_state8 hS hM1 pt th hisx) ?_
                              clear hA hS; rintro _ w96 a ⟨L97, hM98, rfl, hS⟩ hA
                              refine st_run tbOk 4 hA (e' := (185, .iface 47 (.int .i64 15)) :: (184, .bool false) :: (183, .agg #[.int .u64 0, .int .u64 0, .int .u32 0, .int .u16 0, .int .u16 0, .int .u64 0, .int .u32 0, .int .u8 0, .int .u64 0, .int .u64 0, .slice none 0 0]) :: (178, .tuple #[.agg #[.int .u64 0, .int .u64 0, .int .u32 0, .int .u16 0, .int .u16 0, .int .u64 0, .int .u32 0, .int .u8 0, .int .u64 0, .int .u64 0, .slice none 0 0], .bool false, .iface 47 (.int .i64 15)]) :: _) rfl ?_; clear hA; intro a hA
                              refine st_alloc tbOk hA hS [.int .u64 0, .int .u64 0, .int .u32 0, .int .u16 0, .int .u16 0, .int .u64 0, .int .u32 0, .int .u8 0, .int .u64 0, .int .u64 0, .slice none 0 0] rfl rfl rfl rfl rfl (by decide) ?_; clear hA hS; intro b99 w100 a hS hA
                              refine st_store tbOk hA hS [.int .u64 0, .int .u64 0, .int .u32 0, .int .u16 0, .int .u16 0, .int .u64 0, .int .u32 0, .int .u8 0, .int .u64 0, .int .u64 0, .slice none 0 0] [.int .u64 0, .int .u64 0, .int .u32 0, .int .u16 0, .int .u16 0, .int .u64 0, .int .u32 0, .int .u8 0, .int .u64 0, .int .u64 0, .slice none 0 0] rfl rfl rfl rfl rfl rfl (by simp [Value.oneCell']) (Nat.le_of_ble_eq_true rfl) rfl rfl rfl ?_; clear hS; intro w101 hS
                              refine st_run tbOk 2 hA (e' := (21, .iface 47 (.int .i64 15)) :: (20, .bool false) :: _) rfl ?_; clear hA; intro a hA
                              refine wpList_nil ?_
                              replace hA := hA.sel [3, 4, 5, 8, 9, 10, 19, 20, 21, 33, 34, 35] (e' := [(3, .pointer (some ⟨b2, 0, none⟩)), (4, .slice Aw ((ws).length) cw), (5, .slice Ar ((rs).length) cr), (8, .int .u64 pt), (9, .int .i64 th), (10, .bool true), (19, .pointer (some ⟨b99, 0, none⟩)), (20, .bool false), (21, .iface 47 (.int .i64 15)), (33, .slice (some ⟨b8, o9, none⟩) l.length c), (34, .int .i64 ((l.length : Nat) : Int)), (35, .int .i64 ((k : Nat) : Int))]) rfl
                              refine xt_norm ?_
                              refine wp_seq ?_
                              refine wp_region_lit ?_
                              refine st_run tbOk 1 hA (e' := (22, .int .i64 (-1)) :: _) rfl ?_; clear hA; intro a hA
                              refine wpList_nil ?_
                              refine xt_norm ?_
                              refine wp_seq ?_
                              refine wp_seq ?_
                              refine wp_region_lit ?_
                              refine st_run tbOk 3 hA (e' := (188, .int .i64 (IntKind.i64.wrap ((((rs).length : Nat) : Int) - 1))) :: (187, .int .i64 (((rs).length : Nat) : Int)) :: (186, .slice Ar ((rs).length) cr) :: _) rfl ?_; clear hA; intro a hA
                              replace hA := hA.rw 188 (v' := .int .i64 ((((rs).length : Nat) : Int) - 1)) rfl (wr64 (by omega) (by omega) (by omega))
                              refine st_run tbOk 1 hA (e' := (23, .int .i64 ((((rs).length : Nat) : Int) - 1)) :: _) rfl ?_; clear hA; intro a hA
                              refine wpList_nil ?_
                              replace hA := hA.sel [3, 4, 5, 8, 9, 10, 19, 20, 21, 22, 23, 33, 34, 35] (e' := [(3, .pointer (some ⟨b2, 0, none⟩)), (4, .slice Aw ((ws).length) cw), (5, .slice Ar ((rs).length) cr), (8, .int .u64 pt), (9, .int .i64 th), (10, .bool true), (19, .pointer (some ⟨b99, 0, none⟩)), (20, .bool false), (21, .iface 47 (.int .i64 15)), (22, .int .i64 (-1)), (23, .int .i64 ((((rs).length : Nat) : Int) - 1)), (33, .slice (some ⟨b8, o9, none⟩) l.length c), (34, .int .i64 ((l.length : Nat) : Int)), (35, .int .i64 ((k : Nat) : Int))]) rfl
                              refine xt_norm ?_
                              refine wp_block ?_
                              refine wp_loop_ghost (fun m a w => ∃ (j : Nat) (av : Int), m = 0 + j ∧ Has a 269 [(3, .pointer (some ⟨b2, 0, none⟩)), (4, .slice Aw ((ws).length) cw), (5, .slice Ar ((rs).length) cr), (8, .int .u64 pt), (9, .int .i64 th), (10, .bool true), (19, .pointer (some ⟨b99, 0, none⟩)), (20, .bool false), (21, .iface 47 (.int .i64 15)), (22, .int .i64 av), (23, .int .i64 (((j : Nat) : Int) - 1)), (33, .slice (some ⟨b8, o9, none⟩) l.length c), (34, .int .i64 ((l.length : Nat) : Int)), (35, .int .i64 ((k : Nat) : Int))] ∧ St w0 w ([(b99, rowO [.int .u64 0, .int .u64 0, .int .u32 0, .int .u16 0, .int .u16 0, .int .u64 0, .int .u32 0, .int .u8 0, .int .u64 0, .int .u64 0, .slice none 0 0] 37)] :: L97 :: [(b12, rowO [.int .u8 x10f0, .int .u8 x10f1, .int .u8 x10f2, .int .u64 x10f3, .int .u64 x10f4, .int .u32 x10f5, .int .u16 x10f6, .int .u16 x10f7, .int .u64 x10f8, .int .u32 x10f9, .int .u8 x10f10, .int .u64 x10f11, .int .u64 x10f12, .slice x10A13 x10b13.length x10c13] 39)] :: D :: Cw :: Cr :: F) ∧ (j ≤ rs.length) ∧ (fnd2 (fun y : Msg => y.1 = pt) rs j av)) (0 + rs.length)
                                ⟨rs.length, (-1), rfl, (hA.sel [3, 4, 5, 8, 9, 10, 19, 20, 21, 22, 23, 33, 34, 35] rfl), hS, Nat.le_refl _, fnd2.init⟩ ?_
                              clear hA hS; rintro m0 a w102 ⟨j, av, rfl, hA, hS, hj, hav⟩
                              refine wp_seq ?_
                              refine wp_seq ?_
                              refine wp_region_lit ?_
                              refine st_run tbOk 2 hA (e' := (190, .bool (decide (((j : Nat) : Int) - 1 ≥ 0))) :: (189, .int .i64 (((j : Nat) : Int) - 1)) :: _) rfl ?_; clear hA; intro a hA
                              refine wpList_nil ?_
                              replace hA := hA.sel [3, 4, 5, 8, 9, 10, 19, 20, 21, 22, 23, 33, 34, 35, 190] (e' := [(3, .pointer (some ⟨b2, 0, none⟩)), (4, .slice Aw ((ws).length) cw), (5, .slice Ar ((rs).length) cr), (8, .int .u64 pt), (9, .int .i64 th), (10, .bool true), (19, .pointer (some ⟨b99, 0, none⟩)), (20, .bool false), (21, .iface 47 (.int .i64 15)), (22, .int .i64 av), (23, .int .i64 (((j : Nat) : Int) - 1)), (33, .slice (some ⟨b8, o9, none⟩) l.length c), (34, .int .i64 ((l.length : Nat) : Int)), (35, .int .i64 ((k : Nat) : Int)), (190, .bool (decide (((j : Nat) : Int) - 1 ≥ 0)))]) rfl
                              refine xt_norm ?_
                              by_cases hc103 : ((j : Nat) : Int) - 1 ≥ 0
                              · first
                                | (exfalso; omega)
                                | (replace hA := hA.rw 190 (v' := .bool true) rfl (vb_true hc103)
                                   refine cd_cond_t hA rfl ?_
                                   refine wp_skip ?_
                                   refine xt_norm ?_
                                   refine wp_seq ?_
                                   refine wp_block ?_
                                   refine wp_seq ?_
                                   refine wp_region_lit ?_
                                   obtain ⟨i, hij⟩ : ∃ i, j = i + 1 := ⟨j - 1, by omega⟩
                                   subst hij
                                   replace hA := hA.rw 23 (v' := .int .i64 ((i : Nat) : Int)) rfl (vint (by omega))
                                   refine st_run tbOk 2 hA (e' := (194, .int .i64 ((i : Nat) : Int)) :: (193, .slice Ar ((rs).length) cr) :: _) rfl ?_; clear hA; intro a hA
                                   obtain ⟨b104, o105, rfl⟩ := hR.isSome (k := i) (by omega)
                                   refine st_val hA rfl rfl (by decide) (rn_indexAddr tbOk hA i (o105 + (i * 11)) rfl rfl rfl rfl rfl rfl (by rfl) (by omega) (by first | rfl | simp [Nat.mul_one, Nat.zero_add] | omega)) ?_; clear hA; intro a hA
                                   refine st_run tbOk 1 hA (e' := (196, .pointer (some ⟨b104, o105 + (i * 11), none⟩)) :: _) rfl ?_; clear hA; intro a hA
                                   obtain ⟨x106, hx106⟩ := get_ex (l := rs) (k := i) (by omega)
                                   obtain ⟨x106f0, x106f1, x106f2, x106f3, x106f4, x106f5, x106f6, x106f7, x106f8, x106f9, x106A10, x106c10, x106b10⟩ := x106
                                   have hd107 := (fun x hx => hdr x hx D) _ (List.mem_of_getElem? hx106)
                                   refine st_val hA rfl rfl (by decide) (rn_load tbOk hA rfl rfl rfl rfl ((hR.rd (hS.own_ 5 rfl)).elemf (k := i) encMessage_ok hx106 (j := 0) rfl)) ?_; clear hA; intro a hA
                                   refine st_run tbOk 2 hA (e' := (199, .bool (x106f0 == pt)) :: (198, .int .u64 pt) :: _) rfl ?_; clear hA; intro a hA
                                   refine wpList_nil ?_
                                   replace hA := hA.sel [3, 4, 5, 8, 9, 10, 19, 20, 21, 22, 23, 33, 34, 35, 199] (e' := [(3, .pointer (some ⟨b2, 0, none⟩)), (4, .slice Aw ((ws).length) cw), (5, .slice (some ⟨b104, o105, none⟩) ((rs).length) cr), (8, .int .u64 pt), (9, .int .i64 th), (10, .bool true), (19, .pointer (some ⟨b99, 0, none⟩)), (20, .bool false), (21, .iface 47 (.int .i64 15)), (22, .int .i64 av), (23, .int .i64 ((i : Nat) : Int)), (33, .slice (some ⟨b8, o9, none⟩) l.length c), (34, .int .i64 ((l.length : Nat) : Int)), (35, .int .i64 ((k : Nat) : Int)), (199, .bool (x106f0 == pt))]) rfl
                                   refine xt_norm ?_
                                   by_cases hc108 : x106f0 = pt
                                   · first
                                     | (exfalso; omega)
                                     | (replace hA := hA.rw 199 (v' := .bool true) rfl (vb_eq_t hc108)
                                        refine cd_cond_t hA rfl ?_
                                        refine wp_region_lit ?_
                                        refine st_run tbOk 2 hA (e' := (22, .int .i64 ((i : Nat) : Int)) :: (200, .int .i64 ((i : Nat) : Int)) :: _) rfl ?_; clear hA; intro a hA
                                        refine wpList_nil ?_
                                        replace hA := hA.sel [3, 4, 5, 8, 9, 10, 19, 20, 21, 22, 23, 33, 34, 35] (e' := [(3, .pointer (some ⟨b2, 0, none⟩)), (4, .slice Aw ((ws).length) cw), (5, .slice (some ⟨b104, o105, none⟩) ((rs).length) cr), (8, .int .u64 pt), (9, .int .i64 th), (10, .bool true), (19, .pointer (some ⟨b99, 0, none⟩)), (20, .bool false), (21, .iface 47 (.int .i64 15)), (22, .int .i64 ((i : Nat) : Int)), (23, .int .i64 ((i : Nat) : Int)), (33, .slice (some ⟨b8, o9, none⟩) l.length c), (34, .int .i64 ((l.length : Nat) : Int)), (35, .int .i64 ((k : Nat) : Int))]) rfl
                                        refine xb_norm ?_
                                        refine xt_norm ?_
                                        refine wp_region_lit ?_
                                        refine st_run tbOk 2 hA (e' := (192, .int .i64 (IntKind.i64.wrap (((i : Nat) : Int) - 1))) :: (191, .int .i64 ((i : Nat) : Int)) :: _) rfl ?_; clear hA; intro a hA
                                        replace hA := hA.rw 192 (v' := .int .i64 (((i : Nat) : Int) - 1)) rfl (wr64 (by omega) (by omega) (by omega))
                                        refine st_run tbOk 1 hA (e' := (23, .int .i64 (((i : Nat) : Int) - 1)) :: _) rfl ?_; clear hA; intro a hA
                                        refine wpList_nil ?_
                                        replace hA := hA.sel [3, 4, 5, 8, 9, 10, 19, 20, 21, 22, 23, 33, 34, 35] (e' := [(3, .pointer (some ⟨b2, 0, none⟩)), (4, .slice Aw ((ws).length) cw), (5, .slice (some ⟨b104, o105, none⟩) ((rs).length) cr), (8, .int .u64 pt), (9, .int .i64 th), (10, .bool true), (19, .pointer (some ⟨b99, 0, none⟩)), (20, .bool false), (21, .iface 47 (.int .i64 15)), (22, .int .i64 ((i : Nat) : Int)), (23, .int .i64 (((i : Nat) : Int) - 1)), (33, .slice (some ⟨b8, o9, none⟩) l.length c), (34, .int .i64 ((l.length : Nat) : Int)), (35, .int .i64 ((k : Nat) : Int))]) rfl
                                        replace hA := hA.rw 22 (v' := .int .i64 ((i : Nat) : Int)) rfl (vint (by omega))
                                        replace hA := hA.rw 23 (v' := .int .i64 (((i : Nat) : Int) - 1)) rfl (vint (by omega))
                                        replace hS := hS.front 5 (C := Cr) (L' := [(b99, rowO [.int .u64 0, .int .u64 0, .int .u32 0, .int .u16 0, .int .u16 0, .int .u64 0, .int .u32 0, .int .u8 0, .int .u64 0, .int .u64 0, .slice none 0 0] 37)] :: L97 :: [(b12, rowO [.int .u8 x10f0, .int .u8 x10f1, .int .u8 x10f2, .int .u64 x10f3, .int .u64 x10f4, .int .u32 x10f5, .int .u16 x10f6, .int .u16 x10f7, .int .u64 x10f8, .int .u32 x10f9, .int .u8 x10f10, .int .u64 x10f11, .int .u64 x10f12, .slice x10A13 x10b13.length x10c13] 39)] :: D :: Cw :: F) rfl rfl
                                        replace hS := hS.front 5 (C := Cw) (L' := Cr :: [(b99, rowO [.int .u64 0, .int .u64 0, .int .u32 0, .int .u16 0, .int .u16 0, .int .u64 0, .int .u32 0, .int .u8 0, .int .u64 0, .int .u64 0, .slice none 0 0] 37)] :: L97 :: [(b12, rowO [.int .u8 x10f0, .int .u8 x10f1, .int .u8 x10f2, .int .u64 x10f3, .int .u64 x10f4, .int .u32 x10f5, .int .u16 x10f6, .int .u16 x10f7, .int .u64 x10f8, .int .u32 x10f9, .int .u8 x10f10, .int .u64 x10f11, .int .u64 x10f12, .slice x10A13 x10b13.length x10c13] 39)] :: D :: F) rfl rfl
                                        replace hS := hS.front 5 (C := D) (L' := Cw :: Cr :: [(b99, rowO [.int .u64 0, .int .u64 0, .int .u32 0, .int .u16 0, .int .u16 0, .int .u64 0, .int .u32 0, .int .u8 0, .int .u64 0, .int .u64 0, .slice none 0 0] 37)] :: L97 :: [(b12, rowO [.int .u8 x10f0, .int .u8 x10f1, .int .u8 x10f2, .int .u64 x10f3, .int .u64 x10f4, .int .u32 x10f5, .int .u16 x10f6, .int .u16 x10f7, .int .u64 x10f8, .int .u32 x10f9, .int .u8 x10f10, .int .u64 x10f11, .int .u64 x10f12, .slice x10A13 x10b13.length x10c13] 39)] :: F) rfl rfl
                                        replace hS := hS.front 5 (C := [(b12, rowO [.int .u8 x10f0, .int .u8 x10f1, .int .u8 x10f2, .int .u64 x10f3, .int .u64 x10f4, .int .u32 x10f5, .int .u16 x10f6, .int .u16 x10f7, .int .u64 x10f8, .int .u32 x10f9, .int .u8 x10f10, .int .u64 x10f11, .int .u64 x10f12, .slice x10A13 x10b13.length x10c13] 39)]) (L' := D :: Cw :: Cr :: [(b99, rowO [.int .u64 0, .int .u64 0, .int .u32 0, .int .u16 0, .int .u16 0, .int .u64 0, .int .u32 0, .int .u8 0, .int .u64 0, .int .u64 0, .slice none 0 0] 37)] :: L97 :: F) rfl rfl
                                        replace hS := hS.front 5 (C := L97) (L' := [(b12, rowO [.int .u8 x10f0, .int .u8 x10f1, .int .u8 x10f2, .int .u64 x10f3, .int .u64 x10f4, .int .u32 x10f5, .int .u16 x10f6, .int .u16 x10f7, .int .u64 x10f8, .int .u32 x10f9, .int .u8 x10f10, .int .u64 x10f11, .int .u64 x10f12, .slice x10A13 x10b13.length x10c13] 39)] :: D :: Cw :: Cr :: [(b99, rowO [.int .u64 0, .int .u64 0, .int .u32 0, .int .u16 0, .int .u16 0, .int .u64 0, .int .u32 0, .int .u8 0, .int .u64 0, .int .u64 0, .slice none 0 0] 37)] :: F) rfl rfl
                                        replace hS := hS.front 5 (C := [(b99, rowO [.int .u64 0, .int .u64 0, .int .u32 0, .int .u16 0, .int .u16 0, .int .u64 0, .int .u32 0, .int .u8 0, .int .u64 0, .int .u64 0, .slice none 0 0] 37)]) (L' := L97 :: [(b12, rowO [.int .u8 x10f0, .int .u8 x10f1, .int .u8 x10f2, .int .u64 x10f3, .int .u64 x10f4, .int .u32 x10f5, .int .u16 x10f6, .int .u16 x10f7, .int .u64 x10f8, .int .u32 x10f9, .int .u8 x10f10, .int .u64 x10f11, .int .u64 x10f12, .slice x10A13 x10b13.length x10c13] 39)] :: D :: Cw :: Cr :: F) rfl rfl
                                        exact lp_next _ (by omega) ⟨i, ((i : Nat) : Int), rfl, (hA.sel [3, 4, 5, 8, 9, 10, 19, 20, 21, 22, 23, 33, 34, 35] rfl), hS, by omega, fnd2.yes hx106 (by assumption)⟩)
                                   · first
                                     | (exfalso; omega)
                                     | (replace hA := hA.rw 199 (v' := .bool false) rfl (vb_eq_f hc108)
                                        refine cd_cond_f hA rfl ?_
                                        refine wp_skip ?_
                                        refine xb_norm ?_
                                        refine xt_norm ?_
                                        refine wp_region_lit ?_
                                        refine st_run tbOk 2 hA (e' := (192, .int .i64 (IntKind.i64.wrap (((i : Nat) : Int) - 1))) :: (191, .int .i64 ((i : Nat) : Int)) :: _) rfl ?_; clear hA; intro a hA
                                        replace hA := hA.rw 192 (v' := .int .i64 (((i : Nat) : Int) - 1)) rfl (wr64 (by omega) (by omega) (by omega))
                                        refine st_run tbOk 1 hA (e' := (23, .int .i64 (((i : Nat) : Int) - 1)) :: _) rfl ?_; clear hA; intro a hA
                                        refine wpList_nil ?_
                                        replace hA := hA.sel [3, 4, 5, 8, 9, 10, 19, 20, 21, 22, 23, 33, 34, 35] (e' := [(3, .pointer (some ⟨b2, 0, none⟩)), (4, .slice Aw ((ws).length) cw), (5, .slice (some ⟨b104, o105, none⟩) ((rs).length) cr), (8, .int .u64 pt), (9, .int .i64 th), (10, .bool true), (19, .pointer (some ⟨b99, 0, none⟩)), (20, .bool false), (21, .iface 47 (.int .i64 15)), (22, .int .i64 av), (23, .int .i64 (((i : Nat) : Int) - 1)), (33, .slice (some ⟨b8, o9, none⟩) l.length c), (34, .int .i64 ((l.length : Nat) : Int)), (35, .int .i64 ((k : Nat) : Int))]) rfl
                                        replace hA := hA.rw 23 (v' := .int .i64 (((i : Nat) : Int) - 1)) rfl (vint (by omega))
                                        replace hS := hS.front 5 (C := Cr) (L' := [(b99, rowO [.int .u64 0, .int .u64 0, .int .u32 0, .int .u16 0, .int .u16 0, .int .u64 0, .int .u32 0, .int .u8 0, .int .u64 0, .int .u64 0, .slice none 0 0] 37)] :: L97 :: [(b12, rowO [.int .u8 x10f0, .int .u8 x10f1, .int .u8 x10f2, .int .u64 x10f3, .int .u64 x10f4, .int .u32 x10f5, .int .u16 x10f6, .int .u16 x10f7, .int .u64 x10f8, .int .u32 x10f9, .int .u8 x10f10, .int .u64 x10f11, .int .u64 x10f12, .slice x10A13 x10b13.length x10c13] 39)] :: D :: Cw :: F) rfl rfl
                                        replace hS := hS.front 5 (C := Cw) (L' := Cr :: [(b99, rowO [.int .u64 0, .int .u64 0, .int .u32 0, .int .u16 0, .int .u16 0, .int .u64 0, .int .u32 0, .int .u8 0, .int .u64 0, .int .u64 0, .slice none 0 0] 37)] :: L97 :: [(b12, rowO [.int .u8 x10f0, .int .u8 x10f1, .int .u8 x10f2, .int .u64 x10f3, .int .u64 x10f4, .int .u32 x10f5, .int .u16 x10f6, .int .u16 x10f7, .int .u64 x10f8, .int .u32 x10f9, .int .u8 x10f10, .int .u64 x10f11, .int .u64 x10f12, .slice x10A13 x10b13.length x10c13] 39)] :: D :: F) rfl rfl
                                        replace hS := hS.front 5 (C := D) (L' := Cw :: Cr :: [(b99, rowO [.int .u64 0, .int .u64 0, .int .u32 0, .int .u16 0, .int .u16 0, .int .u64 0, .int .u32 0, .int .u8 0, .int .u64 0, .int .u64 0, .slice none 0 0] 37)] :: L97 :: [(b12, rowO [.int .u8 x10f0, .int .u8 x10f1, .int .u8 x10f2, .int .u64 x10f3, .int .u64 x10f4, .int .u32 x10f5, .int .u16 x10f6, .int .u16 x10f7, .int .u64 x10f8, .int .u32 x10f9, .int .u8 x10f10, .int .u64 x10f11, .int .u64 x10f12, .slice x10A13 x10b13.length x10c13] 39)] :: F) rfl rfl
                                        replace hS := hS.front 5 (C := [(b12, rowO [.int .u8 x10f0, .int .u8 x10f1, .int .u8 x10f2, .int .u64 x10f3, .int .u64 x10f4, .int .u32 x10f5, .int .u16 x10f6, .int .u16 x10f7, .int .u64 x10f8, .int .u32 x10f9, .int .u8 x10f10, .int .u64 x10f11, .int .u64 x10f12, .slice x10A13 x10b13.length x10c13] 39)]) (L' := D :: Cw :: Cr :: [(b99, rowO [.int .u64 0, .int .u64 0, .int .u32 0, .int .u16 0, .int .u16 0, .int .u64 0, .int .u32 0, .int .u8 0, .int .u64 0, .int .u64 0, .slice none 0 0] 37)] :: L97 :: F) rfl rfl
                                        replace hS := hS.front 5 (C := L97) (L' := [(b12, rowO [.int .u8 x10f0, .int .u8 x10f1, .int .u8 x10f2, .int .u64 x10f3, .int .u64 x10f4, .int .u32 x10f5, .int .u16 x10f6, .int .u16 x10f7, .int .u64 x10f8, .int .u32 x10f9, .int .u8 x10f10, .int .u64 x10f11, .int .u64 x10f12, .slice x10A13 x10b13.length x10c13] 39)] :: D :: Cw :: Cr :: [(b99, rowO [.int .u64 0, .int .u64 0, .int .u32 0, .int .u16 0, .int .u16 0, .int .u64 0, .int .u32 0, .int .u8 0, .int .u64 0, .int .u64 0, .slice none 0 0] 37)] :: F) rfl rfl
                                        replace hS := hS.front 5 (C := [(b99, rowO [.int .u64 0, .int .u64 0, .int .u32 0, .int .u16 0, .int .u16 0, .int .u64 0, .int .u32 0, .int .u8 0, .int .u64 0, .int .u64 0, .slice none 0 0] 37)]) (L' := L97 :: [(b12, rowO [.int .u8 x10f0, .int .u8 x10f1, .int .u8 x10f2, .int .u64 x10f3, .int .u64 x10f4, .int .u32 x10f5, .int .u16 x10f6, .int .u16 x10f7, .int .u64 x10f8, .int .u32 x10f9, .int .u8 x10f10, .int .u64 x10f11, .int .u64 x10f12, .slice x10A13 x10b13.length x10c13] 39)] :: D :: Cw :: Cr :: F) rfl rfl
                                        exact lp_next _ (by omega) ⟨i, av, rfl, (hA.sel [3, 4, 5, 8, 9, 10, 19, 20, 21, 22, 23, 33, 34, 35] rfl), hS, by omega, hav.no hx106 (by assumption)⟩))
                              · first
                                | (exfalso; omega)
                                | (replace hA := hA.rw 190 (v' := .bool false) rfl (vb_false hc103)
                                   refine cd_cond_f hA rfl ?_
                                   refine wp_exit ?_
                                   refine xt_exit ?_
                                   refine xt_exit ?_
                                   refine cd_exit_eq ?_
                                   refine xt_norm ?_
                                   refine wp_block ?_
                                   refine wp_seq ?_
                                   refine wp_region_lit ?_
                                   have hj0 : j = 0 := by omega
                                   rw [hj0] at hav
                                   refine st_run tbOk 2 hA (e' := (218, .bool true) :: (219, .bool true) :: _) rfl ?_; clear hA; intro a hA
                                   refine wpList_nil ?_
                                   replace hA := hA.sel [3, 4, 5, 8, 9, 19, 20, 21, 22, 33, 34, 35, 218] (e' := [(3, .pointer (some ⟨b2, 0, none⟩)), (4, .slice Aw ((ws).length) cw), (5, .slice Ar ((rs).length) cr), (8, .int .u64 pt), (9, .int .i64 th), (19, .pointer (some ⟨b99, 0, none⟩)), (20, .bool false), (21, .iface 47 (.int .i64 15)), (22, .int .i64 av), (33, .slice (some ⟨b8, o9, none⟩) l.length c), (34, .int .i64 ((l.length : Nat) : Int)), (35, .int .i64 ((k : Nat) : Int)), (218, .bool true)]) rfl
                                   refine xt_norm ?_
                                   refine cd_cond_t hA rfl ?_
                                   refine wp_seq ?_
                                   refine wp_region_lit ?_
                                   refine st_run tbOk 3 hA (e' := (222, .iface 47 (.int .i64 15)) :: (221, .bool false) :: (220, .bool false) :: _) rfl ?_; clear hA; intro a hA
                                   refine st_call0 hA rfl rfl rfl isfn7 rfl rfl (by decide) (number_hit7 hS hg 15) ?_
                                   clear hA hS; rintro v w109 a ⟨rfl, hS⟩ hA
                                   refine st_run tbOk 2 hA (e' := (225, .bool false) :: (224, .bool false) :: _) rfl ?_; clear hA; intro a hA
                                   refine wpList_nil ?_
                                   replace hA := hA.sel [3, 4, 5, 33, 34, 35, 225] (e' := [(3, .pointer (some ⟨b2, 0, none⟩)), (4, .slice Aw ((ws).length) cw), (5, .slice Ar ((rs).length) cr), (33, .slice (some ⟨b8, o9, none⟩) l.length c), (34, .int .i64 ((l.length : Nat) : Int)), (35, .int .i64 ((k : Nat) : Int)), (225, .bool false)]) rfl
                                   refine xt_norm ?_
                                   refine cd_cond_f hA rfl ?_
                                   refine wp_skip ?_
                                   refine xb_norm ?_
                                   refine xb_norm ?_
                                   refine xt_norm ?_
                                   replace hS := hS.drop1
                                   replace hS := hS.front 1 (C := [(b12, rowO [.int .u8 x10f0, .int .u8 x10f1, .int .u8 x10f2, .int .u64 x10f3, .int .u64 x10f4, .int .u32 x10f5, .int .u16 x10f6, .int .u16 x10f7, .int .u64 x10f8, .int .u32 x10f9, .int .u8 x10f10, .int .u64 x10f11, .int .u64 x10f12, .slice x10A13 x10b13.length x10c13] 39)]) (L' := L97 :: D :: Cw :: Cr :: F) rfl rfl
                                   replace hS := hS.drop1
                                   replace hS := hS.front 3 (C := Cr) (L' := L97 :: D :: Cw :: F) rfl rfl
                                   replace hS := hS.front 3 (C := Cw) (L' := Cr :: L97 :: D :: F) rfl rfl
                                   replace hS := hS.front 3 (C := D) (L' := Cw :: Cr :: L97 :: F) rfl rfl
                                   replace hS := hS.front 3 (C := L97) (L' := D :: Cw :: Cr :: F) rfl rfl
                                   exact ⟨(ws), (ms), (rs), L97, D, Aw, cw, Cw, Ar, cr, Cr, (hA.sel [3, 4, 5, 33, 34, 35] rfl), hS, hI, hM98, hW, hR, hdm, hdr⟩)
                            · have hnm := hI.miss hno
                              replace hA := hA.rw 10 (v' := .bool false) rfl (vb_f hisx)
                              replace hS := hS.front 1 (C := L1) (L' := [(b12, rowO [.int .u8 x10f0, .int .u8 x10f1, .int .u8 x10f2, .int .u64 x10f3, .int .u64 x10f4, .int .u32 x10f5, .int .u16 x10f6, .int .u16 x10f7, .int .u64 x10f8, .int .u32 x10f9, .int .u8 x10f10, .int .u64 x10f11, .int .u64 x10f12, .slice x10A13 x10b13.length x10c13] 39)] :: D :: Cw :: Cr :: F) rfl rfl
                              refine st_call0 hA rfl rfl rfl isfn8 rfl rfl (by decide) (get_wait8 hS hM1 pt th (Bool.eq_false_iff.2 hisx) hnm (by omega)) ?_
                              clear hA hS; rintro _ w110 a ⟨L111, hM112, rfl, hS⟩ hA
                              refine st_run tbOk 4 hA (e' := (185, .nilIface) :: (184, .bool false) :: (183, .agg #[.int .u64 0, .int .u64 0, .int .u32 0, .int .u16 0, .int .u16 0, .int .u64 0, .int .u32 0, .int .u8 0, .int .u64 0, .int .u64 0, .slice none 0 0]) :: (178, .tuple #[.agg #[.int .u64 0, .int .u64 0, .int .u32 0, .int .u16 0, .int .u16 0, .int .u64 0, .int .u32 0, .int .u8 0, .int .u64 0, .int .u64 0, .slice none 0 0], .bool false, .nilIface]) :: _) rfl ?_; clear hA; intro a hA
                              refine st_alloc tbOk hA hS [.int .u64 0, .int .u64 0, .int .u32 0, .int .u16 0, .int .u16 0, .int .u64 0, .int .u32 0, .int .u8 0, .int .u64 0, .int .u64 0, .slice none 0 0] rfl rfl rfl rfl rfl (by decide) ?_; clear hA hS; intro b113 w114 a hS hA
                              refine st_store tbOk hA hS [.int .u64 0, .int .u64 0, .int .u32 0, .int .u16 0, .int .u16 0, .int .u64 0, .int .u32 0, .int .u8 0, .int .u64 0, .int .u64 0, .slice none 0 0] [.int .u64 0, .int .u64 0, .int .u32 0, .int .u16 0, .int .u16 0, .int .u64 0, .int .u32 0, .int .u8 0, .int .u64 0, .int .u64 0, .slice none 0 0] rfl rfl rfl rfl rfl rfl (by simp [Value.oneCell']) (Nat.le_of_ble_eq_true rfl) rfl rfl rfl ?_; clear hS; intro w115 hS
                              refine st_run tbOk 2 hA (e' := (21, .nilIface) :: (20, .bool false) :: _) rfl ?_; clear hA; intro a hA
                              refine wpList_nil ?_
                              replace hA := hA.sel [3, 4, 5, 8, 9, 10, 19, 20, 21, 33, 34, 35] (e' := [(3, .pointer (some ⟨b2, 0, none⟩)), (4, .slice Aw ((ws).length) cw), (5, .slice Ar ((rs).length) cr), (8, .int .u64 pt), (9, .int .i64 th), (10, .bool false), (19, .pointer (some ⟨b113, 0, none⟩)), (20, .bool false), (21, .nilIface), (33, .slice (some ⟨b8, o9, none⟩) l.length c), (34, .int .i64 ((l.length : Nat) : Int)), (35, .int .i64 ((k : Nat) : Int))]) rfl
                              refine xt_norm ?_
                              refine wp_seq ?_
                              refine wp_region_lit ?_
                              refine st_run tbOk 1 hA (e' := (22, .int .i64 (-1)) :: _) rfl ?_; clear hA; intro a hA
                              refine wpList_nil ?_
                              refine xt_norm ?_
                              refine wp_seq ?_
                              refine wp_seq ?_
                              refine wp_region_lit ?_
                              refine st_run tbOk 3 hA (e' := (188, .int .i64 (IntKind.i64.wrap ((((rs).length : Nat) : Int) - 1))) :: (187, .int .i64 (((rs).length : Nat) : Int)) :: (186, .slice Ar ((rs).length) cr) :: _) rfl ?_; clear hA; intro a hA
                              replace hA := hA.rw 188 (v' := .int .i64 ((((rs).length : Nat) : Int) - 1)) rfl (wr64 (by omega) (by omega) (by omega))
                              refine st_run tbOk 1 hA (e' := (23, .int .i64 ((((rs).length : Nat) : Int) - 1)) :: _) rfl ?_; clear hA; intro a hA
                              refine wpList_nil ?_
                              replace hA := hA.sel [3, 4, 5, 8, 9, 10, 19, 20, 21, 22, 23, 33, 34, 35] (e' := [(3, .pointer (some ⟨b2, 0, none⟩)), (4, .slice Aw ((ws).length) cw), (5, .slice Ar ((rs).length) cr), (8, .int .u64 pt), (9, .int .i64 th), (10, .bool false), (19, .pointer (some ⟨b113, 0, none⟩)), (20, .bool false), (21, .nilIface), (22, .int .i64 (-1)), (23, .int .i64 ((((rs).length : Nat) : Int) - 1)), (33, .slice (some ⟨b8, o9, none⟩) l.length c), (34, .int .i64 ((l.length : Nat) : Int)), (35, .int .i64 ((k : Nat) : Int))]) rfl
                              refine xt_norm ?_
                              refine wp_block ?_
                              refine wp_loop_ghost (fun m a w => ∃ (j : Nat) (av : Int), m = 0 + j ∧ Has a 269 [(3, .pointer (some ⟨b2, 0, none⟩)), (4, .slice Aw ((ws).length) cw), (5, .slice Ar ((rs).length) cr), (8, .int .u64 pt), (9, .int .i64 th), (10, .bool false), (19, .pointer (some ⟨b113, 0, none⟩)), (20, .bool false), (21, .nilIface), (22, .int .i64 av), (23, .int .i64 (((j : Nat) : Int) - 1)), (33, .slice (some ⟨b8, o9, none⟩) l.length c), (34, .int .i64 ((l.length : Nat) : Int)), (35, .int .i64 ((k : Nat) : Int))] ∧ St w0 w ([(b113, rowO [.int .u64 0, .int .u64 0, .int .u32 0, .int .u16 0, .int .u16 0, .int .u64 0, .int .u32 0, .int .u8 0, .int .u64 0, .int .u64 0, .slice none 0 0] 37)] :: L111 :: [(b12, rowO [.int .u8 x10f0, .int .u8 x10f1, .int .u8 x10f2, .int .u64 x10f3, .int .u64 x10f4, .int .u32 x10f5, .int .u16 x10f6, .int .u16 x10f7, .int .u64 x10f8, .int .u32 x10f9, .int .u8 x10f10, .int .u64 x10f11, .int .u64 x10f12, .slice x10A13 x10b13.length x10c13] 39)] :: D :: Cw :: Cr :: F) ∧ (j ≤ rs.length) ∧ (fnd2 (fun y : Msg => y.1 = pt) rs j av)) (0 + rs.length)
                                ⟨rs.length, (-1), rfl, (hA.sel [3, 4, 5, 8, 9, 10, 19, 20, 21, 22, 23, 33, 34, 35] rfl), hS, Nat.le_refl _, fnd2.init⟩ ?_
                              clear hA hS; rintro m0 a w116 ⟨j, av, rfl, hA, hS, hj, hav⟩
                              refine wp_seq ?_
                              refine wp_seq ?_
                              refine wp_region_lit ?_
                              refine st_run tbOk 2 hA (e' := (190, .bool (decide (((j : Nat) : Int) - 1 ≥ 0))) :: (189, .int .i64 (((j : Nat) : Int) - 1)) :: _) rfl ?_; clear hA; intro a hA
                              refine wpList_nil ?_
                              replace hA := hA.sel [3, 4, 5, 8, 9, 10, 19, 20, 21, 22, 23, 33, 34, 35, 190] (e' := [(3, .pointer (some ⟨b2, 0, none⟩)), (4, .slice Aw ((ws).length) cw), (5, .slice Ar ((rs).length) cr), (8, .int .u64 pt), (9, .int .i64 th), (10, .bool false), (19, .pointer (some ⟨b113, 0, none⟩)), (20, .bool false), (21, .nilIface), (22, .int .i64 av), (23, .int .i64 (((j : Nat) : Int) - 1)), (33, .slice (some ⟨b8, o9, none⟩) l.length c), (34, .int .i64 ((l.length : Nat) : Int)), (35, .int .i64 ((k : Nat) : Int)), (190, .bool (decide (((j : Nat) : Int) - 1 ≥ 0)))]) rfl
                              refine xt_norm ?_
                              by_cases hc117 : ((j : Nat) : Int) - 1 ≥ 0
                              · first
                                | (exfalso; omega)
                                | (replace hA := hA.rw 190 (v' := .bool true) rfl (vb_true hc117)
                                   refine cd_cond_t hA rfl ?_
                                   refine wp_skip ?_
                                   refine xt_norm ?_
                                   refine wp_seq ?_
                                   refine wp_block ?_
                                   refine wp_seq ?_
                                   refine wp_region_lit ?_
                                   obtain ⟨i, hij⟩ : ∃ i, j = i + 1 := ⟨j - 1, by omega⟩
                                   subst hij
                                   replace hA := hA.rw 23 (v' := .int .i64 ((i : Nat) : Int)) rfl (vint (by omega))
                                   refine st_run tbOk 2 hA (e' := (194, .int .i64 ((i : Nat) : Int)) :: (193, .slice Ar ((rs).length) cr) :: _) rfl ?_; clear hA; intro a hA
                                   obtain ⟨b118, o119, rfl⟩ := hR.isSome (k := i) (by omega)
                                   refine st_val hA rfl rfl (by decide) (rn_indexAddr tbOk hA i (o119 + (i * 11)) rfl rfl rfl rfl rfl rfl (by rfl) (by omega) (by first | rfl | simp [Nat.mul_one, Nat.zero_add] | omega)) ?_; clear hA; intro a hA
                                   refine st_run tbOk 1 hA (e' := (196, .pointer (some ⟨b118, o119 + (i * 11), none⟩)) :: _) rfl ?_; clear hA; intro a hA
                                   obtain ⟨x120, hx120⟩ := get_ex (l := rs) (k := i) (by omega)
                                   obtain ⟨x120f0, x120f1, x120f2, x120f3, x120f4, x120f5, x120f6, x120f7, x120f8, x120f9, x120A10, x120c10, x120b10⟩ := x120
                                   have hd121 := (fun x hx => hdr x hx D) _ (List.mem_of_getElem? hx120)
                                   refine st_val hA rfl rfl (by decide) (rn_load tbOk hA rfl rfl rfl rfl ((hR.rd (hS.own_ 5 rfl)).elemf (k := i) encMessage_ok hx120 (j := 0) rfl)) ?_; clear hA; intro a hA
                                   refine st_run tbOk 2 hA (e' := (199, .bool (x120f0 == pt)) :: (198, .int .u64 pt) :: _) rfl ?_; clear hA; intro a hA
                                   refine wpList_nil ?_
                                   replace hA := hA.sel [3, 4, 5, 8, 9, 10, 19, 20, 21, 22, 23, 33, 34, 35, 199] (e' := [(3, .pointer (some ⟨b2, 0, none⟩)), (4, .slice Aw ((ws).length) cw), (5, .slice (some ⟨b118, o119, none⟩) ((rs).length) cr), (8, .int .u64 pt), (9, .int .i64 th), (10, .bool false), (19, .pointer (some ⟨b113, 0, none⟩)), (20, .bool false), (21, .nilIface), (22, .int .i64 av), (23, .int .i64 ((i : Nat) : Int)), (33, .slice (some ⟨b8, o9, none⟩) l.length c), (34, .int .i64 ((l.length : Nat) : Int)), (35, .int .i64 ((k : Nat) : Int)), (199, .bool (x120f0 == pt))]) rfl
                                   refine xt_norm ?_
                                   by_cases hc122 : x120f0 = pt
                                   · first
                                     | (exfalso; omega)
                                     | (replace hA := hA.rw 199 (v' := .bool true) rfl (vb_eq_t hc122)
                                        refine cd_cond_t hA rfl ?_
                                        refine wp_region_lit ?_
                                        refine st_run tbOk 2 hA (e' := (22, .int .i64 ((i : Nat) : Int)) :: (200, .int .i64 ((i : Nat) : Int)) :: _) rfl ?_; clear hA; intro a hA
                                        refine wpList_nil ?_
                                        replace hA := hA.sel [3, 4, 5, 8, 9, 10, 19, 20, 21, 22, 23, 33, 34, 35] (e' := [(3, .pointer (some ⟨b2, 0, none⟩)), (4, .slice Aw ((ws).length) cw), (5, .slice (some ⟨b118, o119, none⟩) ((rs).length) cr), (8, .int .u64 pt), (9, .int .i64 th), (10, .bool false), (19, .pointer (some ⟨b113, 0, none⟩)), (20, .bool false), (21, .nilIface), (22, .int .i64 ((i : Nat) : Int)), (23, .int .i64 ((i : Nat) : Int)), (33, .slice (some ⟨b8, o9, none⟩) l.length c), (34, .int .i64 ((l.length : Nat) : Int)), (35, .int .i64 ((k : Nat) : Int))]) rfl
                                        refine xb_norm ?_
                                        refine xt_norm ?_
                                        refine wp_region_lit ?_
                                        refine st_run tbOk 2 hA (e' := (192, .int .i64 (IntKind.i64.wrap (((i : Nat) : Int) - 1))) :: (191, .int .i64 ((i : Nat) : Int)) :: _) rfl ?_; clear hA; intro a hA
                                        replace hA := hA.rw 192 (v' := .int .i64 (((i : Nat) : Int) - 1)) rfl (wr64 (by omega) (by omega) (by omega))
                                        refine st_run tbOk 1 hA (e' := (23, .int .i64 (((i : Nat) : Int) - 1)) :: _) rfl ?_; clear hA; intro a hA
                                        refine wpList_nil ?_
                                        replace hA := hA.sel [3, 4, 5, 8, 9, 10, 19, 20, 21, 22, 23, 33, 34, 35] (e' := [(3, .pointer (some ⟨b2, 0, none⟩)), (4, .slice Aw ((ws).length) cw), (5, .slice (some ⟨b118, o119, none⟩) ((rs).length) cr), (8, .int .u64 pt), (9, .int .i64 th), (10, .bool false), (19, .pointer (some ⟨b113, 0, none⟩)), (20, .bool false), (21, .nilIface), (22, .int .i64 ((i : Nat) : Int)), (23, .int .i64 (((i : Nat) : Int) - 1)), (33, .slice (some ⟨b8, o9, none⟩) l.length c), (34, .int .i64 ((l.length : Nat) : Int)), (35, .int .i64 ((k : Nat) : Int))]) rfl
                                        replace hA := hA.rw 22 (v' := .int .i64 ((i : Nat) : Int)) rfl (vint (by omega))
                                        replace hA := hA.rw 23 (v' := .int .i64 (((i : Nat) : Int) - 1)) rfl (vint (by omega))
                                        replace hS := hS.front 5 (C := Cr) (L' := [(b113, rowO [.int .u64 0, .int .u64 0, .int .u32 0, .int .u16 0, .int .u16 0, .int .u64 0, .int .u32 0, .int .u8 0, .int .u64 0, .int .u64 0, .slice none 0 0] 37)] :: L111 :: [(b12, rowO [.int .u8 x10f0, .int .u8 x10f1, .int .u8 x10f2, .int .u64 x10f3, .int .u64 x10f4, .int .u32 x10f5, .int .u16 x10f6, .int .u16 x10f7, .int .u64 x10f8, .int .u32 x10f9, .int .u8 x10f10, .int .u64 x10f11, .int .u64 x10f12, .slice x10A13 x10b13.length x10c13] 39)] :: D :: Cw :: F) rfl rfl
                                        replace hS := hS.front 5 (C := Cw) (L' := Cr :: [(b113, rowO [.int .u64 0, .int .u64 0, .int .u32 0, .int .u16 0, .int .u16 0, .int .u64 0, .int .u32 0, .int .u8 0, .int .u64 0, .int .u64 0, .slice none 0 0] 37)] :: L111 :: [(b12, rowO [.int .u8 x10f0, .int .u8 x10f1, .int .u8 x10f2, .int .u64 x10f3, .int .u64 x10f4, .int .u32 x10f5, .int .u16 x10f6, .int .u16 x10f7, .int .u64 x10f8, .int .u32 x10f9, .int .u8 x10f10, .int .u64 x10f11, .int .u64 x10f12, .slice x10A13 x10b13.length x10c13] 39)] :: D :: F) rfl rfl
                                        replace hS := hS.front 5 (C := D) (L' := Cw :: Cr :: [(b113, rowO [.int .u64 0, .int .u64 0, .int .u32 0, .int .u16 0, .int .u16 0, .int .u64 0, .int .u32 0, .int .u8 0, .int .u64 0, .int .u64 0, .slice none 0 0] 37)] :: L111 :: [(b12, rowO [.int .u8 x10f0, .int .u8 x10f1, .int .u8 x10f2, .int .u64 x10f3, .int .u64 x10f4, .int .u32 x10f5, .int .u16 x10f6, .int .u16 x10f7, .int .u64 x10f8, .int .u32 x10f9, .int .u8 x10f10, .int .u64 x10f11, .int .u64 x10f12, .slice x10A13 x10b13.length x10c13] 39)] :: F) rfl rfl
                                        replace hS := hS.front 5 (C := [(b12, rowO [.int .u8 x10f0, .int .u8 x10f1, .int .u8 x10f2, .int .u64 x10f3, .int .u64 x10f4, .int .u32 x10f5, .int .u16 x10f6, .int .u16 x10f7, .int .u64 x10f8, .int .u32 x10f9, .int .u8 x10f10, .int .u64 x10f11, .int .u64 x10f12, .slice x10A13 x10b13.length x10c13] 39)]) (L' := D :: Cw :: Cr :: [(b113, rowO [.int .u64 0, .int .u64 0, .int .u32 0, .int .u16 0, .int .u16 0, .int .u64 0, .int .u32 0, .int .u8 0, .int .u64 0, .int .u64 0, .slice none 0 0] 37)] :: L111 :: F) rfl rfl
                                        replace hS := hS.front 5 (C := L111) (L' := [(b12, rowO [.int .u8 x10f0, .int .u8 x10f1, .int .u8 x10f2, .int .u64 x10f3, .int .u64 x10f4, .int .u32 x10f5, .int .u16 x10f6, .int .u16 x10f7, .int .u64 x10f8, .int .u32 x10f9, .int .u8 x10f10, .int .u64 x10f11, .int .u64 x10f12, .slice x10A13 x10b13.length x10c13] 39)] :: D :: Cw :: Cr :: [(b113, rowO [.int .u64 0, .int .u64 0, .int .u32 0, .int .u16 0, .int .u16 0, .int .u64 0, .int .u32 0, .int .u8 0, .int .u64 0, .int .u64 0, .slice none 0 0] 37)] :: F) rfl rfl
                                        replace hS := hS.front 5 (C := [(b113, rowO [.int .u64 0, .int .u64 0, .int .u32 0, .int .u16 0, .int .u16 0, .int .u64 0, .int .u32 0, .int .u8 0, .int .u64 0, .int .u64 0, .slice none 0 0] 37)]) (L' := L111 :: [(b12, rowO [.int .u8 x10f0, .int .u8 x10f1, .int .u8 x10f2, .int .u64 x10f3, .int .u64 x10f4, .int .u32 x10f5, .int .u16 x10f6, .int .u16 x10f7, .int .u64 x10f8, .int .u32 x10f9, .int .u8 x10f10, .int .u64 x10f11, .int .u64 x10f12, .slice x10A13 x10b13.length x10c13] 39)] :: D :: Cw :: Cr :: F) rfl rfl
                                        exact lp_next _ (by omega) ⟨i, ((i : Nat) : Int), rfl, (hA.sel [3, 4, 5, 8, 9, 10, 19, 20, 21, 22, 23, 33, 34, 35] rfl), hS, by omega, fnd2.yes hx120 (by assumption)⟩)
                                   · first
                                     | (exfalso; omega)
                                     | (replace hA := hA.rw 199 (v' := .bool false) rfl (vb_eq_f hc122)
                                        refine cd_cond_f hA rfl ?_
                                        refine wp_skip ?_
                                        refine xb_norm ?_
                                        refine xt_norm ?_
                                        refine wp_region_lit ?_
                                        refine st_run tbOk 2 hA (e' := (192, .int .i64 (IntKind.i64.wrap (((i : Nat) : Int) - 1))) :: (191, .int .i64 ((i : Nat) : Int)) :: _) rfl ?_; clear hA; intro a hA
                                        replace hA := hA.rw 192 (v' := .int .i64 (((i : Nat) : Int) - 1)) rfl (wr64 (by omega) (by omega) (by omega))
                                        refine st_run tbOk 1 hA (e' := (23, .int .i64 (((i : Nat) : Int) - 1)) :: _) rfl ?_; clear hA; intro a hA
                                        refine wpList_nil ?_
                                        replace hA := hA.sel [3, 4, 5, 8, 9, 10, 19, 20, 21, 22, 23, 33, 34, 35] (e' := [(3, .pointer (some ⟨b2, 0, none⟩)), (4, .slice Aw ((ws).length) cw), (5, .slice (some ⟨b118, o119, none⟩) ((rs).length) cr), (8, .int .u64 pt), (9, .int .i64 th), (10, .bool false), (19, .pointer (some ⟨b113, 0, none⟩)), (20, .bool false), (21, .nilIface), (22, .int .i64 av), (23, .int .i64 (((i : Nat) : Int) - 1)), (33, .slice (some ⟨b8, o9, none⟩) l.length c), (34, .int .i64 ((l.length : Nat) : Int)), (35, .int .i64 ((k : Nat) : Int))]) rfl
                                        replace hA := hA.rw 23 (v' := .int .i64 (((i : Nat) : Int) - 1)) rfl (vint (by omega))
                                        replace hS := hS.front 5 (C := Cr) (L' := [(b113, rowO [.int .u64 0, .int .u64 0, .int .u32 0, .int .u16 0, .int .u16 0, .int .u64 0, .int .u32 0, .int .u8 0, .int .u64 0, .int .u64 0, .slice none 0 0] 37)] :: L111 :: [(b12, rowO [.int .u8 x10f0, .int .u8 x10f1, .int .u8 x10f2, .int .u64 x10f3, .int .u64 x10f4, .int .u32 x10f5, .int .u16 x10f6, .int .u16 x10f7, .int .u64 x10f8, .int .u32 x10f9, .int .u8 x10f10, .int .u64 x10f11, .int .u64 x10f12, .slice x10A13 x10b13.length x10c13] 39)] :: D :: Cw :: F) rfl rfl
                                        replace hS := hS.front 5 (C := Cw) (L' := Cr :: [(b113, rowO [.int .u64 0, .int .u64 0, .int .u32 0, .int .u16 0, .int .u16 0, .int .u64 0, .int .u32 0, .int .u8 0, .int .u64 0, .int .u64 0, .slice none 0 0] 37)] :: L111 :: [(b12, rowO [.int .u8 x10f0, .int .u8 x10f1, .int .u8 x10f2, .int .u64 x10f3, .int .u64 x10f4, .int .u32 x10f5, .int .u16 x10f6, .int .u16 x10f7, .int .u64 x10f8, .int .u32 x10f9, .int .u8 x10f10, .int .u64 x10f11, .int .u64 x10f12, .slice x10A13 x10b13.length x10c13] 39)] :: D :: F) rfl rfl
                                        replace hS := hS.front 5 (C := D) (L' := Cw :: Cr :: [(b113, rowO [.int .u64 0, .int .u64 0, .int .u32 0, .int .u16 0, .int .u16 0, .int .u64 0, .int .u32 0, .int .u8 0, .int .u64 0, .int .u64 0, .slice none 0 0] 37)] :: L111 :: [(b12, rowO [.int .u8 x10f0, .int .u8 x10f1, .int .u8 x10f2, .int .u64 x10f3, .int .u64 x10f4, .int .u32 x10f5, .int .u16 x10f6, .int .u16 x10f7, .int .u64 x10f8, .int .u32 x10f9, .int .u8 x10f10, .int .u64 x10f11, .int .u64 x10f12, .slice x10A13 x10b13.length x10c13] 39)] :: F) rfl rfl
                                        replace hS := hS.front 5 (C := [(b12, rowO [.int .u8 x10f0, .int .u8 x10f1, .int .u8 x10f2, .int .u64 x10f3, .int .u64 x10f4, .int .u32 x10f5, .int .u16 x10f6, .int .u16 x10f7, .int .u64 x10f8, .int .u32 x10f9, .int .u8 x10f10, .int .u64 x10f11, .int .u64 x10f12, .slice x10A13 x10b13.length x10c13] 39)]) (L' := D :: Cw :: Cr :: [(b113, rowO [.int .u64 0, .int .u64 0, .int .u32 0, .int .u16 0, .int .u16 0, .int .u64 0, .int .u32 0, .int .u8 0, .int .u64 0, .int .u64 0, .slice none 0 0] 37)] :: L111 :: F) rfl rfl
                                        replace hS := hS.front 5 (C := L111) (L' := [(b12, rowO [.int .u8 x10f0, .int .u8 x10f1, .int .u8 x10f2, .int .u64 x10f3, .int .u64 x10f4, .int .u32 x10f5, .int .u16 x10f6, .int .u16 x10f7, .int .u64 x10f8, .int .u32 x10f9, .int .u8 x10f10, .int .u64 x10f11, .int .u64 x10f12, .slice x10A13 x10b13.length x10c13] 39)] :: D :: Cw :: Cr :: [(b113, rowO [.int .u64 0, .int .u64 0, .int .u32 0, .int .u16 0, .int .u16 0, .int .u64 0, .int .u32 0, .int .u8 0, .int .u64 0, .int .u64 0, .slice none 0 0] 37)] :: F) rfl rfl
                                        replace hS := hS.front 5 (C := [(b113, rowO [.int .u64 0, .int .u64 0, .int .u32 0, .int .u16 0, .int .u16 0, .int .u64 0, .int .u32 0, .int .u8 0, .int .u64 0, .int .u64 0, .slice none 0 0] 37)]) (L' := L111 :: [(b12, rowO [.int .u8 x10f0, .int .u8 x10f1, .int .u8 x10f2, .int .u64 x10f3, .int .u64 x10f4, .int .u32 x10f5, .int .u16 x10f6, .int .u16 x10f7, .int .u64 x10f8, .int .u32 x10f9, .int .u8 x10f10, .int .u64 x10f11, .int .u64 x10f12, .slice x10A13 x10b13.length x10c13] 39)] :: D :: Cw :: Cr :: F) rfl rfl
                                        exact lp_next _ (by omega) ⟨i, av, rfl, (hA.sel [3, 4, 5, 8, 9, 10, 19, 20, 21, 22, 23, 33, 34, 35] rfl), hS, by omega, hav.no hx120 (by assumption)⟩))
                              · first
                                | (exfalso; omega)
                                | (replace hA := hA.rw 190 (v' := .bool false) rfl (vb_false hc117)
                                   refine cd_cond_f hA rfl ?_
                                   refine wp_exit ?_
                                   refine xt_exit ?_
                                   refine xt_exit ?_
                                   refine cd_exit_eq ?_
                                   refine xt_norm ?_
                                   refine wp_block ?_
                                   refine wp_seq ?_
                                   refine wp_region_lit ?_
                                   have hj0 : j = 0 := by omega
                                   rw [hj0] at hav
                                   have hae := hav.none hno
                                   replace hA := hA.rw 22 (v' := .int .i64 (-1)) rfl (by rw [hae])
                                   refine st_run tbOk 2 hA (e' := (218, .bool false) :: (219, .bool false) :: _) rfl ?_; clear hA; intro a hA
                                   refine wpList_nil ?_
                                   replace hA := hA.sel [3, 4, 5, 8, 9, 19, 20, 21, 22, 33, 34, 35, 218] (e' := [(3, .pointer (some ⟨b2, 0, none⟩)), (4, .slice Aw ((ws).length) cw), (5, .slice Ar ((rs).length) cr), (8, .int .u64 pt), (9, .int .i64 th), (19, .pointer (some ⟨b113, 0, none⟩)), (20, .bool false), (21, .nilIface), (22, .int .i64 (-1)), (33, .slice (some ⟨b8, o9, none⟩) l.length c), (34, .int .i64 ((l.length : Nat) : Int)), (35, .int .i64 ((k : Nat) : Int)), (218, .bool false)]) rfl
                                   refine xt_norm ?_
                                   refine cd_cond_f hA rfl ?_
                                   refine wp_seq ?_
                                   refine wp_region_lit ?_
                                   refine st_run tbOk 3 hA (e' := (226, .bool false) :: (228, .bool false) :: (227, .int .i64 (-1)) :: _) rfl ?_; clear hA; intro a hA
                                   refine wpList_nil ?_
                                   replace hA := hA.sel [3, 4, 5, 8, 9, 19, 20, 21, 22, 33, 34, 35, 226] (e' := [(3, .pointer (some ⟨b2, 0, none⟩)), (4, .slice Aw ((ws).length) cw), (5, .slice Ar ((rs).length) cr), (8, .int .u64 pt), (9, .int .i64 th), (19, .pointer (some ⟨b113, 0, none⟩)), (20, .bool false), (21, .nilIface), (22, .int .i64 (-1)), (33, .slice (some ⟨b8, o9, none⟩) l.length c), (34, .int .i64 ((l.length : Nat) : Int)), (35, .int .i64 ((k : Nat) : Int)), (226, .bool false)]) rfl
                                   refine xt_norm ?_
                                   refine cd_cond_f hA rfl ?_
                                   refine wp_seq ?_
                                   refine wp_seq ?_
                                   refine wp_region_lit ?_
                                   refine st_run tbOk 6 hA (e' := (206, .bool false) :: (205, .bool false) :: (204, .bool false) :: (203, .nilIface) :: (202, .bool false) :: (201, .bool false) :: _) rfl ?_; clear hA; intro a hA
                                   refine st_val hA rfl rfl (by decide) (rn_loadA tbOk hA [.int .u64 0, .int .u64 0, .int .u32 0, .int .u16 0, .int .u16 0, .int .u64 0, .int .u32 0, .int .u8 0, .int .u64 0, .int .u64 0, .slice none 0 0] rfl rfl rfl rfl rfl (cells_row (hS.heapAt 0 rfl) rfl)) ?_; clear hA; intro a hA
                                   refine st_run tbOk 1 hA (e' := (208, .agg #[.int .u64 0, .int .u64 0, .int .u32 0, .int .u16 0, .int .u16 0, .int .u64 0, .int .u32 0, .int .u8 0, .int .u64 0, .int .u64 0, .slice none 0 0]) :: _) rfl ?_; clear hA; intro a hA
                                   refine st_call0 hA rfl rfl rfl isfn9 rfl rfl (by decide) (same04_9 hS 0 0 0 0 0 0 0 0 0 0 0 0 0 0 0 0 0 0 0 0 (bs := ([] : List UInt8)) (cs := ([] : List UInt8)) RdSX.nil RdSX.nil) ?_
                                   clear hA hS; rintro v w123 a ⟨rfl, hS⟩ hA
                                   replace hA := hA.rw 209 (v' := .bool true) rfl (congrArg Value.bool (by rw [decide_eq_true_eq]; exact ⟨rfl, rfl, rfl, rfl, rfl, ⟨rfl, rfl, rfl, rfl⟩, rfl, rfl⟩))
                                   refine st_run tbOk 2 hA (e' := (211, .bool false) :: (210, .bool false) :: _) rfl ?_; clear hA; intro a hA
                                   refine wpList_nil ?_
                                   replace hA := hA.sel [3, 4, 5, 8, 9, 33, 34, 35, 211] (e' := [(3, .pointer (some ⟨b2, 0, none⟩)), (4, .slice Aw ((ws).length) cw), (5, .slice Ar ((rs).length) cr), (8, .int .u64 pt), (9, .int .i64 th), (33, .slice (some ⟨b8, o9, none⟩) l.length c), (34, .int .i64 ((l.length : Nat) : Int)), (35, .int .i64 ((k : Nat) : Int)), (211, .bool false)]) rfl
                                   refine xt_norm ?_
                                   refine cd_cond_f hA rfl ?_
                                   refine wp_skip ?_
                                   refine xt_norm ?_
                                   refine wp_region_lit ?_
                                   refine st_run tbOk 4 hA (e' := (215, .agg #[.int .u64 pt, .int .i64 th]) :: (214, .int .i64 th) :: (213, .int .u64 pt) :: (212, .slice Aw ((ws).length) cw) :: _) rfl ?_; clear hA; intro a hA
                                   refine st_buildSlice tbOk hA hS [.int .u64 pt, .int .i64 th] rfl rfl rfl rfl rfl (by decide) (by kernel_rfl) rfl rfl (by decide) ?_; clear hA hS; intro b124 w125 a hS hA
                                   replace hS := hS.front 5 (C := Cw) (L' := [(b124, rowO [.int .u64 pt, .int .i64 th] 41)] :: [(b113, rowO [.int .u64 0, .int .u64 0, .int .u32 0, .int .u16 0, .int .u16 0, .int .u64 0, .int .u32 0, .int .u8 0, .int .u64 0, .int .u64 0, .slice none 0 0] 37)] :: L111 :: [(b12, rowO [.int .u8 x10f0, .int .u8 x10f1, .int .u8 x10f2, .int .u64 x10f3, .int .u64 x10f4, .int .u32 x10f5, .int .u16 x10f6, .int .u16 x10f7, .int .u64 x10f8, .int .u32 x10f9, .int .u8 x10f10, .int .u64 x10f11, .int .u64 x10f12, .slice x10A13 x10b13.length x10c13] 39)] :: D :: Cr :: F) rfl rfl
                                   refine st_append tbOk hA (m := ws.length) (q := 1) (xs := rows encWait ws) (news := rows encWait ([(pt, th)] : List (Int × Int))) rfl rfl rfl rfl rfl rfl rfl rfl (by decide) hW hS (((Own.full (T := 41) (size := 2) (g := b124) (m := 1) rfl (by decide)).rd (hS.own_ 1 rfl)).x) (rows_one encWait_ok _) (maxLen_le (by first | omega | (simp; omega))) (by show (ws.length + 1) * 16 ≤ 140737488355328; first | omega | (simp; omega)) rfl rfl (by decide) ?_
                                   clear hA hS; intro v126 w127 C128 a hO128 hS hA
                                   replace hO128 := Own.app (l := ws) (l2 := ([(pt, th)] : List (Int × Int))) hO128
                                   obtain ⟨A129, c130, rfl, hmc130, hxc130⟩ := hO128.open'
                                   refine st_run tbOk 1 hA (e' := (4, .slice A129 ((ws ++ ([(pt, th)] : List (Int × Int))).length) c130) :: _) rfl ?_; clear hA; intro a hA
                                   refine wpList_nil ?_
                                   replace hA := hA.sel [3, 4, 5, 33, 34, 35] (e' := [(3, .pointer (some ⟨b2, 0, none⟩)), (4, .slice A129 ((ws ++ ([(pt, th)] : List (Int × Int))).length) c130), (5, .slice Ar ((rs).length) cr), (33, .slice (some ⟨b8, o9, none⟩) l.length c), (34, .int .i64 ((l.length : Nat) : Int)), (35, .int .i64 ((k : Nat) : Int))]) rfl
                                   refine xb_norm ?_
                                   refine xb_norm ?_
                                   refine xt_norm ?_
                                   replace hS := hS.front 1 (C := [(b124, rowO [.int .u64 pt, .int .i64 th] 41)]) (L' := C128 :: [(b113, rowO [.int .u64 0, .int .u64 0, .int .u32 0, .int .u16 0, .int .u16 0, .int .u64 0, .int .u32 0, .int .u8 0, .int .u64 0, .int .u64 0, .slice none 0 0] 37)] :: L111 :: [(b12, rowO [.int .u8 x10f0, .int .u8 x10f1, .int .u8 x10f2, .int .u64 x10f3, .int .u64 x10f4, .int .u32 x10f5, .int .u16 x10f6, .int .u16 x10f7, .int .u64 x10f8, .int .u32 x10f9, .int .u8 x10f10, .int .u64 x10f11, .int .u64 x10f12, .slice x10A13 x10b13.length x10c13] 39)] :: D :: Cr :: F) rfl rfl
                                   replace hS := hS.drop1
                                   replace hS := hS.front 1 (C := [(b113, rowO [.int .u64 0, .int .u64 0, .int .u32 0, .int .u16 0, .int .u16 0, .int .u64 0, .int .u32 0, .int .u8 0, .int .u64 0, .int .u64 0, .slice none 0 0] 37)]) (L' := C128 :: L111 :: [(b12, rowO [.int .u8 x10f0, .int .u8 x10f1, .int .u8 x10f2, .int .u64 x10f3, .int .u64 x10f4, .int .u32 x10f5, .int .u16 x10f6, .int .u16 x10f7, .int .u64 x10f8, .int .u32 x10f9, .int .u8 x10f10, .int .u64 x10f11, .int .u64 x10f12, .slice x10A13 x10b13.length x10c13] 39)] :: D :: Cr :: F) rfl rfl
                                   replace hS := hS.drop1
                                   replace hS := hS.front 2 (C := [(b12, rowO [.int .u8 x10f0, .int .u8 x10f1, .int .u8 x10f2, .int .u64 x10f3, .int .u64 x10f4, .int .u32 x10f5, .int .u16 x10f6, .int .u16 x10f7, .int .u64 x10f8, .int .u32 x10f9, .int .u8 x10f10, .int .u64 x10f11, .int .u64 x10f12, .slice x10A13 x10b13.length x10c13] 39)]) (L' := C128 :: L111 :: D :: Cr :: F) rfl rfl
                                   replace hS := hS.drop1
                                   replace hS := hS.front 3 (C := Cr) (L' := C128 :: L111 :: D :: F) rfl rfl
                                   replace hS := hS.front 1 (C := C128) (L' := Cr :: L111 :: D :: F) rfl rfl
                                   replace hS := hS.front 3 (C := D) (L' := C128 :: Cr :: L111 :: F) rfl rfl
                                   replace hS := hS.front 3 (C := L111) (L' := D :: C128 :: Cr :: F) rfl rfl
                                   exact ⟨(ws ++ ([(pt, th)] : List (Int × Int))), (ms), (rs), L111, D, A129, c130, C128, Ar, cr, Cr, (hA.sel [3, 4, 5, 33, 34, 35] rfl), hS, (hI.wait (Bool.eq_false_iff.2 hisx) (by omega) (by omega)), hM112, hO128, hR, hdm, hdr⟩)
                            · replace hA := hA.rw 10 (v' := .bool false) rfl (vb_f hisx)
                              obtain ⟨x0, hx0, hxy, hxp, hxb⟩ := hI.hit hk0 hp0 hb0
                              have hk0l := (List.getElem?_eq_some_iff.1 hk0).1
                              have hk0m := (List.getElem?_eq_some_iff.1 hx0).1
                              obtain ⟨u0, u1, u2, u3, u4, u5, u6, u7, u8, u9, uA, uc, ub⟩ := x0
                              have hdu := hdm _ (List.mem_of_getElem? hx0)
                              obtain ⟨v0, v1, v2, v3, v4, v5, v6, v7, v8, v9, vA, vc, vb⟩ := y0
                              have hdv : encMessage_dd w0 D (v0, v1, v2, v3, v4, v5, v6, v7, v8, v9, vA, vc, vb) := hdr _ (List.mem_of_getElem? hk0) D
                              simp only [mst, mdat, Prod.mk.injEq] at hxy
                              replace hS := hS.front 1 (C := L1) (L' := [(b12, rowO [.int .u8 x10f0, .int .u8 x10f1, .int .u8 x10f2, .int .u64 x10f3, .int .u64 x10f4, .int .u32 x10f5, .int .u16 x10f6, .int .u16 x10f7, .int .u64 x10f8, .int .u32 x10f9, .int .u8 x10f10, .int .u64 x10f11, .int .u64 x10f12, .slice x10A13 x10b13.length x10c13] 39)] :: D :: Cw :: Cr :: F) rfl rfl
                              refine st_call0 hA rfl rfl rfl isfn8 rfl rfl (by decide) (get_hit8 hS hM1 pt th (Bool.eq_false_iff.2 hisx) hx0 hxp hxb) ?_
                              clear hA hS; rintro _ w131 a ⟨L132, hM133, rfl, hS⟩ hA
                              refine st_run tbOk 4 hA (e' := (185, .nilIface) :: (184, .bool true) :: (183, .agg #[.int .u64 u0, .int .u64 u1, .int .u32 u2, .int .u16 u3, .int .u16 u4, .int .u64 u5, .int .u32 u6, .int .u8 u7, .int .u64 u8, .int .u64 u9, .slice uA ub.length uc]) :: (178, .tuple #[.agg #[.int .u64 u0, .int .u64 u1, .int .u32 u2, .int .u16 u3, .int .u16 u4, .int .u64 u5, .int .u32 u6, .int .u8 u7, .int .u64 u8, .int .u64 u9, .slice uA ub.length uc], .bool true, .nilIface]) :: _) rfl ?_; clear hA; intro a hA
                              refine st_alloc tbOk hA hS [.int .u64 0, .int .u64 0, .int .u32 0, .int .u16 0, .int .u16 0, .int .u64 0, .int .u32 0, .int .u8 0, .int .u64 0, .int .u64 0, .slice none 0 0] rfl rfl rfl rfl rfl (by decide) ?_; clear hA hS; intro b134 w135 a hS hA
                              refine st_store tbOk hA hS [.int .u64 u0, .int .u64 u1, .int .u32 u2, .int .u16 u3, .int .u16 u4, .int .u64 u5, .int .u32 u6, .int .u8 u7, .int .u64 u8, .int .u64 u9, .slice uA ub.length uc] [.int .u64 u0, .int .u64 u1, .int .u32 u2, .int .u16 u3, .int .u16 u4, .int .u64 u5, .int .u32 u6, .int .u8 u7, .int .u64 u8, .int .u64 u9, .slice uA ub.length uc] rfl rfl rfl rfl rfl rfl (by simp [Value.oneCell']) (Nat.le_of_ble_eq_true rfl) rfl rfl rfl ?_; clear hS; intro w136 hS
                              refine st_run tbOk 2 hA (e' := (21, .nilIface) :: (20, .bool true) :: _) rfl ?_; clear hA; intro a hA
                              refine wpList_nil ?_
                              replace hA := hA.sel [3, 4, 5, 8, 9, 10, 19, 20, 21, 33, 34, 35] (e' := [(3, .pointer (some ⟨b2, 0, none⟩)), (4, .slice Aw ((ws).length) cw), (5, .slice Ar ((rs).length) cr), (8, .int .u64 pt), (9, .int .i64 th), (10, .bool false), (19, .pointer (some ⟨b134, 0, none⟩)), (20, .bool true), (21, .nilIface), (33, .slice (some ⟨b8, o9, none⟩) l.length c), (34, .int .i64 ((l.length : Nat) : Int)), (35, .int .i64 ((k : Nat) : Int))]) rfl
                              refine xt_norm ?_
                              refine wp_seq ?_
                              refine wp_region_lit ?_
                              refine st_run tbOk 1 hA (e' := (22, .int .i64 (-1)) :: _) rfl ?_; clear hA; intro a hA
                              refine wpList_nil ?_
                              refine xt_norm ?_
                              refine wp_seq ?_
                              refine wp_seq ?_
                              refine wp_region_lit ?_
                              refine st_run tbOk 3 hA (e' := (188, .int .i64 (IntKind.i64.wrap ((((rs).length : Nat) : Int) - 1))) :: (187, .int .i64 (((rs).length : Nat) : Int)) :: (186, .slice Ar ((rs).length) cr) :: _) rfl ?_; clear hA; intro a hA
                              replace hA := hA.rw 188 (v' := .int .i64 ((((rs).length : Nat) : Int) - 1)) rfl (wr64 (by omega) (by omega) (by omega))
                              refine st_run tbOk 1 hA (e' := (23, .int .i64 ((((rs).length : Nat) : Int) - 1)) :: _) rfl ?_; clear hA; intro a hA
                              refine wpList_nil ?_
                              replace hA := hA.sel [3, 4, 5, 8, 9, 10, 19, 20, 21, 22, 23, 33, 34, 35] (e' := [(3, .pointer (some ⟨b2, 0, none⟩)), (4, .slice Aw ((ws).length) cw), (5, .slice Ar ((rs).length) cr), (8, .int .u64 pt), (9, .int .i64 th), (10, .bool false), (19, .pointer (some ⟨b134, 0, none⟩)), (20, .bool true), (21, .nilIface), (22, .int .i64 (-1)), (23, .int .i64 ((((rs).length : Nat) : Int) - 1)), (33, .slice (some ⟨b8, o9, none⟩) l.length c), (34, .int .i64 ((l.length : Nat) : Int)), (35, .int .i64 ((k : Nat) : Int))]) rfl
                              refine xt_norm ?_
                              refine wp_block ?_
                              refine wp_loop_ghost (fun m a w => ∃ (j : Nat) (av : Int), m = 0 + j ∧ Has a 269 [(3, .pointer (some ⟨b2, 0, none⟩)), (4, .slice Aw ((ws).length) cw), (5, .slice Ar ((rs).length) cr), (8, .int .u64 pt), (9, .int .i64 th), (10, .bool false), (19, .pointer (some ⟨b134, 0, none⟩)), (20, .bool true), (21, .nilIface), (22, .int .i64 av), (23, .int .i64 (((j : Nat) : Int) - 1)), (33, .slice (some ⟨b8, o9, none⟩) l.length c), (34, .int .i64 ((l.length : Nat) : Int)), (35, .int .i64 ((k : Nat) : Int))] ∧ St w0 w ([(b134, rowO [.int .u64 u0, .int .u64 u1, .int .u32 u2, .int .u16 u3, .int .u16 u4, .int .u64 u5, .int .u32 u6, .int .u8 u7, .int .u64 u8, .int .u64 u9, .slice uA ub.length uc] 37)] :: L132 :: [(b12, rowO [.int .u8 x10f0, .int .u8 x10f1, .int .u8 x10f2, .int .u64 x10f3, .int .u64 x10f4, .int .u32 x10f5, .int .u16 x10f6, .int .u16 x10f7, .int .u64 x10f8, .int .u32 x10f9, .int .u8 x10f10, .int .u64 x10f11, .int .u64 x10f12, .slice x10A13 x10b13.length x10c13] 39)] :: D :: Cw :: Cr :: F) ∧ (j ≤ rs.length) ∧ (fnd2 (fun y : Msg => y.1 = pt) rs j av)) (0 + rs.length)
                                ⟨rs.length, (-1), rfl, (hA.sel [3, 4, 5, 8, 9, 10, 19, 20, 21, 22, 23, 33, 34, 35] rfl), hS, Nat.le_refl _, fnd2.init⟩ ?_
                              clear hA hS; rintro m0 a w137 ⟨j, av, rfl, hA, hS, hj, hav⟩
                              refine wp_seq ?_
                              refine wp_seq ?_
                              refine wp_region_lit ?_
                              refine st_run tbOk 2 hA (e' := (190, .bool (decide (((j : Nat) : Int) - 1 ≥ 0))) :: (189, .int .i64 (((j : Nat) : Int) - 1)) :: _) rfl ?_; clear hA; intro a hA
                              refine wpList_nil ?_
                              replace hA := hA.sel [3, 4, 5, 8, 9, 10, 19, 20, 21, 22, 23, 33, 34, 35, 190] (e' := [(3, .pointer (some ⟨b2, 0, none⟩)), (4, .slice Aw ((ws).length) cw), (5, .slice Ar ((rs).length) cr), (8, .int .u64 pt), (9, .int .i64 th), (10, .bool false), (19, .pointer (some ⟨b134, 0, none⟩)), (20, .bool true), (21, .nilIface), (22, .int .i64 av), (23, .int .i64 (((j : Nat) : Int) - 1)), (33, .slice (some ⟨b8, o9, none⟩) l.length c), (34, .int .i64 ((l.length : Nat) : Int)), (35, .int .i64 ((k : Nat) : Int)), (190, .bool (decide (((j : Nat) : Int) - 1 ≥ 0)))]) rfl
                              refine xt_norm ?_
                              by_cases hc138 : ((j : Nat) : Int) - 1 ≥ 0
                              · first
                                | (exfalso; omega)
                                | (replace hA := hA.rw 190 (v' := .bool true) rfl (vb_true hc138)
                                   refine cd_cond_t hA rfl ?_
                                   refine wp_skip ?_
                                   refine xt_norm ?_
                                   refine wp_seq ?_
                                   refine wp_block ?_
                                   refine wp_seq ?_
                                   refine wp_region_lit ?_
                                   obtain ⟨i, hij⟩ : ∃ i, j = i + 1 := ⟨j - 1, by omega⟩
                                   subst hij
                                   replace hA := hA.rw 23 (v' := .int .i64 ((i : Nat) : Int)) rfl (vint (by omega))
                                   refine st_run tbOk 2 hA (e' := (194, .int .i64 ((i : Nat) : Int)) :: (193, .slice Ar ((rs).length) cr) :: _) rfl ?_; clear hA; intro a hA
                                   obtain ⟨b139, o140, rfl⟩ := hR.isSome (k := i) (by omega)
                                   refine st_val hA rfl rfl (by decide) (rn_indexAddr tbOk hA i (o140 + (i * 11)) rfl rfl rfl rfl rfl rfl (by rfl) (by omega) (by first | rfl | simp [Nat.mul_one, Nat.zero_add] | omega)) ?_; clear hA; intro a hA
                                   refine st_run tbOk 1 hA (e' := (196, .pointer (some ⟨b139, o140 + (i * 11), none⟩)) :: _) rfl ?_; clear hA; intro a hA
                                   obtain ⟨x141, hx141⟩ := get_ex (l := rs) (k := i) (by omega)
                                   obtain ⟨x141f0, x141f1, x141f2, x141f3, x141f4, x141f5, x141f6, x141f7, x141f8, x141f9, x141A10, x141c10, x141b10⟩ := x141
                                   have hd142 := (fun x hx => hdr x hx D) _ (List.mem_of_getElem? hx141)
                                   refine st_val hA rfl rfl (by decide) (rn_load tbOk hA rfl rfl rfl rfl ((hR.rd (hS.own_ 5 rfl)).elemf (k := i) encMessage_ok hx141 (j := 0) rfl)) ?_; clear hA; intro a hA
                                   refine st_run tbOk 2 hA (e' := (199, .bool (x141f0 == pt)) :: (198, .int .u64 pt) :: _) rfl ?_; clear hA; intro a hA
                                   refine wpList_nil ?_
                                   replace hA := hA.sel [3, 4, 5, 8, 9, 10, 19, 20, 21, 22, 23, 33, 34, 35, 199] (e' := [(3, .pointer (some ⟨b2, 0, none⟩)), (4, .slice Aw ((ws).length) cw), (5, .slice (some ⟨b139, o140, none⟩) ((rs).length) cr), (8, .int .u64 pt), (9, .int .i64 th), (10, .bool false), (19, .pointer (some ⟨b134, 0, none⟩)), (20, .bool true), (21, .nilIface), (22, .int .i64 av), (23, .int .i64 ((i : Nat) : Int)), (33, .slice (some ⟨b8, o9, none⟩) l.length c), (34, .int .i64 ((l.length : Nat) : Int)), (35, .int .i64 ((k : Nat) : Int)), (199, .bool (x141f0 == pt))]) rfl
                                   refine xt_norm ?_
                                   by_cases hc143 : x141f0 = pt
                                   · first
                                     | (exfalso; omega)
                                     | (replace hA := hA.rw 199 (v' := .bool true) rfl (vb_eq_t hc143)
                                        refine cd_cond_t hA rfl ?_
                                        refine wp_region_lit ?_
                                        refine st_run tbOk 2 hA (e' := (22, .int .i64 ((i : Nat) : Int)) :: (200, .int .i64 ((i : Nat) : Int)) :: _) rfl ?_; clear hA; intro a hA
                                        refine wpList_nil ?_
                                        replace hA := hA.sel [3, 4, 5, 8, 9, 10, 19, 20, 21, 22, 23, 33, 34, 35] (e' := [(3, .pointer (some ⟨b2, 0, none⟩)), (4, .slice Aw ((ws).length) cw), (5, .slice (some ⟨b139, o140, none⟩) ((rs).length) cr), (8, .int .u64 pt), (9, .int .i64 th), (10, .bool false), (19, .pointer (some ⟨b134, 0, none⟩)), (20, .bool true), (21, .nilIface), (22, .int .i64 ((i : Nat) : Int)), (23, .int .i64 ((i : Nat) : Int)), (33, .slice (some ⟨b8, o9, none⟩) l.length c), (34, .int .i64 ((l.length : Nat) : Int)), (35, .int .i64 ((k : Nat) : Int))]) rfl
                                        refine xb_norm ?_
                                        refine xt_norm ?_
                                        refine wp_region_lit ?_
                                        refine st_run tbOk 2 hA (e' := (192, .int .i64 (IntKind.i64.wrap (((i : Nat) : Int) - 1))) :: (191, .int .i64 ((i : Nat) : Int)) :: _) rfl ?_; clear hA; intro a hA
                                        replace hA := hA.rw 192 (v' := .int .i64 (((i : Nat) : Int) - 1)) rfl (wr64 (by omega) (by omega) (by omega))
                                        refine st_run tbOk 1 hA (e' := (23, .int .i64 (((i : Nat) : Int) - 1)) :: _) rfl ?_; clear hA; intro a hA
                                        refine wpList_nil ?_
                                        replace hA := hA.sel [3, 4, 5, 8, 9, 10, 19, 20, 21, 22, 23, 33, 34, 35] (e' := [(3, .pointer (some ⟨b2, 0, none⟩)), (4, .slice Aw ((ws).length) cw), (5, .slice (some ⟨b139, o140, none⟩) ((rs).length) cr), (8, .int .u64 pt), (9, .int .i64 th), (10, .bool false), (19, .pointer (some ⟨b134, 0, none⟩)), (20, .bool true), (21, .nilIface), (22, .int .i64 ((i : Nat) : Int)), (23, .int .i64 (((i : Nat) : Int) - 1)), (33, .slice (some ⟨b8, o9, none⟩) l.length c), (34, .int .i64 ((l.length : Nat) : Int)), (35, .int .i64 ((k : Nat) : Int))]) rfl
                                        replace hA := hA.rw 22 (v' := .int .i64 ((i : Nat) : Int)) rfl (vint (by omega))
                                        replace hA := hA.rw 23 (v' := .int .i64 (((i : Nat) : Int) - 1)) rfl (vint (by omega))
                                        replace hS := hS.front 5 (C := Cr) (L' := [(b134, rowO [.int .u64 u0, .int .u64 u1, .int .u32 u2, .int .u16 u3, .int .u16 u4, .int .u64 u5, .int .u32 u6, .int .u8 u7, .int .u64 u8, .int .u64 u9, .slice uA ub.length uc] 37)] :: L132 :: [(b12, rowO [.int .u8 x10f0, .int .u8 x10f1, .int .u8 x10f2, .int .u64 x10f3, .int .u64 x10f4, .int .u32 x10f5, .int .u16 x10f6, .int .u16 x10f7, .int .u64 x10f8, .int .u32 x10f9, .int .u8 x10f10, .int .u64 x10f11, .int .u64 x10f12, .slice x10A13 x10b13.length x10c13] 39)] :: D :: Cw :: F) rfl rfl
                                        replace hS := hS.front 5 (C := Cw) (L' := Cr :: [(b134, rowO [.int .u64 u0, .int .u64 u1, .int .u32 u2, .int .u16 u3, .int .u16 u4, .int .u64 u5, .int .u32 u6, .int .u8 u7, .int .u64 u8, .int .u64 u9, .slice uA ub.length uc] 37)] :: L132 :: [(b12, rowO [.int .u8 x10f0, .int .u8 x10f1, .int .u8 x10f2, .int .u64 x10f3, .int .u64 x10f4, .int .u32 x10f5, .int .u16 x10f6, .int .u16 x10f7, .int .u64 x10f8, .int .u32 x10f9, .int .u8 x10f10, .int .u64 x10f11, .int .u64 x10f12, .slice x10A13 x10b13.length x10c13] 39)] :: D :: F) rfl rfl
                                        replace hS := hS.front 5 (C := D) (L' := Cw :: Cr :: [(b134, rowO [.int .u64 u0, .int .u64 u1, .int .u32 u2, .int .u16 u3, .int .u16 u4, .int .u64 u5, .int .u32 u6, .int .u8 u7, .int .u64 u8, .int .u64 u9, .slice uA ub.length uc] 37)] :: L132 :: [(b12, rowO [.int .u8 x10f0, .int .u8 x10f1, .int .u8 x10f2, .int .u64 x10f3, .int .u64 x10f4, .int .u32 x10f5, .int .u16 x10f6, .int .u16 x10f7, .int .u64 x10f8, .int .u32 x10f9, .int .u8 x10f10, .int .u64 x10f11, .int .u64 x10f12, .slice x10A13 x10b13.length x10c13] 39)] :: F) rfl rfl
                                        replace hS := hS.front 5 (C := [(b12, rowO [.int .u8 x10f0, .int .u8 x10f1, .int .u8 x10f2, .int .u64 x10f3, .int .u64 x10f4, .int .u32 x10f5, .int .u16 x10f6, .int .u16 x10f7, .int .u64 x10f8, .int .u32 x10f9, .int .u8 x10f10, .int .u64 x10f11, .int .u64 x10f12, .slice x10A13 x10b13.length x10c13] 39)]) (L' := D :: Cw :: Cr :: [(b134, rowO [.int .u64 u0, .int .u64 u1, .int .u32 u2, .int .u16 u3, .int .u16 u4, .int .u64 u5, .int .u32 u6, .int .u8 u7, .int .u64 u8, .int .u64 u9, .slice uA ub.length uc] 37)] :: L132 :: F) rfl rfl
                                        replace hS := hS.front 5 (C := L132) (L' := [(b12, rowO [.int .u8 x10f0, .int .u8 x10f1, .int .u8 x10f2, .int .u64 x10f3, .int .u64 x10f4, .int .u32 x10f5, .int .u16 x10f6, .int .u16 x10f7, .int .u64 x10f8, .int .u32 x10f9, .int .u8 x10f10, .int .u64 x10f11, .int .u64 x10f12, .slice x10A13 x10b13.length x10c13] 39)] :: D :: Cw :: Cr :: [(b134, rowO [.int .u64 u0, .int .u64 u1, .int .u32 u2, .int .u16 u3, .int .u16 u4, .int .u64 u5, .int .u32 u6, .int .u8 u7, .int .u64 u8, .int .u64 u9, .slice uA ub.length uc] 37)] :: F) rfl rfl
                                        replace hS := hS.front 5 (C := [(b134, rowO [.int .u64 u0, .int .u64 u1, .int .u32 u2, .int .u16 u3, .int .u16 u4, .int .u64 u5, .int .u32 u6, .int .u8 u7, .int .u64 u8, .int .u64 u9, .slice uA ub.length uc] 37)]) (L' := L132 :: [(b12, rowO [.int .u8 x10f0, .int .u8 x10f1, .int .u8 x10f2, .int .u64 x10f3, .int .u64 x10f4, .int .u32 x10f5, .int .u16 x10f6, .int .u16 x10f7, .int .u64 x10f8, .int .u32 x10f9, .int .u8 x10f10, .int .u64 x10f11, .int .u64 x10f12, .slice x10A13 x10b13.length x10c13] 39)] :: D :: Cw :: Cr :: F) rfl rfl
                                        exact lp_next _ (by omega) ⟨i, ((i : Nat) : Int), rfl, (hA.sel [3, 4, 5, 8, 9, 10, 19, 20, 21, 22, 23, 33, 34, 35] rfl), hS, by omega, fnd2.yes hx141 (by assumption)⟩)
                                   · first
                                     | (exfalso; omega)
                                     | (replace hA := hA.rw 199 (v' := .bool false) rfl (vb_eq_f hc143)
                                        refine cd_cond_f hA rfl ?_
                                        refine wp_skip ?_
                                        refine xb_norm ?_
                                        refine xt_norm ?_
                                        refine wp_region_lit ?_
                                        refine st_run tbOk 2 hA (e' := (192, .int .i64 (IntKind.i64.wrap (((i : Nat) : Int) - 1))) :: (191, .int .i64 ((i : Nat) : Int)) :: _) rfl ?_; clear hA; intro a hA
                                        replace hA := hA.rw 192 (v' := .int .i64 (((i : Nat) : Int) - 1)) rfl (wr64 (by omega) (by omega) (by omega))
                                        refine st_run tbOk 1 hA (e' := (23, .int .i64 (((i : Nat) : Int) - 1)) :: _) rfl ?_; clear hA; intro a hA
                                        refine wpList_nil ?_
                                        replace hA := hA.sel [3, 4, 5, 8, 9, 10, 19, 20, 21, 22, 23, 33, 34, 35] (e' := [(3, .pointer (some ⟨b2, 0, none⟩)), (4, .slice Aw ((ws).length) cw), (5, .slice (some ⟨b139, o140, none⟩) ((rs).length) cr), (8, .int .u64 pt), (9, .int .i64 th), (10, .bool false), (19, .pointer (some ⟨b134, 0, none⟩)), (20, .bool true), (21, .nilIface), (22, .int .i64 av), (23, .int .i64 (((i : Nat) : Int) - 1)), (33, .slice (some ⟨b8, o9, none⟩) l.length c), (34, .int .i64 ((l.length : Nat) : Int)), (35, .int .i64 ((k : Nat) : Int))]) rfl
                                        replace hA := hA.rw 23 (v' := .int .i64 (((i : Nat) : Int) - 1)) rfl (vint (by omega))
                                        replace hS := hS.front 5 (C := Cr) (L' := [(b134, rowO [.int .u64 u0, .int .u64 u1, .int .u32 u2, .int .u16 u3, .int .u16 u4, .int .u64 u5, .int .u32 u6, .int .u8 u7, .int .u64 u8, .int .u64 u9, .slice uA ub.length uc] 37)] :: L132 :: [(b12, rowO [.int .u8 x10f0, .int .u8 x10f1, .int .u8 x10f2, .int .u64 x10f3, .int .u64 x10f4, .int .u32 x10f5, .int .u16 x10f6, .int .u16 x10f7, .int .u64 x10f8, .int .u32 x10f9, .int .u8 x10f10, .int .u64 x10f11, .int .u64 x10f12, .slice x10A13 x10b13.length x10c13] 39)] :: D :: Cw :: F) rfl rfl
                                        replace hS := hS.front 5 (C := Cw) (L' := Cr :: [(b134, rowO [.int .u64 u0, .int .u64 u1, .int .u32 u2, .int .u16 u3, .int .u16 u4, .int .u64 u5, .int .u32 u6, .int .u8 u7, .int .u64 u8, .int .u64 u9, .slice uA ub.length uc] 37)] :: L132 :: [(b12, rowO [.int .u8 x10f0, .int .u8 x10f1, .int .u8 x10f2, .int .u64 x10f3, .int .u64 x10f4, .int .u32 x10f5, .int .u16 x10f6, .int .u16 x10f7, .int .u64 x10f8, .int .u32 x10f9, .int .u8 x10f10, .int .u64 x10f11, .int .u64 x10f12, .slice x10A13 x10b13.length x10c13] 39)] :: D :: F) rfl rfl
                                        replace hS := hS.front 5 (C := D) (L' := Cw :: Cr :: [(b134, rowO [.int .u64 u0, .int .u64 u1, .int .u32 u2, .int .u16 u3, .int .u16 u4, .int .u64 u5, .int .u32 u6, .int .u8 u7, .int .u64 u8, .int .u64 u9, .slice uA ub.length uc] 37)] :: L132 :: [(b12, rowO [.int .u8 x10f0, .int .u8 x10f1, .int .u8 x10f2, .int .u64 x10f3, .int .u64 x10f4, .int .u32 x10f5, .int .u16 x10f6, .int .u16 x10f7, .int .u64 x10f8, .int .u32 x10f9, .int .u8 x10f10, .int .u64 x10f11, .int .u64 x10f12, .slice x10A13 x10b13.length x10c13] 39)] :: F) rfl rfl
                                        replace hS := hS.front 5 (C := [(b12, rowO [.int .u8 x10f0, .int .u8 x10f1, .int .u8 x10f2, .int .u64 x10f3, .int .u64 x10f4, .int .u32 x10f5, .int .u16 x10f6, .int .u16 x10f7, .int .u64 x10f8, .int .u32 x10f9, .int .u8 x10f10, .int .u64 x10f11, .int .u64 x10f12, .slice x10A13 x10b13.length x10c13] 39)]) (L' := D :: Cw :: Cr :: [(b134, rowO [.int .u64 u0, .int .u64 u1, .int .u32 u2, .int .u16 u3, .int .u16 u4, .int .u64 u5, .int .u32 u6, .int .u8 u7, .int .u64 u8, .int .u64 u9, .slice uA ub.length uc] 37)] :: L132 :: F) rfl rfl
                                        replace hS := hS.front 5 (C := L132) (L' := [(b12, rowO [.int .u8 x10f0, .int .u8 x10f1, .int .u8 x10f2, .int .u64 x10f3, .int .u64 x10f4, .int .u32 x10f5, .int .u16 x10f6, .int .u16 x10f7, .int .u64 x10f8, .int .u32 x10f9, .int .u8 x10f10, .int .u64 x10f11, .int .u64 x10f12, .slice x10A13 x10b13.length x10c13] 39)] :: D :: Cw :: Cr :: [(b134, rowO [.int .u64 u0, .int .u64 u1, .int .u32 u2, .int .u16 u3, .int .u16 u4, .int .u64 u5, .int .u32 u6, .int .u8 u7, .int .u64 u8, .int .u64 u9, .slice uA ub.length uc] 37)] :: F) rfl rfl
                                        replace hS := hS.front 5 (C := [(b134, rowO [.int .u64 u0, .int .u64 u1, .int .u32 u2, .int .u16 u3, .int .u16 u4, .int .u64 u5, .int .u32 u6, .int .u8 u7, .int .u64 u8, .int .u64 u9, .slice uA ub.length uc] 37)]) (L' := L132 :: [(b12, rowO [.int .u8 x10f0, .int .u8 x10f1, .int .u8 x10f2, .int .u64 x10f3, .int .u64 x10f4, .int .u32 x10f5, .int .u16 x10f6, .int .u16 x10f7, .int .u64 x10f8, .int .u32 x10f9, .int .u8 x10f10, .int .u64 x10f11, .int .u64 x10f12, .slice x10A13 x10b13.length x10c13] 39)] :: D :: Cw :: Cr :: F) rfl rfl
                                        exact lp_next _ (by omega) ⟨i, av, rfl, (hA.sel [3, 4, 5, 8, 9, 10, 19, 20, 21, 22, 23, 33, 34, 35] rfl), hS, by omega, hav.no hx141 (by assumption)⟩))
                              · first
                                | (exfalso; omega)
                                | (replace hA := hA.rw 190 (v' := .bool false) rfl (vb_false hc138)
                                   refine cd_cond_f hA rfl ?_
                                   refine wp_exit ?_
                                   refine xt_exit ?_
                                   refine xt_exit ?_
                                   refine cd_exit_eq ?_
                                   refine xt_norm ?_
                                   refine wp_block ?_
                                   refine wp_seq ?_
                                   refine wp_region_lit ?_
                                   have hj0 : j = 0 := by omega
                                   rw [hj0] at hav
                                   have hae := hav.some hk0 hp0 hb0
                                   replace hA := hA.rw 22 (v' := .int .i64 ((k0 : Nat) : Int)) rfl (by rw [hae])
                                   refine st_run tbOk 2 hA (e' := (218, .bool false) :: (219, .bool false) :: _) rfl ?_; clear hA; intro a hA
                                   refine wpList_nil ?_
                                   replace hA := hA.sel [3, 4, 5, 8, 9, 19, 20, 21, 22, 33, 34, 35, 218] (e' := [(3, .pointer (some ⟨b2, 0, none⟩)), (4, .slice Aw ((ws).length) cw), (5, .slice Ar ((rs).length) cr), (8, .int .u64 pt), (9, .int .i64 th), (19, .pointer (some ⟨b134, 0, none⟩)), (20, .bool true), (21, .nilIface), (22, .int .i64 ((k0 : Nat) : Int)), (33, .slice (some ⟨b8, o9, none⟩) l.length c), (34, .int .i64 ((l.length : Nat) : Int)), (35, .int .i64 ((k : Nat) : Int)), (218, .bool false)]) rfl
                                   refine xt_norm ?_
                                   refine cd_cond_f hA rfl ?_
                                   refine wp_seq ?_
                                   refine wp_region_lit ?_
                                   refine st_run tbOk 3 hA (e' := (226, .bool (decide (((k0 : Nat) : Int) ≥ 0))) :: (228, .bool (decide (((k0 : Nat) : Int) ≥ 0))) :: (227, .int .i64 ((k0 : Nat) : Int)) :: _) rfl ?_; clear hA; intro a hA
                                   refine wpList_nil ?_
                                   replace hA := hA.sel [3, 4, 5, 8, 9, 19, 20, 21, 22, 33, 34, 35, 226] (e' := [(3, .pointer (some ⟨b2, 0, none⟩)), (4, .slice Aw ((ws).length) cw), (5, .slice Ar ((rs).length) cr), (8, .int .u64 pt), (9, .int .i64 th), (19, .pointer (some ⟨b134, 0, none⟩)), (20, .bool true), (21, .nilIface), (22, .int .i64 ((k0 : Nat) : Int)), (33, .slice (some ⟨b8, o9, none⟩) l.length c), (34, .int .i64 ((l.length : Nat) : Int)), (35, .int .i64 ((k : Nat) : Int)), (226, .bool (decide (((k0 : Nat) : Int) ≥ 0)))]) rfl
                                   refine xt_norm ?_
                                   have hc144 : ((k0 : Nat) : Int) ≥ 0 := by omega
                                   replace hA := hA.rw 226 (v' := .bool true) rfl (vb_true hc144)
                                   refine cd_cond_t hA rfl ?_
                                   refine wp_seq ?_
                                   refine wp_seq ?_
                                   refine wp_draw (fun w' => St w0 w' ([(b134, rowO [.int .u64 u0, .int .u64 u1, .int .u32 u2, .int .u16 u3, .int .u16 u4, .int .u64 u5, .int .u32 u6, .int .u8 u7, .int .u64 u8, .int .u64 u9, .slice uA ub.length uc] 37)] :: L132 :: [(b12, rowO [.int .u8 x10f0, .int .u8 x10f1, .int .u8 x10f2, .int .u64 x10f3, .int .u64 x10f4, .int .u32 x10f5, .int .u16 x10f6, .int .u16 x10f7, .int .u64 x10f8, .int .u32 x10f9, .int .u8 x10f10, .int .u64 x10f11, .int .u64 x10f12, .slice x10A13 x10b13.length x10c13] 39)] :: D :: Cw :: Cr :: F)) [] [(0, true), (1, true), (2, true), (3, true), (4, true), (5, true), (6, true), (7, true), (8, true), (9, true), (10, true), (11, true), (12, false), (13, true), (14, true)] mixed (by kernel_rfl) (by rintro c a w ⟨_, _, h, _⟩; cases h) (by rfl) (by kernel_rfl) ?_
                                   replace hS := hS.drew
                                   refine dr_run tbOk 7 hA hS (e' := (235, .bool false) :: (234, .bool false) :: (233, .bool false) :: (232, .nilIface) :: (231, .bool false) :: (230, .bool false) :: (229, .bool true) :: _) rfl ?_; clear hA; intro a hA
                                   refine dr_y hA rfl rfl rfl (by decide) hS (fun w' hS' => rn_loadA tbOk hA [.int .u64 u0, .int .u64 u1, .int .u32 u2, .int .u16 u3, .int .u16 u4, .int .u64 u5, .int .u32 u6, .int .u8 u7, .int .u64 u8, .int .u64 u9, .slice uA ub.length uc] rfl rfl rfl rfl rfl (cells_row (hS'.heapAt 0 rfl) rfl)) ?_; clear hA; intro a hA
                                   refine dr_run tbOk 2 hA hS (e' := (238, .int .i64 ((k0 : Nat) : Int)) :: (237, .slice Ar ((rs).length) cr) :: _) rfl ?_; clear hA; intro a hA
                                   obtain ⟨b145, o146, rfl⟩ := hR.isSome (k := k0) (by omega)
                                   refine dr_y hA rfl rfl rfl (by decide) hS (fun w' hS' => rn_indexAddr tbOk hA k0 (o146 + (k0 * 11)) rfl rfl rfl rfl rfl rfl (by rfl) (by omega) (by first | rfl | simp [Nat.mul_one, Nat.zero_add] | omega)) ?_; clear hA; intro a hA
                                   refine dr_y hA rfl rfl rfl (by decide) hS (fun w' hS' => rn_loadA tbOk hA ([.int .u64 v0, .int .u64 v1, .int .u32 v2, .int .u16 v3, .int .u16 v4, .int .u64 v5, .int .u32 v6, .int .u8 v7, .int .u64 v8, .int .u64 v9, .slice vA vb.length vc]) rfl rfl rfl rfl (by rfl) ((hR.rd (hS'.own_ 5 rfl)).elem (k := k0) encMessage_ok hk0)) ?_; clear hA; intro a hA
                                   refine dr_b (o := _) rfl ?_
                                   refine st_call0 hA rfl rfl rfl isfn9 rfl rfl (by decide) (same04_9 hS u0 u1 u2 u3 u4 u5 u6 u7 u8 u9 v0 v1 v2 v3 v4 v5 v6 v7 v8 v9 (bs := ub) (cs := vb) (fun w' h => (hdu _ (h.only 3 rfl))) (fun w' h => (hdv _ (h.only 3 rfl)))) ?_
                                   clear hA hS; rintro v w147 a ⟨rfl, hS⟩ hA
                                   replace hA := hA.rw 241 (v' := .bool true) rfl (congrArg Value.bool (by rw [decide_eq_true_eq]; obtain ⟨q0, q1, q2, q3, q4, q5, q6, q7, q8, q9, qb⟩ := hxy; exact ⟨q0, q1, q2, q3, q4, ⟨q5, q6, q7, q8⟩, q9, qb⟩))
                                   refine dr_nil (.inr hS) ?_
                                   refine dr_run tbOk 2 hA hS (e' := (243, .bool false) :: (242, .bool false) :: _) rfl ?_; clear hA; intro a hA
                                   refine dr_end ?_
                                   replace hA := hA.sel [3, 4, 5, 22, 33, 34, 35, 243] (e' := [(3, .pointer (some ⟨b2, 0, none⟩)), (4, .slice Aw ((ws).length) cw), (5, .slice (some ⟨b145, o146, none⟩) ((rs).length) cr), (22, .int .i64 ((k0 : Nat) : Int)), (33, .slice (some ⟨b8, o9, none⟩) l.length c), (34, .int .i64 ((l.length : Nat) : Int)), (35, .int .i64 ((k : Nat) : Int)), (243, .bool false)]) rfl
                                   refine xt_norm ?_
                                   refine cd_cond_f hA rfl ?_
                                   refine wp_skip ?_
                                   refine xt_norm ?_
                                   refine wp_draw (fun w' => St w0 w' ([(b134, rowO [.int .u64 u0, .int .u64 u1, .int .u32 u2, .int .u16 u3, .int .u16 u4, .int .u64 u5, .int .u32 u6, .int .u8 u7, .int .u64 u8, .int .u64 u9, .slice uA ub.length uc] 37)] :: L132 :: [(b12, rowO [.int .u8 x10f0, .int .u8 x10f1, .int .u8 x10f2, .int .u64 x10f3, .int .u64 x10f4, .int .u32 x10f5, .int .u16 x10f6, .int .u16 x10f7, .int .u64 x10f8, .int .u32 x10f9, .int .u8 x10f10, .int .u64 x10f11, .int .u64 x10f12, .slice x10A13 x10b13.length x10c13] 39)] :: D :: Cw :: Cr :: F)) [] [(0, true), (1, true), (2, true), (4, true), (5, true), (6, true), (7, true), (3, false), (8, false), (9, true)] mixed (by kernel_rfl) (by rintro c a w ⟨_, _, h, _⟩; cases h) (by rfl) (by kernel_rfl) ?_
                                   replace hS := hS.drew
                                   refine dr_run tbOk 2 hA hS (e' := (245, .int .i64 ((k0 : Nat) : Int)) :: (244, .slice (some ⟨b145, o146, none⟩) ((rs).length) cr) :: _) rfl ?_; clear hA; intro a hA
                                   refine dr_y hA rfl rfl rfl (by decide) hS (fun w' hS' => rn_slice_h tbOk hA k0 rfl rfl rfl rfl rfl rfl (by rfl) (by omega)) ?_; clear hA; intro a hA
                                   replace hA := hA.rw 246 (v' := .slice (some ⟨b145, o146, none⟩) ((rs.take k0).length) cr) rfl (congrArg (fun m => Value.slice _ m _) (by rw [List.length_take]; omega))
                                   refine dr_run tbOk 3 hA hS (e' := (250, .int .i64 (IntKind.i64.wrap (((k0 : Nat) : Int) + 1))) :: (249, .int .i64 ((k0 : Nat) : Int)) :: (248, .slice (some ⟨b145, o146, none⟩) ((rs).length) cr) :: _) rfl ?_; clear hA; intro a hA
                                   replace hA := hA.rw 250 (v' := .int .i64 ((k0 + 1 : Nat) : Int)) rfl (wr64 (by omega) (by omega) (by omega))
                                   refine dr_y hA rfl rfl rfl (by decide) hS (fun w' hS' => rn_slice_l tbOk hA (k0 + 1) rfl rfl rfl rfl rfl rfl (by rfl) (by omega)) ?_; clear hA; intro a hA
                                   refine dr_b (o := _) rfl ?_
                                   replace hS := hS.nil
                                   refine st_append tbOk hA (m := 0) (q := (rs.take k0).length) (xs := rows encMessage ([] : List (Int × Int × Int × Int × Int × Int × Int × Int × Int × Int × Option Addr × Nat × List UInt8))) (news := rows encMessage (rs.take k0)) rfl rfl rfl rfl rfl rfl rfl rfl (by decide) (Own.nil 37 11) hS (((hR.rd (hS.own_ 6 rfl)).rhead encMessage_ok k0 (by omega)).x) (rows_one encMessage_ok _) (maxLen_le (by first | omega | (simp; omega))) (by show (0 + (rs.take k0).length) * 80 ≤ 140737488355328; first | omega | (simp; omega)) rfl rfl (by decide) ?_
                                   clear hA hS; intro v148 w149 C150 a hO150 hS hA
                                   replace hO150 := Own.app (l := ([] : List (Int × Int × Int × Int × Int × Int × Int × Int × Int × Int × Option Addr × Nat × List UInt8))) (l2 := rs.take k0) hO150
                                   replace hO150 : Own 37 11 v148 (rs.take k0).length (rows encMessage (rs.take k0)) C150 := hO150
                                   obtain ⟨A151, c152, rfl, hmc152, hxc152⟩ := hO150.open'
                                   refine dr_nil (.inr (hS.tail 1 rfl)) ?_
                                   refine dr_b (o := _) rfl ?_
                                   refine st_append tbOk hA (m := (rs.take k0).length) (q := ((rs.take rs.length).drop (k0 + 1)).length) (xs := rows encMessage (rs.take k0)) (news := rows encMessage ((rs.take rs.length).drop (k0 + 1))) rfl rfl rfl rfl rfl rfl rfl rfl (by decide) hO150 hS (((hR.rd (hS.own_ 6 rfl)).rslv encMessage_ok (k0 + 1) rs.length cr (by omega) (by omega) (by omega) (by omega)).x) (rows_one encMessage_ok _) (maxLen_le (by first | omega | (simp; omega))) (by show ((rs.take k0).length + ((rs.take rs.length).drop (k0 + 1)).length) * 80 ≤ 140737488355328; first | omega | (simp; omega)) rfl rfl (by decide) ?_
                                   clear hA hS; intro v153 w154 C155 a hO155 hS hA
                                   replace hO155 := Own.app (l := rs.take k0) (l2 := (rs.take rs.length).drop (k0 + 1)) hO155
                                   obtain ⟨A156, c157, rfl, hmc157, hxc157⟩ := hO155.open'
                                   refine dr_nil (.inr (hS.tail 1 rfl)) ?_
                                   refine dr_run tbOk 1 hA (hS.tail 1 rfl) (e' := (5, .slice A156 (((rs.take k0) ++ ((rs.take rs.length).drop (k0 + 1))).length) c157) :: _) rfl ?_; clear hA; intro a hA
                                   refine dr_end ?_
                                   replace hA := hA.sel [3, 4, 5, 33, 34, 35] (e' := [(3, .pointer (some ⟨b2, 0, none⟩)), (4, .slice Aw ((ws).length) cw), (5, .slice A156 (((rs.take k0) ++ ((rs.take rs.length).drop (k0 + 1))).length) c157), (33, .slice (some ⟨b8, o9, none⟩) l.length c), (34, .int .i64 ((l.length : Nat) : Int)), (35, .int .i64 ((k : Nat) : Int))]) rfl
                                   refine xb_norm ?_
                                   refine xb_norm ?_
                                   refine xt_norm ?_
                                   have hl : (rs.take k0) ++ ((rs.take rs.length).drop (k0 + 1)) = rs.take k0 ++ rs.drop (k0 + 1) := by rw [List.take_length]
                                   rw [hl] at hO155; rw [hl] at hA
                                   replace hS := hS.front 1 (C := [(b134, rowO [.int .u64 u0, .int .u64 u1, .int .u32 u2, .int .u16 u3, .int .u16 u4, .int .u64 u5, .int .u32 u6, .int .u8 u7, .int .u64 u8, .int .u64 u9, .slice uA ub.length uc] 37)]) (L' := C155 :: L132 :: [(b12, rowO [.int .u8 x10f0, .int .u8 x10f1, .int .u8 x10f2, .int .u64 x10f3, .int .u64 x10f4, .int .u32 x10f5, .int .u16 x10f6, .int .u16 x10f7, .int .u64 x10f8, .int .u32 x10f9, .int .u8 x10f10, .int .u64 x10f11, .int .u64 x10f12, .slice x10A13 x10b13.length x10c13] 39)] :: D :: Cw :: Cr :: F) rfl rfl
                                   replace hS := hS.drop1
                                   replace hS := hS.front 2 (C := [(b12, rowO [.int .u8 x10f0, .int .u8 x10f1, .int .u8 x10f2, .int .u64 x10f3, .int .u64 x10f4, .int .u32 x10f5, .int .u16 x10f6, .int .u16 x10f7, .int .u64 x10f8, .int .u32 x10f9, .int .u8 x10f10, .int .u64 x10f11, .int .u64 x10f12, .slice x10A13 x10b13.length x10c13] 39)]) (L' := C155 :: L132 :: D :: Cw :: Cr :: F) rfl rfl
                                   replace hS := hS.drop1
                                   replace hS := hS.front 4 (C := Cr) (L' := C155 :: L132 :: D :: Cw :: F) rfl rfl
                                   replace hS := hS.drop1
                                   replace hS := hS.front 3 (C := Cw) (L' := C155 :: L132 :: D :: F) rfl rfl
                                   replace hS := hS.front 3 (C := D) (L' := Cw :: C155 :: L132 :: F) rfl rfl
                                   replace hS := hS.front 3 (C := L132) (L' := D :: Cw :: C155 :: F) rfl rfl
                                   exact ⟨(ws), (ms.take k0 ++ ms.drop (k0 + 1)), (rs.take k0 ++ rs.drop (k0 + 1)), L132, D, Aw, cw, Cw, A156, c157, C155, (hA.sel [3, 4, 5, 33, 34, 35] rfl), hS, (hI.get k0), hM133, hW, hO155, (fun x hx => hdm x ((rm_sub ms k0).subset hx)), (fun x hx => hdr x ((rm_sub rs k0).subset hx))⟩))
                       · first
                         | (exfalso; omega)
                         | (replace hA := hA.rw 176 (v' := .bool false) rfl (vb_eq_f hc95)
                            refine cd_cond_f hA rfl ?_
                            refine wp_seq ?_
                            refine wp_seq ?_
                            refine wp_region_lit ?_
                            refine st_run tbOk 2 hA (e' := (70, .int .i64 th) :: (69, .pointer (some ⟨b2, 0, none⟩)) :: _) rfl ?_; clear hA; intro a hA
                            replace hS := hS.front 1 (C := L1) (L' := [(b12, rowO [.int .u8 x10f0, .int .u8 x10f1, .int .u8 x10f2, .int .u64 x10f3, .int .u64 x10f4, .int .u32 x10f5, .int .u16 x10f6, .int .u16 x10f7, .int .u64 x10f8, .int .u32 x10f9, .int .u8 x10f10, .int .u64 x10f11, .int .u64 x10f12, .slice x10A13 x10b13.length x10c13] 39)] :: D :: Cw :: Cr :: F) rfl rfl
                            refine st_call0 hA rfl rfl rfl isfn10 rfl rfl (by decide) (mcancel10 hS hM1 th) ?_
                            clear hA hS; rintro _ w158 a ⟨L159, hM160, rfl, hS⟩ hA
                            refine st_run tbOk 1 hA (e' := (72, .bool (ws.any (fun x => wth th x))) :: _) rfl ?_; clear hA; intro a hA
                            by_cases hc161 : (ws.any (fun x => wth th x)) = true
                            · first
                              | (exfalso; omega)
                              | (replace hA := hA.rw 10 (v' := .bool true) rfl (vb_t hc161)
                                 replace hA := hA.rw 71 (v' := .bool true) rfl (vb_t hc161)
                                 replace hA := hA.rw 72 (v' := .bool true) rfl (vb_t hc161)
                                 refine st_run tbOk 1 hA (e' := (73, .bool false) :: _) rfl ?_; clear hA; intro a hA
                                 refine wpList_nil ?_
                                 replace hA := hA.sel [3, 4, 5, 9, 33, 34, 35, 73] (e' := [(3, .pointer (some ⟨b2, 0, none⟩)), (4, .slice Aw ((ws).length) cw), (5, .slice Ar ((rs).length) cr), (9, .int .i64 th), (33, .slice (some ⟨b8, o9, none⟩) l.length c), (34, .int .i64 ((l.length : Nat) : Int)), (35, .int .i64 ((k : Nat) : Int)), (73, .bool false)]) rfl
                                 refine xt_norm ?_
                                 refine cd_cond_f hA rfl ?_
                                 refine wp_skip ?_
                                 refine xt_norm ?_
                                 refine wp_seq ?_
                                 refine wp_region_lit ?_
                                 refine st_run tbOk 1 hA (e' := (24, .slice none 0 0) :: _) rfl ?_; clear hA; intro a hA
                                 refine wpList_nil ?_
                                 replace hA := hA.sel [3, 4, 5, 9, 24, 33, 34, 35] (e' := [(3, .pointer (some ⟨b2, 0, none⟩)), (4, .slice Aw ((ws).length) cw), (5, .slice Ar ((rs).length) cr), (9, .int .i64 th), (24, .slice none 0 0), (33, .slice (some ⟨b8, o9, none⟩) l.length c), (34, .int .i64 ((l.length : Nat) : Int)), (35, .int .i64 ((k : Nat) : Int))]) rfl
                                 refine xt_norm ?_
                                 refine wp_seq ?_
                                 refine wp_seq ?_
                                 refine wp_region_lit ?_
                                 refine st_run tbOk 3 hA (e' := (76, .int .i64 0) :: (75, .int .i64 (((ws).length : Nat) : Int)) :: (74, .slice Aw ((ws).length) cw) :: _) rfl ?_; clear hA; intro a hA
                                 refine wpList_nil ?_
                                 replace hA := hA.sel [3, 5, 9, 24, 33, 34, 35, 74, 75, 76] (e' := [(3, .pointer (some ⟨b2, 0, none⟩)), (5, .slice Ar ((rs).length) cr), (9, .int .i64 th), (24, .slice none 0 0), (33, .slice (some ⟨b8, o9, none⟩) l.length c), (34, .int .i64 ((l.length : Nat) : Int)), (35, .int .i64 ((k : Nat) : Int)), (74, .slice Aw ((ws).length) cw), (75, .int .i64 (((ws).length : Nat) : Int)), (76, .int .i64 0)]) rfl
                                 refine xt_norm ?_
                                 refine wp_block ?_
                                 replace hS := hS.nil
                                 refine wp_loop_ghost (fun m a w => ∃ (j : Nat) (Ay : Option Addr) (cy : Nat) (Y : Chunk), m = ws.length - j ∧ Has a 269 [(3, .pointer (some ⟨b2, 0, none⟩)), (5, .slice Ar ((rs).length) cr), (9, .int .i64 th), (24, .slice Ay ((sty ws th j).length) cy), (33, .slice (some ⟨b8, o9, none⟩) l.length c), (34, .int .i64 ((l.length : Nat) : Int)), (35, .int .i64 ((k : Nat) : Int)), (74, .slice Aw ((ws).length) cw), (75, .int .i64 (((ws).length : Nat) : Int)), (76, .int .i64 ((j : Nat) : Int))] ∧ St w0 w (Y :: L159 :: [(b12, rowO [.int .u8 x10f0, .int .u8 x10f1, .int .u8 x10f2, .int .u64 x10f3, .int .u64 x10f4, .int .u32 x10f5, .int .u16 x10f6, .int .u16 x10f7, .int .u64 x10f8, .int .u32 x10f9, .int .u8 x10f10, .int .u64 x10f11, .int .u64 x10f12, .slice x10A13 x10b13.length x10c13] 39)] :: D :: Cw :: Cr :: F) ∧ (j ≤ ws.length) ∧ (Own 41 2 (.slice Ay (sty ws th j).length cy) (sty ws th j).length (rows encWait (sty ws th j)) Y)) (ws.length - 0)
                                   ⟨0, none, 0, ([]), rfl, (hA.sel [3, 5, 9, 24, 33, 34, 35, 74, 75, 76] rfl), hS, Nat.zero_le _, (Own.nil 41 2)⟩ ?_
                                 clear hA hS; rintro m0 a w162 ⟨j, Ay, cy, Y, rfl, hA, hS, hj, hY⟩
                                 have hsl := sty_le ws th j
                                 refine wp_seq ?_
                                 refine wp_region_lit ?_
                                 refine st_run tbOk 1 hA (e' := (77, .bool (decide (((j : Nat) : Int) < (((ws).length : Nat) : Int)))) :: _) rfl ?_; clear hA; intro a hA
                                 refine wpList_nil ?_
                                 refine xt_norm ?_
                                 refine wp_seq ?_
                                 by_cases hc163 : ((j : Nat) : Int) < (((ws).length : Nat) : Int)
                                 · first
                                   | (exfalso; omega)
                                   | (replace hA := hA.rw 77 (v' := .bool true) rfl (vb_true hc163)
                                      refine cd_cond_t hA rfl ?_
                                      refine wp_skip ?_
                                      refine xt_norm ?_
                                      refine wp_seq ?_
                                      refine wp_block ?_
                                      refine wp_seq ?_
                                      refine wp_region_lit ?_
                                      obtain ⟨b164, o165, rfl⟩ := hW.isSome (k := j) (by omega)
                                      refine st_val hA rfl rfl (by decide) (rn_indexAddr tbOk hA j (o165 + (j * 2)) rfl rfl rfl rfl rfl rfl (by rfl) (by omega) (by first | rfl | simp [Nat.mul_one, Nat.zero_add] | omega)) ?_; clear hA; intro a hA
                                      obtain ⟨x166, hx166⟩ := get_ex (l := ws) (k := j) (by omega)
                                      refine st_val hA rfl rfl (by decide) (rn_loadA tbOk hA ([.int .u64 x166.1, .int .i64 x166.2]) rfl rfl rfl rfl (by rfl) ((hW.rd (hS.own_ 4 rfl)).elem (k := j) encWait_ok hx166)) ?_; clear hA; intro a hA
                                      refine st_alloc tbOk hA hS [.int .u64 0, .int .i64 0] rfl rfl rfl rfl rfl (by decide) ?_; clear hA hS; intro b167 w168 a hS hA
                                      refine st_store tbOk hA hS [.int .u64 x166.1, .int .i64 x166.2] [.int .u64 x166.1, .int .i64 x166.2] rfl rfl rfl rfl rfl rfl (by simp [Value.oneCell']) (Nat.le_of_ble_eq_true rfl) rfl rfl rfl ?_; clear hS; intro w169 hS
                                      refine wpList_nil ?_
                                      replace hA := hA.sel [3, 5, 9, 24, 26, 33, 34, 35, 74, 75, 76] (e' := [(3, .pointer (some ⟨b2, 0, none⟩)), (5, .slice Ar ((rs).length) cr), (9, .int .i64 th), (24, .slice Ay ((sty ws th j).length) cy), (26, .pointer (some ⟨b167, 0, none⟩)), (33, .slice (some ⟨b8, o9, none⟩) l.length c), (34, .int .i64 ((l.length : Nat) : Int)), (35, .int .i64 ((k : Nat) : Int)), (74, .slice (some ⟨b164, o165, none⟩) ((ws).length) cw), (75, .int .i64 (((ws).length : Nat) : Int)), (76, .int .i64 ((j : Nat) : Int))]) rfl
                                      refine xt_norm ?_
                                      refine wp_seq ?_
                                      refine wp_region_lit ?_
                                      refine st_run tbOk 1 hA (e' := (80, .pointer (some ⟨b167, 1, none⟩)) :: _) rfl ?_; clear hA; intro a hA
                                      refine st_val hA rfl rfl (by decide) (rn_load tbOk hA rfl rfl rfl rfl (cell_row (hS.heapAt 0 rfl) rfl)) ?_; clear hA; intro a hA
                                      refine st_run tbOk 2 hA (e' := (83, .bool (x166.2 != th)) :: (82, .int .i64 th) :: _) rfl ?_; clear hA; intro a hA
                                      refine wpList_nil ?_
                                      replace hA := hA.sel [3, 5, 9, 24, 26, 33, 34, 35, 74, 75, 76, 83] (e' := [(3, .pointer (some ⟨b2, 0, none⟩)), (5, .slice Ar ((rs).length) cr), (9, .int .i64 th), (24, .slice Ay ((sty ws th j).length) cy), (26, .pointer (some ⟨b167, 0, none⟩)), (33, .slice (some ⟨b8, o9, none⟩) l.length c), (34, .int .i64 ((l.length : Nat) : Int)), (35, .int .i64 ((k : Nat) : Int)), (74, .slice (some ⟨b164, o165, none⟩) ((ws).length) cw), (75, .int .i64 (((ws).length : Nat) : Int)), (76, .int .i64 ((j : Nat) : Int)), (83, .bool (x166.2 != th))]) rfl
                                      refine xt_norm ?_
                                      by_cases hc170 : x166.2 = th
                                      · first
                                        | (exfalso; omega)
                                        | (replace hA := hA.rw 83 (v' := .bool false) rfl (vb_ne_f hc170)
                                           refine cd_cond_f hA rfl ?_
                                           refine wp_skip ?_
                                           refine xb_norm ?_
                                           refine xt_norm ?_
                                           refine wp_region_lit ?_
                                           refine st_run tbOk 1 hA (e' := (88, .int .i64 (IntKind.i64.wrap (((j : Nat) : Int) + 1))) :: _) rfl ?_; clear hA; intro a hA
                                           replace hA := hA.rw 88 (v' := .int .i64 ((j + 1 : Nat) : Int)) rfl (wr64 (by omega) (by omega) (by omega))
                                           refine st_run tbOk 1 hA (e' := (76, .int .i64 ((j + 1 : Nat) : Int)) :: _) rfl ?_; clear hA; intro a hA
                                           refine wpList_nil ?_
                                           replace hA := hA.sel [3, 5, 9, 24, 33, 34, 35, 74, 75, 76] (e' := [(3, .pointer (some ⟨b2, 0, none⟩)), (5, .slice Ar ((rs).length) cr), (9, .int .i64 th), (24, .slice Ay ((sty ws th j).length) cy), (33, .slice (some ⟨b8, o9, none⟩) l.length c), (34, .int .i64 ((l.length : Nat) : Int)), (35, .int .i64 ((k : Nat) : Int)), (74, .slice (some ⟨b164, o165, none⟩) ((ws).length) cw), (75, .int .i64 (((ws).length : Nat) : Int)), (76, .int .i64 ((j + 1 : Nat) : Int))]) rfl
                                           have hw1 : sty ws th j = sty ws th (j + 1) := sty_no hx166 (by omega)
                                           rw [hw1] at hY hA
                                           replace hS := hS.drop1
                                           replace hS := hS.front 5 (C := Cr) (L' := Y :: L159 :: [(b12, rowO [.int .u8 x10f0, .int .u8 x10f1, .int .u8 x10f2, .int .u64 x10f3, .int .u64 x10f4, .int .u32 x10f5, .int .u16 x10f6, .int .u16 x10f7, .int .u64 x10f8, .int .u32 x10f9, .int .u8 x10f10, .int .u64 x10f11, .int .u64 x10f12, .slice x10A13 x10b13.length x10c13] 39)] :: D :: Cw :: F) rfl rfl
                                           replace hS := hS.front 5 (C := Cw) (L' := Cr :: Y :: L159 :: [(b12, rowO [.int .u8 x10f0, .int .u8 x10f1, .int .u8 x10f2, .int .u64 x10f3, .int .u64 x10f4, .int .u32 x10f5, .int .u16 x10f6, .int .u16 x10f7, .int .u64 x10f8, .int .u32 x10f9, .int .u8 x10f10, .int .u64 x10f11, .int .u64 x10f12, .slice x10A13 x10b13.length x10c13] 39)] :: D :: F) rfl rfl
                                           replace hS := hS.front 5 (C := D) (L' := Cw :: Cr :: Y :: L159 :: [(b12, rowO [.int .u8 x10f0, .int .u8 x10f1, .int .u8 x10f2, .int .u64 x10f3, .int .u64 x10f4, .int .u32 x10f5, .int .u16 x10f6, .int .u16 x10f7, .int .u64 x10f8, .int .u32 x10f9, .int .u8 x10f10, .int .u64 x10f11, .int .u64 x10f12, .slice x10A13 x10b13.length x10c13] 39)] :: F) rfl rfl
                                           replace hS := hS.front 5 (C := [(b12, rowO [.int .u8 x10f0, .int .u8 x10f1, .int .u8 x10f2, .int .u64 x10f3, .int .u64 x10f4, .int .u32 x10f5, .int .u16 x10f6, .int .u16 x10f7, .int .u64 x10f8, .int .u32 x10f9, .int .u8 x10f10, .int .u64 x10f11, .int .u64 x10f12, .slice x10A13 x10b13.length x10c13] 39)]) (L' := D :: Cw :: Cr :: Y :: L159 :: F) rfl rfl
                                           replace hS := hS.front 5 (C := L159) (L' := [(b12, rowO [.int .u8 x10f0, .int .u8 x10f1, .int .u8 x10f2, .int .u64 x10f3, .int .u64 x10f4, .int .u32 x10f5, .int .u16 x10f6, .int .u16 x10f7, .int .u64 x10f8, .int .u32 x10f9, .int .u8 x10f10, .int .u64 x10f11, .int .u64 x10f12, .slice x10A13 x10b13.length x10c13] 39)] :: D :: Cw :: Cr :: Y :: F) rfl rfl
                                           replace hS := hS.front 5 (C := Y) (L' := L159 :: [(b12, rowO [.int .u8 x10f0, .int .u8 x10f1, .int .u8 x10f2, .int .u64 x10f3, .int .u64 x10f4, .int .u32 x10f5, .int .u16 x10f6, .int .u16 x10f7, .int .u64 x10f8, .int .u32 x10f9, .int .u8 x10f10, .int .u64 x10f11, .int .u64 x10f12, .slice x10A13 x10b13.length x10c13] 39)] :: D :: Cw :: Cr :: F) rfl rfl
                                           exact lp_next _ (by omega) ⟨(j + 1), Ay, cy, Y, rfl, (hA.sel [3, 5, 9, 24, 33, 34, 35, 74, 75, 76] rfl), hS, by omega, hY⟩)
                                      · first
                                        | (exfalso; omega)
                                        | (replace hA := hA.rw 83 (v' := .bool true) rfl (vb_ne_t hc170)
                                           refine cd_cond_t hA rfl ?_
                                           refine wp_region_lit ?_
                                           refine st_run tbOk 1 hA (e' := (84, .slice Ay ((sty ws th j).length) cy) :: _) rfl ?_; clear hA; intro a hA
                                           refine st_val hA rfl rfl (by decide) (rn_loadA tbOk hA [.int .u64 x166.1, .int .i64 x166.2] rfl rfl rfl rfl rfl (cells_row (hS.heapAt 0 rfl) rfl)) ?_; clear hA; intro a hA
                                           refine st_buildSlice tbOk hA hS [.int .u64 x166.1, .int .i64 x166.2] rfl rfl rfl rfl rfl (by decide) (by kernel_rfl) rfl rfl (by decide) ?_; clear hA hS; intro b171 w172 a hS hA
                                           replace hS := hS.front 2 (C := Y) (L' := [(b171, rowO [.int .u64 x166.1, .int .i64 x166.2] 41)] :: [(b167, rowO [.int .u64 x166.1, .int .i64 x166.2] 41)] :: L159 :: [(b12, rowO [.int .u8 x10f0, .int .u8 x10f1, .int .u8 x10f2, .int .u64 x10f3, .int .u64 x10f4, .int .u32 x10f5, .int .u16 x10f6, .int .u16 x10f7, .int .u64 x10f8, .int .u32 x10f9, .int .u8 x10f10, .int .u64 x10f11, .int .u64 x10f12, .slice x10A13 x10b13.length x10c13] 39)] :: D :: Cw :: Cr :: F) rfl rfl
                                           refine st_append tbOk hA (m := (sty ws th j).length) (q := 1) (xs := rows encWait (sty ws th j)) (news := rows encWait ([(x166.1, x166.2)] : List (Int × Int))) rfl rfl rfl rfl rfl rfl rfl rfl (by decide) hY hS (((Own.full (T := 41) (size := 2) (g := b171) (m := 1) rfl (by decide)).rd (hS.own_ 1 rfl)).x) (rows_one encWait_ok _) (maxLen_le (by first | omega | (simp; omega))) (by show ((sty ws th j).length + 1) * 16 ≤ 140737488355328; first | omega | (simp; omega)) rfl rfl (by decide) ?_
                                           clear hA hS; intro v173 w174 C175 a hO175 hS hA
                                           replace hO175 := Own.app (l := sty ws th j) (l2 := ([(x166.1, x166.2)] : List (Int × Int))) hO175
                                           obtain ⟨A176, c177, rfl, hmc177, hxc177⟩ := hO175.open'
                                           refine st_run tbOk 1 hA (e' := (24, .slice A176 (((sty ws th j) ++ ([(x166.1, x166.2)] : List (Int × Int))).length) c177) :: _) rfl ?_; clear hA; intro a hA
                                           refine wpList_nil ?_
                                           replace hA := hA.sel [3, 5, 9, 24, 33, 34, 35, 74, 75, 76] (e' := [(3, .pointer (some ⟨b2, 0, none⟩)), (5, .slice Ar ((rs).length) cr), (9, .int .i64 th), (24, .slice A176 (((sty ws th j) ++ ([(x166.1, x166.2)] : List (Int × Int))).length) c177), (33, .slice (some ⟨b8, o9, none⟩) l.length c), (34, .int .i64 ((l.length : Nat) : Int)), (35, .int .i64 ((k : Nat) : Int)), (74, .slice (some ⟨b164, o165, none⟩) ((ws).length) cw), (75, .int .i64 (((ws).length : Nat) : Int)), (76, .int .i64 ((j : Nat) : Int))]) rfl
                                           refine xb_norm ?_
                                           refine xt_norm ?_
                                           refine wp_region_lit ?_
                                           refine st_run tbOk 1 hA (e' := (88, .int .i64 (IntKind.i64.wrap (((j : Nat) : Int) + 1))) :: _) rfl ?_; clear hA; intro a hA
                                           replace hA := hA.rw 88 (v' := .int .i64 ((j + 1 : Nat) : Int)) rfl (wr64 (by omega) (by omega) (by omega))
                                           refine st_run tbOk 1 hA (e' := (76, .int .i64 ((j + 1 : Nat) : Int)) :: _) rfl ?_; clear hA; intro a hA
                                           refine wpList_nil ?_
                                           replace hA := hA.sel [3, 5, 9, 24, 33, 34, 35, 74, 75, 76] (e' := [(3, .pointer (some ⟨b2, 0, none⟩)), (5, .slice Ar ((rs).length) cr), (9, .int .i64 th), (24, .slice A176 (((sty ws th j) ++ ([(x166.1, x166.2)] : List (Int × Int))).length) c177), (33, .slice (some ⟨b8, o9, none⟩) l.length c), (34, .int .i64 ((l.length : Nat) : Int)), (35, .int .i64 ((k : Nat) : Int)), (74, .slice (some ⟨b164, o165, none⟩) ((ws).length) cw), (75, .int .i64 (((ws).length : Nat) : Int)), (76, .int .i64 ((j + 1 : Nat) : Int))]) rfl
                                           have hl : (sty ws th j) ++ ([(x166.1, x166.2)] : List (Int × Int)) = sty ws th (j + 1) := sty_yes hx166 (by omega)
                                           rw [hl] at hO175; rw [hl] at hA
                                           replace hS := hS.front 1 (C := [(b171, rowO [.int .u64 x166.1, .int .i64 x166.2] 41)]) (L' := C175 :: [(b167, rowO [.int .u64 x166.1, .int .i64 x166.2] 41)] :: L159 :: [(b12, rowO [.int .u8 x10f0, .int .u8 x10f1, .int .u8 x10f2, .int .u64 x10f3, .int .u64 x10f4, .int .u32 x10f5, .int .u16 x10f6, .int .u16 x10f7, .int .u64 x10f8, .int .u32 x10f9, .int .u8 x10f10, .int .u64 x10f11, .int .u64 x10f12, .slice x10A13 x10b13.length x10c13] 39)] :: D :: Cw :: Cr :: F) rfl rfl
                                           replace hS := hS.drop1
                                           replace hS := hS.front 1 (C := [(b167, rowO [.int .u64 x166.1, .int .i64 x166.2] 41)]) (L' := C175 :: L159 :: [(b12, rowO [.int .u8 x10f0, .int .u8 x10f1, .int .u8 x10f2, .int .u64 x10f3, .int .u64 x10f4, .int .u32 x10f5, .int .u16 x10f6, .int .u16 x10f7, .int .u64 x10f8, .int .u32 x10f9, .int .u8 x10f10, .int .u64 x10f11, .int .u64 x10f12, .slice x10A13 x10b13.length x10c13] 39)] :: D :: Cw :: Cr :: F) rfl rfl
                                           replace hS := hS.drop1
                                           replace hS := hS.front 5 (C := Cr) (L' := C175 :: L159 :: [(b12, rowO [.int .u8 x10f0, .int .u8 x10f1, .int .u8 x10f2, .int .u64 x10f3, .int .u64 x10f4, .int .u32 x10f5, .int .u16 x10f6, .int .u16 x10f7, .int .u64 x10f8, .int .u32 x10f9, .int .u8 x10f10, .int .u64 x10f11, .int .u64 x10f12, .slice x10A13 x10b13.length x10c13] 39)] :: D :: Cw :: F) rfl rfl
                                           replace hS := hS.front 5 (C := Cw) (L' := Cr :: C175 :: L159 :: [(b12, rowO [.int .u8 x10f0, .int .u8 x10f1, .int .u8 x10f2, .int .u64 x10f3, .int .u64 x10f4, .int .u32 x10f5, .int .u16 x10f6, .int .u16 x10f7, .int .u64 x10f8, .int .u32 x10f9, .int .u8 x10f10, .int .u64 x10f11, .int .u64 x10f12, .slice x10A13 x10b13.length x10c13] 39)] :: D :: F) rfl rfl
                                           replace hS := hS.front 5 (C := D) (L' := Cw :: Cr :: C175 :: L159 :: [(b12, rowO [.int .u8 x10f0, .int .u8 x10f1, .int .u8 x10f2, .int .u64 x10f3, .int .u64 x10f4, .int .u32 x10f5, .int .u16 x10f6, .int .u16 x10f7, .int .u64 x10f8, .int .u32 x10f9, .int .u8 x10f10, .int .u64 x10f11, .int .u64 x10f12, .slice x10A13 x10b13.length x10c13] 39)] :: F) rfl rfl
                                           replace hS := hS.front 5 (C := [(b12, rowO [.int .u8 x10f0, .int .u8 x10f1, .int .u8 x10f2, .int .u64 x10f3, .int .u64 x10f4, .int .u32 x10f5, .int .u16 x10f6, .int .u16 x10f7, .int .u64 x10f8, .int .u32 x10f9, .int .u8 x10f10, .int .u64 x10f11, .int .u64 x10f12, .slice x10A13 x10b13.length x10c13] 39)]) (L' := D :: Cw :: Cr :: C175 :: L159 :: F) rfl rfl
                                           replace hS := hS.front 5 (C := L159) (L' := [(b12, rowO [.int .u8 x10f0, .int .u8 x10f1, .int .u8 x10f2, .int .u64 x10f3, .int .u64 x10f4, .int .u32 x10f5, .int .u16 x10f6, .int .u16 x10f7, .int .u64 x10f8, .int .u32 x10f9, .int .u8 x10f10, .int .u64 x10f11, .int .u64 x10f12, .slice x10A13 x10b13.length x10c13] 39)] :: D :: Cw :: Cr :: C175 :: F) rfl rfl
                                           replace hS := hS.front 5 (C := C175) (L' := L159 :: [(b12, rowO [.int .u8 x10f0, .int .u8 x10f1, .int .u8 x10f2, .int .u64 x10f3, .int .u64 x10f4, .int .u32 x10f5, .int .u16 x10f6, .int .u16 x10f7, .int .u64 x10f8, .int .u32 x10f9, .int .u8 x10f10, .int .u64 x10f11, .int .u64 x10f12, .slice x10A13 x10b13.length x10c13] 39)] :: D :: Cw :: Cr :: F) rfl rfl
                                           exact lp_next _ (by omega) ⟨(j + 1), A176, c177, C175, rfl, (hA.sel [3, 5, 9, 24, 33, 34, 35, 74, 75, 76] rfl), hS, by omega, hO175⟩))
                                 · first
                                   | (exfalso; omega)
                                   | (replace hA := hA.rw 77 (v' := .bool false) rfl (vb_false hc163)
                                      refine cd_cond_f hA rfl ?_
                                      refine wp_exit ?_
                                      refine xt_exit ?_
                                      refine xt_exit ?_
                                      refine cd_exit_eq ?_
                                      refine xt_norm ?_
                                      refine wp_region_lit ?_
                                      have hl : sty ws th j = ws.filter (fun x => !(wth th x)) := by rw [show j = ws.length by omega, sty_all]
                                      rw [hl] at hY; rw [hl] at hA
                                      refine st_run tbOk 2 hA (e' := (4, .slice Ay ((ws.filter (fun x => !(wth th x))).length) cy) :: (89, .slice Ay ((ws.filter (fun x => !(wth th x))).length) cy) :: _) rfl ?_; clear hA; intro a hA
                                      refine wpList_nil ?_
                                      replace hA := hA.sel [3, 4, 5, 33, 34, 35] (e' := [(3, .pointer (some ⟨b2, 0, none⟩)), (4, .slice Ay ((ws.filter (fun x => !(wth th x))).length) cy), (5, .slice Ar ((rs).length) cr), (33, .slice (some ⟨b8, o9, none⟩) l.length c), (34, .int .i64 ((l.length : Nat) : Int)), (35, .int .i64 ((k : Nat) : Int))]) rfl
                                      refine xb_norm ?_
                                      refine xt_norm ?_
                                      replace hS := hS.front 2 (C := [(b12, rowO [.int .u8 x10f0, .int .u8 x10f1, .int .u8 x10f2, .int .u64 x10f3, .int .u64 x10f4, .int .u32 x10f5, .int .u16 x10f6, .int .u16 x10f7, .int .u64 x10f8, .int .u32 x10f9, .int .u8 x10f10, .int .u64 x10f11, .int .u64 x10f12, .slice x10A13 x10b13.length x10c13] 39)]) (L' := Y :: L159 :: D :: Cw :: Cr :: F) rfl rfl
                                      replace hS := hS.drop1
                                      replace hS := hS.front 3 (C := Cw) (L' := Y :: L159 :: D :: Cr :: F) rfl rfl
                                      replace hS := hS.drop1
                                      replace hS := hS.front 3 (C := Cr) (L' := Y :: L159 :: D :: F) rfl rfl
                                      replace hS := hS.front 1 (C := Y) (L' := Cr :: L159 :: D :: F) rfl rfl
                                      replace hS := hS.front 3 (C := D) (L' := Y :: Cr :: L159 :: F) rfl rfl
                                      replace hS := hS.front 3 (C := L159) (L' := D :: Y :: Cr :: F) rfl rfl
                                      exact ⟨(ws.filter (fun x => !(wth th x))), (ms), (rs), L159, D, Ay, cy, Y, Ar, cr, Cr, (hA.sel [3, 4, 5, 33, 34, 35] rfl), hS, (hI.cancel th), hM160, hY, hR, hdm, hdr⟩))
                            · first
                              | (exfalso; omega)
                              | (replace hA := hA.rw 10 (v' := .bool false) rfl (vb_f hc161)
                                 replace hA := hA.rw 71 (v' := .bool false) rfl (vb_f hc161)
                                 replace hA := hA.rw 72 (v' := .bool false) rfl (vb_f hc161)
                                 refine st_run tbOk 1 hA (e' := (73, .bool false) :: _) rfl ?_; clear hA; intro a hA
                                 refine wpList_nil ?_
                                 replace hA := hA.sel [3, 4, 5, 9, 33, 34, 35, 73] (e' := [(3, .pointer (some ⟨b2, 0, none⟩)), (4, .slice Aw ((ws).length) cw), (5, .slice Ar ((rs).length) cr), (9, .int .i64 th), (33, .slice (some ⟨b8, o9, none⟩) l.length c), (34, .int .i64 ((l.length : Nat) : Int)), (35, .int .i64 ((k : Nat) : Int)), (73, .bool false)]) rfl
                                 refine xt_norm ?_
                                 refine cd_cond_f hA rfl ?_
                                 refine wp_skip ?_
                                 refine xt_norm ?_
                                 refine wp_seq ?_
                                 refine wp_region_lit ?_
                                 refine st_run tbOk 1 hA (e' := (24, .slice none 0 0) :: _) rfl ?_; clear hA; intro a hA
                                 refine wpList_nil ?_
                                 replace hA := hA.sel [3, 4, 5, 9, 24, 33, 34, 35] (e' := [(3, .pointer (some ⟨b2, 0, none⟩)), (4, .slice Aw ((ws).length) cw), (5, .slice Ar ((rs).length) cr), (9, .int .i64 th), (24, .slice none 0 0), (33, .slice (some ⟨b8, o9, none⟩) l.length c), (34, .int .i64 ((l.length : Nat) : Int)), (35, .int .i64 ((k : Nat) : Int))]) rfl
                                 refine xt_norm ?_
                                 refine wp_seq ?_
                                 refine wp_seq ?_
                                 refine wp_region_lit ?_
                                 refine st_run tbOk 3 hA (e' := (76, .int .i64 0) :: (75, .int .i64 (((ws).length : Nat) : Int)) :: (74, .slice Aw ((ws).length) cw) :: _) rfl ?_; clear hA; intro a hA
                                 refine wpList_nil ?_
                                 replace hA := hA.sel [3, 5, 9, 24, 33, 34, 35, 74, 75, 76] (e' := [(3, .pointer (some ⟨b2, 0, none⟩)), (5, .slice Ar ((rs).length) cr), (9, .int .i64 th), (24, .slice none 0 0), (33, .slice (some ⟨b8, o9, none⟩) l.length c), (34, .int .i64 ((l.length : Nat) : Int)), (35, .int .i64 ((k : Nat) : Int)), (74, .slice Aw ((ws).length) cw), (75, .int .i64 (((ws).length : Nat) : Int)), (76, .int .i64 0)]) rfl
                                 refine xt_norm ?_
                                 refine wp_block ?_
                                 replace hS := hS.nil
                                 refine wp_loop_ghost (fun m a w => ∃ (j : Nat) (Ay : Option Addr) (cy : Nat) (Y : Chunk), m = ws.length - j ∧ Has a 269 [(3, .pointer (some ⟨b2, 0, none⟩)), (5, .slice Ar ((rs).length) cr), (9, .int .i64 th), (24, .slice Ay ((sty ws th j).length) cy), (33, .slice (some ⟨b8, o9, none⟩) l.length c), (34, .int .i64 ((l.length : Nat) : Int)), (35, .int .i64 ((k : Nat) : Int)), (74, .slice Aw ((ws).length) cw), (75, .int .i64 (((ws).length : Nat) : Int)), (76, .int .i64 ((j : Nat) : Int))] ∧ St w0 w (Y :: L159 :: [(b12, rowO [.int .u8 x10f0, .int .u8 x10f1, .int .u8 x10f2, .int .u64 x10f3, .int .u64 x10f4, .int .u32 x10f5, .int .u16 x10f6, .int .u16 x10f7, .int .u64 x10f8, .int .u32 x10f9, .int .u8 x10f10, .int .u64 x10f11, .int .u64 x10f12, .slice x10A13 x10b13.length x10c13] 39)] :: D :: Cw :: Cr :: F) ∧ (j ≤ ws.length) ∧ (Own 41 2 (.slice Ay (sty ws th j).length cy) (sty ws th j).length (rows encWait (sty ws th j)) Y)) (ws.length - 0)
                                   ⟨0, none, 0, ([]), rfl, (hA.sel [3, 5, 9, 24, 33, 34, 35, 74, 75, 76] rfl), hS, Nat.zero_le _, (Own.nil 41 2)⟩ ?_
                                 clear hA hS; rintro m0 a w178 ⟨j, Ay, cy, Y, rfl, hA, hS, hj, hY⟩
                                 have hsl := sty_le ws th j
                                 refine wp_seq ?_
                                 refine wp_region_lit ?_
                                 refine st_run tbOk 1 hA (e' := (77, .bool (decide (((j : Nat) : Int) < (((ws).length : Nat) : Int)))) :: _) rfl ?_; clear hA; intro a hA
                                 refine wpList_nil ?_
                                 refine xt_norm ?_
                                 refine wp_seq ?_
                                 by_cases hc179 : ((j : Nat) : Int) < (((ws).length : Nat) : Int)
                                 · first
                                   | (exfalso; omega)
                                   | (replace hA := hA.rw 77 (v' := .bool true) rfl (vb_true hc179)
                                      refine cd_cond_t hA rfl ?_
                                      refine wp_skip ?_
                                      refine xt_norm ?_
                                      refine wp_seq ?_
                                      refine wp_block ?_
                                      refine wp_seq ?_
                                      refine wp_region_lit ?_
                                      obtain ⟨b180, o181, rfl⟩ := hW.isSome (k := j) (by omega)
                                      refine st_val hA rfl rfl (by decide) (rn_indexAddr tbOk hA j (o181 + (j * 2)) rfl rfl rfl rfl rfl rfl (by rfl) (by omega) (by first | rfl | simp [Nat.mul_one, Nat.zero_add] | omega)) ?_; clear hA; intro a hA
                                      obtain ⟨x182, hx182⟩ := get_ex (l := ws) (k := j) (by omega)
                                      refine st_val hA rfl rfl (by decide) (rn_loadA tbOk hA ([.int .u64 x182.1, .int .i64 x182.2]) rfl rfl rfl rfl (by rfl) ((hW.rd (hS.own_ 4 rfl)).elem (k := j) encWait_ok hx182)) ?_; clear hA; intro a hA
                                      refine st_alloc tbOk hA hS [.int .u64 0, .int .i64 0] rfl rfl rfl rfl rfl (by decide) ?_; clear hA hS; intro b183 w184 a hS hA
                                      refine st_store tbOk hA hS [.int .u64 x182.1, .int .i64 x182.2] [.int .u64 x182.1, .int .i64 x182.2] rfl rfl rfl rfl rfl rfl (by simp [Value.oneCell']) (Nat.le_of_ble_eq_true rfl) rfl rfl rfl ?_; clear hS; intro w185 hS
                                      refine wpList_nil ?_
                                      replace hA := hA.sel [3, 5, 9, 24, 26, 33, 34, 35, 74, 75, 76] (e' := [(3, .pointer (some ⟨b2, 0, none⟩)), (5, .slice Ar ((rs).length) cr), (9, .int .i64 th), (24, .slice Ay ((sty ws th j).length) cy), (26, .pointer (some ⟨b183, 0, none⟩)), (33, .slice (some ⟨b8, o9, none⟩) l.length c), (34, .int .i64 ((l.length : Nat) : Int)), (35, .int .i64 ((k : Nat) : Int)), (74, .slice (some ⟨b180, o181, none⟩) ((ws).length) cw), (75, .int .i64 (((ws).length : Nat) : Int)), (76, .int .i64 ((j : Nat) : Int))]) rfl
                                      refine xt_norm ?_
                                      refine wp_seq ?_
                                      refine wp_region_lit ?_
                                      refine st_run tbOk 1 hA (e' := (80, .pointer (some ⟨b183, 1, none⟩)) :: _) rfl ?_; clear hA; intro a hA
                                      refine st_val hA rfl rfl (by decide) (rn_load tbOk hA rfl rfl rfl rfl (cell_row (hS.heapAt 0 rfl) rfl)) ?_; clear hA; intro a hA
                                      refine st_run tbOk 2 hA (e' := (83, .bool (x182.2 != th)) :: (82, .int .i64 th) :: _) rfl ?_; clear hA; intro a hA
                                      refine wpList_nil ?_
                                      replace hA := hA.sel [3, 5, 9, 24, 26, 33, 34, 35, 74, 75, 76, 83] (e' := [(3, .pointer (some ⟨b2, 0, none⟩)), (5, .slice Ar ((rs).length) cr), (9, .int .i64 th), (24, .slice Ay ((sty ws th j).length) cy), (26, .pointer (some ⟨b183, 0, none⟩)), (33, .slice (some ⟨b8, o9, none⟩) l.length c), (34, .int .i64 ((l.length : Nat) : Int)), (35, .int .i64 ((k : Nat) : Int)), (74, .slice (some ⟨b180, o181, none⟩) ((ws).length) cw), (75, .int .i64 (((ws).length : Nat) : Int)), (76, .int .i64 ((j : Nat) : Int)), (83, .bool (x182.2 != th))]) rfl
                                      refine xt_norm ?_
                                      by_cases hc186 : x182.2 = th
                                      · first
                                        | (exfalso; omega)
                                        | (replace hA := hA.rw 83 (v' := .bool false) rfl (vb_ne_f hc186)
                                           refine cd_cond_f hA rfl ?_
                                           refine wp_skip ?_
                                           refine xb_norm ?_
                                           refine xt_norm ?_
                                           refine wp_region_lit ?_
                                           refine st_run tbOk 1 hA (e' := (88, .int .i64 (IntKind.i64.wrap (((j : Nat) : Int) + 1))) :: _) rfl ?_; clear hA; intro a hA
                                           replace hA := hA.rw 88 (v' := .int .i64 ((j + 1 : Nat) : Int)) rfl (wr64 (by omega) (by omega) (by omega))
                                           refine st_run tbOk 1 hA (e' := (76, .int .i64 ((j + 1 : Nat) : Int)) :: _) rfl ?_; clear hA; intro a hA
                                           refine wpList_nil ?_
                                           replace hA := hA.sel [3, 5, 9, 24, 33, 34, 35, 74, 75, 76] (e' := [(3, .pointer (some ⟨b2, 0, none⟩)), (5, .slice Ar ((rs).length) cr), (9, .int .i64 th), (24, .slice Ay ((sty ws th j).length) cy), (33, .slice (some ⟨b8, o9, none⟩) l.length c), (34, .int .i64 ((l.length : Nat) : Int)), (35, .int .i64 ((k : Nat) : Int)), (74, .slice (some ⟨b180, o181, none⟩) ((ws).length) cw), (75, .int .i64 (((ws).length : Nat) : Int)), (76, .int .i64 ((j + 1 : Nat) : Int))]) rfl
                                           have hw1 : sty ws th j = sty ws th (j + 1) := sty_no hx182 (by omega)
                                           rw [hw1] at hY hA
                                           replace hS := hS.drop1
                                           replace hS := hS.front 5 (C := Cr) (L' := Y :: L159 :: [(b12, rowO [.int .u8 x10f0, .int .u8 x10f1, .int .u8 x10f2, .int .u64 x10f3, .int .u64 x10f4, .int .u32 x10f5, .int .u16 x10f6, .int .u16 x10f7, .int .u64 x10f8, .int .u32 x10f9, .int .u8 x10f10, .int .u64 x10f11, .int .u64 x10f12, .slice x10A13 x10b13.length x10c13] 39)] :: D :: Cw :: F) rfl rfl
                                           replace hS := hS.front 5 (C := Cw) (L' := Cr :: Y :: L159 :: [(b12, rowO [.int .u8 x10f0, .int .u8 x10f1, .int .u8 x10f2, .int .u64 x10f3, .int .u64 x10f4, .int .u32 x10f5, .int .u16 x10f6, .int .u16 x10f7, .int .u64 x10f8, .int .u32 x10f9, .int .u8 x10f10, .int .u64 x10f11, .int .u64 x10f12, .slice x10A13 x10b13.length x10c13] 39)] :: D :: F) rfl rfl
                                           replace hS := hS.front 5 (C := D) (L' := Cw :: Cr :: Y :: L159 :: [(b12, rowO [.int .u8 x10f0, .int .u8 x10f1, .int .u8 x10f2, .int .u64 x10f3, .int .u64 x10f4, .int .u32 x10f5, .int .u16 x10f6, .int .u16 x10f7, .int .u64 x10f8, .int .u32 x10f9, .int .u8 x10f10, .int .u64 x10f11, .int .u64 x10f12, .slice x10A13 x10b13.length x10c13] 39)] :: F) rfl rfl
                                           replace hS := hS.front 5 (C := [(b12, rowO [.int .u8 x10f0, .int .u8 x10f1, .int .u8 x10f2, .int .u64 x10f3, .int .u64 x10f4, .int .u32 x10f5, .int .u16 x10f6, .int .u16 x10f7, .int .u64 x10f8, .int .u32 x10f9, .int .u8 x10f10, .int .u64 x10f11, .int .u64 x10f12, .slice x10A13 x10b13.length x10c13] 39)]) (L' := D :: Cw :: Cr :: Y :: L159 :: F) rfl rfl
                                           replace hS := hS.front 5 (C := L159) (L' := [(b12, rowO [.int .u8 x10f0, .int .u8 x10f1, .int .u8 x10f2, .int .u64 x10f3, .int .u64 x10f4, .int .u32 x10f5, .int .u16 x10f6, .int .u16 x10f7, .int .u64 x10f8, .int .u32 x10f9, .int .u8 x10f10, .int .u64 x10f11, .int .u64 x10f12, .slice x10A13 x10b13.length x10c13] 39)] :: D :: Cw :: Cr :: Y :: F) rfl rfl
                                           replace hS := hS.front 5 (C := Y) (L' := L159 :: [(b12, rowO [.int .u8 x10f0, .int .u8 x10f1, .int .u8 x10f2, .int .u64 x10f3, .int .u64 x10f4, .int .u32 x10f5, .int .u16 x10f6, .int .u16 x10f7, .int .u64 x10f8, .int .u32 x10f9, .int .u8 x10f10, .int .u64 x10f11, .int .u64 x10f12, .slice x10A13 x10b13.length x10c13] 39)] :: D :: Cw :: Cr :: F) rfl rfl
                                           exact lp_next _ (by omega) ⟨(j + 1), Ay, cy, Y, rfl, (hA.sel [3, 5, 9, 24, 33, 34, 35, 74, 75, 76] rfl), hS, by omega, hY⟩)
                                      · first
                                        | (exfalso; omega)
                                        | (replace hA := hA.rw 83 (v' := .bool true) rfl (vb_ne_t hc186)
                                           refine cd_cond_t hA rfl ?_
                                           refine wp_region_lit ?_
                                           refine st_run tbOk 1 hA (e' := (84, .slice Ay ((sty ws th j).length) cy) :: _) rfl ?_; clear hA; intro a hA
                                           refine st_val hA rfl rfl (by decide) (rn_loadA tbOk hA [.int .u64 x182.1, .int .i64 x182.2] rfl rfl rfl rfl rfl (cells_row (hS.heapAt 0 rfl) rfl)) ?_; clear hA; intro a hA
                                           refine st_buildSlice tbOk hA hS [.int .u64 x182.1, .int .i64 x182.2] rfl rfl rfl rfl rfl (by decide) (by kernel_rfl) rfl rfl (by decide) ?_; clear hA hS; intro b187 w188 a hS hA
                                           replace hS := hS.front 2 (C := Y) (L' := [(b187, rowO [.int .u64 x182.1, .int .i64 x182.2] 41)] :: [(b183, rowO [.int .u64 x182.1, .int .i64 x182.2] 41)] :: L159 :: [(b12, rowO [.int .u8 x10f0, .int .u8 x10f1, .int .u8 x10f2, .int .u64 x10f3, .int .u64 x10f4, .int .u32 x10f5, .int .u16 x10f6, .int .u16 x10f7, .int .u64 x10f8, .int .u32 x10f9, .int .u8 x10f10, .int .u64 x10f11, .int .u64 x10f12, .slice x10A13 x10b13.length x10c13] 39)] :: D :: Cw :: Cr :: F) rfl rfl
                                           refine st_append tbOk hA (m := (sty ws th j).length) (q := 1) (xs := rows encWait (sty ws th j)) (news := rows encWait ([(x182.1, x182.2)] : List (Int × Int))) rfl rfl rfl rfl rfl rfl rfl rfl (by decide) hY hS (((Own.full (T := 41) (size := 2) (g := b187) (m := 1) rfl (by decide)).rd (hS.own_ 1 rfl)).x) (rows_one encWait_ok _) (maxLen_le (by first | omega | (simp; omega))) (by show ((sty ws th j).length + 1) * 16 ≤ 140737488355328; first | omega | (simp; omega)) rfl rfl (by decide) ?_
                                           clear hA hS; intro v189 w190 C191 a hO191 hS hA
                                           replace hO191 := Own.app (l := sty ws th j) (l2 := ([(x182.1, x182.2)] : List (Int × Int))) hO191
                                           obtain ⟨A192, c193, rfl, hmc193, hxc193⟩ := hO191.open'
                                           refine st_run tbOk 1 hA (e' := (24, .slice A192 (((sty ws th j) ++ ([(x182.1, x182.2)] : List (Int × Int))).length) c193) :: _) rfl ?_; clear hA; intro a hA
                                           refine wpList_nil ?_
                                           replace hA := hA.sel [3, 5, 9, 24, 33, 34, 35, 74, 75, 76] (e' := [(3, .pointer (some ⟨b2, 0, none⟩)), (5, .slice Ar ((rs).length) cr), (9, .int .i64 th), (24, .slice A192 (((sty ws th j) ++ ([(x182.1, x182.2)] : List (Int × Int))).length) c193), (33, .slice (some ⟨b8, o9, none⟩) l.length c), (34, .int .i64 ((l.length : Nat) : Int)), (35, .int .i64 ((k : Nat) : Int)), (74, .slice (some ⟨b180, o181, none⟩) ((ws).length) cw), (75, .int .i64 (((ws).length : Nat) : Int)), (76, .int .i64 ((j : Nat) : Int))]) rfl
                                           refine xb_norm ?_
                                           refine xt_norm ?_
                                           refine wp_region_lit ?_
                                           refine st_run tbOk 1 hA (e' := (88, .int .i64 (IntKind.i64.wrap (((j : Nat) : Int) + 1))) :: _) rfl ?_; clear hA; intro a hA
                                           replace hA := hA.rw 88 (v' := .int .i64 ((j + 1 : Nat) : Int)) rfl (wr64 (by omega) (by omega) (by omega))
                                           refine st_run tbOk 1 hA (e' := (76, .int .i64 ((j + 1 : Nat) : Int)) :: _) rfl ?_; clear hA; intro a hA
                                           refine wpList_nil ?_
                                           replace hA := hA.sel [3, 5, 9, 24, 33, 34, 35, 74, 75, 76] (e' := [(3, .pointer (some ⟨b2, 0, none⟩)), (5, .slice Ar ((rs).length) cr), (9, .int .i64 th), (24, .slice A192 (((sty ws th j) ++ ([(x182.1, x182.2)] : List (Int × Int))).length) c193), (33, .slice (some ⟨b8, o9, none⟩) l.length c), (34, .int .i64 ((l.length : Nat) : Int)), (35, .int .i64 ((k : Nat) : Int)), (74, .slice (some ⟨b180, o181, none⟩) ((ws).length) cw), (75, .int .i64 (((ws).length : Nat) : Int)), (76, .int .i64 ((j + 1 : Nat) : Int))]) rfl
                                           have hl : (sty ws th j) ++ ([(x182.1, x182.2)] : List (Int × Int)) = sty ws th (j + 1) := sty_yes hx182 (by omega)
                                           rw [hl] at hO191; rw [hl] at hA
                                           replace hS := hS.front 1 (C := [(b187, rowO [.int .u64 x182.1, .int .i64 x182.2] 41)]) (L' := C191 :: [(b183, rowO [.int .u64 x182.1, .int .i64 x182.2] 41)] :: L159 :: [(b12, rowO [.int .u8 x10f0, .int .u8 x10f1, .int .u8 x10f2, .int .u64 x10f3, .int .u64 x10f4, .int .u32 x10f5, .int .u16 x10f6, .int .u16 x10f7, .int .u64 x10f8, .int .u32 x10f9, .int .u8 x10f10, .int .u64 x10f11, .int .u64 x10f12, .slice x10A13 x10b13.length x10c13] 39)] :: D :: Cw :: Cr :: F) rfl rfl
                                           replace hS := hS.drop1
                                           replace hS := hS.front 1 (C := [(b183, rowO [.int .u64 x182.1, .int .i64 x182.2] 41)]) (L' := C191 :: L159 :: [(b12, rowO [.int .u8 x10f0, .int .u8 x10f1, .int .u8 x10f2, .int .u64 x10f3, .int .u64 x10f4, .int .u32 x10f5, .int .u16 x10f6, .int .u16 x10f7, .int .u64 x10f8, .int .u32 x10f9, .int .u8 x10f10, .int .u64 x10f11, .int .u64 x10f12, .slice x10A13 x10b13.length x10c13] 39)] :: D :: Cw :: Cr :: F) rfl rfl
                                           replace hS := hS.drop1
                                           replace hS := hS.front 5 (C := Cr) (L' := C191 :: L159 :: [(b12, rowO [.int .u8 x10f0, .int .u8 x10f1, .int .u8 x10f2, .int .u64 x10f3, .int .u64 x10f4, .int .u32 x10f5, .int .u16 x10f6, .int .u16 x10f7, .int .u64 x10f8, .int .u32 x10f9, .int .u8 x10f10, .int .u64 x10f11, .int .u64 x10f12, .slice x10A13 x10b13.length x10c13] 39)] :: D :: Cw :: F) rfl rfl
                                           replace hS := hS.front 5 (C := Cw) (L' := Cr :: C191 :: L159 :: [(b12, rowO [.int .u8 x10f0, .int .u8 x10f1, .int .u8 x10f2, .int .u64 x10f3, .int .u64 x10f4, .int .u32 x10f5, .int .u16 x10f6, .int .u16 x10f7, .int .u64 x10f8, .int .u32 x10f9, .int .u8 x10f10, .int .u64 x10f11, .int .u64 x10f12, .slice x10A13 x10b13.length x10c13] 39)] :: D :: F) rfl rfl
                                           replace hS := hS.front 5 (C := D) (L' := Cw :: Cr :: C191 :: L159 :: [(b12, rowO [.int .u8 x10f0, .int .u8 x10f1, .int .u8 x10f2, .int .u64 x10f3, .int .u64 x10f4, .int .u32 x10f5, .int .u16 x10f6, .int .u16 x10f7, .int .u64 x10f8, .int .u32 x10f9, .int .u8 x10f10, .int .u64 x10f11, .int .u64 x10f12, .slice x10A13 x10b13.length x10c13] 39)] :: F) rfl rfl
                                           replace hS := hS.front 5 (C := [(b12, rowO [.int .u8 x10f0, .int .u8 x10f1, .int .u8 x10f2, .int .u64 x10f3, .int .u64 x10f4, .int .u32 x10f5, .int .u16 x10f6, .int .u16 x10f7, .int .u64 x10f8, .int .u32 x10f9, .int .u8 x10f10, .int .u64 x10f11, .int .u64 x10f12, .slice x10A13 x10b13.length x10c13] 39)]) (L' := D :: Cw :: Cr :: C191 :: L159 :: F) rfl rfl
                                           replace hS := hS.front 5 (C := L159) (L' := [(b12, rowO [.int .u8 x10f0, .int .u8 x10f1, .int .u8 x10f2, .int .u64 x10f3, .int .u64 x10f4, .int .u32 x10f5, .int .u16 x10f6, .int .u16 x10f7, .int .u64 x10f8, .int .u32 x10f9, .int .u8 x10f10, .int .u64 x10f11, .int .u64 x10f12, .slice x10A13 x10b13.length x10c13] 39)] :: D :: Cw :: Cr :: C191 :: F) rfl rfl
                                           replace hS := hS.front 5 (C := C191) (L' := L159 :: [(b12, rowO [.int .u8 x10f0, .int .u8 x10f1, .int .u8 x10f2, .int .u64 x10f3, .int .u64 x10f4, .int .u32 x10f5, .int .u16 x10f6, .int .u16 x10f7, .int .u64 x10f8, .int .u32 x10f9, .int .u8 x10f10, .int .u64 x10f11, .int .u64 x10f12, .slice x10A13 x10b13.length x10c13] 39)] :: D :: Cw :: Cr :: F) rfl rfl
                                           exact lp_next _ (by omega) ⟨(j + 1), A192, c193, C191, rfl, (hA.sel [3, 5, 9, 24, 33, 34, 35, 74, 75, 76] rfl), hS, by omega, hO191⟩))
                                 · first
                                   | (exfalso; omega)
                                   | (replace hA := hA.rw 77 (v' := .bool false) rfl (vb_false hc179)
                                      refine cd_cond_f hA rfl ?_
                                      refine wp_exit ?_
                                      refine xt_exit ?_
                                      refine xt_exit ?_
                                      refine cd_exit_eq ?_
                                      refine xt_norm ?_
                                      refine wp_region_lit ?_
                                      have hl : sty ws th j = ws.filter (fun x => !(wth th x)) := by rw [show j = ws.length by omega, sty_all]
                                      rw [hl] at hY; rw [hl] at hA
                                      refine st_run tbOk 2 hA (e' := (4, .slice Ay ((ws.filter (fun x => !(wth th x))).length) cy) :: (89, .slice Ay ((ws.filter (fun x => !(wth th x))).length) cy) :: _) rfl ?_; clear hA; intro a hA
                                      refine wpList_nil ?_
                                      replace hA := hA.sel [3, 4, 5, 33, 34, 35] (e' := [(3, .pointer (some ⟨b2, 0, none⟩)), (4, .slice Ay ((ws.filter (fun x => !(wth th x))).length) cy), (5, .slice Ar ((rs).length) cr), (33, .slice (some ⟨b8, o9, none⟩) l.length c), (34, .int .i64 ((l.length : Nat) : Int)), (35, .int .i64 ((k : Nat) : Int))]) rfl
                                      refine xb_norm ?_
                                      refine xt_norm ?_
                                      replace hS := hS.front 2 (C := [(b12, rowO [.int .u8 x10f0, .int .u8 x10f1, .int .u8 x10f2, .int .u64 x10f3, .int .u64 x10f4, .int .u32 x10f5, .int .u16 x10f6, .int .u16 x10f7, .int .u64 x10f8, .int .u32 x10f9, .int .u8 x10f10, .int .u64 x10f11, .int .u64 x10f12, .slice x10A13 x10b13.length x10c13] 39)]) (L' := Y :: L159 :: D :: Cw :: Cr :: F) rfl rfl
                                      replace hS := hS.drop1
                                      replace hS := hS.front 3 (C := Cw) (L' := Y :: L159 :: D :: Cr :: F) rfl rfl
                                      replace hS := hS.drop1
                                      replace hS := hS.front 3 (C := Cr) (L' := Y :: L159 :: D :: F) rfl rfl
                                      replace hS := hS.front 1 (C := Y) (L' := Cr :: L159 :: D :: F) rfl rfl
                                      replace hS := hS.front 3 (C := D) (L' := Y :: Cr :: L159 :: F) rfl rfl
                                      replace hS := hS.front 3 (C := L159) (L' := D :: Y :: Cr :: F) rfl rfl
                                      exact ⟨(ws.filter (fun x => !(wth th x))), (ms), (rs), L159, D, Ay, cy, Y, Ar, cr, Cr, (hA.sel [3, 4, 5, 33, 34, 35] rfl), hS, (hI.cancel th), hM160, hY, hR, hdm, hdr⟩))))
              · clear hA hS; rintro a w194 ⟨ws', ms', rs', L', D', Aw', cw', Cw', Ar', cr', Cr', hA, hS, hI', hM', hW', hR', hdm', hdr'⟩
                have hml' := hI'.len
                refine wp_seq ?_
                refine wp_region_lit ?_
                refine st_run tbOk 1 hA (e' := (254, .pointer (some ⟨b2, 0, none⟩)) :: _) rfl ?_; clear hA; intro a hA
                refine st_call0 hA rfl rfl rfl isfn11 rfl rfl (by decide) (mlen11 hS hM') ?_
                clear hA hS; rintro _ w195 a ⟨L196, hM197, rfl, hS⟩ hA
                refine st_run tbOk 5 hA (e' := (28, .int .i64 ((ms'.length : Nat) : Int)) :: (27, .int .i64 ((ws'.length : Nat) : Int)) :: (257, .int .i64 ((ms'.length : Nat) : Int)) :: (256, .int .i64 ((ws'.length : Nat) : Int)) :: (253, .tuple #[.int .i64 ((ws'.length : Nat) : Int), .int .i64 ((ms'.length : Nat) : Int)]) :: _) rfl ?_; clear hA; intro a hA
                refine wpList_nil ?_
                replace hA := hA.sel [3, 4, 5, 27, 28, 33, 34, 35] (e' := [(3, .pointer (some ⟨b2, 0, none⟩)), (4, .slice Aw' ((ws').length) cw'), (5, .slice Ar' ((rs').length) cr'), (27, .int .i64 ((ws'.length : Nat) : Int)), (28, .int .i64 ((ms'.length : Nat) : Int)), (33, .slice (some ⟨b8, o9, none⟩) l.length c), (34, .int .i64 ((l.length : Nat) : Int)), (35, .int .i64 ((k : Nat) : Int))]) rfl
                refine xt_norm ?_
                refine wp_seq ?_
                refine wp_region_lit ?_
                refine st_run tbOk 5 hA (e' := (262, .bool (((ws'.length : Nat) : Int) != (((ws').length : Nat) : Int))) :: (261, .bool (((ws'.length : Nat) : Int) != (((ws').length : Nat) : Int))) :: (260, .int .i64 (((ws').length : Nat) : Int)) :: (259, .slice Aw' ((ws').length) cw') :: (258, .int .i64 ((ws'.length : Nat) : Int)) :: _) rfl ?_; clear hA; intro a hA
                have hc198 : ((ws'.length : Nat) : Int) = (((ws').length : Nat) : Int) := rfl
                replace hA := hA.rw 261 (v' := .bool false) rfl (vb_ne_f hc198)
                replace hA := hA.rw 262 (v' := .bool false) rfl (vb_ne_f hc198)
                refine st_run tbOk 5 hA (e' := (267, .bool (((ms'.length : Nat) : Int) != (((rs').length : Nat) : Int))) :: (266, .bool (((ms'.length : Nat) : Int) != (((rs').length : Nat) : Int))) :: (265, .int .i64 (((rs').length : Nat) : Int)) :: (264, .slice Ar' ((rs').length) cr') :: (263, .int .i64 ((ms'.length : Nat) : Int)) :: _) rfl ?_; clear hA; intro a hA
                refine wpList_nil ?_
                replace hA := hA.sel [3, 4, 5, 33, 34, 35, 267] (e' := [(3, .pointer (some ⟨b2, 0, none⟩)), (4, .slice Aw' ((ws').length) cw'), (5, .slice Ar' ((rs').length) cr'), (33, .slice (some ⟨b8, o9, none⟩) l.length c), (34, .int .i64 ((l.length : Nat) : Int)), (35, .int .i64 ((k : Nat) : Int)), (267, .bool (((ms'.length : Nat) : Int) != (((rs').length : Nat) : Int)))]) rfl
                refine xt_norm ?_
                have hc199 : ((ms'.length : Nat) : Int) = (((rs').length : Nat) : Int) := by omega
                replace hA := hA.rw 267 (v' := .bool false) rfl (vb_ne_f hc199)
                refine cd_cond_f hA rfl ?_
                refine wp_skip ?_
                refine xb_norm ?_
                refine xt_norm ?_
                refine wp_region_lit ?_
                refine st_run tbOk 1 hA (e' := (268, .int .i64 (IntKind.i64.wrap (((k : Nat) : Int) + 1))) :: _) rfl ?_; clear hA; intro a hA
                replace hA := hA.rw 268 (v' := .int .i64 ((k + 1 : Nat) : Int)) rfl (wr64 (by omega) (by omega) (by omega))
                refine st_run tbOk 1 hA (e' := (35, .int .i64 ((k + 1 : Nat) : Int)) :: _) rfl ?_; clear hA; intro a hA
                refine wpList_nil ?_
                replace hA := hA.sel [3, 4, 5, 33, 34, 35] (e' := [(3, .pointer (some ⟨b2, 0, none⟩)), (4, .slice Aw' ((ws').length) cw'), (5, .slice Ar' ((rs').length) cr'), (33, .slice (some ⟨b8, o9, none⟩) l.length c), (34, .int .i64 ((l.length : Nat) : Int)), (35, .int .i64 ((k + 1 : Nat) : Int))]) rfl
                replace hS := hS.front 3 (C := Cr') (L' := L196 :: D' :: Cw' :: F) rfl rfl
                replace hS := hS.front 3 (C := Cw') (L' := Cr' :: L196 :: D' :: F) rfl rfl
                replace hS := hS.front 3 (C := D') (L' := Cw' :: Cr' :: L196 :: F) rfl rfl
                replace hS := hS.front 3 (C := L196) (L' := D' :: Cw' :: Cr' :: F) rfl rfl
                exact lp_next _ (by omega) ⟨(k + 1), (ws'), (ms'), (rs'), L196, D', Aw', cw', Cw', Ar', cr', Cr', rfl, (hA.sel [3, 4, 5, 33, 34, 35] rfl), hS, by omega, hI', hM197, hW', hR', hdm', hdr'⟩))
  · first
    | (exfalso; omega)
    | (replace hA := hA.rw 36 (v' := .bool false) rfl (vb_false hc7)
       refine cd_cond_f hA rfl ?_
       refine wp_exit ?_
       refine xt_exit ?_
       refine xt_exit ?_
       refine cd_exit_eq ?_
       refine xt_norm ?_
       refine wp_seq ?_
       refine wp_region_lit ?_
       refine st_run tbOk 1 hA (e' := (2, .bool true) :: _) rfl ?_; clear hA; intro a hA
       refine wpList_nil ?_
       replace hA := hA.sel [2] (e' := [(2, .bool true)]) rfl
       refine xt_norm ?_
       refine wp_ret ?_
       refine ret1 (fn := Tryd.f3) hA rfl rfl ?_
       replace hS := hS.drop1
       replace hS := hS.drop1
       replace hS := hS.drop1
       replace hS := hS.drop1
       exact ⟨rfl, hS⟩)

end Go.Proofs.YtilmbkefgifkhaaDoor
