import Derived.Test.YtdchjphmfkjamaaDoorG
set_option linter.unusedVariables false
set_option linter.unusedSimpArgs false
set_option maxRecDepth 4000
namespace Go.Proofs.YtdchjphmfkjamaaDoor
open Go Go.SK
set_option maxHeartbeats 4000000 in
theorem script3 {w0 w : World} {F : List Chunk} (hS : St w0 w F) (hg : HG w0) {v : Value} {l : List (Int × Int × Int × Option Addr × Nat × List UInt8)} (hr : RdS w0 F 4 v l.length (rows encAct l)) (hw : ∀ x ∈ l, encAct_good w0 x) (hb : l.length * 48 ≤ 140737488351232) :
    Ret Tryd.prog 3 #[v] w (fun v w' => v = .bool true ∧ St w0 w' F) := by
  obtain ⟨A, c, rfl, hmc, hcx⟩ := (hr w hS).open'
  refine enter (vs := [.slice A l.length c]) 232 Tryd.func3 rfl rfl (by simp) ?_; intro a hA
  refine wp_seq ?_
  refine wp_region_lit ?_
  refine st_run tbOk 1 hA (e' := (2, .bool false) :: _) rfl ?_; clear hA; intro a hA
  refine wpList_nil ?_
  replace hA := hA.sel [0] (e' := [(0, .slice A l.length c)]) rfl
  refine xt_norm ?_
  refine wp_seq ?_
  refine wp_seq ?_
  refine wp_region_lit ?_
  refine st_call0 hA rfl rfl rfl isfn4 rfl rfl (by decide) (awake4 hS) ?_
  clear hA hS; rintro v w1 a ⟨rfl, hS⟩ hA
  refine st_run tbOk 1 hA (e' := (25, .bool false) :: _) rfl ?_; clear hA; intro a hA
  refine wpList_nil ?_
  replace hA := hA.sel [0, 25] (e' := [(0, .slice A l.length c), (25, .bool false)]) rfl
  refine xt_norm ?_
  refine cd_cond_f hA rfl ?_
  refine wp_skip ?_
  refine xt_norm ?_
  refine wp_seq ?_
  refine wp_region_lit ?_
  refine st_run tbOk 1 hA (e' := (26, .agg #[.slice none 0 0]) :: _) rfl ?_; clear hA; intro a hA
  refine st_box hA hS [.slice none 0 0] rfl rfl rfl rfl rfl (by decide) ?_; clear hA hS; intro b2 w3 a hS hA
  obtain ⟨L4, hM5, hS⟩ : ∃ Z, WR b2 [] Z ∧ St w0 w3 (Z :: F) := ⟨_, WR.new _, hS⟩
  replace hS := hS.nil
  refine st_run tbOk 1 hA (e' := (3, .pointer (some ⟨b2, 0, none⟩)) :: _) rfl ?_; clear hA; intro a hA
  refine wpList_nil ?_
  replace hA := hA.sel [0, 3] (e' := [(0, .slice A l.length c), (3, .pointer (some ⟨b2, 0, none⟩))]) rfl
  refine xt_norm ?_
  refine wp_seq ?_
  refine wp_region_lit ?_
  refine st_run tbOk 1 hA (e' := (4, .slice none 0 0) :: _) rfl ?_; clear hA; intro a hA
  refine wpList_nil ?_
  refine xt_norm ?_
  refine wp_seq ?_
  refine wp_seq ?_
  refine wp_region_lit ?_
  refine st_run tbOk 3 hA (e' := (30, .int .i64 0) :: (29, .int .i64 ((l.length : Nat) : Int)) :: (28, .slice A l.length c) :: _) rfl ?_; clear hA; intro a hA
  refine wpList_nil ?_
  replace hA := hA.sel [3, 4, 28, 29, 30] (e' := [(3, .pointer (some ⟨b2, 0, none⟩)), (4, .slice none 0 0), (28, .slice A l.length c), (29, .int .i64 ((l.length : Nat) : Int)), (30, .int .i64 0)]) rfl
  refine xt_norm ?_
  refine wp_block ?_
  replace hS := hS.front 1 (C := L4) (L' := [] :: F) rfl rfl
  replace hS := hS.nil
  replace hS := hS.front 1 (C := L4) (L' := [] :: [] :: F) rfl rfl
  refine wp_loop_ghost (fun m a w => ∃ (k : Nat) (ps : List Pkt) (rs : List Pkt) (L : Chunk) (D : Chunk) (Ar : Option Addr) (cr : Nat) (Cr : Chunk), m = l.length - k ∧ Has a 232 [(3, .pointer (some ⟨b2, 0, none⟩)), (4, .slice Ar rs.length cr), (28, .slice A l.length c), (29, .int .i64 ((l.length : Nat) : Int)), (30, .int .i64 ((k : Nat) : Int))] ∧ St w0 w (L :: D :: Cr :: F) ∧ (k ≤ l.length) ∧ (PI ps rs) ∧ (WR b2 ps L) ∧ (Own 33 6 (.slice Ar (rs).length cr) (rs).length (rows encPacket (rs)) Cr) ∧ (∀ x ∈ ps, encPacket_dd w0 D x) ∧ (∀ x ∈ rs, ∀ D, encPacket_dd w0 D x)) (l.length - 0)
    ⟨0, ([]), ([]), L4, ([]), none, 0, ([]), rfl, (hA.sel [3, 4, 28, 29, 30] rfl), hS, Nat.zero_le _, PI.nil, hM5, (Own.nil 33 6), fun x hx => by simp at hx, fun x hx => by simp at hx⟩ ?_
  clear hA hS; rintro m0 a w6 ⟨k, ps, rs, L, D, Ar, cr, Cr, rfl, hA, hS, hk, hI, hM, hR, hdm, hdr⟩
  have hml := hI.len; have hrl := hI.ln; have hcr := hR.rcap
  refine wp_seq ?_
  refine wp_region_lit ?_
  refine st_run tbOk 1 hA (e' := (31, .bool (decide (((k : Nat) : Int) < ((l.length : Nat) : Int)))) :: _) rfl ?_; clear hA; intro a hA
  refine wpList_nil ?_
  refine xt_norm ?_
  refine wp_seq ?_
  by_cases hc7 : ((k : Nat) : Int) < ((l.length : Nat) : Int)
  · first
    | (exfalso; omega)
    | (replace hA := hA.rw 31 (v' := .bool true) rfl (vb_true hc7)
       refine cd_cond_t hA rfl ?_
       refine wp_skip ?_
       refine xt_norm ?_
       refine wp_seq ?_
       refine wp_block ?_
       refine wp_seq ?_
       refine wp_region_lit ?_
       refine st_run tbOk 1 hA (e' := (32, .int .i64 ((k : Nat) : Int)) :: _) rfl ?_; clear hA; intro a hA
       obtain ⟨b8, o9, rfl⟩ := (hr _ (hS.tail 3 rfl)).isSome (k := k) (by omega)
       refine st_val hA rfl rfl (by decide) (rn_indexAddr tbOk hA k (o9 + (k * 4)) rfl rfl rfl rfl rfl rfl (by rfl) (by omega) (by first | rfl | simp [Nat.mul_one, Nat.zero_add] | omega)) ?_; clear hA; intro a hA
       obtain ⟨x10, hx10⟩ := get_ex (l := l) (k := k) (by omega)
       obtain ⟨x10f0, x10f1, x10f2, x10A3, x10c3, x10b3⟩ := x10
       have hd11 := (fun x hx => encAct_gdd (D := D) (hw x hx)) _ (List.mem_of_getElem? hx10)
       refine st_val hA rfl rfl (by decide) (rn_loadA tbOk hA ([.int .u8 x10f0, .int .i64 x10f1, .int .u8 x10f2, .slice x10A3 x10b3.length x10c3]) rfl rfl rfl rfl (by rfl) ((hr _ (hS.tail 3 rfl)).elem (k := k) encAct_ok hx10)) ?_; clear hA; intro a hA
       refine st_alloc tbOk hA hS [.int .u8 0, .int .i64 0, .int .u8 0, .slice none 0 0] rfl rfl rfl rfl rfl (by decide) ?_; clear hA hS; intro b12 w13 a hS hA
       refine st_run tbOk 1 hA (e' := (5, .int .i64 ((k : Nat) : Int)) :: _) rfl ?_; clear hA; intro a hA
       refine st_store tbOk hA hS [.int .u8 x10f0, .int .i64 x10f1, .int .u8 x10f2, .slice x10A3 x10b3.length x10c3] [.int .u8 x10f0, .int .i64 x10f1, .int .u8 x10f2, .slice x10A3 x10b3.length x10c3] rfl rfl rfl rfl rfl rfl (by simp [Value.oneCell']) (Nat.le_of_ble_eq_true rfl) rfl rfl rfl ?_; clear hS; intro w14 hS
       refine wpList_nil ?_
       replace hA := hA.sel [3, 4, 5, 6, 28, 29, 30] (e' := [(3, .pointer (some ⟨b2, 0, none⟩)), (4, .slice Ar rs.length cr), (5, .int .i64 ((k : Nat) : Int)), (6, .pointer (some ⟨b12, 0, none⟩)), (28, .slice (some ⟨b8, o9, none⟩) l.length c), (29, .int .i64 ((l.length : Nat) : Int)), (30, .int .i64 ((k : Nat) : Int))]) rfl
       refine xt_norm ?_
       refine wp_seq_join (fun a w => ∃ (ps' : List Pkt) (rs' : List Pkt) (L' : Chunk) (D' : Chunk) (Ar' : Option Addr) (cr' : Nat) (Cr' : Chunk), Has a 232 [(3, .pointer (some ⟨b2, 0, none⟩)), (4, .slice Ar' rs'.length cr'), (28, .slice (some ⟨b8, o9, none⟩) l.length c), (29, .int .i64 ((l.length : Nat) : Int)), (30, .int .i64 ((k : Nat) : Int))] ∧ St w0 w (L' :: D' :: Cr' :: F) ∧ (PI ps' rs') ∧ (WR b2 ps' L') ∧ (Own 33 6 (.slice Ar' (rs').length cr') (rs').length (rows encPacket (rs')) Cr') ∧ (∀ x ∈ ps', encPacket_dd w0 D' x) ∧ (∀ x ∈ rs', ∀ D, encPacket_dd w0 D x)) ?_ ?_
       · refine wp_seq ?_
         refine wp_region_lit ?_
         refine st_run tbOk 1 hA (e' := (35, .pointer (some ⟨b12, 0, none⟩)) :: _) rfl ?_; clear hA; intro a hA
         obtain ⟨⟨ho1, ho2⟩, ⟨hp1, hp2⟩, ⟨hf1, hf2⟩, hgr⟩ := hw _ (List.mem_of_getElem? hx10)
         dsimp only at ho1 ho2 hp1 hp2 hf1 hf2 hgr
         have hbl := hgr.2
         have hop1 : x10f0.tmod 6 = x10f0 % 6 := Int.tmod_eq_emod_of_nonneg (by omega)
         obtain ⟨op, hop⟩ : ∃ z, z = x10f0.tmod 6 := ⟨_, rfl⟩
         have hfr1 : x10f2.tmod 3 = x10f2 % 3 := Int.tmod_eq_emod_of_nonneg (by omega)
         obtain ⟨fr, hfr⟩ : ∃ z, z = x10f2.tmod 3 := ⟨_, rfl⟩
         have hnd1 : x10f2.tmod 4 = x10f2 % 4 := Int.tmod_eq_emod_of_nonneg (by omega)
         obtain ⟨nd, hnd⟩ : ∃ z, z = x10f2.tmod 4 := ⟨_, rfl⟩
         obtain ⟨hq1, hq2⟩ := wrap_u8_rng (x10f2.tdiv 3)
         obtain ⟨q3, hq3⟩ : ∃ z, z = IntKind.u8.wrap (x10f2.tdiv 3) := ⟨_, rfl⟩
         rw [← hq3] at hq1 hq2
         have hto1 : q3.tmod 3 = q3 % 3 := Int.tmod_eq_emod_of_nonneg (by omega)
         obtain ⟨to, hto⟩ : ∃ z, z = q3.tmod 3 := ⟨_, rfl⟩
         refine st_val hA rfl rfl (by decide) (rn_load tbOk hA rfl rfl rfl rfl (cell_row (hS.heapAt 0 rfl) rfl)) ?_; clear hA; intro a hA
         refine st_run tbOk 1 hA (e' := (37, .int .u8 (x10f0.tmod 6)) :: _) rfl ?_; clear hA; intro a hA
         refine wpList_nil ?_
         replace hA := hA.sel [3, 4, 5, 6, 28, 29, 30, 37] (e' := [(3, .pointer (some ⟨b2, 0, none⟩)), (4, .slice Ar rs.length cr), (5, .int .i64 ((k : Nat) : Int)), (6, .pointer (some ⟨b12, 0, none⟩)), (28, .slice (some ⟨b8, o9, none⟩) l.length c), (29, .int .i64 ((l.length : Nat) : Int)), (30, .int .i64 ((k : Nat) : Int)), (37, .int .u8 (x10f0.tmod 6))]) rfl
         refine xt_norm ?_
         refine wp_block ?_
         refine wp_seq_join (fun a w => ∃ (bb22 : Bool), Has a 232 [(3, .pointer (some ⟨b2, 0, none⟩)), (4, .slice Ar rs.length cr), (5, .int .i64 ((k : Nat) : Int)), (6, .pointer (some ⟨b12, 0, none⟩)), (28, .slice (some ⟨b8, o9, none⟩) l.length c), (29, .int .i64 ((l.length : Nat) : Int)), (30, .int .i64 ((k : Nat) : Int)), (37, .int .u8 op), (73, .bool bb22)] ∧ St w0 w ([(b12, rowO [.int .u8 x10f0, .int .i64 x10f1, .int .u8 x10f2, .slice x10A3 x10b3.length x10c3] 30)] :: L :: D :: Cr :: F) ∧ ((bb22 = true → op = 0 ∨ op = 1) ∧ (bb22 = false → ¬ op = 0 ∧ ¬ op = 1))) ?_ ?_
         · refine wp_seq ?_
           refine wp_region_lit ?_
           replace hA := hA.rw 37 (v' := .int .u8 op) rfl (by rw [hop])
           refine st_run tbOk 2 hA (e' := (73, .bool (op == 0)) :: (74, .bool (op == 0)) :: _) rfl ?_; clear hA; intro a hA
           refine wpList_nil ?_
           replace hA := hA.sel [3, 4, 5, 6, 28, 29, 30, 37, 73] (e' := [(3, .pointer (some ⟨b2, 0, none⟩)), (4, .slice Ar rs.length cr), (5, .int .i64 ((k : Nat) : Int)), (6, .pointer (some ⟨b12, 0, none⟩)), (28, .slice (some ⟨b8, o9, none⟩) l.length c), (29, .int .i64 ((l.length : Nat) : Int)), (30, .int .i64 ((k : Nat) : Int)), (37, .int .u8 op), (73, .bool (op == 0))]) rfl
           refine xt_norm ?_
           by_cases hc15 : op = 0
           · first
             | (exfalso; omega)
             | (replace hA := hA.rw 73 (v' := .bool true) rfl (vb_eq_t hc15)
                refine cd_cond_t hA rfl ?_
                refine wp_skip ?_
                refine xt_norm ?_
                exact ⟨true, (hA.sel [3, 4, 5, 6, 28, 29, 30, 37, 73] rfl), hS, ⟨fun _ => by omega, fun h => by cases h⟩⟩)
           · first
             | (exfalso; omega)
             | (replace hA := hA.rw 73 (v' := .bool false) rfl (vb_eq_f hc15)
                refine cd_cond_f hA rfl ?_
                refine wp_region_lit ?_
                refine st_run tbOk 2 hA (e' := (73, .bool (op == 1)) :: (75, .bool (op == 1)) :: _) rfl ?_; clear hA; intro a hA
                refine wpList_nil ?_
                replace hA := hA.sel [3, 4, 5, 6, 28, 29, 30, 37, 73] (e' := [(3, .pointer (some ⟨b2, 0, none⟩)), (4, .slice Ar rs.length cr), (5, .int .i64 ((k : Nat) : Int)), (6, .pointer (some ⟨b12, 0, none⟩)), (28, .slice (some ⟨b8, o9, none⟩) l.length c), (29, .int .i64 ((l.length : Nat) : Int)), (30, .int .i64 ((k : Nat) : Int)), (37, .int .u8 op), (73, .bool (op == 1))]) rfl
                refine xt_norm ?_
                exact ⟨(op == 1), (hA.sel [3, 4, 5, 6, 28, 29, 30, 37, 73] rfl), hS, ⟨fun h => by have := beq_iff_eq.1 h; omega, fun h => by have := beq_eq_false_iff_ne.1 h; omega⟩⟩)
         · clear hA hS; rintro a w16 ⟨bb22, hA, hS, hbb22⟩
           by_cases hc17 : bb22 = true
           · first
             | (exfalso; omega)
             | (replace hA := hA.rw 73 (v' := .bool true) rfl (vb_t hc17)
                refine cd_cond_t hA rfl ?_
                refine wp_seq ?_
                refine wp_region_lit ?_
                refine st_run tbOk 1 hA (e' := (76, .pointer (some ⟨b12, 2, none⟩)) :: _) rfl ?_; clear hA; intro a hA
                refine st_val hA rfl rfl (by decide) (rn_load tbOk hA rfl rfl rfl rfl (cell_row (hS.heapAt 0 rfl) rfl)) ?_; clear hA; intro a hA
                refine st_run tbOk 1 hA (e' := (78, .int .u8 (x10f2.tmod 3)) :: _) rfl ?_; clear hA; intro a hA
                replace hA := hA.rw 78 (v' := .int .u8 fr) rfl (by rw [hfr])
                refine st_run tbOk 1 hA (e' := (79, .int .i64 (IntKind.i64.wrap fr)) :: _) rfl ?_; clear hA; intro a hA
                replace hA := hA.rw 79 (v' := .int .i64 fr) rfl (wr64 (by rfl) (by omega) (by omega))
                refine st_run tbOk 1 hA (e' := (80, .pointer (some ⟨b12, 2, none⟩)) :: _) rfl ?_; clear hA; intro a hA
                refine st_val hA rfl rfl (by decide) (rn_load tbOk hA rfl rfl rfl rfl (cell_row (hS.heapAt 0 rfl) rfl)) ?_; clear hA; intro a hA
                refine st_run tbOk 1 hA (e' := (82, .int .u8 (IntKind.u8.wrap (x10f2.tdiv 3))) :: _) rfl ?_; clear hA; intro a hA
                replace hA := hA.rw 82 (v' := .int .u8 q3) rfl (by rw [hq3])
                refine st_run tbOk 1 hA (e' := (83, .int .u8 (q3.tmod 3)) :: _) rfl ?_; clear hA; intro a hA
                replace hA := hA.rw 83 (v' := .int .u8 to) rfl (by rw [hto])
                refine st_run tbOk 1 hA (e' := (84, .int .i64 (IntKind.i64.wrap to)) :: _) rfl ?_; clear hA; intro a hA
                replace hA := hA.rw 84 (v' := .int .i64 to) rfl (wr64 (by rfl) (by omega) (by omega))
                refine st_run tbOk 2 hA (e' := (86, .int .u64 (IntKind.u64.wrap ((k : Nat) : Int))) :: (85, .int .i64 ((k : Nat) : Int)) :: _) rfl ?_; clear hA; intro a hA
                replace hA := hA.rw 86 (v' := .int .u64 ((k : Nat) : Int)) rfl (vint (wrap_u64 (by omega) (by omega)))
                refine st_run tbOk 1 hA (e' := (87, .pointer (some ⟨b12, 1, none⟩)) :: _) rfl ?_; clear hA; intro a hA
                refine st_val hA rfl rfl (by decide) (rn_load tbOk hA rfl rfl rfl rfl (cell_row (hS.heapAt 0 rfl) rfl)) ?_; clear hA; intro a hA
                refine st_run tbOk 2 hA (e' := (90, .pointer (some ⟨b12, 3, none⟩)) :: (89, .int .i64 ((k : Nat) : Int)) :: _) rfl ?_; clear hA; intro a hA
                refine st_val hA rfl rfl (by decide) (rn_load tbOk hA rfl rfl rfl rfl (cell_row (hS.heapAt 0 rfl) rfl)) ?_; clear hA; intro a hA
                refine st_val hA rfl rfl (by decide) (rn_build tbOk hA rfl rfl rfl rfl rfl rfl rfl) ?_; clear hA; intro a hA
                refine st_alloc tbOk hA hS [.int .i64 0, .int .i64 0, .int .u64 0, .int .i64 0, .int .i64 0, .slice none 0 0] rfl rfl rfl rfl rfl (by decide) ?_; clear hA hS; intro b18 w19 a hS hA
                refine st_store tbOk hA hS [.int .i64 fr, .int .i64 to, .int .u64 ((k : Nat) : Int), .int .i64 x10f1, .int .i64 ((k : Nat) : Int), .slice x10A3 x10b3.length x10c3] [.int .i64 fr, .int .i64 to, .int .u64 ((k : Nat) : Int), .int .i64 x10f1, .int .i64 ((k : Nat) : Int), .slice x10A3 x10b3.length x10c3] rfl rfl rfl rfl rfl rfl (by simp [Value.oneCell']) (Nat.le_of_ble_eq_true rfl) rfl rfl rfl ?_; clear hS; intro w20 hS
                refine wpList_nil ?_
                replace hA := hA.sel [3, 4, 7, 28, 29, 30] (e' := [(3, .pointer (some ⟨b2, 0, none⟩)), (4, .slice Ar rs.length cr), (7, .pointer (some ⟨b18, 0, none⟩)), (28, .slice (some ⟨b8, o9, none⟩) l.length c), (29, .int .i64 ((l.length : Nat) : Int)), (30, .int .i64 ((k : Nat) : Int))]) rfl
                refine xt_norm ?_
                refine wp_seq ?_
                refine wp_region_lit ?_
                have hbtbb22 := hbb22.1 (by assumption)
                rcases Nat.lt_or_ge rs.length 1024 with hr10 | hr10
                · refine st_run tbOk 1 hA (e' := (93, .pointer (some ⟨b2, 0, none⟩)) :: _) rfl ?_; clear hA; intro a hA
                  refine st_val hA rfl rfl (by decide) (rn_loadA tbOk hA [.int .i64 fr, .int .i64 to, .int .u64 ((k : Nat) : Int), .int .i64 x10f1, .int .i64 ((k : Nat) : Int), .slice x10A3 x10b3.length x10c3] rfl rfl rfl rfl rfl (cells_row (hS.heapAt 0 rfl) rfl)) ?_; clear hA; intro a hA
                  replace hS := hS.front 3 (C := D) (L' := [(b18, rowO [.int .i64 fr, .int .i64 to, .int .u64 ((k : Nat) : Int), .int .i64 x10f1, .int .i64 ((k : Nat) : Int), .slice x10A3 x10b3.length x10c3] 33)] :: [(b12, rowO [.int .u8 x10f0, .int .i64 x10f1, .int .u8 x10f2, .slice x10A3 x10b3.length x10c3] 30)] :: L :: Cr :: F) rfl rfl
                  replace hS := hS.front 3 (C := L) (L' := D :: [(b18, rowO [.int .i64 fr, .int .i64 to, .int .u64 ((k : Nat) : Int), .int .i64 x10f1, .int .i64 ((k : Nat) : Int), .slice x10A3 x10b3.length x10c3] 33)] :: [(b12, rowO [.int .u8 x10f0, .int .i64 x10f1, .int .u8 x10f2, .slice x10A3 x10b3.length x10c3] 30)] :: Cr :: F) rfl rfl
                  refine st_call0 hA rfl rfl rfl isfn5 rfl rfl (by decide) (send_ok5 hS hM fr to ((k : Nat) : Int) x10f1 ((k : Nat) : Int) (bs := x10b3) (fun w' h => (hd11 _ (h.only 0 rfl))) (by first | omega | exact Nat.zero_le _) (by omega)) ?_
                  clear hA hS; rintro _ w21 a ⟨L22, E24, A25, c26, hM23, hE27, rfl, hS⟩ hA
                  refine st_run tbOk 1 hA (e' := (8, .nilIface) :: _) rfl ?_; clear hA; intro a hA
                  refine wpList_nil ?_
                  replace hA := hA.sel [3, 4, 7, 8, 28, 29, 30] (e' := [(3, .pointer (some ⟨b2, 0, none⟩)), (4, .slice Ar rs.length cr), (7, .pointer (some ⟨b18, 0, none⟩)), (8, .nilIface), (28, .slice (some ⟨b8, o9, none⟩) l.length c), (29, .int .i64 ((l.length : Nat) : Int)), (30, .int .i64 ((k : Nat) : Int))]) rfl
                  refine xt_norm ?_
                  refine wp_seq ?_
                  refine wp_seq ?_
                  refine wp_region_lit ?_
                  have hdm2 : ∀ x ∈ (ps ++ [(fr, to, ((k : Nat) : Int), x10f1, ((k : Nat) : Int), A25, c26, x10b3)]), encPacket_dd w0 (E24 ++ D) x := dd_app hdm hE27
                  refine st_run tbOk 3 hA (e' := (98, .bool (decide (((rs.length : Nat) : Int) ≥ 1024))) :: (97, .int .i64 ((rs.length : Nat) : Int)) :: (96, .slice Ar rs.length cr) :: _) rfl ?_; clear hA; intro a hA
                  refine wpList_nil ?_
                  replace hA := hA.sel [3, 4, 7, 8, 28, 29, 30, 98] (e' := [(3, .pointer (some ⟨b2, 0, none⟩)), (4, .slice Ar rs.length cr), (7, .pointer (some ⟨b18, 0, none⟩)), (8, .nilIface), (28, .slice (some ⟨b8, o9, none⟩) l.length c), (29, .int .i64 ((l.length : Nat) : Int)), (30, .int .i64 ((k : Nat) : Int)), (98, .bool (decide (((rs.length : Nat) : Int) ≥ 1024)))]) rfl
                  refine xt_norm ?_
                  have hc28 : ¬ (((rs.length : Nat) : Int) ≥ 1024) := by omega
                  replace hA := hA.rw 98 (v' := .bool false) rfl (vb_false hc28)
                  refine cd_cond_f hA rfl ?_
                  refine wp_skip ?_
                  refine xt_norm ?_
                  refine wp_seq ?_
                  refine wp_region_lit ?_
                  refine st_run tbOk 1 hA (e' := (102, .slice Ar rs.length cr) :: _) rfl ?_; clear hA; intro a hA
                  refine st_val hA rfl rfl (by decide) (rn_loadA tbOk hA [.int .i64 fr, .int .i64 to, .int .u64 ((k : Nat) : Int), .int .i64 x10f1, .int .i64 ((k : Nat) : Int), .slice x10A3 x10b3.length x10c3] rfl rfl rfl rfl rfl (cells_row (hS.heapAt 2 rfl) rfl)) ?_; clear hA; intro a hA
                  refine st_buildSlice tbOk hA hS [.int .i64 fr, .int .i64 to, .int .u64 ((k : Nat) : Int), .int .i64 x10f1, .int .i64 ((k : Nat) : Int), .slice x10A3 x10b3.length x10c3] rfl rfl rfl rfl rfl (by decide) (by kernel_rfl) rfl rfl (by decide) ?_; clear hA hS; intro b29 w30 a hS hA
                  replace hS := hS.front 5 (C := Cr) (L' := [(b29, rowO [.int .i64 fr, .int .i64 to, .int .u64 ((k : Nat) : Int), .int .i64 x10f1, .int .i64 ((k : Nat) : Int), .slice x10A3 x10b3.length x10c3] 33)] :: L22 :: (E24 ++ D) :: [(b18, rowO [.int .i64 fr, .int .i64 to, .int .u64 ((k : Nat) : Int), .int .i64 x10f1, .int .i64 ((k : Nat) : Int), .slice x10A3 x10b3.length x10c3] 33)] :: [(b12, rowO [.int .u8 x10f0, .int .i64 x10f1, .int .u8 x10f2, .slice x10A3 x10b3.length x10c3] 30)] :: F) rfl rfl
                  refine st_append tbOk hA (m := rs.length) (q := 1) (xs := rows encPacket rs) (news := rows encPacket ([(fr, to, ((k : Nat) : Int), x10f1, ((k : Nat) : Int), x10A3, x10c3, x10b3)] : List (Int × Int × Int × Int × Int × Option Addr × Nat × List UInt8))) rfl rfl rfl rfl rfl rfl rfl rfl (by decide) hR hS (((Own.full (T := 33) (size := 6) (g := b29) (m := 1) rfl (by decide)).rd (hS.own_ 1 rfl)).x) (rows_one encPacket_ok _) (maxLen_le (by first | omega | (simp; omega))) (by show (rs.length + 1) * 64 ≤ 140737488355328; first | omega | (simp; omega)) rfl rfl (by decide) ?_
                  clear hA hS; intro v31 w32 C33 a hO33 hS hA
                  replace hO33 := Own.app (l := rs) (l2 := ([(fr, to, ((k : Nat) : Int), x10f1, ((k : Nat) : Int), x10A3, x10c3, x10b3)] : List (Int × Int × Int × Int × Int × Option Addr × Nat × List UInt8))) hO33
                  obtain ⟨A34, c35, rfl, hmc35, hxc35⟩ := hO33.open'
                  refine st_run tbOk 1 hA (e' := (4, .slice A34 ((rs ++ ([(fr, to, ((k : Nat) : Int), x10f1, ((k : Nat) : Int), x10A3, x10c3, x10b3)] : List (Int × Int × Int × Int × Int × Option Addr × Nat × List UInt8))).length) c35) :: _) rfl ?_; clear hA; intro a hA
                  refine wpList_nil ?_
                  replace hA := hA.sel [3, 4, 8, 28, 29, 30] (e' := [(3, .pointer (some ⟨b2, 0, none⟩)), (4, .slice A34 ((rs ++ ([(fr, to, ((k : Nat) : Int), x10f1, ((k : Nat) : Int), x10A3, x10c3, x10b3)] : List (Int × Int × Int × Int × Int × Option Addr × Nat × List UInt8))).length) c35), (8, .nilIface), (28, .slice (some ⟨b8, o9, none⟩) l.length c), (29, .int .i64 ((l.length : Nat) : Int)), (30, .int .i64 ((k : Nat) : Int))]) rfl
                  refine xt_norm ?_
                  refine wp_seq ?_
                  refine wp_region_lit ?_
                  have hdr2 : ∀ x ∈ (rs ++ ([(fr, to, ((k : Nat) : Int), x10f1, ((k : Nat) : Int), x10A3, x10c3, x10b3)] : List (Int × Int × Int × Int × Int × Option Addr × Nat × List UInt8))), ∀ D, encPacket_dd w0 D x := snd_dd hdr (fun D => DD.of hgr.1)
                  refine st_run tbOk 2 hA (e' := (107, .bool false) :: (106, .nilIface) :: _) rfl ?_; clear hA; intro a hA
                  refine wpList_nil ?_
                  replace hA := hA.sel [3, 4, 28, 29, 30, 107] (e' := [(3, .pointer (some ⟨b2, 0, none⟩)), (4, .slice A34 ((rs ++ ([(fr, to, ((k : Nat) : Int), x10f1, ((k : Nat) : Int), x10A3, x10c3, x10b3)] : List (Int × Int × Int × Int × Int × Option Addr × Nat × List UInt8))).length) c35), (28, .slice (some ⟨b8, o9, none⟩) l.length c), (29, .int .i64 ((l.length : Nat) : Int)), (30, .int .i64 ((k : Nat) : Int)), (107, .bool false)]) rfl
                  refine xt_norm ?_
                  refine cd_cond_f hA rfl ?_
                  refine wp_skip ?_
                  refine xb_norm ?_
                  refine xt_norm ?_
                  replace hS := hS.front 1 (C := [(b29, rowO [.int .i64 fr, .int .i64 to, .int .u64 ((k : Nat) : Int), .int .i64 x10f1, .int .i64 ((k : Nat) : Int), .slice x10A3 x10b3.length x10c3] 33)]) (L' := C33 :: L22 :: (E24 ++ D) :: [(b18, rowO [.int .i64 fr, .int .i64 to, .int .u64 ((k : Nat) : Int), .int .i64 x10f1, .int .i64 ((k : Nat) : Int), .slice x10A3 x10b3.length x10c3] 33)] :: [(b12, rowO [.int .u8 x10f0, .int .i64 x10f1, .int .u8 x10f2, .slice x10A3 x10b3.length x10c3] 30)] :: F) rfl rfl
                  replace hS := hS.drop1
                  replace hS := hS.front 3 (C := [(b18, rowO [.int .i64 fr, .int .i64 to, .int .u64 ((k : Nat) : Int), .int .i64 x10f1, .int .i64 ((k : Nat) : Int), .slice x10A3 x10b3.length x10c3] 33)]) (L' := C33 :: L22 :: (E24 ++ D) :: [(b12, rowO [.int .u8 x10f0, .int .i64 x10f1, .int .u8 x10f2, .slice x10A3 x10b3.length x10c3] 30)] :: F) rfl rfl
                  replace hS := hS.drop1
                  replace hS := hS.front 3 (C := [(b12, rowO [.int .u8 x10f0, .int .i64 x10f1, .int .u8 x10f2, .slice x10A3 x10b3.length x10c3] 30)]) (L' := C33 :: L22 :: (E24 ++ D) :: F) rfl rfl
                  replace hS := hS.drop1
                  replace hS := hS.front 2 (C := (E24 ++ D)) (L' := C33 :: L22 :: F) rfl rfl
                  replace hS := hS.front 2 (C := L22) (L' := (E24 ++ D) :: C33 :: F) rfl rfl
                  exact ⟨(ps ++ [(fr, to, ((k : Nat) : Int), x10f1, ((k : Nat) : Int), A25, c26, x10b3)]), (rs ++ ([(fr, to, ((k : Nat) : Int), x10f1, ((k : Nat) : Int), x10A3, x10c3, x10b3)] : List (Int × Int × Int × Int × Int × Option Addr × Nat × List UInt8))), L22, (E24 ++ D), A34, c35, C33, (hA.sel [3, 4, 28, 29, 30] rfl), hS, (hI.send rfl hr10 hbl), hM23, hO33, hdm2, hdr2⟩
                · refine st_run tbOk 1 hA (e' := (93, .pointer (some ⟨b2, 0, none⟩)) :: _) rfl ?_; clear hA; intro a hA
                  refine st_val hA rfl rfl (by decide) (rn_loadA tbOk hA [.int .i64 fr, .int .i64 to, .int .u64 ((k : Nat) : Int), .int .i64 x10f1, .int .i64 ((k : Nat) : Int), .slice x10A3 x10b3.length x10c3] rfl rfl rfl rfl rfl (cells_row (hS.heapAt 0 rfl) rfl)) ?_; clear hA; intro a hA
                  replace hS := hS.front 3 (C := D) (L' := [(b18, rowO [.int .i64 fr, .int .i64 to, .int .u64 ((k : Nat) : Int), .int .i64 x10f1, .int .i64 ((k : Nat) : Int), .slice x10A3 x10b3.length x10c3] 33)] :: [(b12, rowO [.int .u8 x10f0, .int .i64 x10f1, .int .u8 x10f2, .slice x10A3 x10b3.length x10c3] 30)] :: L :: Cr :: F) rfl rfl
                  replace hS := hS.front 3 (C := L) (L' := D :: [(b18, rowO [.int .i64 fr, .int .i64 to, .int .u64 ((k : Nat) : Int), .int .i64 x10f1, .int .i64 ((k : Nat) : Int), .slice x10A3 x10b3.length x10c3] 33)] :: [(b12, rowO [.int .u8 x10f0, .int .i64 x10f1, .int .u8 x10f2, .slice x10A3 x10b3.length x10c3] 30)] :: Cr :: F) rfl rfl
                  refine st_call0 hA rfl rfl rfl isfn5 rfl rfl (by decide) (send_full5 hS hM fr to ((k : Nat) : Int) x10f1 ((k : Nat) : Int) (bs := x10b3) (fun w' h => (hd11 _ (h.only 0 rfl))) (by first | omega | exact Nat.zero_le _) (by omega)) ?_
                  clear hA hS; rintro _ w36 a ⟨L37, hM38, rfl, hS⟩ hA
                  refine st_run tbOk 1 hA (e' := (8, .iface 37 (.int .i64 5)) :: _) rfl ?_; clear hA; intro a hA
                  refine wpList_nil ?_
                  replace hA := hA.sel [3, 4, 7, 8, 28, 29, 30] (e' := [(3, .pointer (some ⟨b2, 0, none⟩)), (4, .slice Ar rs.length cr), (7, .pointer (some ⟨b18, 0, none⟩)), (8, .iface 37 (.int .i64 5)), (28, .slice (some ⟨b8, o9, none⟩) l.length c), (29, .int .i64 ((l.length : Nat) : Int)), (30, .int .i64 ((k : Nat) : Int))]) rfl
                  refine xt_norm ?_
                  refine wp_seq ?_
                  refine wp_seq ?_
                  refine wp_region_lit ?_
                  refine st_run tbOk 3 hA (e' := (98, .bool (decide (((rs.length : Nat) : Int) ≥ 1024))) :: (97, .int .i64 ((rs.length : Nat) : Int)) :: (96, .slice Ar rs.length cr) :: _) rfl ?_; clear hA; intro a hA
                  refine wpList_nil ?_
                  replace hA := hA.sel [3, 4, 7, 8, 28, 29, 30, 98] (e' := [(3, .pointer (some ⟨b2, 0, none⟩)), (4, .slice Ar rs.length cr), (7, .pointer (some ⟨b18, 0, none⟩)), (8, .iface 37 (.int .i64 5)), (28, .slice (some ⟨b8, o9, none⟩) l.length c), (29, .int .i64 ((l.length : Nat) : Int)), (30, .int .i64 ((k : Nat) : Int)), (98, .bool (decide (((rs.length : Nat) : Int) ≥ 1024)))]) rfl
                  refine xt_norm ?_
                  have hc39 : ((rs.length : Nat) : Int) ≥ 1024 := by omega
                  replace hA := hA.rw 98 (v' := .bool true) rfl (vb_true hc39)
                  refine cd_cond_t hA rfl ?_
                  refine wp_seq ?_
                  refine wp_seq ?_
                  refine wp_region_lit ?_
                  refine st_run tbOk 1 hA (e' := (99, .iface 37 (.int .i64 5)) :: _) rfl ?_; clear hA; intro a hA
                  refine st_call0 hA rfl rfl rfl isfn6 rfl rfl (by decide) (number_hit6 hS hg 5) ?_
                  clear hA hS; rintro v w40 a ⟨rfl, hS⟩ hA
                  refine st_run tbOk 1 hA (e' := (101, .bool false) :: _) rfl ?_; clear hA; intro a hA
                  refine wpList_nil ?_
                  replace hA := hA.sel [3, 4, 28, 29, 30, 101] (e' := [(3, .pointer (some ⟨b2, 0, none⟩)), (4, .slice Ar rs.length cr), (28, .slice (some ⟨b8, o9, none⟩) l.length c), (29, .int .i64 ((l.length : Nat) : Int)), (30, .int .i64 ((k : Nat) : Int)), (101, .bool false)]) rfl
                  refine xt_norm ?_
                  refine cd_cond_f hA rfl ?_
                  refine wp_skip ?_
                  refine xt_norm ?_
                  refine wp_exit ?_
                  refine xt_exit ?_
                  refine cd_exit_ne (by decide) ?_
                  refine xt_exit ?_
                  refine cd_exit_eq ?_
                  refine xt_norm ?_
                  refine wp_region_lit ?_
                  refine st_run tbOk 1 hA (e' := (208, .int .i64 (IntKind.i64.wrap (((k : Nat) : Int) + 1))) :: _) rfl ?_; clear hA; intro a hA
                  replace hA := hA.rw 208 (v' := .int .i64 ((k + 1 : Nat) : Int)) rfl (wr64 (by omega) (by omega) (by omega))
                  refine st_run tbOk 1 hA (e' := (30, .int .i64 ((k + 1 : Nat) : Int)) :: _) rfl ?_; clear hA; intro a hA
                  refine wpList_nil ?_
                  replace hA := hA.sel [3, 4, 28, 29, 30] (e' := [(3, .pointer (some ⟨b2, 0, none⟩)), (4, .slice Ar rs.length cr), (28, .slice (some ⟨b8, o9, none⟩) l.length c), (29, .int .i64 ((l.length : Nat) : Int)), (30, .int .i64 ((k + 1 : Nat) : Int))]) rfl
                  replace hS := hS.front 2 (C := [(b18, rowO [.int .i64 fr, .int .i64 to, .int .u64 ((k : Nat) : Int), .int .i64 x10f1, .int .i64 ((k : Nat) : Int), .slice x10A3 x10b3.length x10c3] 33)]) (L' := L37 :: D :: [(b12, rowO [.int .u8 x10f0, .int .i64 x10f1, .int .u8 x10f2, .slice x10A3 x10b3.length x10c3] 30)] :: Cr :: F) rfl rfl
                  replace hS := hS.drop1
                  replace hS := hS.front 2 (C := [(b12, rowO [.int .u8 x10f0, .int .i64 x10f1, .int .u8 x10f2, .slice x10A3 x10b3.length x10c3] 30)]) (L' := L37 :: D :: Cr :: F) rfl rfl
                  replace hS := hS.drop1
                  replace hS := hS.front 2 (C := Cr) (L' := L37 :: D :: F) rfl rfl
                  replace hS := hS.front 2 (C := D) (L' := Cr :: L37 :: F) rfl rfl
                  replace hS := hS.front 2 (C := L37) (L' := D :: Cr :: F) rfl rfl
                  exact lp_next _ (by omega) ⟨(k + 1), (ps), (rs), L37, D, Ar, cr, Cr, rfl, (hA.sel [3, 4, 28, 29, 30] rfl), hS, by omega, hI, hM38, hR, hdm, hdr⟩)
           · first
             | (exfalso; omega)
             | (replace hA := hA.rw 73 (v' := .bool false) rfl (vb_f hc17)
                refine cd_cond_f hA rfl ?_
                refine wp_seq_join (fun a w => ∃ (bb32 : Bool), Has a 232 [(3, .pointer (some ⟨b2, 0, none⟩)), (4, .slice Ar rs.length cr), (6, .pointer (some ⟨b12, 0, none⟩)), (28, .slice (some ⟨b8, o9, none⟩) l.length c), (29, .int .i64 ((l.length : Nat) : Int)), (30, .int .i64 ((k : Nat) : Int)), (37, .int .u8 op), (108, .bool bb32)] ∧ St w0 w ([(b12, rowO [.int .u8 x10f0, .int .i64 x10f1, .int .u8 x10f2, .slice x10A3 x10b3.length x10c3] 30)] :: L :: D :: Cr :: F) ∧ ((bb32 = true → op = 2 ∨ op = 3) ∧ (bb32 = false → ¬ op = 2 ∧ ¬ op = 3))) ?_ ?_
                · refine wp_seq ?_
                  refine wp_region_lit ?_
                  have hbfbb22 := hbb22.2 (by simpa using (by assumption : ¬ bb22 = true))
                  refine st_run tbOk 2 hA (e' := (108, .bool (op == 2)) :: (109, .bool (op == 2)) :: _) rfl ?_; clear hA; intro a hA
                  refine wpList_nil ?_
                  replace hA := hA.sel [3, 4, 6, 28, 29, 30, 37, 108] (e' := [(3, .pointer (some ⟨b2, 0, none⟩)), (4, .slice Ar rs.length cr), (6, .pointer (some ⟨b12, 0, none⟩)), (28, .slice (some ⟨b8, o9, none⟩) l.length c), (29, .int .i64 ((l.length : Nat) : Int)), (30, .int .i64 ((k : Nat) : Int)), (37, .int .u8 op), (108, .bool (op == 2))]) rfl
                  refine xt_norm ?_
                  by_cases hc41 : op = 2
                  · first
                    | (exfalso; omega)
                    | (replace hA := hA.rw 108 (v' := .bool true) rfl (vb_eq_t hc41)
                       refine cd_cond_t hA rfl ?_
                       refine wp_skip ?_
                       refine xt_norm ?_
                       exact ⟨true, (hA.sel [3, 4, 6, 28, 29, 30, 37, 108] rfl), hS, ⟨fun _ => by omega, fun h => by cases h⟩⟩)
                  · first
                    | (exfalso; omega)
                    | (replace hA := hA.rw 108 (v' := .bool false) rfl (vb_eq_f hc41)
                       refine cd_cond_f hA rfl ?_
                       refine wp_region_lit ?_
                       refine st_run tbOk 2 hA (e' := (108, .bool (op == 3)) :: (110, .bool (op == 3)) :: _) rfl ?_; clear hA; intro a hA
                       refine wpList_nil ?_
                       replace hA := hA.sel [3, 4, 6, 28, 29, 30, 37, 108] (e' := [(3, .pointer (some ⟨b2, 0, none⟩)), (4, .slice Ar rs.length cr), (6, .pointer (some ⟨b12, 0, none⟩)), (28, .slice (some ⟨b8, o9, none⟩) l.length c), (29, .int .i64 ((l.length : Nat) : Int)), (30, .int .i64 ((k : Nat) : Int)), (37, .int .u8 op), (108, .bool (op == 3))]) rfl
                       refine xt_norm ?_
                       exact ⟨(op == 3), (hA.sel [3, 4, 6, 28, 29, 30, 37, 108] rfl), hS, ⟨fun h => by have := beq_iff_eq.1 h; omega, fun h => by have := beq_eq_false_iff_ne.1 h; omega⟩⟩)
                · clear hA hS; rintro a w42 ⟨bb32, hA, hS, hbb32⟩
                  by_cases hc43 : bb32 = true
                  · first
                    | (exfalso; omega)
                    | (replace hA := hA.rw 108 (v' := .bool true) rfl (vb_t hc43)
                       refine cd_cond_t hA rfl ?_
                       refine wp_seq ?_
                       refine wp_seq ?_
                       refine wp_region_lit ?_
                       have hbtbb32 := hbb32.1 (by assumption)
                       refine st_run tbOk 3 hA (e' := (113, .bool (((rs.length : Nat) : Int) == 0)) :: (112, .int .i64 ((rs.length : Nat) : Int)) :: (111, .slice Ar rs.length cr) :: _) rfl ?_; clear hA; intro a hA
                       refine wpList_nil ?_
                       replace hA := hA.sel [3, 4, 6, 28, 29, 30, 113] (e' := [(3, .pointer (some ⟨b2, 0, none⟩)), (4, .slice Ar rs.length cr), (6, .pointer (some ⟨b12, 0, none⟩)), (28, .slice (some ⟨b8, o9, none⟩) l.length c), (29, .int .i64 ((l.length : Nat) : Int)), (30, .int .i64 ((k : Nat) : Int)), (113, .bool (((rs.length : Nat) : Int) == 0))]) rfl
                       refine xt_norm ?_
                       by_cases hc44 : ((rs.length : Nat) : Int) = 0
                       · first
                         | (exfalso; omega)
                         | (replace hA := hA.rw 113 (v' := .bool true) rfl (vb_eq_t hc44)
                            refine cd_cond_t hA rfl ?_
                            refine wp_seq ?_
                            refine wp_region_lit ?_
                            refine st_run tbOk 2 hA (e' := (116, .pointer (some ⟨b12, 1, none⟩)) :: (115, .pointer (some ⟨b2, 0, none⟩)) :: _) rfl ?_; clear hA; intro a hA
                            refine st_val hA rfl rfl (by decide) (rn_load tbOk hA rfl rfl rfl rfl (cell_row (hS.heapAt 0 rfl) rfl)) ?_; clear hA; intro a hA
                            replace hS := hS.front 2 (C := D) (L' := [(b12, rowO [.int .u8 x10f0, .int .i64 x10f1, .int .u8 x10f2, .slice x10A3 x10b3.length x10c3] 30)] :: L :: Cr :: F) rfl rfl
                            replace hS := hS.front 2 (C := L) (L' := D :: [(b12, rowO [.int .u8 x10f0, .int .i64 x10f1, .int .u8 x10f2, .slice x10A3 x10b3.length x10c3] 30)] :: Cr :: F) rfl rfl
                            refine st_call0 hA rfl rfl rfl isfn7 rfl rfl (by decide) (arrive_none7 hS hM x10f1 (by omega)) ?_
                            clear hA hS; rintro _ w45 a ⟨L46, hM47, rfl, hS⟩ hA
                            refine st_run tbOk 3 hA (e' := (120, .bool false) :: (119, .agg #[.int .i64 0, .int .i64 0, .int .u64 0, .int .i64 0, .int .i64 0, .slice none 0 0]) :: (114, .tuple #[.agg #[.int .i64 0, .int .i64 0, .int .u64 0, .int .i64 0, .int .i64 0, .slice none 0 0], .bool false]) :: _) rfl ?_; clear hA; intro a hA
                            refine st_alloc tbOk hA hS [.int .i64 0, .int .i64 0, .int .u64 0, .int .i64 0, .int .i64 0, .slice none 0 0] rfl rfl rfl rfl rfl (by decide) ?_; clear hA hS; intro b48 w49 a hS hA
                            refine st_store tbOk hA hS [.int .i64 0, .int .i64 0, .int .u64 0, .int .i64 0, .int .i64 0, .slice none 0 0] [.int .i64 0, .int .i64 0, .int .u64 0, .int .i64 0, .int .i64 0, .slice none 0 0] rfl rfl rfl rfl rfl rfl (by simp [Value.oneCell']) (Nat.le_of_ble_eq_true rfl) rfl rfl rfl ?_; clear hS; intro w50 hS
                            refine st_run tbOk 1 hA (e' := (10, .bool false) :: _) rfl ?_; clear hA; intro a hA
                            refine wpList_nil ?_
                            replace hA := hA.sel [3, 4, 6, 10, 28, 29, 30] (e' := [(3, .pointer (some ⟨b2, 0, none⟩)), (4, .slice Ar rs.length cr), (6, .pointer (some ⟨b12, 0, none⟩)), (10, .bool false), (28, .slice (some ⟨b8, o9, none⟩) l.length c), (29, .int .i64 ((l.length : Nat) : Int)), (30, .int .i64 ((k : Nat) : Int))]) rfl
                            refine xt_norm ?_
                            refine wp_seq ?_
                            refine wp_seq ?_
                            refine wp_region_lit ?_
                            refine st_run tbOk 4 hA (e' := (124, .pointer (some ⟨b12, 1, none⟩)) :: (123, .pointer (some ⟨b2, 0, none⟩)) :: (122, .bool false) :: (121, .bool false) :: _) rfl ?_; clear hA; intro a hA
                            refine st_val hA rfl rfl (by decide) (rn_load tbOk hA rfl rfl rfl rfl (cell_row (hS.heapAt 3 rfl) rfl)) ?_; clear hA; intro a hA
                            replace hS := hS.front 2 (C := D) (L' := [(b48, rowO [.int .i64 0, .int .i64 0, .int .u64 0, .int .i64 0, .int .i64 0, .slice none 0 0] 33)] :: L46 :: [(b12, rowO [.int .u8 x10f0, .int .i64 x10f1, .int .u8 x10f2, .slice x10A3 x10b3.length x10c3] 30)] :: Cr :: F) rfl rfl
                            replace hS := hS.front 2 (C := L46) (L' := D :: [(b48, rowO [.int .i64 0, .int .i64 0, .int .u64 0, .int .i64 0, .int .i64 0, .slice none 0 0] 33)] :: [(b12, rowO [.int .u8 x10f0, .int .i64 x10f1, .int .u8 x10f2, .slice x10A3 x10b3.length x10c3] 30)] :: Cr :: F) rfl rfl
                            refine st_call0 hA rfl rfl rfl isfn8 rfl rfl (by decide) (lose_none8 hS hM47 x10f1 (by omega)) ?_
                            clear hA hS; rintro _ w51 a ⟨L52, hM53, rfl, hS⟩ hA
                            refine st_run tbOk 1 hA (e' := (127, .bool false) :: _) rfl ?_; clear hA; intro a hA
                            refine wpList_nil ?_
                            replace hA := hA.sel [3, 4, 28, 29, 30, 127] (e' := [(3, .pointer (some ⟨b2, 0, none⟩)), (4, .slice Ar rs.length cr), (28, .slice (some ⟨b8, o9, none⟩) l.length c), (29, .int .i64 ((l.length : Nat) : Int)), (30, .int .i64 ((k : Nat) : Int)), (127, .bool false)]) rfl
                            refine xt_norm ?_
                            refine cd_cond_f hA rfl ?_
                            refine wp_skip ?_
                            refine xt_norm ?_
                            refine wp_exit ?_
                            refine xt_exit ?_
                            refine cd_exit_ne (by decide) ?_
                            refine xt_exit ?_
                            refine cd_exit_eq ?_
                            refine xt_norm ?_
                            refine wp_region_lit ?_
                            refine st_run tbOk 1 hA (e' := (208, .int .i64 (IntKind.i64.wrap (((k : Nat) : Int) + 1))) :: _) rfl ?_; clear hA; intro a hA
                            replace hA := hA.rw 208 (v' := .int .i64 ((k + 1 : Nat) : Int)) rfl (wr64 (by omega) (by omega) (by omega))
                            refine st_run tbOk 1 hA (e' := (30, .int .i64 ((k + 1 : Nat) : Int)) :: _) rfl ?_; clear hA; intro a hA
                            refine wpList_nil ?_
                            replace hA := hA.sel [3, 4, 28, 29, 30] (e' := [(3, .pointer (some ⟨b2, 0, none⟩)), (4, .slice Ar rs.length cr), (28, .slice (some ⟨b8, o9, none⟩) l.length c), (29, .int .i64 ((l.length : Nat) : Int)), (30, .int .i64 ((k + 1 : Nat) : Int))]) rfl
                            replace hS := hS.front 2 (C := [(b48, rowO [.int .i64 0, .int .i64 0, .int .u64 0, .int .i64 0, .int .i64 0, .slice none 0 0] 33)]) (L' := L52 :: D :: [(b12, rowO [.int .u8 x10f0, .int .i64 x10f1, .int .u8 x10f2, .slice x10A3 x10b3.length x10c3] 30)] :: Cr :: F) rfl rfl
                            replace hS := hS.drop1
                            replace hS := hS.front 2 (C := [(b12, rowO [.int .u8 x10f0, .int .i64 x10f1, .int .u8 x10f2, .slice x10A3 x10b3.length x10c3] 30)]) (L' := L52 :: D :: Cr :: F) rfl rfl
                            replace hS := hS.drop1
                            replace hS := hS.front 2 (C := Cr) (L' := L52 :: D :: F) rfl rfl
                            replace hS := hS.front 2 (C := D) (L' := Cr :: L52 :: F) rfl rfl
                            replace hS := hS.front 2 (C := L52) (L' := D :: Cr :: F) rfl rfl
                            exact lp_next _ (by omega) ⟨(k + 1), (ps), (rs), L52, D, Ar, cr, Cr, rfl, (hA.sel [3, 4, 28, 29, 30] rfl), hS, by omega, hI, hM53, hR, hdm, hdr⟩)
                       · first
                         | (exfalso; omega)
                         | (replace hA := hA.rw 113 (v' := .bool false) rfl (vb_eq_f hc44)
                            refine cd_cond_f hA rfl ?_
                            refine wp_skip ?_
                            refine xt_norm ?_
                            refine wp_seq ?_
                            refine wp_region_lit ?_
                            refine st_run tbOk 1 hA (e' := (128, .pointer (some ⟨b12, 1, none⟩)) :: _) rfl ?_; clear hA; intro a hA
                            refine st_val hA rfl rfl (by decide) (rn_load tbOk hA rfl rfl rfl rfl (cell_row (hS.heapAt 0 rfl) rfl)) ?_; clear hA; intro a hA
                            refine st_run tbOk 2 hA (e' := (131, .int .i64 ((rs.length : Nat) : Int)) :: (130, .slice Ar rs.length cr) :: _) rfl ?_; clear hA; intro a hA
                            refine st_call0 hA rfl rfl rfl isfn9 rfl rfl (by decide) (lplace9 (n := rs.length) hS x10f1 (by omega) (by omega)) ?_
                            clear hA hS; rintro _ w54 a ⟨k55, hk55, hpk55, rfl, hS⟩ hA
                            refine st_run tbOk 1 hA (e' := (11, .int .i64 ((k55 : Nat) : Int)) :: _) rfl ?_; clear hA; intro a hA
                            refine wpList_nil ?_
                            replace hA := hA.sel [3, 4, 6, 11, 28, 29, 30] (e' := [(3, .pointer (some ⟨b2, 0, none⟩)), (4, .slice Ar rs.length cr), (6, .pointer (some ⟨b12, 0, none⟩)), (11, .int .i64 ((k55 : Nat) : Int)), (28, .slice (some ⟨b8, o9, none⟩) l.length c), (29, .int .i64 ((l.length : Nat) : Int)), (30, .int .i64 ((k : Nat) : Int))]) rfl
                            refine xt_norm ?_
                            refine wp_seq ?_
                            refine wp_region_lit ?_
                            refine st_run tbOk 2 hA (e' := (134, .int .i64 ((k55 : Nat) : Int)) :: (133, .slice Ar rs.length cr) :: _) rfl ?_; clear hA; intro a hA
                            obtain ⟨b56, o57, rfl⟩ := hR.isSome (k := k55) (by omega)
                            refine st_val hA rfl rfl (by decide) (rn_indexAddr tbOk hA k55 (o57 + (k55 * 6)) rfl rfl rfl rfl rfl rfl (by rfl) (by omega) (by first | rfl | simp [Nat.mul_one, Nat.zero_add] | omega)) ?_; clear hA; intro a hA
                            obtain ⟨x58, hx58⟩ := get_ex (l := rs) (k := k55) (by omega)
                            obtain ⟨x58f0, x58f1, x58f2, x58f3, x58f4, x58A5, x58c5, x58b5⟩ := x58
                            have hd59 := (fun x hx => hdr x hx D) _ (List.mem_of_getElem? hx58)
                            refine st_val hA rfl rfl (by decide) (rn_loadA tbOk hA ([.int .i64 x58f0, .int .i64 x58f1, .int .u64 x58f2, .int .i64 x58f3, .int .i64 x58f4, .slice x58A5 x58b5.length x58c5]) rfl rfl rfl rfl (by rfl) ((hR.rd (hS.own_ 3 rfl)).elem (k := k55) encPacket_ok hx58)) ?_; clear hA; intro a hA
                            refine st_alloc tbOk hA hS [.int .i64 0, .int .i64 0, .int .u64 0, .int .i64 0, .int .i64 0, .slice none 0 0] rfl rfl rfl rfl rfl (by decide) ?_; clear hA hS; intro b60 w61 a hS hA
                            refine st_store tbOk hA hS [.int .i64 x58f0, .int .i64 x58f1, .int .u64 x58f2, .int .i64 x58f3, .int .i64 x58f4, .slice x58A5 x58b5.length x58c5] [.int .i64 x58f0, .int .i64 x58f1, .int .u64 x58f2, .int .i64 x58f3, .int .i64 x58f4, .slice x58A5 x58b5.length x58c5] rfl rfl rfl rfl rfl rfl (by simp [Value.oneCell']) (Nat.le_of_ble_eq_true rfl) rfl rfl rfl ?_; clear hS; intro w62 hS
                            refine wpList_nil ?_
                            replace hA := hA.sel [3, 4, 6, 11, 12, 28, 29, 30] (e' := [(3, .pointer (some ⟨b2, 0, none⟩)), (4, .slice (some ⟨b56, o57, none⟩) rs.length cr), (6, .pointer (some ⟨b12, 0, none⟩)), (11, .int .i64 ((k55 : Nat) : Int)), (12, .pointer (some ⟨b60, 0, none⟩)), (28, .slice (some ⟨b8, o9, none⟩) l.length c), (29, .int .i64 ((l.length : Nat) : Int)), (30, .int .i64 ((k : Nat) : Int))]) rfl
                            refine xt_norm ?_
                            refine wp_seq ?_
                            refine wp_draw (fun w' => St w0 w' ([(b60, rowO [.int .i64 x58f0, .int .i64 x58f1, .int .u64 x58f2, .int .i64 x58f3, .int .i64 x58f4, .slice x58A5 x58b5.length x58c5] 33)] :: [(b12, rowO [.int .u8 x10f0, .int .i64 x10f1, .int .u8 x10f2, .slice x10A3 x10b3.length x10c3] 30)] :: L :: D :: Cr :: F)) [] [(0, true), (1, true), (2, true), (4, true), (5, true), (6, true), (7, true), (3, false), (8, false), (9, true)] mixed (by kernel_rfl) (by rintro c a w ⟨_, _, h, _⟩; cases h) (by rfl) (by kernel_rfl) ?_
                            replace hS := hS.drew
                            refine dr_run tbOk 2 hA hS (e' := (138, .int .i64 ((k55 : Nat) : Int)) :: (137, .slice (some ⟨b56, o57, none⟩) rs.length cr) :: _) rfl ?_; clear hA; intro a hA
                            refine dr_y hA rfl rfl rfl (by decide) hS (fun w' hS' => rn_slice_h tbOk hA k55 rfl rfl rfl rfl rfl rfl (by rfl) (by omega)) ?_; clear hA; intro a hA
                            replace hA := hA.rw 139 (v' := .slice (some ⟨b56, o57, none⟩) ((rs.take k55).length) cr) rfl (congrArg (fun m => Value.slice _ m _) (by rw [List.length_take]; omega))
                            refine dr_run tbOk 3 hA hS (e' := (143, .int .i64 (IntKind.i64.wrap (((k55 : Nat) : Int) + 1))) :: (142, .int .i64 ((k55 : Nat) : Int)) :: (141, .slice (some ⟨b56, o57, none⟩) rs.length cr) :: _) rfl ?_; clear hA; intro a hA
                            replace hA := hA.rw 143 (v' := .int .i64 ((k55 + 1 : Nat) : Int)) rfl (wr64 (by omega) (by omega) (by omega))
                            refine dr_y hA rfl rfl rfl (by decide) hS (fun w' hS' => rn_slice_l tbOk hA (k55 + 1) rfl rfl rfl rfl rfl rfl (by rfl) (by omega)) ?_; clear hA; intro a hA
                            refine dr_b (o := _) rfl ?_
                            replace hS := hS.nil
                            refine st_append tbOk hA (m := 0) (q := (rs.take k55).length) (xs := rows encPacket ([] : List (Int × Int × Int × Int × Int × Option Addr × Nat × List UInt8))) (news := rows encPacket (rs.take k55)) rfl rfl rfl rfl rfl rfl rfl rfl (by decide) (Own.nil 33 6) hS (((hR.rd (hS.own_ 5 rfl)).rhead encPacket_ok k55 (by omega)).x) (rows_one encPacket_ok _) (maxLen_le (by first | omega | (simp; omega))) (by show (0 + (rs.take k55).length) * 64 ≤ 140737488355328; first | omega | (simp; omega)) rfl rfl (by decide) ?_
                            clear hA hS; intro v63 w64 C65 a hO65 hS hA
                            replace hO65 := Own.app (l := ([] : List (Int × Int × Int × Int × Int × Option Addr × Nat × List UInt8))) (l2 := rs.take k55) hO65
                            replace hO65 : Own 33 6 v63 (rs.take k55).length (rows encPacket (rs.take k55)) C65 := hO65
                            obtain ⟨A66, c67, rfl, hmc67, hxc67⟩ := hO65.open'
                            refine dr_nil (.inr (hS.tail 1 rfl)) ?_
                            refine dr_b (o := _) rfl ?_
                            refine st_append tbOk hA (m := (rs.take k55).length) (q := ((rs.take rs.length).drop (k55 + 1)).length) (xs := rows encPacket (rs.take k55)) (news := rows encPacket ((rs.take rs.length).drop (k55 + 1))) rfl rfl rfl rfl rfl rfl rfl rfl (by decide) hO65 hS (((hR.rd (hS.own_ 5 rfl)).rslv encPacket_ok (k55 + 1) rs.length cr (by omega) (by omega) (by omega) (by omega)).x) (rows_one encPacket_ok _) (maxLen_le (by first | omega | (simp; omega))) (by show ((rs.take k55).length + ((rs.take rs.length).drop (k55 + 1)).length) * 64 ≤ 140737488355328; first | omega | (simp; omega)) rfl rfl (by decide) ?_
                            clear hA hS; intro v68 w69 C70 a hO70 hS hA
                            replace hO70 := Own.app (l := rs.take k55) (l2 := (rs.take rs.length).drop (k55 + 1)) hO70
                            obtain ⟨A71, c72, rfl, hmc72, hxc72⟩ := hO70.open'
                            refine dr_nil (.inr (hS.tail 1 rfl)) ?_
                            refine dr_run tbOk 1 hA (hS.tail 1 rfl) (e' := (4, .slice A71 (((rs.take k55) ++ ((rs.take rs.length).drop (k55 + 1))).length) c72) :: _) rfl ?_; clear hA; intro a hA
                            refine dr_end ?_
                            replace hA := hA.sel [3, 4, 6, 12, 28, 29, 30] (e' := [(3, .pointer (some ⟨b2, 0, none⟩)), (4, .slice A71 (((rs.take k55) ++ ((rs.take rs.length).drop (k55 + 1))).length) c72), (6, .pointer (some ⟨b12, 0, none⟩)), (12, .pointer (some ⟨b60, 0, none⟩)), (28, .slice (some ⟨b8, o9, none⟩) l.length c), (29, .int .i64 ((l.length : Nat) : Int)), (30, .int .i64 ((k : Nat) : Int))]) rfl
                            refine xt_norm ?_
                            refine wp_seq ?_
                            refine wp_seq ?_
                            refine wp_region_lit ?_
                            have hl : (rs.take k55) ++ ((rs.take rs.length).drop (k55 + 1)) = rs.take k55 ++ rs.drop (k55 + 1) := by rw [List.take_length]
                            rw [hl] at hO70; rw [hl] at hA
                            refine st_run tbOk 1 hA (e' := (146, .pointer (some ⟨b12, 0, none⟩)) :: _) rfl ?_; clear hA; intro a hA
                            refine st_val hA rfl rfl (by decide) (rn_load tbOk hA rfl rfl rfl rfl (cell_row (hS.heapAt 2 rfl) rfl)) ?_; clear hA; intro a hA
                            refine st_run tbOk 1 hA (e' := (148, .int .u8 (x10f0.tmod 6)) :: _) rfl ?_; clear hA; intro a hA
                            replace hA := hA.rw 148 (v' := .int .u8 op) rfl (by rw [hop])
                            refine st_run tbOk 1 hA (e' := (149, .bool (op == 3)) :: _) rfl ?_; clear hA; intro a hA
                            refine wpList_nil ?_
                            replace hA := hA.sel [3, 4, 6, 12, 28, 29, 30, 149] (e' := [(3, .pointer (some ⟨b2, 0, none⟩)), (4, .slice A71 ((rs.take k55 ++ rs.drop (k55 + 1)).length) c72), (6, .pointer (some ⟨b12, 0, none⟩)), (12, .pointer (some ⟨b60, 0, none⟩)), (28, .slice (some ⟨b8, o9, none⟩) l.length c), (29, .int .i64 ((l.length : Nat) : Int)), (30, .int .i64 ((k : Nat) : Int)), (149, .bool (op == 3))]) rfl
                            refine xt_norm ?_
                            by_cases hc73 : op = 3
                            · first
                              | (exfalso; omega)
                              | (replace hA := hA.rw 149 (v' := .bool true) rfl (vb_eq_t hc73)
                                 refine cd_cond_t hA rfl ?_
                                 refine wp_seq ?_
                                 refine wp_seq ?_
                                 refine wp_region_lit ?_
                                 refine st_run tbOk 2 hA (e' := (151, .pointer (some ⟨b12, 1, none⟩)) :: (150, .pointer (some ⟨b2, 0, none⟩)) :: _) rfl ?_; clear hA; intro a hA
                                 refine st_val hA rfl rfl (by decide) (rn_load tbOk hA rfl rfl rfl rfl (cell_row (hS.heapAt 2 rfl) rfl)) ?_; clear hA; intro a hA
                                 replace hS := hS.front 4 (C := D) (L' := C70 :: [(b60, rowO [.int .i64 x58f0, .int .i64 x58f1, .int .u64 x58f2, .int .i64 x58f3, .int .i64 x58f4, .slice x58A5 x58b5.length x58c5] 33)] :: [(b12, rowO [.int .u8 x10f0, .int .i64 x10f1, .int .u8 x10f2, .slice x10A3 x10b3.length x10c3] 30)] :: L :: Cr :: F) rfl rfl
                                 replace hS := hS.front 4 (C := L) (L' := D :: C70 :: [(b60, rowO [.int .i64 x58f0, .int .i64 x58f1, .int .u64 x58f2, .int .i64 x58f3, .int .i64 x58f4, .slice x58A5 x58b5.length x58c5] 33)] :: [(b12, rowO [.int .u8 x10f0, .int .i64 x10f1, .int .u8 x10f2, .slice x10A3 x10b3.length x10c3] 30)] :: Cr :: F) rfl rfl
                                 refine st_call0 hA rfl rfl rfl isfn8 rfl rfl (by decide) (lose_ok8 hS hM x10f1 (by omega) (by omega)) ?_
                                 clear hA hS; rintro _ w74 a ⟨q77, q77x, hq77, hpq77, hxq77, L75, hM76, rfl, hS⟩ hA
                                 have hqk : k55 = q77 := by rw [hml] at hpq77; omega
                                 subst hqk
                                 refine st_run tbOk 1 hA (e' := (154, .bool false) :: _) rfl ?_; clear hA; intro a hA
                                 refine wpList_nil ?_
                                 replace hA := hA.sel [3, 4, 28, 29, 30, 154] (e' := [(3, .pointer (some ⟨b2, 0, none⟩)), (4, .slice A71 ((rs.take k55 ++ rs.drop (k55 + 1)).length) c72), (28, .slice (some ⟨b8, o9, none⟩) l.length c), (29, .int .i64 ((l.length : Nat) : Int)), (30, .int .i64 ((k : Nat) : Int)), (154, .bool false)]) rfl
                                 refine xt_norm ?_
                                 refine cd_cond_f hA rfl ?_
                                 refine wp_skip ?_
                                 refine xt_norm ?_
                                 refine wp_exit ?_
                                 refine xt_exit ?_
                                 refine cd_exit_ne (by decide) ?_
                                 refine xt_exit ?_
                                 refine cd_exit_eq ?_
                                 refine xt_norm ?_
                                 refine wp_region_lit ?_
                                 refine st_run tbOk 1 hA (e' := (208, .int .i64 (IntKind.i64.wrap (((k : Nat) : Int) + 1))) :: _) rfl ?_; clear hA; intro a hA
                                 replace hA := hA.rw 208 (v' := .int .i64 ((k + 1 : Nat) : Int)) rfl (wr64 (by omega) (by omega) (by omega))
                                 refine st_run tbOk 1 hA (e' := (30, .int .i64 ((k + 1 : Nat) : Int)) :: _) rfl ?_; clear hA; intro a hA
                                 refine wpList_nil ?_
                                 replace hA := hA.sel [3, 4, 28, 29, 30] (e' := [(3, .pointer (some ⟨b2, 0, none⟩)), (4, .slice A71 ((rs.take k55 ++ rs.drop (k55 + 1)).length) c72), (28, .slice (some ⟨b8, o9, none⟩) l.length c), (29, .int .i64 ((l.length : Nat) : Int)), (30, .int .i64 ((k + 1 : Nat) : Int))]) rfl
                                 replace hS := hS.front 3 (C := [(b60, rowO [.int .i64 x58f0, .int .i64 x58f1, .int .u64 x58f2, .int .i64 x58f3, .int .i64 x58f4, .slice x58A5 x58b5.length x58c5] 33)]) (L' := L75 :: D :: C70 :: [(b12, rowO [.int .u8 x10f0, .int .i64 x10f1, .int .u8 x10f2, .slice x10A3 x10b3.length x10c3] 30)] :: Cr :: F) rfl rfl
                                 replace hS := hS.drop1
                                 replace hS := hS.front 3 (C := [(b12, rowO [.int .u8 x10f0, .int .i64 x10f1, .int .u8 x10f2, .slice x10A3 x10b3.length x10c3] 30)]) (L' := L75 :: D :: C70 :: Cr :: F) rfl rfl
                                 replace hS := hS.drop1
                                 replace hS := hS.front 3 (C := Cr) (L' := L75 :: D :: C70 :: F) rfl rfl
                                 replace hS := hS.drop1
                                 replace hS := hS.front 2 (C := C70) (L' := L75 :: D :: F) rfl rfl
                                 replace hS := hS.front 2 (C := D) (L' := C70 :: L75 :: F) rfl rfl
                                 replace hS := hS.front 2 (C := L75) (L' := D :: C70 :: F) rfl rfl
                                 exact lp_next _ (by omega) ⟨(k + 1), (ps.take k55 ++ ps.drop (k55 + 1)), (rs.take k55 ++ rs.drop (k55 + 1)), L75, D, A71, c72, C70, rfl, (hA.sel [3, 4, 28, 29, 30] rfl), hS, by omega, (hI.get k55), hM76, hO70, (dd_sub hdm k55), (fun x hx => hdr x ((prm_sub rs k55).subset hx))⟩)
                            · first
                              | (exfalso; omega)
                              | (replace hA := hA.rw 149 (v' := .bool false) rfl (vb_eq_f hc73)
                                 refine cd_cond_f hA rfl ?_
                                 refine wp_skip ?_
                                 refine xt_norm ?_
                                 refine wp_seq ?_
                                 refine wp_region_lit ?_
                                 refine st_run tbOk 2 hA (e' := (157, .pointer (some ⟨b12, 1, none⟩)) :: (156, .pointer (some ⟨b2, 0, none⟩)) :: _) rfl ?_; clear hA; intro a hA
                                 refine st_val hA rfl rfl (by decide) (rn_load tbOk hA rfl rfl rfl rfl (cell_row (hS.heapAt 2 rfl) rfl)) ?_; clear hA; intro a hA
                                 replace hS := hS.front 4 (C := D) (L' := C70 :: [(b60, rowO [.int .i64 x58f0, .int .i64 x58f1, .int .u64 x58f2, .int .i64 x58f3, .int .i64 x58f4, .slice x58A5 x58b5.length x58c5] 33)] :: [(b12, rowO [.int .u8 x10f0, .int .i64 x10f1, .int .u8 x10f2, .slice x10A3 x10b3.length x10c3] 30)] :: L :: Cr :: F) rfl rfl
                                 replace hS := hS.front 4 (C := L) (L' := D :: C70 :: [(b60, rowO [.int .i64 x58f0, .int .i64 x58f1, .int .u64 x58f2, .int .i64 x58f3, .int .i64 x58f4, .slice x58A5 x58b5.length x58c5] 33)] :: [(b12, rowO [.int .u8 x10f0, .int .i64 x10f1, .int .u8 x10f2, .slice x10A3 x10b3.length x10c3] 30)] :: Cr :: F) rfl rfl
                                 refine st_call0 hA rfl rfl rfl isfn7 rfl rfl (by decide) (arrive_ok7 hS hM x10f1 (by omega) (by omega)) ?_
                                 clear hA hS; rintro _ w78 a ⟨q81, ⟨q81x0, q81x1, q81x2, q81x3, q81x4, q81A, q81c, q81b⟩, hq81, hpq81, hxq81, L79, hM80, rfl, hS⟩ hA
                                 have hqk : k55 = q81 := by rw [hml] at hpq81; omega
                                 subst hqk
                                 have hxy := hI.at_ hxq81 hx58
                                 simp only [pst, pdat, Prod.mk.injEq] at hxy
                                 refine st_run tbOk 3 hA (e' := (161, .bool true) :: (160, .agg #[.int .i64 q81x0, .int .i64 q81x1, .int .u64 q81x2, .int .i64 q81x3, .int .i64 q81x4, .slice q81A q81b.length q81c]) :: (155, .tuple #[.agg #[.int .i64 q81x0, .int .i64 q81x1, .int .u64 q81x2, .int .i64 q81x3, .int .i64 q81x4, .slice q81A q81b.length q81c], .bool true]) :: _) rfl ?_; clear hA; intro a hA
                                 refine st_alloc tbOk hA hS [.int .i64 0, .int .i64 0, .int .u64 0, .int .i64 0, .int .i64 0, .slice none 0 0] rfl rfl rfl rfl rfl (by decide) ?_; clear hA hS; intro b82 w83 a hS hA
                                 refine st_store tbOk hA hS [.int .i64 q81x0, .int .i64 q81x1, .int .u64 q81x2, .int .i64 q81x3, .int .i64 q81x4, .slice q81A q81b.length q81c] [.int .i64 q81x0, .int .i64 q81x1, .int .u64 q81x2, .int .i64 q81x3, .int .i64 q81x4, .slice q81A q81b.length q81c] rfl rfl rfl rfl rfl rfl (by simp [Value.oneCell']) (Nat.le_of_ble_eq_true rfl) rfl rfl rfl ?_; clear hS; intro w84 hS
                                 refine st_run tbOk 1 hA (e' := (14, .bool true) :: _) rfl ?_; clear hA; intro a hA
                                 refine wpList_nil ?_
                                 replace hA := hA.sel [3, 4, 12, 13, 14, 28, 29, 30] (e' := [(3, .pointer (some ⟨b2, 0, none⟩)), (4, .slice A71 ((rs.take k55 ++ rs.drop (k55 + 1)).length) c72), (12, .pointer (some ⟨b60, 0, none⟩)), (13, .pointer (some ⟨b82, 0, none⟩)), (14, .bool true), (28, .slice (some ⟨b8, o9, none⟩) l.length c), (29, .int .i64 ((l.length : Nat) : Int)), (30, .int .i64 ((k : Nat) : Int))]) rfl
                                 refine xt_norm ?_
                                 refine wp_seq ?_
                                 refine wp_region_lit ?_
                                 refine st_run tbOk 3 hA (e' := (164, .bool false) :: (163, .bool false) :: (162, .bool true) :: _) rfl ?_; clear hA; intro a hA
                                 refine st_val hA rfl rfl (by decide) (rn_loadA tbOk hA [.int .i64 q81x0, .int .i64 q81x1, .int .u64 q81x2, .int .i64 q81x3, .int .i64 q81x4, .slice q81A q81b.length q81c] rfl rfl rfl rfl rfl (cells_row (hS.heapAt 0 rfl) rfl)) ?_; clear hA; intro a hA
                                 refine st_val hA rfl rfl (by decide) (rn_loadA tbOk hA [.int .i64 x58f0, .int .i64 x58f1, .int .u64 x58f2, .int .i64 x58f3, .int .i64 x58f4, .slice x58A5 x58b5.length x58c5] rfl rfl rfl rfl rfl (cells_row (hS.heapAt 4 rfl) rfl)) ?_; clear hA; intro a hA
                                 refine st_call0 hA rfl rfl rfl isfn10 rfl rfl (by decide) (same15_10 hS q81x0 q81x1 q81x2 q81x3 q81x4 x58f0 x58f1 x58f2 x58f3 x58f4 (bs := q81b) (cs := x58b5) (fun w' h => ((hdm _ (List.mem_of_getElem? hxq81)) _ (h.only 2 rfl))) (fun w' h => (hd59 _ (h.only 2 rfl)))) ?_
                                 clear hA hS; rintro v w85 a ⟨rfl, hS⟩ hA
                                 replace hA := hA.rw 167 (v' := .bool true) rfl (congrArg Value.bool (by rw [decide_eq_true_eq]; exact hxy))
                                 refine st_run tbOk 2 hA (e' := (169, .bool false) :: (168, .bool false) :: _) rfl ?_; clear hA; intro a hA
                                 refine wpList_nil ?_
                                 replace hA := hA.sel [3, 4, 28, 29, 30, 169] (e' := [(3, .pointer (some ⟨b2, 0, none⟩)), (4, .slice A71 ((rs.take k55 ++ rs.drop (k55 + 1)).length) c72), (28, .slice (some ⟨b8, o9, none⟩) l.length c), (29, .int .i64 ((l.length : Nat) : Int)), (30, .int .i64 ((k : Nat) : Int)), (169, .bool false)]) rfl
                                 refine xt_norm ?_
                                 refine cd_cond_f hA rfl ?_
                                 refine wp_skip ?_
                                 refine xb_norm ?_
                                 refine xt_norm ?_
                                 replace hS := hS.drop1
                                 replace hS := hS.front 3 (C := [(b60, rowO [.int .i64 x58f0, .int .i64 x58f1, .int .u64 x58f2, .int .i64 x58f3, .int .i64 x58f4, .slice x58A5 x58b5.length x58c5] 33)]) (L' := L79 :: D :: C70 :: [(b12, rowO [.int .u8 x10f0, .int .i64 x10f1, .int .u8 x10f2, .slice x10A3 x10b3.length x10c3] 30)] :: Cr :: F) rfl rfl
                                 replace hS := hS.drop1
                                 replace hS := hS.front 3 (C := [(b12, rowO [.int .u8 x10f0, .int .i64 x10f1, .int .u8 x10f2, .slice x10A3 x10b3.length x10c3] 30)]) (L' := L79 :: D :: C70 :: Cr :: F) rfl rfl
                                 replace hS := hS.drop1
                                 replace hS := hS.front 3 (C := Cr) (L' := L79 :: D :: C70 :: F) rfl rfl
                                 replace hS := hS.drop1
                                 replace hS := hS.front 2 (C := C70) (L' := L79 :: D :: F) rfl rfl
                                 replace hS := hS.front 2 (C := D) (L' := C70 :: L79 :: F) rfl rfl
                                 replace hS := hS.front 2 (C := L79) (L' := D :: C70 :: F) rfl rfl
                                 exact ⟨(ps.take k55 ++ ps.drop (k55 + 1)), (rs.take k55 ++ rs.drop (k55 + 1)), L79, D, A71, c72, C70, (hA.sel [3, 4, 28, 29, 30] rfl), hS, (hI.get k55), hM80, hO70, (dd_sub hdm k55), (fun x hx => hdr x ((prm_sub rs k55).subset hx))⟩)))
                  · first
                    | (exfalso; omega)
                    | (replace hA := hA.rw 108 (v' := .bool false) rfl (vb_f hc43)
                       refine cd_cond_f hA rfl ?_
                       refine wp_seq ?_
                       refine wp_region_lit ?_
                       have hbfbb32 := hbb32.2 (by simpa using (by assumption : ¬ bb32 = true))
                       refine st_run tbOk 2 hA (e' := (170, .bool (op == 4)) :: (171, .bool (op == 4)) :: _) rfl ?_; clear hA; intro a hA
                       refine wpList_nil ?_
                       replace hA := hA.sel [3, 4, 6, 28, 29, 30, 170] (e' := [(3, .pointer (some ⟨b2, 0, none⟩)), (4, .slice Ar rs.length cr), (6, .pointer (some ⟨b12, 0, none⟩)), (28, .slice (some ⟨b8, o9, none⟩) l.length c), (29, .int .i64 ((l.length : Nat) : Int)), (30, .int .i64 ((k : Nat) : Int)), (170, .bool (op == 4))]) rfl
                       refine xt_norm ?_
                       by_cases hc86 : op = 4
                       · first
                         | (exfalso; omega)
                         | (replace hA := hA.rw 170 (v' := .bool true) rfl (vb_eq_t hc86)
                            refine cd_cond_t hA rfl ?_
                            refine wp_seq ?_
                            refine wp_region_lit ?_
                            have hcs : rs.length = 0 ∨ (0 < rs.length ∧ 1024 ≤ rs.length) ∨ (0 < rs.length ∧ rs.length < 1024) := by omega
                            rcases hcs with hr0 | ⟨hr0, hr10⟩ | ⟨hr0, hr10⟩
                            · refine st_run tbOk 2 hA (e' := (173, .pointer (some ⟨b12, 1, none⟩)) :: (172, .pointer (some ⟨b2, 0, none⟩)) :: _) rfl ?_; clear hA; intro a hA
                              refine st_val hA rfl rfl (by decide) (rn_load tbOk hA rfl rfl rfl rfl (cell_row (hS.heapAt 0 rfl) rfl)) ?_; clear hA; intro a hA
                              replace hS := hS.front 2 (C := D) (L' := [(b12, rowO [.int .u8 x10f0, .int .i64 x10f1, .int .u8 x10f2, .slice x10A3 x10b3.length x10c3] 30)] :: L :: Cr :: F) rfl rfl
                              replace hS := hS.front 2 (C := L) (L' := D :: [(b12, rowO [.int .u8 x10f0, .int .i64 x10f1, .int .u8 x10f2, .slice x10A3 x10b3.length x10c3] 30)] :: Cr :: F) rfl rfl
                              refine st_call0 hA rfl rfl rfl isfn11 rfl rfl (by decide) (double_none11 hS hM x10f1 (by omega)) ?_
                              clear hA hS; rintro _ w87 a ⟨L88, hM89, rfl, hS⟩ hA
                              refine st_run tbOk 1 hA (e' := (15, .iface 37 (.int .i64 12)) :: _) rfl ?_; clear hA; intro a hA
                              refine wpList_nil ?_
                              replace hA := hA.sel [3, 4, 6, 15, 28, 29, 30] (e' := [(3, .pointer (some ⟨b2, 0, none⟩)), (4, .slice Ar rs.length cr), (6, .pointer (some ⟨b12, 0, none⟩)), (15, .iface 37 (.int .i64 12)), (28, .slice (some ⟨b8, o9, none⟩) l.length c), (29, .int .i64 ((l.length : Nat) : Int)), (30, .int .i64 ((k : Nat) : Int))]) rfl
                              refine xt_norm ?_
                              refine wp_block ?_
                              refine wp_seq ?_
                              refine wp_region_lit ?_
                              refine st_run tbOk 4 hA (e' := (189, .bool (((rs.length : Nat) : Int) == 0)) :: (192, .bool (((rs.length : Nat) : Int) == 0)) :: (191, .int .i64 ((rs.length : Nat) : Int)) :: (190, .slice Ar rs.length cr) :: _) rfl ?_; clear hA; intro a hA
                              refine wpList_nil ?_
                              replace hA := hA.sel [3, 4, 6, 15, 28, 29, 30, 189] (e' := [(3, .pointer (some ⟨b2, 0, none⟩)), (4, .slice Ar rs.length cr), (6, .pointer (some ⟨b12, 0, none⟩)), (15, .iface 37 (.int .i64 12)), (28, .slice (some ⟨b8, o9, none⟩) l.length c), (29, .int .i64 ((l.length : Nat) : Int)), (30, .int .i64 ((k : Nat) : Int)), (189, .bool (((rs.length : Nat) : Int) == 0))]) rfl
                              refine xt_norm ?_
                              have hc90 : ((rs.length : Nat) : Int) = 0 := by omega
                              replace hA := hA.rw 189 (v' := .bool true) rfl (vb_eq_t hc90)
                              refine cd_cond_t hA rfl ?_
                              refine wp_seq ?_
                              refine wp_region_lit ?_
                              refine st_run tbOk 1 hA (e' := (193, .iface 37 (.int .i64 12)) :: _) rfl ?_; clear hA; intro a hA
                              refine st_call0 hA rfl rfl rfl isfn6 rfl rfl (by decide) (number_hit6 hS hg 12) ?_
                              clear hA hS; rintro v w91 a ⟨rfl, hS⟩ hA
                              refine st_run tbOk 1 hA (e' := (195, .bool false) :: _) rfl ?_; clear hA; intro a hA
                              refine wpList_nil ?_
                              replace hA := hA.sel [3, 4, 28, 29, 30, 195] (e' := [(3, .pointer (some ⟨b2, 0, none⟩)), (4, .slice Ar rs.length cr), (28, .slice (some ⟨b8, o9, none⟩) l.length c), (29, .int .i64 ((l.length : Nat) : Int)), (30, .int .i64 ((k : Nat) : Int)), (195, .bool false)]) rfl
                              refine xt_norm ?_
                              refine cd_cond_f hA rfl ?_
                              refine wp_skip ?_
                              refine xb_norm ?_
                              refine xb_norm ?_
                              refine xt_norm ?_
                              replace hS := hS.front 2 (C := [(b12, rowO [.int .u8 x10f0, .int .i64 x10f1, .int .u8 x10f2, .slice x10A3 x10b3.length x10c3] 30)]) (L' := L88 :: D :: Cr :: F) rfl rfl
                              replace hS := hS.drop1
                              replace hS := hS.front 2 (C := Cr) (L' := L88 :: D :: F) rfl rfl
                              replace hS := hS.front 2 (C := D) (L' := Cr :: L88 :: F) rfl rfl
                              replace hS := hS.front 2 (C := L88) (L' := D :: Cr :: F) rfl rfl
                              exact ⟨(ps), (rs), L88, D, Ar, cr, Cr, (hA.sel [3, 4, 28, 29, 30] rfl), hS, hI, hM89, hR, hdm, hdr⟩
                            · refine st_run tbOk 2 hA (e' := (173, .pointer (some ⟨b12, 1, none⟩)) :: (172, .pointer (some ⟨b2, 0, none⟩)) :: _) rfl ?_; clear hA; intro a hA
                              refine st_val hA rfl rfl (by decide) (rn_load tbOk hA rfl rfl rfl rfl (cell_row (hS.heapAt 0 rfl) rfl)) ?_; clear hA; intro a hA
                              replace hS := hS.front 2 (C := D) (L' := [(b12, rowO [.int .u8 x10f0, .int .i64 x10f1, .int .u8 x10f2, .slice x10A3 x10b3.length x10c3] 30)] :: L :: Cr :: F) rfl rfl
                              replace hS := hS.front 2 (C := L) (L' := D :: [(b12, rowO [.int .u8 x10f0, .int .i64 x10f1, .int .u8 x10f2, .slice x10A3 x10b3.length x10c3] 30)] :: Cr :: F) rfl rfl
                              refine st_call0 hA rfl rfl rfl isfn11 rfl rfl (by decide) (double_full11 hS hM x10f1 (by omega) (by omega) (by omega) hdm hI.szp) ?_
                              clear hA hS; rintro _ w92 a ⟨L93, hM94, rfl, hS⟩ hA
                              refine st_run tbOk 1 hA (e' := (15, .iface 37 (.int .i64 5)) :: _) rfl ?_; clear hA; intro a hA
                              refine wpList_nil ?_
                              replace hA := hA.sel [3, 4, 6, 15, 28, 29, 30] (e' := [(3, .pointer (some ⟨b2, 0, none⟩)), (4, .slice Ar rs.length cr), (6, .pointer (some ⟨b12, 0, none⟩)), (15, .iface 37 (.int .i64 5)), (28, .slice (some ⟨b8, o9, none⟩) l.length c), (29, .int .i64 ((l.length : Nat) : Int)), (30, .int .i64 ((k : Nat) : Int))]) rfl
                              refine xt_norm ?_
                              refine wp_block ?_
                              refine wp_seq ?_
                              refine wp_region_lit ?_
                              refine st_run tbOk 4 hA (e' := (189, .bool (((rs.length : Nat) : Int) == 0)) :: (192, .bool (((rs.length : Nat) : Int) == 0)) :: (191, .int .i64 ((rs.length : Nat) : Int)) :: (190, .slice Ar rs.length cr) :: _) rfl ?_; clear hA; intro a hA
                              refine wpList_nil ?_
                              replace hA := hA.sel [3, 4, 6, 15, 28, 29, 30, 189] (e' := [(3, .pointer (some ⟨b2, 0, none⟩)), (4, .slice Ar rs.length cr), (6, .pointer (some ⟨b12, 0, none⟩)), (15, .iface 37 (.int .i64 5)), (28, .slice (some ⟨b8, o9, none⟩) l.length c), (29, .int .i64 ((l.length : Nat) : Int)), (30, .int .i64 ((k : Nat) : Int)), (189, .bool (((rs.length : Nat) : Int) == 0))]) rfl
                              refine xt_norm ?_
                              have hc95 : ¬ (((rs.length : Nat) : Int) = 0) := by omega
                              replace hA := hA.rw 189 (v' := .bool false) rfl (vb_eq_f hc95)
                              refine cd_cond_f hA rfl ?_
                              refine wp_seq ?_
                              refine wp_region_lit ?_
                              refine st_run tbOk 4 hA (e' := (196, .bool (decide (((rs.length : Nat) : Int) ≥ 1024))) :: (199, .bool (decide (((rs.length : Nat) : Int) ≥ 1024))) :: (198, .int .i64 ((rs.length : Nat) : Int)) :: (197, .slice Ar rs.length cr) :: _) rfl ?_; clear hA; intro a hA
                              refine wpList_nil ?_
                              replace hA := hA.sel [3, 4, 6, 15, 28, 29, 30, 196] (e' := [(3, .pointer (some ⟨b2, 0, none⟩)), (4, .slice Ar rs.length cr), (6, .pointer (some ⟨b12, 0, none⟩)), (15, .iface 37 (.int .i64 5)), (28, .slice (some ⟨b8, o9, none⟩) l.length c), (29, .int .i64 ((l.length : Nat) : Int)), (30, .int .i64 ((k : Nat) : Int)), (196, .bool (decide (((rs.length : Nat) : Int) ≥ 1024)))]) rfl
                              refine xt_norm ?_
                              have hc96 : ((rs.length : Nat) : Int) ≥ 1024 := by omega
                              replace hA := hA.rw 196 (v' := .bool true) rfl (vb_true hc96)
                              refine cd_cond_t hA rfl ?_
                              refine wp_seq ?_
                              refine wp_region_lit ?_
                              refine st_run tbOk 1 hA (e' := (200, .iface 37 (.int .i64 5)) :: _) rfl ?_; clear hA; intro a hA
                              refine st_call0 hA rfl rfl rfl isfn6 rfl rfl (by decide) (number_hit6 hS hg 5) ?_
                              clear hA hS; rintro v w97 a ⟨rfl, hS⟩ hA
                              refine st_run tbOk 1 hA (e' := (202, .bool false) :: _) rfl ?_; clear hA; intro a hA
                              refine wpList_nil ?_
                              replace hA := hA.sel [3, 4, 28, 29, 30, 202] (e' := [(3, .pointer (some ⟨b2, 0, none⟩)), (4, .slice Ar rs.length cr), (28, .slice (some ⟨b8, o9, none⟩) l.length c), (29, .int .i64 ((l.length : Nat) : Int)), (30, .int .i64 ((k : Nat) : Int)), (202, .bool false)]) rfl
                              refine xt_norm ?_
                              refine cd_cond_f hA rfl ?_
                              refine wp_skip ?_
                              refine xb_norm ?_
                              refine xb_norm ?_
                              refine xt_norm ?_
                              replace hS := hS.front 2 (C := [(b12, rowO [.int .u8 x10f0, .int .i64 x10f1, .int .u8 x10f2, .slice x10A3 x10b3.length x10c3] 30)]) (L' := L93 :: D :: Cr :: F) rfl rfl
                              replace hS := hS.drop1
                              replace hS := hS.front 2 (C := Cr) (L' := L93 :: D :: F) rfl rfl
                              replace hS := hS.front 2 (C := D) (L' := Cr :: L93 :: F) rfl rfl
                              replace hS := hS.front 2 (C := L93) (L' := D :: Cr :: F) rfl rfl
                              exact ⟨(ps), (rs), L93, D, Ar, cr, Cr, (hA.sel [3, 4, 28, 29, 30] rfl), hS, hI, hM94, hR, hdm, hdr⟩
                            · refine st_run tbOk 2 hA (e' := (173, .pointer (some ⟨b12, 1, none⟩)) :: (172, .pointer (some ⟨b2, 0, none⟩)) :: _) rfl ?_; clear hA; intro a hA
                              refine st_val hA rfl rfl (by decide) (rn_load tbOk hA rfl rfl rfl rfl (cell_row (hS.heapAt 0 rfl) rfl)) ?_; clear hA; intro a hA
                              replace hS := hS.front 2 (C := D) (L' := [(b12, rowO [.int .u8 x10f0, .int .i64 x10f1, .int .u8 x10f2, .slice x10A3 x10b3.length x10c3] 30)] :: L :: Cr :: F) rfl rfl
                              replace hS := hS.front 2 (C := L) (L' := D :: [(b12, rowO [.int .u8 x10f0, .int .i64 x10f1, .int .u8 x10f2, .slice x10A3 x10b3.length x10c3] 30)] :: Cr :: F) rfl rfl
                              refine st_call0 hA rfl rfl rfl isfn11 rfl rfl (by decide) (double_ok11 hS hM x10f1 (by omega) (by omega) hdm hI.szp) ?_
                              clear hA hS; rintro _ w98 a ⟨q101, q101x, hq101, hpq101, hxq101, L99, E102, A103, c104, hM100, hE105, rfl, hS⟩ hA
                              have hdm2 : ∀ x ∈ (ps ++ [(q101x.1, q101x.2.1, q101x.2.2.1, q101x.2.2.2.1, q101x.2.2.2.2.1, A103, c104, pdat q101x)]), encPacket_dd w0 (E102 ++ D) x := dd_app hdm hE105
                              refine st_run tbOk 1 hA (e' := (15, .nilIface) :: _) rfl ?_; clear hA; intro a hA
                              refine wpList_nil ?_
                              replace hA := hA.sel [3, 4, 6, 15, 28, 29, 30] (e' := [(3, .pointer (some ⟨b2, 0, none⟩)), (4, .slice Ar rs.length cr), (6, .pointer (some ⟨b12, 0, none⟩)), (15, .nilIface), (28, .slice (some ⟨b8, o9, none⟩) l.length c), (29, .int .i64 ((l.length : Nat) : Int)), (30, .int .i64 ((k : Nat) : Int))]) rfl
                              refine xt_norm ?_
                              refine wp_block ?_
                              refine wp_seq ?_
                              refine wp_region_lit ?_
                              refine st_run tbOk 4 hA (e' := (189, .bool (((rs.length : Nat) : Int) == 0)) :: (192, .bool (((rs.length : Nat) : Int) == 0)) :: (191, .int .i64 ((rs.length : Nat) : Int)) :: (190, .slice Ar rs.length cr) :: _) rfl ?_; clear hA; intro a hA
                              refine wpList_nil ?_
                              replace hA := hA.sel [3, 4, 6, 15, 28, 29, 30, 189] (e' := [(3, .pointer (some ⟨b2, 0, none⟩)), (4, .slice Ar rs.length cr), (6, .pointer (some ⟨b12, 0, none⟩)), (15, .nilIface), (28, .slice (some ⟨b8, o9, none⟩) l.length c), (29, .int .i64 ((l.length : Nat) : Int)), (30, .int .i64 ((k : Nat) : Int)), (189, .bool (((rs.length : Nat) : Int) == 0))]) rfl
                              refine xt_norm ?_
                              have hc106 : ¬ (((rs.length : Nat) : Int) = 0) := by omega
                              replace hA := hA.rw 189 (v' := .bool false) rfl (vb_eq_f hc106)
                              refine cd_cond_f hA rfl ?_
                              refine wp_seq ?_
                              refine wp_region_lit ?_
                              refine st_run tbOk 4 hA (e' := (196, .bool (decide (((rs.length : Nat) : Int) ≥ 1024))) :: (199, .bool (decide (((rs.length : Nat) : Int) ≥ 1024))) :: (198, .int .i64 ((rs.length : Nat) : Int)) :: (197, .slice Ar rs.length cr) :: _) rfl ?_; clear hA; intro a hA
                              refine wpList_nil ?_
                              replace hA := hA.sel [3, 4, 6, 15, 28, 29, 30, 196] (e' := [(3, .pointer (some ⟨b2, 0, none⟩)), (4, .slice Ar rs.length cr), (6, .pointer (some ⟨b12, 0, none⟩)), (15, .nilIface), (28, .slice (some ⟨b8, o9, none⟩) l.length c), (29, .int .i64 ((l.length : Nat) : Int)), (30, .int .i64 ((k : Nat) : Int)), (196, .bool (decide (((rs.length : Nat) : Int) ≥ 1024)))]) rfl
                              refine xt_norm ?_
                              have hc107 : ¬ (((rs.length : Nat) : Int) ≥ 1024) := by omega
                              replace hA := hA.rw 196 (v' := .bool false) rfl (vb_false hc107)
                              refine cd_cond_f hA rfl ?_
                              refine wp_seq ?_
                              refine wp_region_lit ?_
                              refine st_run tbOk 3 hA (e' := (178, .pointer (some ⟨b12, 1, none⟩)) :: (177, .slice Ar rs.length cr) :: (176, .slice Ar rs.length cr) :: _) rfl ?_; clear hA; intro a hA
                              refine st_val hA rfl rfl (by decide) (rn_load tbOk hA rfl rfl rfl rfl (cell_row (hS.heapAt 2 rfl) rfl)) ?_; clear hA; intro a hA
                              refine st_run tbOk 2 hA (e' := (181, .int .i64 ((rs.length : Nat) : Int)) :: (180, .slice Ar rs.length cr) :: _) rfl ?_; clear hA; intro a hA
                              refine st_call0 hA rfl rfl rfl isfn9 rfl rfl (by decide) (lplace9 (n := rs.length) hS x10f1 (by omega) (by omega)) ?_
                              clear hA hS; rintro _ w108 a ⟨k109, hk109, hpk109, rfl, hS⟩ hA
                              obtain ⟨b110, o111, rfl⟩ := hR.isSome (k := k109) (by omega)
                              refine st_val hA rfl rfl (by decide) (rn_indexAddr tbOk hA k109 (o111 + (k109 * 6)) rfl rfl rfl rfl rfl rfl (by rfl) (by omega) (by first | rfl | simp [Nat.mul_one, Nat.zero_add] | omega)) ?_; clear hA; intro a hA
                              obtain ⟨x112, hx112⟩ := get_ex (l := rs) (k := k109) (by omega)
                              obtain ⟨x112f0, x112f1, x112f2, x112f3, x112f4, x112A5, x112c5, x112b5⟩ := x112
                              have hd113 := (fun x hx => hdr x hx D) _ (List.mem_of_getElem? hx112)
                              refine st_val hA rfl rfl (by decide) (rn_loadA tbOk hA ([.int .i64 x112f0, .int .i64 x112f1, .int .u64 x112f2, .int .i64 x112f3, .int .i64 x112f4, .slice x112A5 x112b5.length x112c5]) rfl rfl rfl rfl (by rfl) ((hR.rd (hS.own_ 3 rfl)).elem (k := k109) encPacket_ok hx112)) ?_; clear hA; intro a hA
                              refine st_buildSlice tbOk hA hS [.int .i64 x112f0, .int .i64 x112f1, .int .u64 x112f2, .int .i64 x112f3, .int .i64 x112f4, .slice x112A5 x112b5.length x112c5] rfl rfl rfl rfl rfl (by decide) (by kernel_rfl) rfl rfl (by decide) ?_; clear hA hS; intro b114 w115 a hS hA
                              replace hS := hS.front 4 (C := Cr) (L' := [(b114, rowO [.int .i64 x112f0, .int .i64 x112f1, .int .u64 x112f2, .int .i64 x112f3, .int .i64 x112f4, .slice x112A5 x112b5.length x112c5] 33)] :: L99 :: (E102 ++ D) :: [(b12, rowO [.int .u8 x10f0, .int .i64 x10f1, .int .u8 x10f2, .slice x10A3 x10b3.length x10c3] 30)] :: F) rfl rfl
                              refine st_append tbOk hA (m := rs.length) (q := 1) (xs := rows encPacket rs) (news := rows encPacket ([(x112f0, x112f1, x112f2, x112f3, x112f4, x112A5, x112c5, x112b5)] : List (Int × Int × Int × Int × Int × Option Addr × Nat × List UInt8))) rfl rfl rfl rfl rfl rfl rfl rfl (by decide) hR hS (((Own.full (T := 33) (size := 6) (g := b114) (m := 1) rfl (by decide)).rd (hS.own_ 1 rfl)).x) (rows_one encPacket_ok _) (maxLen_le (by first | omega | (simp; omega))) (by show (rs.length + 1) * 64 ≤ 140737488355328; first | omega | (simp; omega)) rfl rfl (by decide) ?_
                              clear hA hS; intro v116 w117 C118 a hO118 hS hA
                              replace hO118 := Own.app (l := rs) (l2 := ([(x112f0, x112f1, x112f2, x112f3, x112f4, x112A5, x112c5, x112b5)] : List (Int × Int × Int × Int × Int × Option Addr × Nat × List UInt8))) hO118
                              obtain ⟨A119, c120, rfl, hmc120, hxc120⟩ := hO118.open'
                              refine st_run tbOk 1 hA (e' := (4, .slice A119 ((rs ++ ([(x112f0, x112f1, x112f2, x112f3, x112f4, x112A5, x112c5, x112b5)] : List (Int × Int × Int × Int × Int × Option Addr × Nat × List UInt8))).length) c120) :: _) rfl ?_; clear hA; intro a hA
                              refine wpList_nil ?_
                              replace hA := hA.sel [3, 4, 15, 28, 29, 30] (e' := [(3, .pointer (some ⟨b2, 0, none⟩)), (4, .slice A119 ((rs ++ ([(x112f0, x112f1, x112f2, x112f3, x112f4, x112A5, x112c5, x112b5)] : List (Int × Int × Int × Int × Int × Option Addr × Nat × List UInt8))).length) c120), (15, .nilIface), (28, .slice (some ⟨b8, o9, none⟩) l.length c), (29, .int .i64 ((l.length : Nat) : Int)), (30, .int .i64 ((k : Nat) : Int))]) rfl
                              refine xt_norm ?_
                              refine wp_seq ?_
                              refine wp_region_lit ?_
                              have hqk : k109 = q101 := by rw [hml] at hpq101; omega
                              subst hqk
                              have hxy := hI.at_ hxq101 hx112
                              have hdr2 : ∀ x ∈ (rs ++ ([(x112f0, x112f1, x112f2, x112f3, x112f4, x112A5, x112c5, x112b5)] : List (Int × Int × Int × Int × Int × Option Addr × Nat × List UInt8))), ∀ D, encPacket_dd w0 D x := dbl_dd hdr hx112
                              refine st_run tbOk 2 hA (e' := (188, .bool false) :: (187, .nilIface) :: _) rfl ?_; clear hA; intro a hA
                              refine wpList_nil ?_
                              replace hA := hA.sel [3, 4, 28, 29, 30, 188] (e' := [(3, .pointer (some ⟨b2, 0, none⟩)), (4, .slice A119 ((rs ++ ([(x112f0, x112f1, x112f2, x112f3, x112f4, x112A5, x112c5, x112b5)] : List (Int × Int × Int × Int × Int × Option Addr × Nat × List UInt8))).length) c120), (28, .slice (some ⟨b8, o9, none⟩) l.length c), (29, .int .i64 ((l.length : Nat) : Int)), (30, .int .i64 ((k : Nat) : Int)), (188, .bool false)]) rfl
                              refine xt_norm ?_
                              refine cd_cond_f hA rfl ?_
                              refine wp_skip ?_
                              refine xb_norm ?_
                              refine xb_norm ?_
                              refine xt_norm ?_
                              replace hS := hS.front 1 (C := [(b114, rowO [.int .i64 x112f0, .int .i64 x112f1, .int .u64 x112f2, .int .i64 x112f3, .int .i64 x112f4, .slice x112A5 x112b5.length x112c5] 33)]) (L' := C118 :: L99 :: (E102 ++ D) :: [(b12, rowO [.int .u8 x10f0, .int .i64 x10f1, .int .u8 x10f2, .slice x10A3 x10b3.length x10c3] 30)] :: F) rfl rfl
                              replace hS := hS.drop1
                              replace hS := hS.front 3 (C := [(b12, rowO [.int .u8 x10f0, .int .i64 x10f1, .int .u8 x10f2, .slice x10A3 x10b3.length x10c3] 30)]) (L' := C118 :: L99 :: (E102 ++ D) :: F) rfl rfl
                              replace hS := hS.drop1
                              replace hS := hS.front 2 (C := (E102 ++ D)) (L' := C118 :: L99 :: F) rfl rfl
                              replace hS := hS.front 2 (C := L99) (L' := (E102 ++ D) :: C118 :: F) rfl rfl
                              exact ⟨(ps ++ [(q101x.1, q101x.2.1, q101x.2.2.1, q101x.2.2.2.1, q101x.2.2.2.2.1, A103, c104, pdat q101x)]), (rs ++ ([(x112f0, x112f1, x112f2, x112f3, x112f4, x112A5, x112c5, x112b5)] : List (Int × Int × Int × Int × Int × Option Addr × Nat × List UInt8))), L99, (E102 ++ D), A119, c120, C118, (hA.sel [3, 4, 28, 29, 30] rfl), hS, (hI.send (show pst _ = pst _ from hxy) hr10 (hI.sz _ (List.mem_of_getElem? hx112))), hM100, hO118, hdm2, hdr2⟩)
                       · first
                         | (exfalso; omega)
                         | (replace hA := hA.rw 170 (v' := .bool false) rfl (vb_eq_f hc86)
                            refine cd_cond_f hA rfl ?_
                            refine wp_seq ?_
                            refine wp_region_lit ?_
                            refine st_run tbOk 1 hA (e' := (38, .pointer (some ⟨b12, 2, none⟩)) :: _) rfl ?_; clear hA; intro a hA
                            refine st_val hA rfl rfl (by decide) (rn_load tbOk hA rfl rfl rfl rfl (cell_row (hS.heapAt 0 rfl) rfl)) ?_; clear hA; intro a hA
                            refine st_run tbOk 1 hA (e' := (40, .int .u8 (x10f2.tmod 4)) :: _) rfl ?_; clear hA; intro a hA
                            replace hA := hA.rw 40 (v' := .int .u8 nd) rfl (by rw [hnd])
                            refine st_run tbOk 1 hA (e' := (41, .int .i64 (IntKind.i64.wrap nd)) :: _) rfl ?_; clear hA; intro a hA
                            replace hA := hA.rw 41 (v' := .int .i64 nd) rfl (wr64 (by rfl) (by omega) (by omega))
                            refine st_run tbOk 1 hA (e' := (16, .int .i64 nd) :: _) rfl ?_; clear hA; intro a hA
                            refine wpList_nil ?_
                            replace hA := hA.sel [3, 4, 16, 28, 29, 30] (e' := [(3, .pointer (some ⟨b2, 0, none⟩)), (4, .slice Ar rs.length cr), (16, .int .i64 nd), (28, .slice (some ⟨b8, o9, none⟩) l.length c), (29, .int .i64 ((l.length : Nat) : Int)), (30, .int .i64 ((k : Nat) : Int))]) rfl
                            refine xt_norm ?_
                            refine wp_seq ?_
                            refine wp_region_lit ?_
                            refine st_run tbOk 1 hA (e' := (17, .slice none 0 0) :: _) rfl ?_; clear hA; intro a hA
                            refine wpList_nil ?_
                            refine xt_norm ?_
                            refine wp_seq ?_
                            refine wp_seq ?_
                            refine wp_region_lit ?_
                            refine st_run tbOk 3 hA (e' := (44, .int .i64 0) :: (43, .int .i64 ((rs.length : Nat) : Int)) :: (42, .slice Ar rs.length cr) :: _) rfl ?_; clear hA; intro a hA
                            refine wpList_nil ?_
                            refine xt_norm ?_
                            refine wp_block ?_
                            replace hS := hS.nil
                            refine wp_loop_ghost (fun m a w => ∃ (j : Nat) (Ay : Option Addr) (cy : Nat) (Y : Chunk), m = rs.length - j ∧ Has a 232 [(3, .pointer (some ⟨b2, 0, none⟩)), (4, .slice Ar rs.length cr), (16, .int .i64 nd), (17, .slice Ay ((pty rs nd j).length) cy), (28, .slice (some ⟨b8, o9, none⟩) l.length c), (29, .int .i64 ((l.length : Nat) : Int)), (30, .int .i64 ((k : Nat) : Int)), (42, .slice Ar rs.length cr), (43, .int .i64 ((rs.length : Nat) : Int)), (44, .int .i64 ((j : Nat) : Int))] ∧ St w0 w (Y :: [(b12, rowO [.int .u8 x10f0, .int .i64 x10f1, .int .u8 x10f2, .slice x10A3 x10b3.length x10c3] 30)] :: L :: D :: Cr :: F) ∧ (j ≤ rs.length) ∧ (Own 33 6 (.slice Ay (pty rs nd j).length cy) (pty rs nd j).length (rows encPacket (pty rs nd j)) Y)) (rs.length - 0)
                              ⟨0, none, 0, ([]), rfl, (hA.sel [3, 4, 16, 17, 28, 29, 30, 42, 43, 44] rfl), hS, Nat.zero_le _, (Own.nil 33 6)⟩ ?_
                            clear hA hS; rintro m0 a w121 ⟨j, Ay, cy, Y, rfl, hA, hS, hj, hY⟩
                            have hsl := pty_le rs nd j
                            refine wp_seq ?_
                            refine wp_region_lit ?_
                            refine st_run tbOk 1 hA (e' := (45, .bool (decide (((j : Nat) : Int) < ((rs.length : Nat) : Int)))) :: _) rfl ?_; clear hA; intro a hA
                            refine wpList_nil ?_
                            refine xt_norm ?_
                            refine wp_seq ?_
                            by_cases hc122 : ((j : Nat) : Int) < ((rs.length : Nat) : Int)
                            · first
                              | (exfalso; omega)
                              | (replace hA := hA.rw 45 (v' := .bool true) rfl (vb_true hc122)
                                 refine cd_cond_t hA rfl ?_
                                 refine wp_skip ?_
                                 refine xt_norm ?_
                                 refine wp_seq ?_
                                 refine wp_block ?_
                                 refine wp_seq ?_
                                 refine wp_region_lit ?_
                                 obtain ⟨b123, o124, rfl⟩ := hR.isSome (k := j) (by omega)
                                 refine st_val hA rfl rfl (by decide) (rn_indexAddr tbOk hA j (o124 + (j * 6)) rfl rfl rfl rfl rfl rfl (by rfl) (by omega) (by first | rfl | simp [Nat.mul_one, Nat.zero_add] | omega)) ?_; clear hA; intro a hA
                                 obtain ⟨x125, hx125⟩ := get_ex (l := rs) (k := j) (by omega)
                                 obtain ⟨x125f0, x125f1, x125f2, x125f3, x125f4, x125A5, x125c5, x125b5⟩ := x125
                                 have hd126 := (fun x hx => hdr x hx D) _ (List.mem_of_getElem? hx125)
                                 refine st_val hA rfl rfl (by decide) (rn_loadA tbOk hA ([.int .i64 x125f0, .int .i64 x125f1, .int .u64 x125f2, .int .i64 x125f3, .int .i64 x125f4, .slice x125A5 x125b5.length x125c5]) rfl rfl rfl rfl (by rfl) ((hR.rd (hS.own_ 4 rfl)).elem (k := j) encPacket_ok hx125)) ?_; clear hA; intro a hA
                                 refine st_alloc tbOk hA hS [.int .i64 0, .int .i64 0, .int .u64 0, .int .i64 0, .int .i64 0, .slice none 0 0] rfl rfl rfl rfl rfl (by decide) ?_; clear hA hS; intro b127 w128 a hS hA
                                 refine st_store tbOk hA hS [.int .i64 x125f0, .int .i64 x125f1, .int .u64 x125f2, .int .i64 x125f3, .int .i64 x125f4, .slice x125A5 x125b5.length x125c5] [.int .i64 x125f0, .int .i64 x125f1, .int .u64 x125f2, .int .i64 x125f3, .int .i64 x125f4, .slice x125A5 x125b5.length x125c5] rfl rfl rfl rfl rfl rfl (by simp [Value.oneCell']) (Nat.le_of_ble_eq_true rfl) rfl rfl rfl ?_; clear hS; intro w129 hS
                                 refine wpList_nil ?_
                                 replace hA := hA.sel [3, 4, 16, 17, 19, 28, 29, 30, 42, 43, 44] (e' := [(3, .pointer (some ⟨b2, 0, none⟩)), (4, .slice (some ⟨b123, o124, none⟩) rs.length cr), (16, .int .i64 nd), (17, .slice Ay ((pty rs nd j).length) cy), (19, .pointer (some ⟨b127, 0, none⟩)), (28, .slice (some ⟨b8, o9, none⟩) l.length c), (29, .int .i64 ((l.length : Nat) : Int)), (30, .int .i64 ((k : Nat) : Int)), (42, .slice (some ⟨b123, o124, none⟩) rs.length cr), (43, .int .i64 ((rs.length : Nat) : Int)), (44, .int .i64 ((j : Nat) : Int))]) rfl
                                 refine xt_norm ?_
                                 refine wp_seq ?_
                                 refine wp_region_lit ?_
                                 refine st_run tbOk 1 hA (e' := (48, .pointer (some ⟨b127, 0, none⟩)) :: _) rfl ?_; clear hA; intro a hA
                                 refine st_val hA rfl rfl (by decide) (rn_load tbOk hA rfl rfl rfl rfl (cell_row (hS.heapAt 0 rfl) rfl)) ?_; clear hA; intro a hA
                                 refine st_run tbOk 3 hA (e' := (52, .bool (x125f0 != nd)) :: (51, .bool (x125f0 != nd)) :: (50, .int .i64 nd) :: _) rfl ?_; clear hA; intro a hA
                                 by_cases hc130 : x125f0 = nd
                                 · first
                                   | (exfalso; omega)
                                   | (replace hA := hA.rw 51 (v' := .bool false) rfl (vb_ne_f hc130)
                                      replace hA := hA.rw 52 (v' := .bool false) rfl (vb_ne_f hc130)
                                      refine st_run tbOk 5 hA (e' := (57, .bool false) :: (56, undef) :: (55, undef) :: (54, undef) :: (53, undef) :: _) rfl ?_; clear hA; intro a hA
                                      refine wpList_nil ?_
                                      replace hA := hA.sel [3, 4, 16, 17, 19, 28, 29, 30, 42, 43, 44, 57] (e' := [(3, .pointer (some ⟨b2, 0, none⟩)), (4, .slice (some ⟨b123, o124, none⟩) rs.length cr), (16, .int .i64 nd), (17, .slice Ay ((pty rs nd j).length) cy), (19, .pointer (some ⟨b127, 0, none⟩)), (28, .slice (some ⟨b8, o9, none⟩) l.length c), (29, .int .i64 ((l.length : Nat) : Int)), (30, .int .i64 ((k : Nat) : Int)), (42, .slice (some ⟨b123, o124, none⟩) rs.length cr), (43, .int .i64 ((rs.length : Nat) : Int)), (44, .int .i64 ((j : Nat) : Int)), (57, .bool false)]) rfl
                                      refine xt_norm ?_
                                      refine cd_cond_f hA rfl ?_
                                      refine wp_skip ?_
                                      refine xb_norm ?_
                                      refine xt_norm ?_
                                      refine wp_region_lit ?_
                                      refine st_run tbOk 1 hA (e' := (62, .int .i64 (IntKind.i64.wrap (((j : Nat) : Int) + 1))) :: _) rfl ?_; clear hA; intro a hA
                                      replace hA := hA.rw 62 (v' := .int .i64 ((j + 1 : Nat) : Int)) rfl (wr64 (by omega) (by omega) (by omega))
                                      refine st_run tbOk 1 hA (e' := (44, .int .i64 ((j + 1 : Nat) : Int)) :: _) rfl ?_; clear hA; intro a hA
                                      refine wpList_nil ?_
                                      replace hA := hA.sel [3, 4, 16, 17, 28, 29, 30, 42, 43, 44] (e' := [(3, .pointer (some ⟨b2, 0, none⟩)), (4, .slice (some ⟨b123, o124, none⟩) rs.length cr), (16, .int .i64 nd), (17, .slice Ay ((pty rs nd j).length) cy), (28, .slice (some ⟨b8, o9, none⟩) l.length c), (29, .int .i64 ((l.length : Nat) : Int)), (30, .int .i64 ((k : Nat) : Int)), (42, .slice (some ⟨b123, o124, none⟩) rs.length cr), (43, .int .i64 ((rs.length : Nat) : Int)), (44, .int .i64 ((j + 1 : Nat) : Int))]) rfl
                                      have hw1 : pty rs nd j = pty rs nd (j + 1) := pty_no hx125 (by dsimp only; omega)
                                      rw [hw1] at hY hA
                                      replace hS := hS.drop1
                                      replace hS := hS.front 4 (C := Cr) (L' := Y :: [(b12, rowO [.int .u8 x10f0, .int .i64 x10f1, .int .u8 x10f2, .slice x10A3 x10b3.length x10c3] 30)] :: L :: D :: F) rfl rfl
                                      replace hS := hS.front 4 (C := D) (L' := Cr :: Y :: [(b12, rowO [.int .u8 x10f0, .int .i64 x10f1, .int .u8 x10f2, .slice x10A3 x10b3.length x10c3] 30)] :: L :: F) rfl rfl
                                      replace hS := hS.front 4 (C := L) (L' := D :: Cr :: Y :: [(b12, rowO [.int .u8 x10f0, .int .i64 x10f1, .int .u8 x10f2, .slice x10A3 x10b3.length x10c3] 30)] :: F) rfl rfl
                                      replace hS := hS.front 4 (C := [(b12, rowO [.int .u8 x10f0, .int .i64 x10f1, .int .u8 x10f2, .slice x10A3 x10b3.length x10c3] 30)]) (L' := L :: D :: Cr :: Y :: F) rfl rfl
                                      replace hS := hS.front 4 (C := Y) (L' := [(b12, rowO [.int .u8 x10f0, .int .i64 x10f1, .int .u8 x10f2, .slice x10A3 x10b3.length x10c3] 30)] :: L :: D :: Cr :: F) rfl rfl
                                      exact lp_next _ (by omega) ⟨(j + 1), Ay, cy, Y, rfl, (hA.sel [3, 4, 16, 17, 28, 29, 30, 42, 43, 44] rfl), hS, by omega, hY⟩)
                                 · first
                                   | (exfalso; omega)
                                   | (replace hA := hA.rw 51 (v' := .bool true) rfl (vb_ne_t hc130)
                                      replace hA := hA.rw 52 (v' := .bool true) rfl (vb_ne_t hc130)
                                      refine st_run tbOk 1 hA (e' := (53, .pointer (some ⟨b127, 1, none⟩)) :: _) rfl ?_; clear hA; intro a hA
                                      refine st_val hA rfl rfl (by decide) (rn_load tbOk hA rfl rfl rfl rfl (cell_row (hS.heapAt 0 rfl) rfl)) ?_; clear hA; intro a hA
                                      refine st_run tbOk 3 hA (e' := (57, .bool (x125f1 != nd)) :: (56, .bool (x125f1 != nd)) :: (55, .int .i64 nd) :: _) rfl ?_; clear hA; intro a hA
                                      refine wpList_nil ?_
                                      replace hA := hA.sel [3, 4, 16, 17, 19, 28, 29, 30, 42, 43, 44, 57] (e' := [(3, .pointer (some ⟨b2, 0, none⟩)), (4, .slice (some ⟨b123, o124, none⟩) rs.length cr), (16, .int .i64 nd), (17, .slice Ay ((pty rs nd j).length) cy), (19, .pointer (some ⟨b127, 0, none⟩)), (28, .slice (some ⟨b8, o9, none⟩) l.length c), (29, .int .i64 ((l.length : Nat) : Int)), (30, .int .i64 ((k : Nat) : Int)), (42, .slice (some ⟨b123, o124, none⟩) rs.length cr), (43, .int .i64 ((rs.length : Nat) : Int)), (44, .int .i64 ((j : Nat) : Int)), (57, .bool (x125f1 != nd))]) rfl
                                      refine xt_norm ?_
                                      by_cases hc131 : x125f1 = nd
                                      · first
                                        | (exfalso; omega)
                                        | (replace hA := hA.rw 57 (v' := .bool false) rfl (vb_ne_f hc131)
                                           refine cd_cond_f hA rfl ?_
                                           refine wp_skip ?_
                                           refine xb_norm ?_
                                           refine xt_norm ?_
                                           refine wp_region_lit ?_
                                           refine st_run tbOk 1 hA (e' := (62, .int .i64 (IntKind.i64.wrap (((j : Nat) : Int) + 1))) :: _) rfl ?_; clear hA; intro a hA
                                           replace hA := hA.rw 62 (v' := .int .i64 ((j + 1 : Nat) : Int)) rfl (wr64 (by omega) (by omega) (by omega))
                                           refine st_run tbOk 1 hA (e' := (44, .int .i64 ((j + 1 : Nat) : Int)) :: _) rfl ?_; clear hA; intro a hA
                                           refine wpList_nil ?_
                                           replace hA := hA.sel [3, 4, 16, 17, 28, 29, 30, 42, 43, 44] (e' := [(3, .pointer (some ⟨b2, 0, none⟩)), (4, .slice (some ⟨b123, o124, none⟩) rs.length cr), (16, .int .i64 nd), (17, .slice Ay ((pty rs nd j).length) cy), (28, .slice (some ⟨b8, o9, none⟩) l.length c), (29, .int .i64 ((l.length : Nat) : Int)), (30, .int .i64 ((k : Nat) : Int)), (42, .slice (some ⟨b123, o124, none⟩) rs.length cr), (43, .int .i64 ((rs.length : Nat) : Int)), (44, .int .i64 ((j + 1 : Nat) : Int))]) rfl
                                           have hw1 : pty rs nd j = pty rs nd (j + 1) := pty_no hx125 (by dsimp only; omega)
                                           rw [hw1] at hY hA
                                           replace hS := hS.drop1
                                           replace hS := hS.front 4 (C := Cr) (L' := Y :: [(b12, rowO [.int .u8 x10f0, .int .i64 x10f1, .int .u8 x10f2, .slice x10A3 x10b3.length x10c3] 30)] :: L :: D :: F) rfl rfl
                                           replace hS := hS.front 4 (C := D) (L' := Cr :: Y :: [(b12, rowO [.int .u8 x10f0, .int .i64 x10f1, .int .u8 x10f2, .slice x10A3 x10b3.length x10c3] 30)] :: L :: F) rfl rfl
                                           replace hS := hS.front 4 (C := L) (L' := D :: Cr :: Y :: [(b12, rowO [.int .u8 x10f0, .int .i64 x10f1, .int .u8 x10f2, .slice x10A3 x10b3.length x10c3] 30)] :: F) rfl rfl
                                           replace hS := hS.front 4 (C := [(b12, rowO [.int .u8 x10f0, .int .i64 x10f1, .int .u8 x10f2, .slice x10A3 x10b3.length x10c3] 30)]) (L' := L :: D :: Cr :: Y :: F) rfl rfl
                                           replace hS := hS.front 4 (C := Y) (L' := [(b12, rowO [.int .u8 x10f0, .int .i64 x10f1, .int .u8 x10f2, .slice x10A3 x10b3.length x10c3] 30)] :: L :: D :: Cr :: F) rfl rfl
                                           exact lp_next _ (by omega) ⟨(j + 1), Ay, cy, Y, rfl, (hA.sel [3, 4, 16, 17, 28, 29, 30, 42, 43, 44] rfl), hS, by omega, hY⟩)
                                      · first
                                        | (exfalso; omega)
                                        | (replace hA := hA.rw 57 (v' := .bool true) rfl (vb_ne_t hc131)
                                           refine cd_cond_t hA rfl ?_
                                           refine wp_region_lit ?_
                                           refine st_run tbOk 1 hA (e' := (58, .slice Ay ((pty rs nd j).length) cy) :: _) rfl ?_; clear hA; intro a hA
                                           refine st_val hA rfl rfl (by decide) (rn_loadA tbOk hA [.int .i64 x125f0, .int .i64 x125f1, .int .u64 x125f2, .int .i64 x125f3, .int .i64 x125f4, .slice x125A5 x125b5.length x125c5] rfl rfl rfl rfl rfl (cells_row (hS.heapAt 0 rfl) rfl)) ?_; clear hA; intro a hA
                                           refine st_buildSlice tbOk hA hS [.int .i64 x125f0, .int .i64 x125f1, .int .u64 x125f2, .int .i64 x125f3, .int .i64 x125f4, .slice x125A5 x125b5.length x125c5] rfl rfl rfl rfl rfl (by decide) (by kernel_rfl) rfl rfl (by decide) ?_; clear hA hS; intro b132 w133 a hS hA
                                           replace hS := hS.front 2 (C := Y) (L' := [(b132, rowO [.int .i64 x125f0, .int .i64 x125f1, .int .u64 x125f2, .int .i64 x125f3, .int .i64 x125f4, .slice x125A5 x125b5.length x125c5] 33)] :: [(b127, rowO [.int .i64 x125f0, .int .i64 x125f1, .int .u64 x125f2, .int .i64 x125f3, .int .i64 x125f4, .slice x125A5 x125b5.length x125c5] 33)] :: [(b12, rowO [.int .u8 x10f0, .int .i64 x10f1, .int .u8 x10f2, .slice x10A3 x10b3.length x10c3] 30)] :: L :: D :: Cr :: F) rfl rfl
                                           refine st_append tbOk hA (m := (pty rs nd j).length) (q := 1) (xs := rows encPacket (pty rs nd j)) (news := rows encPacket ([(x125f0, x125f1, x125f2, x125f3, x125f4, x125A5, x125c5, x125b5)] : List (Int × Int × Int × Int × Int × Option Addr × Nat × List UInt8))) rfl rfl rfl rfl rfl rfl rfl rfl (by decide) hY hS (((Own.full (T := 33) (size := 6) (g := b132) (m := 1) rfl (by decide)).rd (hS.own_ 1 rfl)).x) (rows_one encPacket_ok _) (maxLen_le (by first | omega | (simp; omega))) (by show ((pty rs nd j).length + 1) * 64 ≤ 140737488355328; first | omega | (simp; omega)) rfl rfl (by decide) ?_
                                           clear hA hS; intro v134 w135 C136 a hO136 hS hA
                                           replace hO136 := Own.app (l := pty rs nd j) (l2 := ([(x125f0, x125f1, x125f2, x125f3, x125f4, x125A5, x125c5, x125b5)] : List (Int × Int × Int × Int × Int × Option Addr × Nat × List UInt8))) hO136
                                           obtain ⟨A137, c138, rfl, hmc138, hxc138⟩ := hO136.open'
                                           refine st_run tbOk 1 hA (e' := (17, .slice A137 (((pty rs nd j) ++ ([(x125f0, x125f1, x125f2, x125f3, x125f4, x125A5, x125c5, x125b5)] : List (Int × Int × Int × Int × Int × Option Addr × Nat × List UInt8))).length) c138) :: _) rfl ?_; clear hA; intro a hA
                                           refine wpList_nil ?_
                                           replace hA := hA.sel [3, 4, 16, 17, 28, 29, 30, 42, 43, 44] (e' := [(3, .pointer (some ⟨b2, 0, none⟩)), (4, .slice (some ⟨b123, o124, none⟩) rs.length cr), (16, .int .i64 nd), (17, .slice A137 (((pty rs nd j) ++ ([(x125f0, x125f1, x125f2, x125f3, x125f4, x125A5, x125c5, x125b5)] : List (Int × Int × Int × Int × Int × Option Addr × Nat × List UInt8))).length) c138), (28, .slice (some ⟨b8, o9, none⟩) l.length c), (29, .int .i64 ((l.length : Nat) : Int)), (30, .int .i64 ((k : Nat) : Int)), (42, .slice (some ⟨b123, o124, none⟩) rs.length cr), (43, .int .i64 ((rs.length : Nat) : Int)), (44, .int .i64 ((j : Nat) : Int))]) rfl
                                           refine xb_norm ?_
                                           refine xt_norm ?_
                                           refine wp_region_lit ?_
                                           refine st_run tbOk 1 hA (e' := (62, .int .i64 (IntKind.i64.wrap (((j : Nat) : Int) + 1))) :: _) rfl ?_; clear hA; intro a hA
                                           replace hA := hA.rw 62 (v' := .int .i64 ((j + 1 : Nat) : Int)) rfl (wr64 (by omega) (by omega) (by omega))
                                           refine st_run tbOk 1 hA (e' := (44, .int .i64 ((j + 1 : Nat) : Int)) :: _) rfl ?_; clear hA; intro a hA
                                           refine wpList_nil ?_
                                           replace hA := hA.sel [3, 4, 16, 17, 28, 29, 30, 42, 43, 44] (e' := [(3, .pointer (some ⟨b2, 0, none⟩)), (4, .slice (some ⟨b123, o124, none⟩) rs.length cr), (16, .int .i64 nd), (17, .slice A137 (((pty rs nd j) ++ ([(x125f0, x125f1, x125f2, x125f3, x125f4, x125A5, x125c5, x125b5)] : List (Int × Int × Int × Int × Int × Option Addr × Nat × List UInt8))).length) c138), (28, .slice (some ⟨b8, o9, none⟩) l.length c), (29, .int .i64 ((l.length : Nat) : Int)), (30, .int .i64 ((k : Nat) : Int)), (42, .slice (some ⟨b123, o124, none⟩) rs.length cr), (43, .int .i64 ((rs.length : Nat) : Int)), (44, .int .i64 ((j + 1 : Nat) : Int))]) rfl
                                           have hl : (pty rs nd j) ++ ([(x125f0, x125f1, x125f2, x125f3, x125f4, x125A5, x125c5, x125b5)] : List (Int × Int × Int × Int × Int × Option Addr × Nat × List UInt8)) = pty rs nd (j + 1) := pty_yes hx125 (by dsimp only; omega)
                                           rw [hl] at hO136; rw [hl] at hA
                                           replace hS := hS.front 1 (C := [(b132, rowO [.int .i64 x125f0, .int .i64 x125f1, .int .u64 x125f2, .int .i64 x125f3, .int .i64 x125f4, .slice x125A5 x125b5.length x125c5] 33)]) (L' := C136 :: [(b127, rowO [.int .i64 x125f0, .int .i64 x125f1, .int .u64 x125f2, .int .i64 x125f3, .int .i64 x125f4, .slice x125A5 x125b5.length x125c5] 33)] :: [(b12, rowO [.int .u8 x10f0, .int .i64 x10f1, .int .u8 x10f2, .slice x10A3 x10b3.length x10c3] 30)] :: L :: D :: Cr :: F) rfl rfl
                                           replace hS := hS.drop1
                                           replace hS := hS.front 1 (C := [(b127, rowO [.int .i64 x125f0, .int .i64 x125f1, .int .u64 x125f2, .int .i64 x125f3, .int .i64 x125f4, .slice x125A5 x125b5.length x125c5] 33)]) (L' := C136 :: [(b12, rowO [.int .u8 x10f0, .int .i64 x10f1, .int .u8 x10f2, .slice x10A3 x10b3.length x10c3] 30)] :: L :: D :: Cr :: F) rfl rfl
                                           replace hS := hS.drop1
                                           replace hS := hS.front 4 (C := Cr) (L' := C136 :: [(b12, rowO [.int .u8 x10f0, .int .i64 x10f1, .int .u8 x10f2, .slice x10A3 x10b3.length x10c3] 30)] :: L :: D :: F) rfl rfl
                                           replace hS := hS.front 4 (C := D) (L' := Cr :: C136 :: [(b12, rowO [.int .u8 x10f0, .int .i64 x10f1, .int .u8 x10f2, .slice x10A3 x10b3.length x10c3] 30)] :: L :: F) rfl rfl
                                           replace hS := hS.front 4 (C := L) (L' := D :: Cr :: C136 :: [(b12, rowO [.int .u8 x10f0, .int .i64 x10f1, .int .u8 x10f2, .slice x10A3 x10b3.length x10c3] 30)] :: F) rfl rfl
                                           replace hS := hS.front 4 (C := [(b12, rowO [.int .u8 x10f0, .int .i64 x10f1, .int .u8 x10f2, .slice x10A3 x10b3.length x10c3] 30)]) (L' := L :: D :: Cr :: C136 :: F) rfl rfl
                                           replace hS := hS.front 4 (C := C136) (L' := [(b12, rowO [.int .u8 x10f0, .int .i64 x10f1, .int .u8 x10f2, .slice x10A3 x10b3.length x10c3] 30)] :: L :: D :: Cr :: F) rfl rfl
                                           exact lp_next _ (by omega) ⟨(j + 1), A137, c138, C136, rfl, (hA.sel [3, 4, 16, 17, 28, 29, 30, 42, 43, 44] rfl), hS, by omega, hO136⟩)))
                            · first
                              | (exfalso; omega)
                              | (replace hA := hA.rw 45 (v' := .bool false) rfl (vb_false hc122)
                                 refine cd_cond_f hA rfl ?_
                                 refine wp_exit ?_
                                 refine xt_exit ?_
                                 refine xt_exit ?_
                                 refine cd_exit_eq ?_
                                 refine xt_norm ?_
                                 refine wp_seq ?_
                                 refine wp_seq ?_
                                 refine wp_region_lit ?_
                                 have hl : pty rs nd j = cutl nd rs := by rw [show j = rs.length by omega, pty_all]
                                 rw [hl] at hY; rw [hl] at hA
                                 have hcl := (hI.cut nd).len; have hcl2 := (hI.cut nd).ln; have hcl3 : (cutl nd rs).length ≤ rs.length := List.length_filter_le _ _
                                 refine st_run tbOk 2 hA (e' := (64, .int .i64 nd) :: (63, .pointer (some ⟨b2, 0, none⟩)) :: _) rfl ?_; clear hA; intro a hA
                                 replace hS := hS.front 3 (C := D) (L' := Y :: [(b12, rowO [.int .u8 x10f0, .int .i64 x10f1, .int .u8 x10f2, .slice x10A3 x10b3.length x10c3] 30)] :: L :: Cr :: F) rfl rfl
                                 replace hS := hS.front 3 (C := L) (L' := D :: Y :: [(b12, rowO [.int .u8 x10f0, .int .i64 x10f1, .int .u8 x10f2, .slice x10A3 x10b3.length x10c3] 30)] :: Cr :: F) rfl rfl
                                 refine st_call0 hA rfl rfl rfl isfn12 rfl rfl (by decide) (wcut12 hS hM nd (by omega)) ?_
                                 clear hA hS; rintro _ w139 a ⟨L140, hM141, rfl, hS⟩ hA
                                 refine st_run tbOk 5 hA (e' := (70, .int .i64 (IntKind.i64.wrap (((rs.length : Nat) : Int) - (((cutl nd rs).length : Nat) : Int)))) :: (69, .int .i64 (((cutl nd rs).length : Nat) : Int)) :: (68, .slice Ay ((cutl nd rs).length) cy) :: (67, .int .i64 ((rs.length : Nat) : Int)) :: (66, .slice Ar rs.length cr) :: _) rfl ?_; clear hA; intro a hA
                                 replace hA := hA.rw 70 (v' := .int .i64 (((rs.length : Nat) : Int) - (((cutl nd rs).length : Nat) : Int))) rfl (wr64 (by omega) (by omega) (by omega))
                                 refine st_run tbOk 1 hA (e' := (71, .bool ((((ps.length : Nat) : Int) - (((cutl nd ps).length : Nat) : Int)) != (((rs.length : Nat) : Int) - (((cutl nd rs).length : Nat) : Int)))) :: _) rfl ?_; clear hA; intro a hA
                                 refine wpList_nil ?_
                                 replace hA := hA.sel [3, 17, 28, 29, 30, 71] (e' := [(3, .pointer (some ⟨b2, 0, none⟩)), (17, .slice Ay ((cutl nd rs).length) cy), (28, .slice (some ⟨b8, o9, none⟩) l.length c), (29, .int .i64 ((l.length : Nat) : Int)), (30, .int .i64 ((k : Nat) : Int)), (71, .bool ((((ps.length : Nat) : Int) - (((cutl nd ps).length : Nat) : Int)) != (((rs.length : Nat) : Int) - (((cutl nd rs).length : Nat) : Int))))]) rfl
                                 refine xt_norm ?_
                                 by_cases hc142 : ((ps.length : Nat) : Int) - (((cutl nd ps).length : Nat) : Int) = ((rs.length : Nat) : Int) - (((cutl nd rs).length : Nat) : Int)
                                 · first
                                   | (exfalso; omega)
                                   | (replace hA := hA.rw 71 (v' := .bool false) rfl (vb_ne_f hc142)
                                      refine cd_cond_f hA rfl ?_
                                      refine wp_skip ?_
                                      refine xt_norm ?_
                                      refine wp_region_lit ?_
                                      refine st_run tbOk 2 hA (e' := (4, .slice Ay ((cutl nd rs).length) cy) :: (72, .slice Ay ((cutl nd rs).length) cy) :: _) rfl ?_; clear hA; intro a hA
                                      refine wpList_nil ?_
                                      replace hA := hA.sel [3, 4, 28, 29, 30] (e' := [(3, .pointer (some ⟨b2, 0, none⟩)), (4, .slice Ay ((cutl nd rs).length) cy), (28, .slice (some ⟨b8, o9, none⟩) l.length c), (29, .int .i64 ((l.length : Nat) : Int)), (30, .int .i64 ((k : Nat) : Int))]) rfl
                                      refine xb_norm ?_
                                      refine xt_norm ?_
                                      replace hS := hS.front 3 (C := [(b12, rowO [.int .u8 x10f0, .int .i64 x10f1, .int .u8 x10f2, .slice x10A3 x10b3.length x10c3] 30)]) (L' := L140 :: D :: Y :: Cr :: F) rfl rfl
                                      replace hS := hS.drop1
                                      replace hS := hS.front 3 (C := Cr) (L' := L140 :: D :: Y :: F) rfl rfl
                                      replace hS := hS.drop1
                                      replace hS := hS.front 2 (C := Y) (L' := L140 :: D :: F) rfl rfl
                                      replace hS := hS.front 2 (C := D) (L' := Y :: L140 :: F) rfl rfl
                                      replace hS := hS.front 2 (C := L140) (L' := D :: Y :: F) rfl rfl
                                      exact ⟨(cutl nd ps), (cutl nd rs), L140, D, Ay, cy, Y, (hA.sel [3, 4, 28, 29, 30] rfl), hS, (hI.cut nd), hM141, hY, (fun x hx => hdm x (cutl_sub hx)), (fun x hx => hdr x (cutl_sub hx))⟩)
                                 · first
                                   | (exfalso; omega)
                                   | (replace hA := hA.rw 71 (v' := .bool true) rfl (vb_ne_t hc142)
                                      refine cd_cond_t hA rfl ?_
                                      refine wp_seq ?_
                                      refine wp_region_lit ?_
                                      refine st_run tbOk 1 hA (e' := (2, .bool false) :: _) rfl ?_; clear hA; intro a hA
                                      refine wpList_nil ?_
                                      replace hA := hA.sel [2] (e' := [(2, .bool false)]) rfl
                                      refine xt_norm ?_
                                      refine wp_ret (xt_ret (xb_ret (xt_ret (xb_ret (xt_ret (xt_ret (xb_ret (xt_ret ?_))))))))
                                      refine ret1 (fn := Tryd.f3) hA rfl rfl ?_
                                      exfalso; omega)))))
       · clear hA hS; rintro a w143 ⟨ps', rs', L', D', Ar', cr', Cr', hA, hS, hI', hM', hR', hdm', hdr'⟩
         have hml' := hI'.len
         refine wp_seq ?_
         refine wp_region_lit ?_
         refine st_run tbOk 1 hA (e' := (203, .pointer (some ⟨b2, 0, none⟩)) :: _) rfl ?_; clear hA; intro a hA
         replace hS := hS.front 1 (C := D') (L' := L' :: Cr' :: F) rfl rfl
         replace hS := hS.front 1 (C := L') (L' := D' :: Cr' :: F) rfl rfl
         refine st_call0 hA rfl rfl rfl isfn13 rfl rfl (by decide) (wlen13 hS hM') ?_
         clear hA hS; rintro _ w144 a ⟨L145, hM146, rfl, hS⟩ hA
         refine st_run tbOk 3 hA (e' := (207, .bool (((ps'.length : Nat) : Int) != ((rs'.length : Nat) : Int))) :: (206, .int .i64 ((rs'.length : Nat) : Int)) :: (205, .slice Ar' rs'.length cr') :: _) rfl ?_; clear hA; intro a hA
         refine wpList_nil ?_
         replace hA := hA.sel [3, 4, 28, 29, 30, 207] (e' := [(3, .pointer (some ⟨b2, 0, none⟩)), (4, .slice Ar' rs'.length cr'), (28, .slice (some ⟨b8, o9, none⟩) l.length c), (29, .int .i64 ((l.length : Nat) : Int)), (30, .int .i64 ((k : Nat) : Int)), (207, .bool (((ps'.length : Nat) : Int) != ((rs'.length : Nat) : Int)))]) rfl
         refine xt_norm ?_
         by_cases hc147 : ((ps'.length : Nat) : Int) = ((rs'.length : Nat) : Int)
         · first
           | (exfalso; omega)
           | (replace hA := hA.rw 207 (v' := .bool false) rfl (vb_ne_f hc147)
              refine cd_cond_f hA rfl ?_
              refine wp_skip ?_
              refine xb_norm ?_
              refine xt_norm ?_
              refine wp_region_lit ?_
              refine st_run tbOk 1 hA (e' := (208, .int .i64 (IntKind.i64.wrap (((k : Nat) : Int) + 1))) :: _) rfl ?_; clear hA; intro a hA
              replace hA := hA.rw 208 (v' := .int .i64 ((k + 1 : Nat) : Int)) rfl (wr64 (by omega) (by omega) (by omega))
              refine st_run tbOk 1 hA (e' := (30, .int .i64 ((k + 1 : Nat) : Int)) :: _) rfl ?_; clear hA; intro a hA
              refine wpList_nil ?_
              replace hA := hA.sel [3, 4, 28, 29, 30] (e' := [(3, .pointer (some ⟨b2, 0, none⟩)), (4, .slice Ar' rs'.length cr'), (28, .slice (some ⟨b8, o9, none⟩) l.length c), (29, .int .i64 ((l.length : Nat) : Int)), (30, .int .i64 ((k + 1 : Nat) : Int))]) rfl
              replace hS := hS.front 2 (C := Cr') (L' := L145 :: D' :: F) rfl rfl
              replace hS := hS.front 2 (C := D') (L' := Cr' :: L145 :: F) rfl rfl
              replace hS := hS.front 2 (C := L145) (L' := D' :: Cr' :: F) rfl rfl
              exact lp_next _ (by omega) ⟨(k + 1), (ps'), (rs'), L145, D', Ar', cr', Cr', rfl, (hA.sel [3, 4, 28, 29, 30] rfl), hS, by omega, hI', hM146, hR', hdm', hdr'⟩)
         · first
           | (exfalso; omega)
           | (replace hA := hA.rw 207 (v' := .bool true) rfl (vb_ne_t hc147)
              refine cd_cond_t hA rfl ?_
              refine wp_seq ?_
              refine wp_region_lit ?_
              refine st_run tbOk 1 hA (e' := (2, .bool false) :: _) rfl ?_; clear hA; intro a hA
              refine wpList_nil ?_
              replace hA := hA.sel [2] (e' := [(2, .bool false)]) rfl
              refine xt_norm ?_
              refine wp_ret (xb_ret (xt_ret (xt_ret (xb_ret (xt_ret ?_)))))
              refine ret1 (fn := Tryd.f3) hA rfl rfl ?_
              exfalso; omega))
  · first
    | (exfalso; omega)
    | (replace hA := hA.rw 31 (v' := .bool false) rfl (vb_false hc7)
       refine cd_cond_f hA rfl ?_
       refine wp_exit ?_
       refine xt_exit ?_
       refine xt_exit ?_
       refine cd_exit_eq ?_
       refine xt_norm ?_
       refine wp_seq ?_
       refine wp_seq ?_
       refine wp_region_lit ?_
       refine st_run tbOk 3 hA (e' := (211, .int .i64 0) :: (210, .int .i64 ((rs.length : Nat) : Int)) :: (209, .slice Ar rs.length cr) :: _) rfl ?_; clear hA; intro a hA
       refine wpList_nil ?_
       replace hA := hA.sel [3, 209, 210, 211] (e' := [(3, .pointer (some ⟨b2, 0, none⟩)), (209, .slice Ar rs.length cr), (210, .int .i64 ((rs.length : Nat) : Int)), (211, .int .i64 0)]) rfl
       refine xt_norm ?_
       refine wp_block ?_
       replace hS := hS.front 2 (C := Cr) (L' := L :: D :: F) rfl rfl
       replace hS := hS.front 2 (C := D) (L' := Cr :: L :: F) rfl rfl
       replace hS := hS.front 2 (C := L) (L' := D :: Cr :: F) rfl rfl
       have hM148 : WR b2 (ps.drop 0) L := (by rw [List.drop_zero]; exact hM)
       refine wp_loop_ghost (fun m a w => ∃ (i : Nat) (L4 : Chunk), m = rs.length - i ∧ Has a 232 [(3, .pointer (some ⟨b2, 0, none⟩)), (209, .slice Ar rs.length cr), (210, .int .i64 ((rs.length : Nat) : Int)), (211, .int .i64 ((i : Nat) : Int))] ∧ St w0 w (L4 :: D :: Cr :: F) ∧ (i ≤ rs.length) ∧ (WR b2 (ps.drop i) L4)) (rs.length - 0)
         ⟨0, L, rfl, (hA.sel [3, 209, 210, 211] rfl), hS, Nat.zero_le _, hM148⟩ ?_
       clear hA hS; rintro m0 a w149 ⟨i, L4, rfl, hA, hS, hi, hM4⟩
       have hql : (ps.drop i).length = ps.length - i := List.length_drop
       refine wp_seq ?_
       refine wp_region_lit ?_
       refine st_run tbOk 1 hA (e' := (212, .bool (decide (((i : Nat) : Int) < ((rs.length : Nat) : Int)))) :: _) rfl ?_; clear hA; intro a hA
       refine wpList_nil ?_
       refine xt_norm ?_
       refine wp_seq ?_
       by_cases hc150 : ((i : Nat) : Int) < ((rs.length : Nat) : Int)
       · first
         | (exfalso; omega)
         | (replace hA := hA.rw 212 (v' := .bool true) rfl (vb_true hc150)
            refine cd_cond_t hA rfl ?_
            refine wp_skip ?_
            refine xt_norm ?_
            refine wp_seq ?_
            refine wp_block ?_
            refine wp_seq ?_
            refine wp_region_lit ?_
            obtain ⟨b151, o152, rfl⟩ := hR.isSome (k := i) (by omega)
            refine st_val hA rfl rfl (by decide) (rn_indexAddr tbOk hA i (o152 + (i * 6)) rfl rfl rfl rfl rfl rfl (by rfl) (by omega) (by first | rfl | simp [Nat.mul_one, Nat.zero_add] | omega)) ?_; clear hA; intro a hA
            obtain ⟨x153, hx153⟩ := get_ex (l := rs) (k := i) (by omega)
            obtain ⟨x153f0, x153f1, x153f2, x153f3, x153f4, x153A5, x153c5, x153b5⟩ := x153
            have hd154 := (fun x hx => hdr x hx D) _ (List.mem_of_getElem? hx153)
            refine st_val hA rfl rfl (by decide) (rn_loadA tbOk hA ([.int .i64 x153f0, .int .i64 x153f1, .int .u64 x153f2, .int .i64 x153f3, .int .i64 x153f4, .slice x153A5 x153b5.length x153c5]) rfl rfl rfl rfl (by rfl) ((hR.rd (hS.own_ 2 rfl)).elem (k := i) encPacket_ok hx153)) ?_; clear hA; intro a hA
            refine st_alloc tbOk hA hS [.int .i64 0, .int .i64 0, .int .u64 0, .int .i64 0, .int .i64 0, .slice none 0 0] rfl rfl rfl rfl rfl (by decide) ?_; clear hA hS; intro b155 w156 a hS hA
            refine st_store tbOk hA hS [.int .i64 x153f0, .int .i64 x153f1, .int .u64 x153f2, .int .i64 x153f3, .int .i64 x153f4, .slice x153A5 x153b5.length x153c5] [.int .i64 x153f0, .int .i64 x153f1, .int .u64 x153f2, .int .i64 x153f3, .int .i64 x153f4, .slice x153A5 x153b5.length x153c5] rfl rfl rfl rfl rfl rfl (by simp [Value.oneCell']) (Nat.le_of_ble_eq_true rfl) rfl rfl rfl ?_; clear hS; intro w157 hS
            refine wpList_nil ?_
            replace hA := hA.sel [3, 21, 209, 210, 211] (e' := [(3, .pointer (some ⟨b2, 0, none⟩)), (21, .pointer (some ⟨b155, 0, none⟩)), (209, .slice (some ⟨b151, o152, none⟩) rs.length cr), (210, .int .i64 ((rs.length : Nat) : Int)), (211, .int .i64 ((i : Nat) : Int))]) rfl
            refine xt_norm ?_
            refine wp_seq ?_
            refine wp_region_lit ?_
            refine st_run tbOk 1 hA (e' := (216, .pointer (some ⟨b2, 0, none⟩)) :: _) rfl ?_; clear hA; intro a hA
            replace hS := hS.front 2 (C := D) (L' := [(b155, rowO [.int .i64 x153f0, .int .i64 x153f1, .int .u64 x153f2, .int .i64 x153f3, .int .i64 x153f4, .slice x153A5 x153b5.length x153c5] 33)] :: L4 :: Cr :: F) rfl rfl
            replace hS := hS.front 2 (C := L4) (L' := D :: [(b155, rowO [.int .i64 x153f0, .int .i64 x153f1, .int .u64 x153f2, .int .i64 x153f3, .int .i64 x153f4, .slice x153A5 x153b5.length x153c5] 33)] :: Cr :: F) rfl rfl
            refine st_call0 hA rfl rfl rfl isfn7 rfl rfl (by decide) (arrive_ok7 hS hM4 0 (by omega) (by omega)) ?_
            clear hA hS; rintro _ w158 a ⟨q161, ⟨q161x0, q161x1, q161x2, q161x3, q161x4, q161A, q161c, q161b⟩, hq161, hpq161, hxq161, L159, hM160, rfl, hS⟩ hA
            have hq1 : q161 = 0 := by rw [Int.zero_emod] at hpq161; omega
            subst hq1
            have hxy := hI.dropl hxq161 hx153
            simp only [pst, pdat, Prod.mk.injEq] at hxy
            refine st_run tbOk 3 hA (e' := (219, .bool true) :: (218, .agg #[.int .i64 q161x0, .int .i64 q161x1, .int .u64 q161x2, .int .i64 q161x3, .int .i64 q161x4, .slice q161A q161b.length q161c]) :: (215, .tuple #[.agg #[.int .i64 q161x0, .int .i64 q161x1, .int .u64 q161x2, .int .i64 q161x3, .int .i64 q161x4, .slice q161A q161b.length q161c], .bool true]) :: _) rfl ?_; clear hA; intro a hA
            refine st_alloc tbOk hA hS [.int .i64 0, .int .i64 0, .int .u64 0, .int .i64 0, .int .i64 0, .slice none 0 0] rfl rfl rfl rfl rfl (by decide) ?_; clear hA hS; intro b162 w163 a hS hA
            refine st_store tbOk hA hS [.int .i64 q161x0, .int .i64 q161x1, .int .u64 q161x2, .int .i64 q161x3, .int .i64 q161x4, .slice q161A q161b.length q161c] [.int .i64 q161x0, .int .i64 q161x1, .int .u64 q161x2, .int .i64 q161x3, .int .i64 q161x4, .slice q161A q161b.length q161c] rfl rfl rfl rfl rfl rfl (by simp [Value.oneCell']) (Nat.le_of_ble_eq_true rfl) rfl rfl rfl ?_; clear hS; intro w164 hS
            refine st_run tbOk 1 hA (e' := (23, .bool true) :: _) rfl ?_; clear hA; intro a hA
            refine wpList_nil ?_
            replace hA := hA.sel [3, 21, 22, 23, 209, 210, 211] (e' := [(3, .pointer (some ⟨b2, 0, none⟩)), (21, .pointer (some ⟨b155, 0, none⟩)), (22, .pointer (some ⟨b162, 0, none⟩)), (23, .bool true), (209, .slice (some ⟨b151, o152, none⟩) rs.length cr), (210, .int .i64 ((rs.length : Nat) : Int)), (211, .int .i64 ((i : Nat) : Int))]) rfl
            refine xt_norm ?_
            refine wp_seq ?_
            refine wp_region_lit ?_
            refine st_run tbOk 3 hA (e' := (222, .bool false) :: (221, .bool false) :: (220, .bool true) :: _) rfl ?_; clear hA; intro a hA
            refine st_val hA rfl rfl (by decide) (rn_loadA tbOk hA [.int .i64 q161x0, .int .i64 q161x1, .int .u64 q161x2, .int .i64 q161x3, .int .i64 q161x4, .slice q161A q161b.length q161c] rfl rfl rfl rfl rfl (cells_row (hS.heapAt 0 rfl) rfl)) ?_; clear hA; intro a hA
            refine st_val hA rfl rfl (by decide) (rn_loadA tbOk hA [.int .i64 x153f0, .int .i64 x153f1, .int .u64 x153f2, .int .i64 x153f3, .int .i64 x153f4, .slice x153A5 x153b5.length x153c5] rfl rfl rfl rfl rfl (cells_row (hS.heapAt 3 rfl) rfl)) ?_; clear hA; intro a hA
            refine st_call0 hA rfl rfl rfl isfn10 rfl rfl (by decide) (same15_10 hS q161x0 q161x1 q161x2 q161x3 q161x4 x153f0 x153f1 x153f2 x153f3 x153f4 (bs := q161b) (cs := x153b5) (fun w' h => ((hdm _ (List.mem_of_mem_drop (List.mem_of_getElem? hxq161))) _ (h.only 2 rfl))) (fun w' h => (hd154 _ (h.only 2 rfl)))) ?_
            clear hA hS; rintro v w165 a ⟨rfl, hS⟩ hA
            replace hA := hA.rw 225 (v' := .bool true) rfl (congrArg Value.bool (by rw [decide_eq_true_eq]; exact hxy))
            refine st_run tbOk 2 hA (e' := (227, .bool false) :: (226, .bool false) :: _) rfl ?_; clear hA; intro a hA
            refine wpList_nil ?_
            replace hA := hA.sel [3, 209, 210, 211, 227] (e' := [(3, .pointer (some ⟨b2, 0, none⟩)), (209, .slice (some ⟨b151, o152, none⟩) rs.length cr), (210, .int .i64 ((rs.length : Nat) : Int)), (211, .int .i64 ((i : Nat) : Int)), (227, .bool false)]) rfl
            refine xt_norm ?_
            refine cd_cond_f hA rfl ?_
            refine wp_skip ?_
            refine xb_norm ?_
            refine xt_norm ?_
            refine wp_region_lit ?_
            refine st_run tbOk 1 hA (e' := (228, .int .i64 (IntKind.i64.wrap (((i : Nat) : Int) + 1))) :: _) rfl ?_; clear hA; intro a hA
            replace hA := hA.rw 228 (v' := .int .i64 ((i + 1 : Nat) : Int)) rfl (wr64 (by omega) (by omega) (by omega))
            refine st_run tbOk 1 hA (e' := (211, .int .i64 ((i + 1 : Nat) : Int)) :: _) rfl ?_; clear hA; intro a hA
            refine wpList_nil ?_
            replace hA := hA.sel [3, 209, 210, 211] (e' := [(3, .pointer (some ⟨b2, 0, none⟩)), (209, .slice (some ⟨b151, o152, none⟩) rs.length cr), (210, .int .i64 ((rs.length : Nat) : Int)), (211, .int .i64 ((i + 1 : Nat) : Int))]) rfl
            replace hS := hS.drop1
            replace hS := hS.front 2 (C := [(b155, rowO [.int .i64 x153f0, .int .i64 x153f1, .int .u64 x153f2, .int .i64 x153f3, .int .i64 x153f4, .slice x153A5 x153b5.length x153c5] 33)]) (L' := L159 :: D :: Cr :: F) rfl rfl
            replace hS := hS.drop1
            replace hS := hS.front 2 (C := Cr) (L' := L159 :: D :: F) rfl rfl
            replace hS := hS.front 2 (C := D) (L' := Cr :: L159 :: F) rfl rfl
            replace hS := hS.front 2 (C := L159) (L' := D :: Cr :: F) rfl rfl
            exact lp_next _ (by omega) ⟨(i + 1), L159, rfl, (hA.sel [3, 209, 210, 211] rfl), hS, by omega, (by have h := hM160; rw [rest_front] at h; exact h)⟩)
       · first
         | (exfalso; omega)
         | (replace hA := hA.rw 212 (v' := .bool false) rfl (vb_false hc150)
            refine cd_cond_f hA rfl ?_
            refine wp_exit ?_
            refine xt_exit ?_
            refine xt_exit ?_
            refine cd_exit_eq ?_
            refine xt_norm ?_
            refine wp_seq ?_
            refine wp_region_lit ?_
            refine st_run tbOk 1 hA (e' := (229, .pointer (some ⟨b2, 0, none⟩)) :: _) rfl ?_; clear hA; intro a hA
            replace hS := hS.front 1 (C := D) (L' := L4 :: Cr :: F) rfl rfl
            replace hS := hS.front 1 (C := L4) (L' := D :: Cr :: F) rfl rfl
            refine st_call0 hA rfl rfl rfl isfn13 rfl rfl (by decide) (wlen13 hS hM4) ?_
            clear hA hS; rintro _ w166 a ⟨L167, hM168, rfl, hS⟩ hA
            replace hA := hA.rw 230 (v' := .int .i64 0) rfl (vint (by omega))
            refine st_run tbOk 2 hA (e' := (2, .bool true) :: (231, .bool true) :: _) rfl ?_; clear hA; intro a hA
            refine wpList_nil ?_
            replace hA := hA.sel [2] (e' := [(2, .bool true)]) rfl
            refine xt_norm ?_
            refine wp_ret ?_
            refine ret1 (fn := Tryd.f3) hA rfl rfl ?_
            replace hS := hS.drop1
            replace hS := hS.drop1
            replace hS := hS.drop1
            exact ⟨rfl, hS⟩))

end Go.Proofs.YtdchjphmfkjamaaDoor
