import Derived.Test.YtbfdppfddlilgaaQ
set_option linter.unusedVariables false
set_option linter.unusedSimpArgs false
set_option maxRecDepth 4000
namespace Go.Proofs.Ytbfdppfddlilgaa
open Go Go.SK
set_option maxHeartbeats 100000000 in
theorem script5 {w0 w : World} {F : List Chunk} (hS : St w0 w F) {v : Value} {l : List (Int × Int × Int × Option Addr × Nat × List UInt8)} (hr : RdS w0 F 4 v l.length (rows encCome l)) (hw : ∀ x ∈ l, encCome_good w0 x) (hb : l.length * 32 ≤ 140737488351232) :
    Ret Try.prog 5 #[v] w (fun v w' => v = .bool true ∧ St w0 w' F) := by
  obtain ⟨A, c, rfl, hmc, hcx⟩ := (hr w hS).open'
  refine enter (vs := [.slice A l.length c]) 217 Try.func5 rfl rfl (by simp) ?_; intro a hA
  refine wp_seq ?_
  refine wp_region_lit ?_
  refine st_run tbOk 1 hA (e' := (2, .bool false) :: _) rfl ?_; clear hA; intro a hA
  refine wpList_nil ?_
  replace hA := hA.sel [0] (e' := [(0, .slice A l.length c)]) rfl
  refine xt_norm ?_
  refine wp_seq ?_
  refine wp_seq ?_
  refine wp_region_lit ?_
  refine st_call0 hA rfl rfl rfl isfn7 rfl rfl (by decide) (awake7 hS) ?_
  clear hA hS; rintro v w1 a ⟨rfl, hS⟩ hA
  refine st_run tbOk 1 hA (e' := (21, .bool false) :: _) rfl ?_; clear hA; intro a hA
  refine wpList_nil ?_
  replace hA := hA.sel [0, 21] (e' := [(0, .slice A l.length c), (21, .bool false)]) rfl
  refine xt_norm ?_
  refine cd_cond_f hA rfl ?_
  refine wp_skip ?_
  refine xt_norm ?_
  refine wp_seq ?_
  refine wp_region_lit ?_
  refine st_run tbOk 1 hA (e' := (22, .agg #[.slice none 0 0]) :: _) rfl ?_; clear hA; intro a hA
  refine st_box hA hS [.slice none 0 0] rfl rfl rfl rfl rfl (by decide) ?_; clear hA hS; intro b2 w3 a hS hA
  obtain ⟨L4, hM5, hS⟩ : ∃ Z, GS w0 b2 [] Z [] ∧ St w0 w3 (Z :: F) := ⟨_, GS.new _ _, hS⟩
  replace hS := hS.nil
  refine st_run tbOk 1 hA (e' := (3, .pointer (some ⟨b2, 0, none⟩)) :: _) rfl ?_; clear hA; intro a hA
  refine wpList_nil ?_
  replace hA := hA.sel [0, 3] (e' := [(0, .slice A l.length c), (3, .pointer (some ⟨b2, 0, none⟩))]) rfl
  refine xt_norm ?_
  refine wp_seq ?_
  refine wp_region_lit ?_
  refine st_run tbOk 1 hA (e' := (4, .slice none 0 0) :: _) rfl ?_; clear hA; intro a hA
  refine wpList_nil ?_
  refine xt_norm ?_
  refine wp_seq ?_
  refine wp_seq ?_
  refine wp_region_lit ?_
  refine st_run tbOk 3 hA (e' := (26, .int .i64 0) :: (25, .int .i64 ((l.length : Nat) : Int)) :: (24, .slice A l.length c) :: _) rfl ?_; clear hA; intro a hA
  refine wpList_nil ?_
  replace hA := hA.sel [3, 4, 24, 25, 26] (e' := [(3, .pointer (some ⟨b2, 0, none⟩)), (4, .slice none 0 0), (24, .slice A l.length c), (25, .int .i64 ((l.length : Nat) : Int)), (26, .int .i64 0)]) rfl
  refine xt_norm ?_
  refine wp_block ?_
  replace hS := hS.nil
  replace hS := hS.nil
  replace hS := hS.front 2 (C := []) (L' := [] :: [] :: L4 :: F) rfl rfl
  replace hS := hS.front 2 (C := []) (L' := [] :: [] :: L4 :: F) rfl rfl
  replace hS := hS.front 2 (C := []) (L' := [] :: [] :: L4 :: F) rfl rfl
  replace hS := hS.front 3 (C := L4) (L' := [] :: [] :: [] :: F) rfl rfl
  refine wp_loop_ghost (fun m a w => ∃ (k : Nat) (vs : List GV) (os : List OPk) (L : Chunk) (D : Chunk) (Co : Chunk) (Q : Chunk) (Ao : Option Addr) (co : Nat), m = l.length - k ∧ Has a 217 [(3, .pointer (some ⟨b2, 0, none⟩)), (4, .slice Ao os.length co), (24, .slice A l.length c), (25, .int .i64 ((l.length : Nat) : Int)), (26, .int .i64 ((k : Nat) : Int))] ∧ St w0 w (L :: D :: Co :: Q :: F) ∧ (k ≤ l.length) ∧ (GS w0 b2 vs L D) ∧ (Own 24 1 (.slice Ao (os).length co) (os).length (rows encO (os)) Co) ∧ (∀ x ∈ os, RO w0 Q x) ∧ (∀ x ∈ os, ∀ y ∈ oq x, ∀ D, encPacket_dd w0 D y) ∧ (RL vs (os.map oq))) (l.length - 0)
    ⟨0, ([]), ([]), L4, ([]), ([]), ([]), none, 0, rfl, (hA.sel [3, 4, 24, 25, 26] rfl), hS, Nat.zero_le _, hM5, (Own.nil 24 1), (fun x hx => by simp at hx), (fun x hx => by simp at hx), RL.nil⟩ ?_
  clear hA hS; rintro m0 a w6 ⟨k, vs, os, L, D, Co, Q, Ao, co, rfl, hA, hS, hk, hM, hO, hQ, hG, hRL⟩
  have hvl : vs.length = os.length := by have h := hRL.len; rw [List.length_map] at h; exact h
  have hvle := hRL.le
  have hcro := hO.rcap
  refine wp_seq ?_
  refine wp_region_lit ?_
  refine st_run tbOk 1 hA (e' := (27, .bool (decide (((k : Nat) : Int) < ((l.length : Nat) : Int)))) :: _) rfl ?_; clear hA; intro a hA
  refine wpList_nil ?_
  refine xt_norm ?_
  refine wp_seq ?_
  by_cases hc7 : ((k : Nat) : Int) < ((l.length : Nat) : Int)
  · first
    | (exfalso; first | omega | (dsimp only; omega))
    | (replace hA := hA.rw 27 (v' := .bool true) rfl (vb_true hc7)
       refine cd_cond_t hA rfl ?_
       refine wp_skip ?_
       refine xt_norm ?_
       refine wp_seq ?_
       refine wp_block ?_
       refine wp_seq ?_
       refine wp_region_lit ?_
       obtain ⟨b8, o9, rfl⟩ := (hr _ (hS.tail 4 rfl)).isSome (k := k) (by first | omega | (dsimp only; omega))
       refine st_val hA rfl rfl (by decide) (rn_indexAddr tbOk hA k (o9 + (k * 4)) rfl rfl rfl rfl rfl rfl (by rfl) (by first | omega | (dsimp only; omega)) (by first | rfl | simp [Nat.mul_one, Nat.zero_add] | omega)) ?_; clear hA; intro a hA
       obtain ⟨x10, hx10⟩ := get_ex (l := l) (k := k) (by first | omega | (dsimp only; omega))
       obtain ⟨x10f0, x10f1, x10f2, x10A3, x10c3, x10b3⟩ := x10
       have hd11 := (fun x hx => encCome_gdd (D := D) (hw x hx)) _ (List.mem_of_getElem? hx10)
       have hgo := hw _ (List.mem_of_getElem? hx10)
       obtain ⟨hu0, hu1, hu2, hdl0⟩ := hgo; dsimp only at hu0 hu1 hu2 hdl0
       have hdl := hdl0.1; have hbl := hdl0.2
       have hfr1 : x10f0.tmod 2 = x10f0 % 2 := Int.tmod_eq_emod_of_nonneg (by omega); have hid1 : x10f0.tmod 24 = x10f0 % 24 := Int.tmod_eq_emod_of_nonneg (by omega)
       obtain ⟨fr, hfr⟩ : ∃ z, z = x10f0.tmod 2 := ⟨_, rfl⟩; obtain ⟨id, hid⟩ : ∃ z, z = x10f0.tmod 24 := ⟨_, rfl⟩
       refine st_val hA rfl rfl (by decide) (rn_loadA tbOk hA ([.int .u8 x10f0, .int .i8 x10f1, .int .i8 x10f2, .slice x10A3 x10b3.length x10c3]) rfl rfl rfl rfl (by rfl) ((hr _ (hS.tail 4 rfl)).elem (k := k) encCome_ok hx10)) ?_; clear hA; intro a hA
       refine st_alloc tbOk hA hS [.int .u8 0, .int .i8 0, .int .i8 0, .slice none 0 0] rfl rfl rfl rfl rfl (by decide) ?_; clear hA hS; intro b12 w13 a hS hA
       refine st_store tbOk hA hS [.int .u8 x10f0, .int .i8 x10f1, .int .i8 x10f2, .slice x10A3 x10b3.length x10c3] [.int .u8 x10f0, .int .i8 x10f1, .int .i8 x10f2, .slice x10A3 x10b3.length x10c3] rfl rfl rfl rfl rfl rfl (by simp [Value.oneCell']) (Nat.le_of_ble_eq_true rfl) rfl rfl rfl ?_; clear hS; intro w14 hS
       refine wpList_nil ?_
       replace hA := hA.sel [3, 4, 6, 24, 25, 26] (e' := [(3, .pointer (some ⟨b2, 0, none⟩)), (4, .slice Ao os.length co), (6, .pointer (some ⟨b12, 0, none⟩)), (24, .slice (some ⟨b8, o9, none⟩) l.length c), (25, .int .i64 ((l.length : Nat) : Int)), (26, .int .i64 ((k : Nat) : Int))]) rfl
       refine xt_norm ?_
       refine wp_seq ?_
       refine wp_region_lit ?_
       refine st_val hA rfl rfl (by decide) (rn_loadA tbOk hA [.int .u8 x10f0, .int .i8 x10f1, .int .i8 x10f2, .slice x10A3 x10b3.length x10c3] rfl rfl rfl rfl rfl (cells_row (hS.heapAt 0 rfl) rfl)) ?_; clear hA; intro a hA
       refine st_call0 hA rfl rfl rfl isfn11 rfl rfl (by decide) (pkt11 hS x10f0 x10f1 x10f2 x10A3 x10c3 x10b3 hu0 hu1 hu2) ?_
       clear hA hS; rintro v w15 a ⟨hv, hS⟩ hA; rw [← hfr, ← hid] at hv; subst hv
       refine st_alloc tbOk hA hS [.int .i64 0, .int .i64 0, .int .u64 0, .int .i64 0, .int .i64 0, .slice none 0 0] rfl rfl rfl rfl rfl (by decide) ?_; clear hA hS; intro b16 w17 a hS hA
       refine st_store tbOk hA hS [.int .i64 fr, .int .i64 3, .int .u64 id, .int .i64 x10f1, .int .i64 x10f2, .slice x10A3 x10b3.length x10c3] [.int .i64 fr, .int .i64 3, .int .u64 id, .int .i64 x10f1, .int .i64 x10f2, .slice x10A3 x10b3.length x10c3] rfl rfl rfl rfl rfl rfl (by simp [Value.oneCell']) (Nat.le_of_ble_eq_true rfl) rfl rfl rfl ?_; clear hS; intro w18 hS
       refine wpList_nil ?_
       replace hA := hA.sel [3, 4, 7, 24, 25, 26] (e' := [(3, .pointer (some ⟨b2, 0, none⟩)), (4, .slice Ao os.length co), (7, .pointer (some ⟨b16, 0, none⟩)), (24, .slice (some ⟨b8, o9, none⟩) l.length c), (25, .int .i64 ((l.length : Nat) : Int)), (26, .int .i64 ((k : Nat) : Int))]) rfl
       refine xt_norm ?_
       refine wp_seq ?_
       refine wp_region_lit ?_
       rcases Classical.em (1 ≤ x10f2 ∧ x10f2 ≤ 256 ∧ 0 ≤ x10f1 ∧ x10f1 < x10f2 ∧ x10b3.length ≤ 32768) with hm | hm
       · obtain ⟨ix, hix⟩ := Int.eq_ofNat_of_zero_le hm.2.2.1; obtain ⟨cn, hcn⟩ := Int.eq_ofNat_of_zero_le (show 0 ≤ x10f2 by omega)
         subst hix; subst hcn
         refine st_run tbOk 1 hA (e' := (33, .pointer (some ⟨b2, 0, none⟩)) :: _) rfl ?_; clear hA; intro a hA
         refine st_val hA rfl rfl (by decide) (rn_loadA tbOk hA [.int .i64 fr, .int .i64 3, .int .u64 id, .int .i64 ((ix : Nat) : Int), .int .i64 ((cn : Nat) : Int), .slice x10A3 x10b3.length x10c3] rfl rfl rfl rfl rfl (cells_row (hS.heapAt 0 rfl) rfl)) ?_; clear hA; intro a hA
         replace hS := hS.front 3 (C := D) (L' := [(b16, rowO [.int .i64 fr, .int .i64 3, .int .u64 id, .int .i64 ((ix : Nat) : Int), .int .i64 ((cn : Nat) : Int), .slice x10A3 x10b3.length x10c3] 38)] :: [(b12, rowO [.int .u8 x10f0, .int .i8 ((ix : Nat) : Int), .int .i8 ((cn : Nat) : Int), .slice x10A3 x10b3.length x10c3] 46)] :: L :: Co :: Q :: F) rfl rfl
         replace hS := hS.front 3 (C := L) (L' := D :: [(b16, rowO [.int .i64 fr, .int .i64 3, .int .u64 id, .int .i64 ((ix : Nat) : Int), .int .i64 ((cn : Nat) : Int), .slice x10A3 x10b3.length x10c3] 38)] :: [(b12, rowO [.int .u8 x10f0, .int .i8 ((ix : Nat) : Int), .int .i8 ((cn : Nat) : Int), .slice x10A3 x10b3.length x10c3] 46)] :: Co :: Q :: F) rfl rfl
         refine st_call0 hA rfl rfl rfl isfn9 rfl rfl (by decide) (addRL hS hM hRL fr id ix cn (bs := x10b3) (fun w' h => (hd11 _ (h.only 0 rfl))) (by omega) (by omega) (by omega)) ?_
         clear hA hS; rintro _ w19 a ⟨vs', L2, E2, Cb, Ab, cb, bsr, okb, hM2, hOb, rfl, hAR, hS⟩ hA
         have hcb := hOb.rcap
         have hpg : ∀ D, encPacket_dd w0 D (fr, 3, id, ((ix : Nat) : Int), ((cn : Nat) : Int), x10A3, x10c3, x10b3) := fun D => DD.of hdl
         refine st_run tbOk 5 hA (e' := (9, .bool okb) :: (8, .slice Ab bsr.length cb) :: (37, .bool okb) :: (36, .slice Ab bsr.length cb) :: (32, .tuple #[.slice Ab bsr.length cb, .bool okb]) :: _) rfl ?_; clear hA; intro a hA
         refine wpList_nil ?_
         replace hA := hA.sel [3, 4, 7, 8, 9, 24, 25, 26] (e' := [(3, .pointer (some ⟨b2, 0, none⟩)), (4, .slice Ao os.length co), (7, .pointer (some ⟨b16, 0, none⟩)), (8, .slice Ab bsr.length cb), (9, .bool okb), (24, .slice (some ⟨b8, o9, none⟩) l.length c), (25, .int .i64 ((l.length : Nat) : Int)), (26, .int .i64 ((k : Nat) : Int))]) rfl
         refine xt_norm ?_
         refine wp_seq ?_
         refine wp_seq ?_
         refine wp_region_lit ?_
         refine st_val hA rfl rfl (by decide) (rn_loadA tbOk hA [.int .i64 fr, .int .i64 3, .int .u64 id, .int .i64 ((ix : Nat) : Int), .int .i64 ((cn : Nat) : Int), .slice x10A3 x10b3.length x10c3] rfl rfl rfl rfl rfl (cells_row (hS.heapAt 3 rfl) rfl)) ?_; clear hA; intro a hA
         refine st_call0 hA rfl rfl rfl isfn12 rfl rfl (by decide) (may12 hS fr 3 id ((ix : Nat) : Int) ((cn : Nat) : Int) x10A3 x10c3 x10b3) ?_
         clear hA hS; rintro v w20 a ⟨rfl, hS⟩ hA
         have hc21 : 1 ≤ ((cn : Nat) : Int) ∧ ((cn : Nat) : Int) ≤ 256 ∧ 0 ≤ ((ix : Nat) : Int) ∧ ((ix : Nat) : Int) < ((cn : Nat) : Int) ∧ x10b3.length ≤ 32768 := by omega
         replace hA := hA.rw 39 (v' := .bool true) rfl (vb_true hc21)
         refine st_run tbOk 1 hA (e' := (40, .bool false) :: _) rfl ?_; clear hA; intro a hA
         refine wpList_nil ?_
         replace hA := hA.sel [3, 4, 7, 8, 9, 24, 25, 26, 40] (e' := [(3, .pointer (some ⟨b2, 0, none⟩)), (4, .slice Ao os.length co), (7, .pointer (some ⟨b16, 0, none⟩)), (8, .slice Ab bsr.length cb), (9, .bool okb), (24, .slice (some ⟨b8, o9, none⟩) l.length c), (25, .int .i64 ((l.length : Nat) : Int)), (26, .int .i64 ((k : Nat) : Int)), (40, .bool false)]) rfl
         refine xt_norm ?_
         refine cd_cond_f hA rfl ?_
         refine wp_skip ?_
         refine xt_norm ?_
         refine wp_seq ?_
         refine wp_region_lit ?_
         refine st_run tbOk 1 hA (e' := (10, .int .i64 (-1)) :: _) rfl ?_; clear hA; intro a hA
         refine wpList_nil ?_
         replace hA := hA.sel [3, 4, 7, 8, 9, 10, 24, 25, 26] (e' := [(3, .pointer (some ⟨b2, 0, none⟩)), (4, .slice Ao os.length co), (7, .pointer (some ⟨b16, 0, none⟩)), (8, .slice Ab bsr.length cb), (9, .bool okb), (10, .int .i64 (-1)), (24, .slice (some ⟨b8, o9, none⟩) l.length c), (25, .int .i64 ((l.length : Nat) : Int)), (26, .int .i64 ((k : Nat) : Int))]) rfl
         refine xt_norm ?_
         refine wp_seq ?_
         refine wp_seq ?_
         refine wp_region_lit ?_
         refine st_run tbOk 3 hA (e' := (56, .int .i64 0) :: (55, .int .i64 ((os.length : Nat) : Int)) :: (54, .slice Ao os.length co) :: _) rfl ?_; clear hA; intro a hA
         refine wpList_nil ?_
         replace hA := hA.sel [3, 4, 7, 8, 9, 10, 24, 25, 26, 55, 56] (e' := [(3, .pointer (some ⟨b2, 0, none⟩)), (4, .slice Ao os.length co), (7, .pointer (some ⟨b16, 0, none⟩)), (8, .slice Ab bsr.length cb), (9, .bool okb), (10, .int .i64 (-1)), (24, .slice (some ⟨b8, o9, none⟩) l.length c), (25, .int .i64 ((l.length : Nat) : Int)), (26, .int .i64 ((k : Nat) : Int)), (55, .int .i64 ((os.length : Nat) : Int)), (56, .int .i64 0)]) rfl
         refine xt_norm ?_
         refine wp_block ?_
         replace hS := hS.front 4 (C := [(b12, rowO [.int .u8 x10f0, .int .i8 ((ix : Nat) : Int), .int .i8 ((cn : Nat) : Int), .slice x10A3 x10b3.length x10c3] 46)]) (L' := Cb :: L2 :: (E2 ++ D) :: [(b16, rowO [.int .i64 fr, .int .i64 3, .int .u64 id, .int .i64 ((ix : Nat) : Int), .int .i64 ((cn : Nat) : Int), .slice x10A3 x10b3.length x10c3] 38)] :: Co :: Q :: F) rfl rfl
         replace hS := hS.drop1
         replace hS := hS.front 3 (C := [(b16, rowO [.int .i64 fr, .int .i64 3, .int .u64 id, .int .i64 ((ix : Nat) : Int), .int .i64 ((cn : Nat) : Int), .slice x10A3 x10b3.length x10c3] 38)]) (L' := Cb :: L2 :: (E2 ++ D) :: Co :: Q :: F) rfl rfl
         replace hS := hS.front 5 (C := Q) (L' := [(b16, rowO [.int .i64 fr, .int .i64 3, .int .u64 id, .int .i64 ((ix : Nat) : Int), .int .i64 ((cn : Nat) : Int), .slice x10A3 x10b3.length x10c3] 38)] :: Cb :: L2 :: (E2 ++ D) :: Co :: F) rfl rfl
         replace hS := hS.front 5 (C := Co) (L' := Q :: [(b16, rowO [.int .i64 fr, .int .i64 3, .int .u64 id, .int .i64 ((ix : Nat) : Int), .int .i64 ((cn : Nat) : Int), .slice x10A3 x10b3.length x10c3] 38)] :: Cb :: L2 :: (E2 ++ D) :: F) rfl rfl
         replace hS := hS.front 5 (C := (E2 ++ D)) (L' := Co :: Q :: [(b16, rowO [.int .i64 fr, .int .i64 3, .int .u64 id, .int .i64 ((ix : Nat) : Int), .int .i64 ((cn : Nat) : Int), .slice x10A3 x10b3.length x10c3] 38)] :: Cb :: L2 :: F) rfl rfl
         replace hS := hS.front 5 (C := L2) (L' := (E2 ++ D) :: Co :: Q :: [(b16, rowO [.int .i64 fr, .int .i64 3, .int .u64 id, .int .i64 ((ix : Nat) : Int), .int .i64 ((cn : Nat) : Int), .slice x10A3 x10b3.length x10c3] 38)] :: Cb :: F) rfl rfl
         replace hS := hS.front 5 (C := Cb) (L' := L2 :: (E2 ++ D) :: Co :: Q :: [(b16, rowO [.int .i64 fr, .int .i64 3, .int .u64 id, .int .i64 ((ix : Nat) : Int), .int .i64 ((cn : Nat) : Int), .slice x10A3 x10b3.length x10c3] 38)] :: F) rfl rfl
         refine wp_loop_ghost (fun m a w => ∃ (i : Nat) (aq : Int), m = os.length - i ∧ Has a 217 [(3, .pointer (some ⟨b2, 0, none⟩)), (4, .slice Ao os.length co), (7, .pointer (some ⟨b16, 0, none⟩)), (8, .slice Ab bsr.length cb), (9, .bool okb), (10, .int .i64 aq), (24, .slice (some ⟨b8, o9, none⟩) l.length c), (25, .int .i64 ((l.length : Nat) : Int)), (26, .int .i64 ((k : Nat) : Int)), (55, .int .i64 ((os.length : Nat) : Int)), (56, .int .i64 ((i : Nat) : Int))] ∧ St w0 w (Cb :: L2 :: (E2 ++ D) :: Co :: Q :: [(b16, rowO [.int .i64 fr, .int .i64 3, .int .u64 id, .int .i64 ((ix : Nat) : Int), .int .i64 ((cn : Nat) : Int), .slice x10A3 x10b3.length x10c3] 38)] :: F) ∧ (i ≤ os.length) ∧ (FI (os.map oq) fr id i aq)) (os.length - 0)
           ⟨0, (-1), rfl, (hA.sel [3, 4, 7, 8, 9, 10, 24, 25, 26, 55, 56] rfl), hS, Nat.zero_le _, FI.zero⟩ ?_
         clear hA hS; rintro m0 a w22 ⟨i, aq, rfl, hA, hS, hi, hfi⟩
         have hab := hfi.bnd
         refine wp_seq ?_
         refine wp_region_lit ?_
         refine st_run tbOk 1 hA (e' := (57, .bool (decide (((i : Nat) : Int) < ((os.length : Nat) : Int)))) :: _) rfl ?_; clear hA; intro a hA
         refine wpList_nil ?_
         refine xt_norm ?_
         refine wp_seq ?_
         by_cases hc23 : ((i : Nat) : Int) < ((os.length : Nat) : Int)
         · first
           | (exfalso; first | omega | (dsimp only; omega))
           | (replace hA := hA.rw 57 (v' := .bool true) rfl (vb_true hc23)
              refine cd_cond_t hA rfl ?_
              refine wp_skip ?_
              refine xt_norm ?_
              refine wp_seq ?_
              refine wp_block ?_
              refine wp_seq ?_
              refine wp_region_lit ?_
              obtain ⟨⟨B9, e9, q9⟩, hx9⟩ := get_ex (l := os) (k := i) (by omega)
              have hxm := map_get hx9; have hql := hRL.ql hxm
              obtain ⟨⟨y0, y1, y2, y3, y4, yA, yc, yb⟩, q8, hq9⟩ : ∃ (y : Pkt) (q8 : List Pkt), q9 = y :: q8 := by
                  cases q9 with
                  | nil => simp at hql
                  | cons y q8 => exact ⟨y, q8, rfl⟩
              have hy0 : q9[0]? = some (y0, y1, y2, y3, y4, yA, yc, yb) := by rw [hq9]; rfl
              have hro : ∀ w', St w0 w' [Q] → Rd w' 6 (.slice B9 q9.length e9) q9.length (rows encPacket q9) := hQ _ (List.mem_of_getElem? hx9)
              have hgo9 := hG _ (List.mem_of_getElem? hx9)
              rcases (show (¬ y2 = id) ∨ (y2 = id ∧ ¬ y0 = fr) ∨ (y2 = id ∧ y0 = fr) by omega) with hk2 | ⟨hk2, hk0⟩ | ⟨hk2, hk0⟩
              · have hmk9 : ¬ (mkq fr id q9) := by rw [hq9, mk_of]; exact fun h => hk2 h.2
                refine st_run tbOk 2 hA (e' := (11, .int .i64 ((i : Nat) : Int)) :: (58, .int .i64 ((i : Nat) : Int)) :: _) rfl ?_; clear hA; intro a hA
                refine wpList_nil ?_
                replace hA := hA.sel [3, 4, 7, 8, 9, 10, 11, 24, 25, 26, 55, 56] (e' := [(3, .pointer (some ⟨b2, 0, none⟩)), (4, .slice Ao os.length co), (7, .pointer (some ⟨b16, 0, none⟩)), (8, .slice Ab bsr.length cb), (9, .bool okb), (10, .int .i64 aq), (11, .int .i64 ((i : Nat) : Int)), (24, .slice (some ⟨b8, o9, none⟩) l.length c), (25, .int .i64 ((l.length : Nat) : Int)), (26, .int .i64 ((k : Nat) : Int)), (55, .int .i64 ((os.length : Nat) : Int)), (56, .int .i64 ((i : Nat) : Int))]) rfl
                refine xt_norm ?_
                refine wp_seq ?_
                obtain ⟨b24, o25, rfl⟩ := hO.isSome (k := i) (by first | omega | (dsimp only; omega))
                obtain ⟨b26, o27, rfl⟩ := (hro _ (hS.only 4 rfl)).isSome (k := 0) (by first | omega | (dsimp only; omega))
                refine wp_draw (fun w' => St w0 w' (Cb :: L2 :: (E2 ++ D) :: Co :: Q :: [(b16, rowO [.int .i64 fr, .int .i64 3, .int .u64 id, .int .i64 ((ix : Nat) : Int), .int .i64 ((cn : Nat) : Int), .slice x10A3 x10b3.length x10c3] 38)] :: F)) [] [(0, true), (1, true), (2, true), (3, true), (4, true), (5, true), (6, true), (7, true), (8, true), (9, true), (10, true), (11, true), (12, true), (13, true), (14, true), (15, true), (16, true), (17, true), (18, true), (19, true), (20, true), (21, true)] mixed (by kernel_rfl) (by rintro c a w ⟨_, _, h, _⟩; cases h) (by rfl) (by kernel_rfl) ?_
                replace hS := hS.drew
                refine dr_run tbOk 2 hA hS (e' := (60, .int .i64 ((i : Nat) : Int)) :: (59, .slice (some ⟨b24, o25, none⟩) os.length co) :: _) rfl ?_; clear hA; intro a hA
                refine dr_y hA rfl rfl rfl (by decide) hS (fun w' hS' => rn_indexAddr tbOk hA i (o25 + i) rfl rfl rfl rfl rfl rfl (by rfl) (by first | omega | (dsimp only; omega)) (by first | rfl | simp [Nat.mul_one, Nat.zero_add] | omega)) ?_; clear hA; intro a hA
                refine dr_y hA rfl rfl rfl (by decide) hS (fun w' hS' => rn_load tbOk hA rfl rfl rfl rfl ((hO.rd (hS'.own_ 3 rfl)).elem0 (k := i) encO_ok hx9 rfl)) ?_; clear hA; intro a hA
                refine dr_y hA rfl rfl rfl (by decide) hS (fun w' hS' => rn_indexAddr tbOk hA 0 o27 rfl rfl rfl rfl rfl rfl (by rfl) (by first | omega | (dsimp only; omega)) (by first | rfl | simp [Nat.mul_one, Nat.zero_add] | omega)) ?_; clear hA; intro a hA
                refine dr_run tbOk 1 hA hS (e' := (64, .pointer (some ⟨b26, o27 + 2, none⟩)) :: _) rfl ?_; clear hA; intro a hA
                refine dr_y hA rfl rfl rfl (by decide) hS (fun w' hS' => rn_load tbOk hA rfl rfl rfl rfl ((hro _ (hS'.only 4 rfl)).elemf (k := 0) encPacket_ok hy0 (j := 2) rfl)) ?_; clear hA; intro a hA
                refine dr_run tbOk 1 hA hS (e' := (66, .pointer (some ⟨b16, 2, none⟩)) :: _) rfl ?_; clear hA; intro a hA
                refine dr_y hA rfl rfl rfl (by decide) hS (fun w' hS' => rn_load tbOk hA rfl rfl rfl rfl (cell_row (hS'.heapAt 5 rfl) rfl)) ?_; clear hA; intro a hA
                refine dr_run tbOk 1 hA hS (e' := (68, .bool (y2 == id)) :: _) rfl ?_; clear hA; intro a hA
                replace hA := hA.rw 68 (v' := .bool false) rfl (vb_eq_f hk2)
                refine dr_run tbOk 11 hA hS (e' := (79, undef) :: (78, undef) :: (77, undef) :: (76, undef) :: (75, undef) :: (74, undef) :: (73, undef) :: (72, undef) :: (71, undef) :: (70, undef) :: (69, .bool false) :: _) rfl ?_; clear hA; intro a hA
                refine dr_run tbOk 1 hA hS (e' := (80, .bool false) :: _) rfl ?_; clear hA; intro a hA
                refine dr_end ?_
                replace hA := hA.sel [3, 4, 7, 8, 9, 10, 11, 24, 25, 26, 55, 56, 80] (e' := [(3, .pointer (some ⟨b2, 0, none⟩)), (4, .slice (some ⟨b24, o25, none⟩) os.length co), (7, .pointer (some ⟨b16, 0, none⟩)), (8, .slice Ab bsr.length cb), (9, .bool okb), (10, .int .i64 aq), (11, .int .i64 ((i : Nat) : Int)), (24, .slice (some ⟨b8, o9, none⟩) l.length c), (25, .int .i64 ((l.length : Nat) : Int)), (26, .int .i64 ((k : Nat) : Int)), (55, .int .i64 ((os.length : Nat) : Int)), (56, .int .i64 ((i : Nat) : Int)), (80, .bool false)]) rfl
                refine xt_norm ?_
                refine cd_cond_f hA rfl ?_
                refine wp_skip ?_
                refine xb_norm ?_
                refine xt_norm ?_
                refine wp_region_lit ?_
                refine st_run tbOk 1 hA (e' := (82, .int .i64 (IntKind.i64.wrap (((i : Nat) : Int) + 1))) :: _) rfl ?_; clear hA; intro a hA
                replace hA := hA.rw 82 (v' := .int .i64 ((i + 1 : Nat) : Int)) rfl (wr64 (by first | omega | (dsimp only; omega)) (by first | omega | (dsimp only; omega)) (by first | omega | (dsimp only; omega)))
                refine st_run tbOk 1 hA (e' := (56, .int .i64 ((i + 1 : Nat) : Int)) :: _) rfl ?_; clear hA; intro a hA
                refine wpList_nil ?_
                replace hA := hA.sel [3, 4, 7, 8, 9, 10, 24, 25, 26, 55, 56] (e' := [(3, .pointer (some ⟨b2, 0, none⟩)), (4, .slice (some ⟨b24, o25, none⟩) os.length co), (7, .pointer (some ⟨b16, 0, none⟩)), (8, .slice Ab bsr.length cb), (9, .bool okb), (10, .int .i64 aq), (24, .slice (some ⟨b8, o9, none⟩) l.length c), (25, .int .i64 ((l.length : Nat) : Int)), (26, .int .i64 ((k : Nat) : Int)), (55, .int .i64 ((os.length : Nat) : Int)), (56, .int .i64 ((i + 1 : Nat) : Int))]) rfl
                replace hS := hS.front 5 (C := [(b16, rowO [.int .i64 fr, .int .i64 3, .int .u64 id, .int .i64 ((ix : Nat) : Int), .int .i64 ((cn : Nat) : Int), .slice x10A3 x10b3.length x10c3] 38)]) (L' := Cb :: L2 :: (E2 ++ D) :: Co :: Q :: F) rfl rfl
                replace hS := hS.front 5 (C := Q) (L' := [(b16, rowO [.int .i64 fr, .int .i64 3, .int .u64 id, .int .i64 ((ix : Nat) : Int), .int .i64 ((cn : Nat) : Int), .slice x10A3 x10b3.length x10c3] 38)] :: Cb :: L2 :: (E2 ++ D) :: Co :: F) rfl rfl
                replace hS := hS.front 5 (C := Co) (L' := Q :: [(b16, rowO [.int .i64 fr, .int .i64 3, .int .u64 id, .int .i64 ((ix : Nat) : Int), .int .i64 ((cn : Nat) : Int), .slice x10A3 x10b3.length x10c3] 38)] :: Cb :: L2 :: (E2 ++ D) :: F) rfl rfl
                replace hS := hS.front 5 (C := (E2 ++ D)) (L' := Co :: Q :: [(b16, rowO [.int .i64 fr, .int .i64 3, .int .u64 id, .int .i64 ((ix : Nat) : Int), .int .i64 ((cn : Nat) : Int), .slice x10A3 x10b3.length x10c3] 38)] :: Cb :: L2 :: F) rfl rfl
                replace hS := hS.front 5 (C := L2) (L' := (E2 ++ D) :: Co :: Q :: [(b16, rowO [.int .i64 fr, .int .i64 3, .int .u64 id, .int .i64 ((ix : Nat) : Int), .int .i64 ((cn : Nat) : Int), .slice x10A3 x10b3.length x10c3] 38)] :: Cb :: F) rfl rfl
                replace hS := hS.front 5 (C := Cb) (L' := L2 :: (E2 ++ D) :: Co :: Q :: [(b16, rowO [.int .i64 fr, .int .i64 3, .int .u64 id, .int .i64 ((ix : Nat) : Int), .int .i64 ((cn : Nat) : Int), .slice x10A3 x10b3.length x10c3] 38)] :: F) rfl rfl
                exact lp_next _ (by omega) ⟨(i + 1), aq, rfl, (hA.sel [3, 4, 7, 8, 9, 10, 24, 25, 26, 55, 56] rfl), hS, by omega, (FI.no hfi hxm hmk9)⟩
              · have hmk9 : ¬ (mkq fr id q9) := by rw [hq9, mk_of]; exact fun h => hk0 h.1
                refine st_run tbOk 2 hA (e' := (11, .int .i64 ((i : Nat) : Int)) :: (58, .int .i64 ((i : Nat) : Int)) :: _) rfl ?_; clear hA; intro a hA
                refine wpList_nil ?_
                replace hA := hA.sel [3, 4, 7, 8, 9, 10, 11, 24, 25, 26, 55, 56] (e' := [(3, .pointer (some ⟨b2, 0, none⟩)), (4, .slice Ao os.length co), (7, .pointer (some ⟨b16, 0, none⟩)), (8, .slice Ab bsr.length cb), (9, .bool okb), (10, .int .i64 aq), (11, .int .i64 ((i : Nat) : Int)), (24, .slice (some ⟨b8, o9, none⟩) l.length c), (25, .int .i64 ((l.length : Nat) : Int)), (26, .int .i64 ((k : Nat) : Int)), (55, .int .i64 ((os.length : Nat) : Int)), (56, .int .i64 ((i : Nat) : Int))]) rfl
                refine xt_norm ?_
                refine wp_seq ?_
                obtain ⟨b28, o29, rfl⟩ := hO.isSome (k := i) (by first | omega | (dsimp only; omega))
                obtain ⟨b30, o31, rfl⟩ := (hro _ (hS.only 4 rfl)).isSome (k := 0) (by first | omega | (dsimp only; omega))
                refine wp_draw (fun w' => St w0 w' (Cb :: L2 :: (E2 ++ D) :: Co :: Q :: [(b16, rowO [.int .i64 fr, .int .i64 3, .int .u64 id, .int .i64 ((ix : Nat) : Int), .int .i64 ((cn : Nat) : Int), .slice x10A3 x10b3.length x10c3] 38)] :: F)) [] [(0, true), (1, true), (2, true), (3, true), (4, true), (5, true), (6, true), (7, true), (8, true), (9, true), (10, true), (11, true), (12, true), (13, true), (14, true), (15, true), (16, true), (17, true), (18, true), (19, true), (20, true), (21, true)] mixed (by kernel_rfl) (by rintro c a w ⟨_, _, h, _⟩; cases h) (by rfl) (by kernel_rfl) ?_
                replace hS := hS.drew
                refine dr_run tbOk 2 hA hS (e' := (60, .int .i64 ((i : Nat) : Int)) :: (59, .slice (some ⟨b28, o29, none⟩) os.length co) :: _) rfl ?_; clear hA; intro a hA
                refine dr_y hA rfl rfl rfl (by decide) hS (fun w' hS' => rn_indexAddr tbOk hA i (o29 + i) rfl rfl rfl rfl rfl rfl (by rfl) (by first | omega | (dsimp only; omega)) (by first | rfl | simp [Nat.mul_one, Nat.zero_add] | omega)) ?_; clear hA; intro a hA
                refine dr_y hA rfl rfl rfl (by decide) hS (fun w' hS' => rn_load tbOk hA rfl rfl rfl rfl ((hO.rd (hS'.own_ 3 rfl)).elem0 (k := i) encO_ok hx9 rfl)) ?_; clear hA; intro a hA
                refine dr_y hA rfl rfl rfl (by decide) hS (fun w' hS' => rn_indexAddr tbOk hA 0 o31 rfl rfl rfl rfl rfl rfl (by rfl) (by first | omega | (dsimp only; omega)) (by first | rfl | simp [Nat.mul_one, Nat.zero_add] | omega)) ?_; clear hA; intro a hA
                refine dr_run tbOk 1 hA hS (e' := (64, .pointer (some ⟨b30, o31 + 2, none⟩)) :: _) rfl ?_; clear hA; intro a hA
                refine dr_y hA rfl rfl rfl (by decide) hS (fun w' hS' => rn_load tbOk hA rfl rfl rfl rfl ((hro _ (hS'.only 4 rfl)).elemf (k := 0) encPacket_ok hy0 (j := 2) rfl)) ?_; clear hA; intro a hA
                refine dr_run tbOk 1 hA hS (e' := (66, .pointer (some ⟨b16, 2, none⟩)) :: _) rfl ?_; clear hA; intro a hA
                refine dr_y hA rfl rfl rfl (by decide) hS (fun w' hS' => rn_load tbOk hA rfl rfl rfl rfl (cell_row (hS'.heapAt 5 rfl) rfl)) ?_; clear hA; intro a hA
                refine dr_run tbOk 1 hA hS (e' := (68, .bool (y2 == id)) :: _) rfl ?_; clear hA; intro a hA
                replace hA := hA.rw 68 (v' := .bool true) rfl (vb_eq_t hk2)
                refine dr_run tbOk 3 hA hS (e' := (71, .int .i64 ((i : Nat) : Int)) :: (70, .slice (some ⟨b28, o29, none⟩) os.length co) :: (69, .bool true) :: _) rfl ?_; clear hA; intro a hA
                refine dr_y hA rfl rfl rfl (by decide) hS (fun w' hS' => rn_indexAddr tbOk hA i (o29 + i) rfl rfl rfl rfl rfl rfl (by rfl) (by first | omega | (dsimp only; omega)) (by first | rfl | simp [Nat.mul_one, Nat.zero_add] | omega)) ?_; clear hA; intro a hA
                refine dr_y hA rfl rfl rfl (by decide) hS (fun w' hS' => rn_load tbOk hA rfl rfl rfl rfl ((hO.rd (hS'.own_ 3 rfl)).elem0 (k := i) encO_ok hx9 rfl)) ?_; clear hA; intro a hA
                refine dr_y hA rfl rfl rfl (by decide) hS (fun w' hS' => rn_indexAddr tbOk hA 0 o31 rfl rfl rfl rfl rfl rfl (by rfl) (by first | omega | (dsimp only; omega)) (by first | rfl | simp [Nat.mul_one, Nat.zero_add] | omega)) ?_; clear hA; intro a hA
                refine dr_run tbOk 1 hA hS (e' := (75, .pointer (some ⟨b30, o31, none⟩)) :: _) rfl ?_; clear hA; intro a hA
                refine dr_y hA rfl rfl rfl (by decide) hS (fun w' hS' => rn_load tbOk hA rfl rfl rfl rfl ((hro _ (hS'.only 4 rfl)).elemf (k := 0) encPacket_ok hy0 (j := 0) rfl)) ?_; clear hA; intro a hA
                refine dr_run tbOk 1 hA hS (e' := (77, .pointer (some ⟨b16, 0, none⟩)) :: _) rfl ?_; clear hA; intro a hA
                refine dr_y hA rfl rfl rfl (by decide) hS (fun w' hS' => rn_load tbOk hA rfl rfl rfl rfl (cell_row (hS'.heapAt 5 rfl) rfl)) ?_; clear hA; intro a hA
                refine dr_run tbOk 1 hA hS (e' := (79, .bool (y0 == fr)) :: _) rfl ?_; clear hA; intro a hA
                replace hA := hA.rw 79 (v' := .bool false) rfl (vb_eq_f hk0)
                refine dr_run tbOk 1 hA hS (e' := (80, .bool false) :: _) rfl ?_; clear hA; intro a hA
                refine dr_end ?_
                replace hA := hA.sel [3, 4, 7, 8, 9, 10, 11, 24, 25, 26, 55, 56, 80] (e' := [(3, .pointer (some ⟨b2, 0, none⟩)), (4, .slice (some ⟨b28, o29, none⟩) os.length co), (7, .pointer (some ⟨b16, 0, none⟩)), (8, .slice Ab bsr.length cb), (9, .bool okb), (10, .int .i64 aq), (11, .int .i64 ((i : Nat) : Int)), (24, .slice (some ⟨b8, o9, none⟩) l.length c), (25, .int .i64 ((l.length : Nat) : Int)), (26, .int .i64 ((k : Nat) : Int)), (55, .int .i64 ((os.length : Nat) : Int)), (56, .int .i64 ((i : Nat) : Int)), (80, .bool false)]) rfl
                refine xt_norm ?_
                refine cd_cond_f hA rfl ?_
                refine wp_skip ?_
                refine xb_norm ?_
                refine xt_norm ?_
                refine wp_region_lit ?_
                refine st_run tbOk 1 hA (e' := (82, .int .i64 (IntKind.i64.wrap (((i : Nat) : Int) + 1))) :: _) rfl ?_; clear hA; intro a hA
                replace hA := hA.rw 82 (v' := .int .i64 ((i + 1 : Nat) : Int)) rfl (wr64 (by first | omega | (dsimp only; omega)) (by first | omega | (dsimp only; omega)) (by first | omega | (dsimp only; omega)))
                refine st_run tbOk 1 hA (e' := (56, .int .i64 ((i + 1 : Nat) : Int)) :: _) rfl ?_; clear hA; intro a hA
                refine wpList_nil ?_
                replace hA := hA.sel [3, 4, 7, 8, 9, 10, 24, 25, 26, 55, 56] (e' := [(3, .pointer (some ⟨b2, 0, none⟩)), (4, .slice (some ⟨b28, o29, none⟩) os.length co), (7, .pointer (some ⟨b16, 0, none⟩)), (8, .slice Ab bsr.length cb), (9, .bool okb), (10, .int .i64 aq), (24, .slice (some ⟨b8, o9, none⟩) l.length c), (25, .int .i64 ((l.length : Nat) : Int)), (26, .int .i64 ((k : Nat) : Int)), (55, .int .i64 ((os.length : Nat) : Int)), (56, .int .i64 ((i + 1 : Nat) : Int))]) rfl
                replace hS := hS.front 5 (C := [(b16, rowO [.int .i64 fr, .int .i64 3, .int .u64 id, .int .i64 ((ix : Nat) : Int), .int .i64 ((cn : Nat) : Int), .slice x10A3 x10b3.length x10c3] 38)]) (L' := Cb :: L2 :: (E2 ++ D) :: Co :: Q :: F) rfl rfl
                replace hS := hS.front 5 (C := Q) (L' := [(b16, rowO [.int .i64 fr, .int .i64 3, .int .u64 id, .int .i64 ((ix : Nat) : Int), .int .i64 ((cn : Nat) : Int), .slice x10A3 x10b3.length x10c3] 38)] :: Cb :: L2 :: (E2 ++ D) :: Co :: F) rfl rfl
                replace hS := hS.front 5 (C := Co) (L' := Q :: [(b16, rowO [.int .i64 fr, .int .i64 3, .int .u64 id, .int .i64 ((ix : Nat) : Int), .int .i64 ((cn : Nat) : Int), .slice x10A3 x10b3.length x10c3] 38)] :: Cb :: L2 :: (E2 ++ D) :: F) rfl rfl
                replace hS := hS.front 5 (C := (E2 ++ D)) (L' := Co :: Q :: [(b16, rowO [.int .i64 fr, .int .i64 3, .int .u64 id, .int .i64 ((ix : Nat) : Int), .int .i64 ((cn : Nat) : Int), .slice x10A3 x10b3.length x10c3] 38)] :: Cb :: L2 :: F) rfl rfl
                replace hS := hS.front 5 (C := L2) (L' := (E2 ++ D) :: Co :: Q :: [(b16, rowO [.int .i64 fr, .int .i64 3, .int .u64 id, .int .i64 ((ix : Nat) : Int), .int .i64 ((cn : Nat) : Int), .slice x10A3 x10b3.length x10c3] 38)] :: Cb :: F) rfl rfl
                replace hS := hS.front 5 (C := Cb) (L' := L2 :: (E2 ++ D) :: Co :: Q :: [(b16, rowO [.int .i64 fr, .int .i64 3, .int .u64 id, .int .i64 ((ix : Nat) : Int), .int .i64 ((cn : Nat) : Int), .slice x10A3 x10b3.length x10c3] 38)] :: F) rfl rfl
                exact lp_next _ (by omega) ⟨(i + 1), aq, rfl, (hA.sel [3, 4, 7, 8, 9, 10, 24, 25, 26, 55, 56] rfl), hS, by omega, (FI.no hfi hxm hmk9)⟩
              · have hmk9 : mkq fr id q9 := by rw [hq9, mk_of]; exact ⟨hk0, hk2⟩
                refine st_run tbOk 2 hA (e' := (11, .int .i64 ((i : Nat) : Int)) :: (58, .int .i64 ((i : Nat) : Int)) :: _) rfl ?_; clear hA; intro a hA
                refine wpList_nil ?_
                replace hA := hA.sel [3, 4, 7, 8, 9, 10, 11, 24, 25, 26, 55, 56] (e' := [(3, .pointer (some ⟨b2, 0, none⟩)), (4, .slice Ao os.length co), (7, .pointer (some ⟨b16, 0, none⟩)), (8, .slice Ab bsr.length cb), (9, .bool okb), (10, .int .i64 aq), (11, .int .i64 ((i : Nat) : Int)), (24, .slice (some ⟨b8, o9, none⟩) l.length c), (25, .int .i64 ((l.length : Nat) : Int)), (26, .int .i64 ((k : Nat) : Int)), (55, .int .i64 ((os.length : Nat) : Int)), (56, .int .i64 ((i : Nat) : Int))]) rfl
                refine xt_norm ?_
                refine wp_seq ?_
                obtain ⟨b32, o33, rfl⟩ := hO.isSome (k := i) (by first | omega | (dsimp only; omega))
                obtain ⟨b34, o35, rfl⟩ := (hro _ (hS.only 4 rfl)).isSome (k := 0) (by first | omega | (dsimp only; omega))
                refine wp_draw (fun w' => St w0 w' (Cb :: L2 :: (E2 ++ D) :: Co :: Q :: [(b16, rowO [.int .i64 fr, .int .i64 3, .int .u64 id, .int .i64 ((ix : Nat) : Int), .int .i64 ((cn : Nat) : Int), .slice x10A3 x10b3.length x10c3] 38)] :: F)) [] [(0, true), (1, true), (2, true), (3, true), (4, true), (5, true), (6, true), (7, true), (8, true), (9, true), (10, true), (11, true), (12, true), (13, true), (14, true), (15, true), (16, true), (17, true), (18, true), (19, true), (20, true), (21, true)] mixed (by kernel_rfl) (by rintro c a w ⟨_, _, h, _⟩; cases h) (by rfl) (by kernel_rfl) ?_
                replace hS := hS.drew
                refine dr_run tbOk 2 hA hS (e' := (60, .int .i64 ((i : Nat) : Int)) :: (59, .slice (some ⟨b32, o33, none⟩) os.length co) :: _) rfl ?_; clear hA; intro a hA
                refine dr_y hA rfl rfl rfl (by decide) hS (fun w' hS' => rn_indexAddr tbOk hA i (o33 + i) rfl rfl rfl rfl rfl rfl (by rfl) (by first | omega | (dsimp only; omega)) (by first | rfl | simp [Nat.mul_one, Nat.zero_add] | omega)) ?_; clear hA; intro a hA
                refine dr_y hA rfl rfl rfl (by decide) hS (fun w' hS' => rn_load tbOk hA rfl rfl rfl rfl ((hO.rd (hS'.own_ 3 rfl)).elem0 (k := i) encO_ok hx9 rfl)) ?_; clear hA; intro a hA
                refine dr_y hA rfl rfl rfl (by decide) hS (fun w' hS' => rn_indexAddr tbOk hA 0 o35 rfl rfl rfl rfl rfl rfl (by rfl) (by first | omega | (dsimp only; omega)) (by first | rfl | simp [Nat.mul_one, Nat.zero_add] | omega)) ?_; clear hA; intro a hA
                refine dr_run tbOk 1 hA hS (e' := (64, .pointer (some ⟨b34, o35 + 2, none⟩)) :: _) rfl ?_; clear hA; intro a hA
                refine dr_y hA rfl rfl rfl (by decide) hS (fun w' hS' => rn_load tbOk hA rfl rfl rfl rfl ((hro _ (hS'.only 4 rfl)).elemf (k := 0) encPacket_ok hy0 (j := 2) rfl)) ?_; clear hA; intro a hA
                refine dr_run tbOk 1 hA hS (e' := (66, .pointer (some ⟨b16, 2, none⟩)) :: _) rfl ?_; clear hA; intro a hA
                refine dr_y hA rfl rfl rfl (by decide) hS (fun w' hS' => rn_load tbOk hA rfl rfl rfl rfl (cell_row (hS'.heapAt 5 rfl) rfl)) ?_; clear hA; intro a hA
                refine dr_run tbOk 1 hA hS (e' := (68, .bool (y2 == id)) :: _) rfl ?_; clear hA; intro a hA
                replace hA := hA.rw 68 (v' := .bool true) rfl (vb_eq_t hk2)
                refine dr_run tbOk 3 hA hS (e' := (71, .int .i64 ((i : Nat) : Int)) :: (70, .slice (some ⟨b32, o33, none⟩) os.length co) :: (69, .bool true) :: _) rfl ?_; clear hA; intro a hA
                refine dr_y hA rfl rfl rfl (by decide) hS (fun w' hS' => rn_indexAddr tbOk hA i (o33 + i) rfl rfl rfl rfl rfl rfl (by rfl) (by first | omega | (dsimp only; omega)) (by first | rfl | simp [Nat.mul_one, Nat.zero_add] | omega)) ?_; clear hA; intro a hA
                refine dr_y hA rfl rfl rfl (by decide) hS (fun w' hS' => rn_load tbOk hA rfl rfl rfl rfl ((hO.rd (hS'.own_ 3 rfl)).elem0 (k := i) encO_ok hx9 rfl)) ?_; clear hA; intro a hA
                refine dr_y hA rfl rfl rfl (by decide) hS (fun w' hS' => rn_indexAddr tbOk hA 0 o35 rfl rfl rfl rfl rfl rfl (by rfl) (by first | omega | (dsimp only; omega)) (by first | rfl | simp [Nat.mul_one, Nat.zero_add] | omega)) ?_; clear hA; intro a hA
                refine dr_run tbOk 1 hA hS (e' := (75, .pointer (some ⟨b34, o35, none⟩)) :: _) rfl ?_; clear hA; intro a hA
                refine dr_y hA rfl rfl rfl (by decide) hS (fun w' hS' => rn_load tbOk hA rfl rfl rfl rfl ((hro _ (hS'.only 4 rfl)).elemf (k := 0) encPacket_ok hy0 (j := 0) rfl)) ?_; clear hA; intro a hA
                refine dr_run tbOk 1 hA hS (e' := (77, .pointer (some ⟨b16, 0, none⟩)) :: _) rfl ?_; clear hA; intro a hA
                refine dr_y hA rfl rfl rfl (by decide) hS (fun w' hS' => rn_load tbOk hA rfl rfl rfl rfl (cell_row (hS'.heapAt 5 rfl) rfl)) ?_; clear hA; intro a hA
                refine dr_run tbOk 1 hA hS (e' := (79, .bool (y0 == fr)) :: _) rfl ?_; clear hA; intro a hA
                replace hA := hA.rw 79 (v' := .bool true) rfl (vb_eq_t hk0)
                refine dr_run tbOk 1 hA hS (e' := (80, .bool true) :: _) rfl ?_; clear hA; intro a hA
                refine dr_end ?_
                replace hA := hA.sel [3, 4, 7, 8, 9, 10, 11, 24, 25, 26, 55, 56, 80] (e' := [(3, .pointer (some ⟨b2, 0, none⟩)), (4, .slice (some ⟨b32, o33, none⟩) os.length co), (7, .pointer (some ⟨b16, 0, none⟩)), (8, .slice Ab bsr.length cb), (9, .bool okb), (10, .int .i64 aq), (11, .int .i64 ((i : Nat) : Int)), (24, .slice (some ⟨b8, o9, none⟩) l.length c), (25, .int .i64 ((l.length : Nat) : Int)), (26, .int .i64 ((k : Nat) : Int)), (55, .int .i64 ((os.length : Nat) : Int)), (56, .int .i64 ((i : Nat) : Int)), (80, .bool true)]) rfl
                refine xt_norm ?_
                refine cd_cond_t hA rfl ?_
                refine wp_region_lit ?_
                refine st_run tbOk 2 hA (e' := (10, .int .i64 ((i : Nat) : Int)) :: (81, .int .i64 ((i : Nat) : Int)) :: _) rfl ?_; clear hA; intro a hA
                refine wpList_nil ?_
                replace hA := hA.sel [3, 4, 7, 8, 9, 10, 24, 25, 26, 55, 56] (e' := [(3, .pointer (some ⟨b2, 0, none⟩)), (4, .slice (some ⟨b32, o33, none⟩) os.length co), (7, .pointer (some ⟨b16, 0, none⟩)), (8, .slice Ab bsr.length cb), (9, .bool okb), (10, .int .i64 ((i : Nat) : Int)), (24, .slice (some ⟨b8, o9, none⟩) l.length c), (25, .int .i64 ((l.length : Nat) : Int)), (26, .int .i64 ((k : Nat) : Int)), (55, .int .i64 ((os.length : Nat) : Int)), (56, .int .i64 ((i : Nat) : Int))]) rfl
                refine xb_norm ?_
                refine xt_norm ?_
                refine wp_region_lit ?_
                refine st_run tbOk 1 hA (e' := (82, .int .i64 (IntKind.i64.wrap (((i : Nat) : Int) + 1))) :: _) rfl ?_; clear hA; intro a hA
                replace hA := hA.rw 82 (v' := .int .i64 ((i + 1 : Nat) : Int)) rfl (wr64 (by first | omega | (dsimp only; omega)) (by first | omega | (dsimp only; omega)) (by first | omega | (dsimp only; omega)))
                refine st_run tbOk 1 hA (e' := (56, .int .i64 ((i + 1 : Nat) : Int)) :: _) rfl ?_; clear hA; intro a hA
                refine wpList_nil ?_
                replace hA := hA.sel [3, 4, 7, 8, 9, 10, 24, 25, 26, 55, 56] (e' := [(3, .pointer (some ⟨b2, 0, none⟩)), (4, .slice (some ⟨b32, o33, none⟩) os.length co), (7, .pointer (some ⟨b16, 0, none⟩)), (8, .slice Ab bsr.length cb), (9, .bool okb), (10, .int .i64 ((i : Nat) : Int)), (24, .slice (some ⟨b8, o9, none⟩) l.length c), (25, .int .i64 ((l.length : Nat) : Int)), (26, .int .i64 ((k : Nat) : Int)), (55, .int .i64 ((os.length : Nat) : Int)), (56, .int .i64 ((i + 1 : Nat) : Int))]) rfl
                replace hS := hS.front 5 (C := [(b16, rowO [.int .i64 fr, .int .i64 3, .int .u64 id, .int .i64 ((ix : Nat) : Int), .int .i64 ((cn : Nat) : Int), .slice x10A3 x10b3.length x10c3] 38)]) (L' := Cb :: L2 :: (E2 ++ D) :: Co :: Q :: F) rfl rfl
                replace hS := hS.front 5 (C := Q) (L' := [(b16, rowO [.int .i64 fr, .int .i64 3, .int .u64 id, .int .i64 ((ix : Nat) : Int), .int .i64 ((cn : Nat) : Int), .slice x10A3 x10b3.length x10c3] 38)] :: Cb :: L2 :: (E2 ++ D) :: Co :: F) rfl rfl
                replace hS := hS.front 5 (C := Co) (L' := Q :: [(b16, rowO [.int .i64 fr, .int .i64 3, .int .u64 id, .int .i64 ((ix : Nat) : Int), .int .i64 ((cn : Nat) : Int), .slice x10A3 x10b3.length x10c3] 38)] :: Cb :: L2 :: (E2 ++ D) :: F) rfl rfl
                replace hS := hS.front 5 (C := (E2 ++ D)) (L' := Co :: Q :: [(b16, rowO [.int .i64 fr, .int .i64 3, .int .u64 id, .int .i64 ((ix : Nat) : Int), .int .i64 ((cn : Nat) : Int), .slice x10A3 x10b3.length x10c3] 38)] :: Cb :: L2 :: F) rfl rfl
                replace hS := hS.front 5 (C := L2) (L' := (E2 ++ D) :: Co :: Q :: [(b16, rowO [.int .i64 fr, .int .i64 3, .int .u64 id, .int .i64 ((ix : Nat) : Int), .int .i64 ((cn : Nat) : Int), .slice x10A3 x10b3.length x10c3] 38)] :: Cb :: F) rfl rfl
                replace hS := hS.front 5 (C := Cb) (L' := L2 :: (E2 ++ D) :: Co :: Q :: [(b16, rowO [.int .i64 fr, .int .i64 3, .int .u64 id, .int .i64 ((ix : Nat) : Int), .int .i64 ((cn : Nat) : Int), .slice x10A3 x10b3.length x10c3] 38)] :: F) rfl rfl
                exact lp_next _ (by omega) ⟨(i + 1), ((i : Nat) : Int), rfl, (hA.sel [3, 4, 7, 8, 9, 10, 24, 25, 26, 55, 56] rfl), hS, by omega, (FI.hit hxm hmk9)⟩)
         · first
           | (exfalso; first | omega | (dsimp only; omega))
           | (replace hA := hA.rw 57 (v' := .bool false) rfl (vb_false hc23)
              refine cd_cond_f hA rfl ?_
              refine wp_exit ?_
              refine xt_exit ?_
              refine xt_exit ?_
              refine cd_exit_eq ?_
              refine xt_norm ?_
              refine wp_seq_join (fun a w => ∃ (os2 : List OPk) (k0 : Nat) (A0 : Option Addr) (c0 : Nat) (q0 : List Pkt) (Ao2 : Option Addr) (co2 : Nat) (Co2 : Chunk), Has a 217 [(3, .pointer (some ⟨b2, 0, none⟩)), (4, .slice Ao2 os2.length co2), (7, .pointer (some ⟨b16, 0, none⟩)), (8, .slice Ab bsr.length cb), (9, .bool okb), (10, .int .i64 ((k0 : Nat) : Int)), (24, .slice (some ⟨b8, o9, none⟩) l.length c), (25, .int .i64 ((l.length : Nat) : Int)), (26, .int .i64 ((k : Nat) : Int))] ∧ St w0 w (Cb :: L2 :: (E2 ++ D) :: Co2 :: Q :: [(b16, rowO [.int .i64 fr, .int .i64 3, .int .u64 id, .int .i64 ((ix : Nat) : Int), .int .i64 ((cn : Nat) : Int), .slice x10A3 x10b3.length x10c3] 38)] :: F) ∧ (Own 24 1 (.slice Ao2 (os2).length co2) (os2).length (rows encO (os2)) Co2) ∧ (∀ x ∈ os2, RO w0 Q x) ∧ (∀ x ∈ os2, ∀ y ∈ oq x, ∀ D, encPacket_dd w0 D y) ∧ (os2[k0]? = some (A0, c0, q0)) ∧ (NX vs' (os2.map oq) k0 q0 (fr, 3, id, ((ix : Nat) : Int), ((cn : Nat) : Int), x10A3, x10c3, x10b3) cn bsr okb) ∧ (os2.length ≤ 16) ∧ (q0.length ≤ 256)) ?_ ?_
              · refine wp_seq ?_
                refine wp_region_lit ?_
                have hil : i = os.length := by omega
                rcases hfi with ⟨haq, hno⟩ | ⟨k0, q0, hk0, haq, hqk, hmk0⟩
                · replace hA := hA.rw 10 (v' := .int .i64 (-1)) rfl (by rw [haq])
                  have hN1 := hAR.1 (fun j q hq => hno j q (by have h := (List.getElem?_eq_some_iff.1 hq).1; rw [List.length_map] at h; omega) hq)
                  refine st_run tbOk 2 hA (e' := (84, .bool true) :: (83, .int .i64 (-1)) :: _) rfl ?_; clear hA; intro a hA
                  refine wpList_nil ?_
                  replace hA := hA.sel [3, 4, 7, 8, 9, 10, 24, 25, 26, 84] (e' := [(3, .pointer (some ⟨b2, 0, none⟩)), (4, .slice Ao os.length co), (7, .pointer (some ⟨b16, 0, none⟩)), (8, .slice Ab bsr.length cb), (9, .bool okb), (10, .int .i64 (-1)), (24, .slice (some ⟨b8, o9, none⟩) l.length c), (25, .int .i64 ((l.length : Nat) : Int)), (26, .int .i64 ((k : Nat) : Int)), (84, .bool true)]) rfl
                  refine xt_norm ?_
                  refine cd_cond_t hA rfl ?_
                  refine wp_seq ?_
                  refine wp_seq ?_
                  refine wp_region_lit ?_
                  rcases Classical.em (os.length = 16) with h16 | h16
                  · refine st_run tbOk 3 hA (e' := (87, .bool (((os.length : Nat) : Int) == 16)) :: (86, .int .i64 ((os.length : Nat) : Int)) :: (85, .slice Ao os.length co) :: _) rfl ?_; clear hA; intro a hA
                    refine wpList_nil ?_
                    replace hA := hA.sel [3, 4, 7, 8, 9, 24, 25, 26, 87] (e' := [(3, .pointer (some ⟨b2, 0, none⟩)), (4, .slice Ao os.length co), (7, .pointer (some ⟨b16, 0, none⟩)), (8, .slice Ab bsr.length cb), (9, .bool okb), (24, .slice (some ⟨b8, o9, none⟩) l.length c), (25, .int .i64 ((l.length : Nat) : Int)), (26, .int .i64 ((k : Nat) : Int)), (87, .bool (((os.length : Nat) : Int) == 16))]) rfl
                    refine xt_norm ?_
                    have hc36 : ((os.length : Nat) : Int) = 16 := by omega
                    replace hA := hA.rw 87 (v' := .bool true) rfl (vb_eq_t hc36)
                    refine cd_cond_t hA rfl ?_
                    refine wp_region_lit ?_
                    refine st_run tbOk 1 hA (e' := (88, .slice Ao os.length co) :: _) rfl ?_; clear hA; intro a hA
                    refine st_val hA rfl rfl (by decide) (rn_slice_l tbOk hA 1 rfl rfl rfl rfl rfl rfl (by rfl) (by first | omega | (dsimp only; omega))) ?_; clear hA; intro a hA
                    generalize hsv : slv Ao 1 os.length co 1 = v37 at hA
                    have hOs38 := hO.rslv encO_ok 1 os.length co (by omega) (by omega) (by omega) (by omega)
                    rw [hsv] at hOs38; clear hsv
                    have hsl : (os.take os.length).drop 1 = (os.drop 1) := by rw [List.take_length]
                    rw [hsl] at hOs38; clear hsl
                    obtain ⟨A39, c40, rfl, hmc40, hxc40⟩ := hOs38.open'
                    have hdl1 : (os.drop 1).length = os.length - 1 := List.length_drop
                    refine st_run tbOk 1 hA (e' := (4, .slice A39 ((os.drop 1).length) c40) :: _) rfl ?_; clear hA; intro a hA
                    refine wpList_nil ?_
                    replace hA := hA.sel [3, 4, 7, 8, 9, 24, 25, 26] (e' := [(3, .pointer (some ⟨b2, 0, none⟩)), (4, .slice A39 ((os.drop 1).length) c40), (7, .pointer (some ⟨b16, 0, none⟩)), (8, .slice Ab bsr.length cb), (9, .bool okb), (24, .slice (some ⟨b8, o9, none⟩) l.length c), (25, .int .i64 ((l.length : Nat) : Int)), (26, .int .i64 ((k : Nat) : Int))]) rfl
                    refine xt_norm ?_
                    refine wp_seq ?_
                    refine wp_region_lit ?_
                    refine st_run tbOk 1 hA (e' := (90, .slice A39 ((os.drop 1).length) c40) :: _) rfl ?_; clear hA; intro a hA
                    refine st_buildSlice tbOk hA hS [.slice none 0 0] rfl rfl rfl rfl rfl (by decide) (by kernel_rfl) rfl rfl (by decide) ?_; clear hA hS; intro b41 w42 a hS hA
                    replace hS := hS.front 4 (C := Co) (L' := [(b41, rowO [.slice none 0 0] 24)] :: Cb :: L2 :: (E2 ++ D) :: Q :: [(b16, rowO [.int .i64 fr, .int .i64 3, .int .u64 id, .int .i64 ((ix : Nat) : Int), .int .i64 ((cn : Nat) : Int), .slice x10A3 x10b3.length x10c3] 38)] :: F) rfl rfl
                    refine st_append tbOk hA (m := (os.drop 1).length) (q := 1) (xs := rows encO (os.drop 1)) (news := rows encO ([(none, 0, ([] : List Pkt))] : List OPk)) rfl rfl rfl rfl rfl rfl rfl rfl (by decide) hOs38 hS (((Own.full (T := 24) (size := 1) (g := b41) (m := 1) rfl (by decide)).rd (hS.own_ 1 rfl)).x) (rows_one encO_ok _) (maxLen_le (by first | omega | (simp only [List.length_append, List.length_take, List.length_drop, List.length_cons, List.length_nil]; omega))) (by show ((os.drop 1).length + 1) * 24 ≤ 140737488355328; first | omega | (simp only [List.length_append, List.length_take, List.length_drop, List.length_cons, List.length_nil]; omega)) rfl rfl (by decide) ?_
                    clear hA hS; intro v43 w44 C45 a hO45 hS hA
                    replace hO45 := Own.app (l := (os.drop 1)) (l2 := ([(none, 0, ([] : List Pkt))] : List OPk)) hO45
                    obtain ⟨A46, c47, rfl, hmc47, hxc47⟩ := hO45.open'
                    refine st_run tbOk 1 hA (e' := (4, .slice A46 (((os.drop 1) ++ ([(none, 0, ([] : List Pkt))] : List OPk)).length) c47) :: _) rfl ?_; clear hA; intro a hA
                    refine wpList_nil ?_
                    replace hA := hA.sel [3, 4, 7, 8, 9, 24, 25, 26] (e' := [(3, .pointer (some ⟨b2, 0, none⟩)), (4, .slice A46 (((os.drop 1) ++ ([(none, 0, ([] : List Pkt))] : List OPk)).length) c47), (7, .pointer (some ⟨b16, 0, none⟩)), (8, .slice Ab bsr.length cb), (9, .bool okb), (24, .slice (some ⟨b8, o9, none⟩) l.length c), (25, .int .i64 ((l.length : Nat) : Int)), (26, .int .i64 ((k : Nat) : Int))]) rfl
                    refine xt_norm ?_
                    refine wp_region_lit ?_
                    have hNL : ((os.drop 1) ++ ([(none, 0, ([] : List Pkt))] : List OPk)).length = (os.drop 1).length + 1 := by rw [List.length_append]; rfl
                    refine st_run tbOk 3 hA (e' := (95, .int .i64 (IntKind.i64.wrap (((((os.drop 1) ++ ([(none, 0, ([] : List Pkt))] : List OPk)).length : Nat) : Int) - 1))) :: (94, .int .i64 ((((os.drop 1) ++ ([(none, 0, ([] : List Pkt))] : List OPk)).length : Nat) : Int)) :: (93, .slice A46 (((os.drop 1) ++ ([(none, 0, ([] : List Pkt))] : List OPk)).length) c47) :: _) rfl ?_; clear hA; intro a hA
                    replace hA := hA.rw 95 (v' := .int .i64 (((((os.drop 1) ++ ([(none, 0, ([] : List Pkt))] : List OPk)).length : Nat) : Int) - 1)) rfl (wr64 (by first | omega | (dsimp only; omega)) (by first | omega | (dsimp only; omega)) (by first | omega | (dsimp only; omega)))
                    replace hA := hA.rw 95 (v' := .int .i64 (((os.drop 1).length : Nat) : Int)) rfl (vint (by omega))
                    refine st_run tbOk 1 hA (e' := (10, .int .i64 (((os.drop 1).length : Nat) : Int)) :: _) rfl ?_; clear hA; intro a hA
                    refine wpList_nil ?_
                    replace hA := hA.sel [3, 4, 7, 8, 9, 10, 24, 25, 26] (e' := [(3, .pointer (some ⟨b2, 0, none⟩)), (4, .slice A46 (((os.drop 1) ++ ([(none, 0, ([] : List Pkt))] : List OPk)).length) c47), (7, .pointer (some ⟨b16, 0, none⟩)), (8, .slice Ab bsr.length cb), (9, .bool okb), (10, .int .i64 (((os.drop 1).length : Nat) : Int)), (24, .slice (some ⟨b8, o9, none⟩) l.length c), (25, .int .i64 ((l.length : Nat) : Int)), (26, .int .i64 ((k : Nat) : Int))]) rfl
                    refine xt_norm ?_
                    replace hS := hS.front 1 (C := [(b41, rowO [.slice none 0 0] 24)]) (L' := C45 :: Cb :: L2 :: (E2 ++ D) :: Q :: [(b16, rowO [.int .i64 fr, .int .i64 3, .int .u64 id, .int .i64 ((ix : Nat) : Int), .int .i64 ((cn : Nat) : Int), .slice x10A3 x10b3.length x10c3] 38)] :: F) rfl rfl
                    replace hS := hS.drop1
                    replace hS := hS.front 5 (C := [(b16, rowO [.int .i64 fr, .int .i64 3, .int .u64 id, .int .i64 ((ix : Nat) : Int), .int .i64 ((cn : Nat) : Int), .slice x10A3 x10b3.length x10c3] 38)]) (L' := C45 :: Cb :: L2 :: (E2 ++ D) :: Q :: F) rfl rfl
                    replace hS := hS.front 5 (C := Q) (L' := [(b16, rowO [.int .i64 fr, .int .i64 3, .int .u64 id, .int .i64 ((ix : Nat) : Int), .int .i64 ((cn : Nat) : Int), .slice x10A3 x10b3.length x10c3] 38)] :: C45 :: Cb :: L2 :: (E2 ++ D) :: F) rfl rfl
                    replace hS := hS.front 2 (C := C45) (L' := Q :: [(b16, rowO [.int .i64 fr, .int .i64 3, .int .u64 id, .int .i64 ((ix : Nat) : Int), .int .i64 ((cn : Nat) : Int), .slice x10A3 x10b3.length x10c3] 38)] :: Cb :: L2 :: (E2 ++ D) :: F) rfl rfl
                    replace hS := hS.front 5 (C := (E2 ++ D)) (L' := C45 :: Q :: [(b16, rowO [.int .i64 fr, .int .i64 3, .int .u64 id, .int .i64 ((ix : Nat) : Int), .int .i64 ((cn : Nat) : Int), .slice x10A3 x10b3.length x10c3] 38)] :: Cb :: L2 :: F) rfl rfl
                    replace hS := hS.front 5 (C := L2) (L' := (E2 ++ D) :: C45 :: Q :: [(b16, rowO [.int .i64 fr, .int .i64 3, .int .u64 id, .int .i64 ((ix : Nat) : Int), .int .i64 ((cn : Nat) : Int), .slice x10A3 x10b3.length x10c3] 38)] :: Cb :: F) rfl rfl
                    replace hS := hS.front 5 (C := Cb) (L' := L2 :: (E2 ++ D) :: C45 :: Q :: [(b16, rowO [.int .i64 fr, .int .i64 3, .int .u64 id, .int .i64 ((ix : Nat) : Int), .int .i64 ((cn : Nat) : Int), .slice x10A3 x10b3.length x10c3] 38)] :: F) rfl rfl
                    have hnm := new_map (q16_map h16)
                    have hN2 := hN1; rw [← hnm.1, hnm.2] at hN2
                    exact ⟨((os.drop 1) ++ ([(none, 0, ([] : List Pkt))] : List OPk)), ((os.drop 1).length), none, 0, ([]), A46, c47, C45, (hA.sel [3, 4, 7, 8, 9, 10, 24, 25, 26] rfl), hS, hO45, (add_all (P := fun x => RO w0 Q x) (dr_all hQ) RO.nil), (add_all (P := fun x => ∀ y ∈ oq x, ∀ D, encPacket_dd w0 D y) (dr_all (P := fun x => ∀ y ∈ oq x, ∀ D, encPacket_dd w0 D y) hG) (fun y hy => by cases hy)), snoc_at, hN2, (by omega), (Nat.zero_le _)⟩
                  · refine st_run tbOk 3 hA (e' := (87, .bool (((os.length : Nat) : Int) == 16)) :: (86, .int .i64 ((os.length : Nat) : Int)) :: (85, .slice Ao os.length co) :: _) rfl ?_; clear hA; intro a hA
                    refine wpList_nil ?_
                    replace hA := hA.sel [3, 4, 7, 8, 9, 24, 25, 26, 87] (e' := [(3, .pointer (some ⟨b2, 0, none⟩)), (4, .slice Ao os.length co), (7, .pointer (some ⟨b16, 0, none⟩)), (8, .slice Ab bsr.length cb), (9, .bool okb), (24, .slice (some ⟨b8, o9, none⟩) l.length c), (25, .int .i64 ((l.length : Nat) : Int)), (26, .int .i64 ((k : Nat) : Int)), (87, .bool (((os.length : Nat) : Int) == 16))]) rfl
                    refine xt_norm ?_
                    have hc48 : ¬ (((os.length : Nat) : Int) = 16) := by omega
                    replace hA := hA.rw 87 (v' := .bool false) rfl (vb_eq_f hc48)
                    refine cd_cond_f hA rfl ?_
                    refine wp_skip ?_
                    refine xt_norm ?_
                    refine wp_seq ?_
                    refine wp_region_lit ?_
                    refine st_run tbOk 1 hA (e' := (90, .slice Ao os.length co) :: _) rfl ?_; clear hA; intro a hA
                    refine st_buildSlice tbOk hA hS [.slice none 0 0] rfl rfl rfl rfl rfl (by decide) (by kernel_rfl) rfl rfl (by decide) ?_; clear hA hS; intro b49 w50 a hS hA
                    replace hS := hS.front 4 (C := Co) (L' := [(b49, rowO [.slice none 0 0] 24)] :: Cb :: L2 :: (E2 ++ D) :: Q :: [(b16, rowO [.int .i64 fr, .int .i64 3, .int .u64 id, .int .i64 ((ix : Nat) : Int), .int .i64 ((cn : Nat) : Int), .slice x10A3 x10b3.length x10c3] 38)] :: F) rfl rfl
                    refine st_append tbOk hA (m := os.length) (q := 1) (xs := rows encO os) (news := rows encO ([(none, 0, ([] : List Pkt))] : List OPk)) rfl rfl rfl rfl rfl rfl rfl rfl (by decide) hO hS (((Own.full (T := 24) (size := 1) (g := b49) (m := 1) rfl (by decide)).rd (hS.own_ 1 rfl)).x) (rows_one encO_ok _) (maxLen_le (by first | omega | (simp only [List.length_append, List.length_take, List.length_drop, List.length_cons, List.length_nil]; omega))) (by show (os.length + 1) * 24 ≤ 140737488355328; first | omega | (simp only [List.length_append, List.length_take, List.length_drop, List.length_cons, List.length_nil]; omega)) rfl rfl (by decide) ?_
                    clear hA hS; intro v51 w52 C53 a hO53 hS hA
                    replace hO53 := Own.app (l := os) (l2 := ([(none, 0, ([] : List Pkt))] : List OPk)) hO53
                    obtain ⟨A54, c55, rfl, hmc55, hxc55⟩ := hO53.open'
                    refine st_run tbOk 1 hA (e' := (4, .slice A54 ((os ++ ([(none, 0, ([] : List Pkt))] : List OPk)).length) c55) :: _) rfl ?_; clear hA; intro a hA
                    refine wpList_nil ?_
                    replace hA := hA.sel [3, 4, 7, 8, 9, 24, 25, 26] (e' := [(3, .pointer (some ⟨b2, 0, none⟩)), (4, .slice A54 ((os ++ ([(none, 0, ([] : List Pkt))] : List OPk)).length) c55), (7, .pointer (some ⟨b16, 0, none⟩)), (8, .slice Ab bsr.length cb), (9, .bool okb), (24, .slice (some ⟨b8, o9, none⟩) l.length c), (25, .int .i64 ((l.length : Nat) : Int)), (26, .int .i64 ((k : Nat) : Int))]) rfl
                    refine xt_norm ?_
                    refine wp_region_lit ?_
                    have hNL : (os ++ ([(none, 0, ([] : List Pkt))] : List OPk)).length = os.length + 1 := by rw [List.length_append]; rfl
                    refine st_run tbOk 3 hA (e' := (95, .int .i64 (IntKind.i64.wrap ((((os ++ ([(none, 0, ([] : List Pkt))] : List OPk)).length : Nat) : Int) - 1))) :: (94, .int .i64 (((os ++ ([(none, 0, ([] : List Pkt))] : List OPk)).length : Nat) : Int)) :: (93, .slice A54 ((os ++ ([(none, 0, ([] : List Pkt))] : List OPk)).length) c55) :: _) rfl ?_; clear hA; intro a hA
                    replace hA := hA.rw 95 (v' := .int .i64 ((((os ++ ([(none, 0, ([] : List Pkt))] : List OPk)).length : Nat) : Int) - 1)) rfl (wr64 (by first | omega | (dsimp only; omega)) (by first | omega | (dsimp only; omega)) (by first | omega | (dsimp only; omega)))
                    replace hA := hA.rw 95 (v' := .int .i64 ((os.length : Nat) : Int)) rfl (vint (by omega))
                    refine st_run tbOk 1 hA (e' := (10, .int .i64 ((os.length : Nat) : Int)) :: _) rfl ?_; clear hA; intro a hA
                    refine wpList_nil ?_
                    replace hA := hA.sel [3, 4, 7, 8, 9, 10, 24, 25, 26] (e' := [(3, .pointer (some ⟨b2, 0, none⟩)), (4, .slice A54 ((os ++ ([(none, 0, ([] : List Pkt))] : List OPk)).length) c55), (7, .pointer (some ⟨b16, 0, none⟩)), (8, .slice Ab bsr.length cb), (9, .bool okb), (10, .int .i64 ((os.length : Nat) : Int)), (24, .slice (some ⟨b8, o9, none⟩) l.length c), (25, .int .i64 ((l.length : Nat) : Int)), (26, .int .i64 ((k : Nat) : Int))]) rfl
                    refine xt_norm ?_
                    replace hS := hS.front 1 (C := [(b49, rowO [.slice none 0 0] 24)]) (L' := C53 :: Cb :: L2 :: (E2 ++ D) :: Q :: [(b16, rowO [.int .i64 fr, .int .i64 3, .int .u64 id, .int .i64 ((ix : Nat) : Int), .int .i64 ((cn : Nat) : Int), .slice x10A3 x10b3.length x10c3] 38)] :: F) rfl rfl
                    replace hS := hS.drop1
                    replace hS := hS.front 5 (C := [(b16, rowO [.int .i64 fr, .int .i64 3, .int .u64 id, .int .i64 ((ix : Nat) : Int), .int .i64 ((cn : Nat) : Int), .slice x10A3 x10b3.length x10c3] 38)]) (L' := C53 :: Cb :: L2 :: (E2 ++ D) :: Q :: F) rfl rfl
                    replace hS := hS.front 5 (C := Q) (L' := [(b16, rowO [.int .i64 fr, .int .i64 3, .int .u64 id, .int .i64 ((ix : Nat) : Int), .int .i64 ((cn : Nat) : Int), .slice x10A3 x10b3.length x10c3] 38)] :: C53 :: Cb :: L2 :: (E2 ++ D) :: F) rfl rfl
                    replace hS := hS.front 2 (C := C53) (L' := Q :: [(b16, rowO [.int .i64 fr, .int .i64 3, .int .u64 id, .int .i64 ((ix : Nat) : Int), .int .i64 ((cn : Nat) : Int), .slice x10A3 x10b3.length x10c3] 38)] :: Cb :: L2 :: (E2 ++ D) :: F) rfl rfl
                    replace hS := hS.front 5 (C := (E2 ++ D)) (L' := C53 :: Q :: [(b16, rowO [.int .i64 fr, .int .i64 3, .int .u64 id, .int .i64 ((ix : Nat) : Int), .int .i64 ((cn : Nat) : Int), .slice x10A3 x10b3.length x10c3] 38)] :: Cb :: L2 :: F) rfl rfl
                    replace hS := hS.front 5 (C := L2) (L' := (E2 ++ D) :: C53 :: Q :: [(b16, rowO [.int .i64 fr, .int .i64 3, .int .u64 id, .int .i64 ((ix : Nat) : Int), .int .i64 ((cn : Nat) : Int), .slice x10A3 x10b3.length x10c3] 38)] :: Cb :: F) rfl rfl
                    replace hS := hS.front 5 (C := Cb) (L' := L2 :: (E2 ++ D) :: C53 :: Q :: [(b16, rowO [.int .i64 fr, .int .i64 3, .int .u64 id, .int .i64 ((ix : Nat) : Int), .int .i64 ((cn : Nat) : Int), .slice x10A3 x10b3.length x10c3] 38)] :: F) rfl rfl
                    have hnm := new_map (q16_map' h16)
                    have hN2 := hN1; rw [← hnm.1, hnm.2] at hN2
                    exact ⟨(os ++ ([(none, 0, ([] : List Pkt))] : List OPk)), os.length, none, 0, ([]), A54, c55, C53, (hA.sel [3, 4, 7, 8, 9, 10, 24, 25, 26] rfl), hS, hO53, (add_all (P := fun x => RO w0 Q x) hQ RO.nil), (add_all (P := fun x => ∀ y ∈ oq x, ∀ D, encPacket_dd w0 D y) hG (fun y hy => by cases hy)), snoc_at, hN2, (by omega), (Nat.zero_le _)⟩
                · replace hA := hA.rw 10 (v' := .int .i64 ((k0 : Nat) : Int)) rfl (by rw [haq])
                  have hN1 := hAR.2 k0 q0 hqk hmk0
                  obtain ⟨A0, c0, hx0⟩ := map_ex hqk
                  have hql0 := hRL.ql hqk
                  refine st_run tbOk 2 hA (e' := (84, .bool (decide (((k0 : Nat) : Int) < 0))) :: (83, .int .i64 ((k0 : Nat) : Int)) :: _) rfl ?_; clear hA; intro a hA
                  refine wpList_nil ?_
                  replace hA := hA.sel [3, 4, 7, 8, 9, 10, 24, 25, 26, 84] (e' := [(3, .pointer (some ⟨b2, 0, none⟩)), (4, .slice Ao os.length co), (7, .pointer (some ⟨b16, 0, none⟩)), (8, .slice Ab bsr.length cb), (9, .bool okb), (10, .int .i64 ((k0 : Nat) : Int)), (24, .slice (some ⟨b8, o9, none⟩) l.length c), (25, .int .i64 ((l.length : Nat) : Int)), (26, .int .i64 ((k : Nat) : Int)), (84, .bool (decide (((k0 : Nat) : Int) < 0)))]) rfl
                  refine xt_norm ?_
                  have hc56 : ¬ (((k0 : Nat) : Int) < 0) := by omega
                  replace hA := hA.rw 84 (v' := .bool false) rfl (vb_false hc56)
                  refine cd_cond_f hA rfl ?_
                  refine wp_skip ?_
                  refine xt_norm ?_
                  replace hS := hS.front 5 (C := [(b16, rowO [.int .i64 fr, .int .i64 3, .int .u64 id, .int .i64 ((ix : Nat) : Int), .int .i64 ((cn : Nat) : Int), .slice x10A3 x10b3.length x10c3] 38)]) (L' := Cb :: L2 :: (E2 ++ D) :: Co :: Q :: F) rfl rfl
                  replace hS := hS.front 5 (C := Q) (L' := [(b16, rowO [.int .i64 fr, .int .i64 3, .int .u64 id, .int .i64 ((ix : Nat) : Int), .int .i64 ((cn : Nat) : Int), .slice x10A3 x10b3.length x10c3] 38)] :: Cb :: L2 :: (E2 ++ D) :: Co :: F) rfl rfl
                  replace hS := hS.front 5 (C := Co) (L' := Q :: [(b16, rowO [.int .i64 fr, .int .i64 3, .int .u64 id, .int .i64 ((ix : Nat) : Int), .int .i64 ((cn : Nat) : Int), .slice x10A3 x10b3.length x10c3] 38)] :: Cb :: L2 :: (E2 ++ D) :: F) rfl rfl
                  replace hS := hS.front 5 (C := (E2 ++ D)) (L' := Co :: Q :: [(b16, rowO [.int .i64 fr, .int .i64 3, .int .u64 id, .int .i64 ((ix : Nat) : Int), .int .i64 ((cn : Nat) : Int), .slice x10A3 x10b3.length x10c3] 38)] :: Cb :: L2 :: F) rfl rfl
                  replace hS := hS.front 5 (C := L2) (L' := (E2 ++ D) :: Co :: Q :: [(b16, rowO [.int .i64 fr, .int .i64 3, .int .u64 id, .int .i64 ((ix : Nat) : Int), .int .i64 ((cn : Nat) : Int), .slice x10A3 x10b3.length x10c3] 38)] :: Cb :: F) rfl rfl
                  replace hS := hS.front 5 (C := Cb) (L' := L2 :: (E2 ++ D) :: Co :: Q :: [(b16, rowO [.int .i64 fr, .int .i64 3, .int .u64 id, .int .i64 ((ix : Nat) : Int), .int .i64 ((cn : Nat) : Int), .slice x10A3 x10b3.length x10c3] 38)] :: F) rfl rfl
                  exact ⟨os, k0, A0, c0, q0, Ao, co, Co, (hA.sel [3, 4, 7, 8, 9, 10, 24, 25, 26] rfl), hS, hO, hQ, hG, hx0, hN1, (by omega), hql0.2⟩
              · clear hA hS; rintro a w57 ⟨os2, k0, A0, c0, q0, Ao2, co2, Co2, hA, hS, hO2, hQ2, hG2, hx0, hNX, hol, hql⟩
                have hk0l := (List.getElem?_eq_some_iff.1 hx0).1; have hro0 : ∀ w', St w0 w' [Q] → Rd w' 6 (.slice A0 q0.length c0) q0.length (rows encPacket q0) := hQ2 _ (List.mem_of_getElem? hx0); have hgq0 : ∀ y ∈ q0, ∀ D, encPacket_dd w0 D y := hG2 _ (List.mem_of_getElem? hx0); have hcr2 := hO2.rcap
                refine wp_seq_join (fun a w => ∃ (g0 : Bool), Has a 217 [(3, .pointer (some ⟨b2, 0, none⟩)), (4, .slice Ao2 os2.length co2), (7, .pointer (some ⟨b16, 0, none⟩)), (8, .slice Ab bsr.length cb), (9, .bool okb), (10, .int .i64 ((k0 : Nat) : Int)), (12, .bool g0), (24, .slice (some ⟨b8, o9, none⟩) l.length c), (25, .int .i64 ((l.length : Nat) : Int)), (26, .int .i64 ((k : Nat) : Int))] ∧ St w0 w (Cb :: L2 :: (E2 ++ D) :: Co2 :: Q :: [(b16, rowO [.int .i64 fr, .int .i64 3, .int .u64 id, .int .i64 ((ix : Nat) : Int), .int .i64 ((cn : Nat) : Int), .slice x10A3 x10b3.length x10c3] 38)] :: F) ∧ (g0 = g1 q0 (fr, 3, id, ((ix : Nat) : Int), ((cn : Nat) : Int), x10A3, x10c3, x10b3))) ?_ ?_
                · obtain ⟨b58, o59, rfl⟩ := hO2.isSome (k := k0) (by first | omega | (dsimp only; omega))
                  refine wp_draw (fun w' => St w0 w' (Cb :: L2 :: (E2 ++ D) :: Co2 :: Q :: [(b16, rowO [.int .i64 fr, .int .i64 3, .int .u64 id, .int .i64 ((ix : Nat) : Int), .int .i64 ((cn : Nat) : Int), .slice x10A3 x10b3.length x10c3] 38)] :: F)) [] [(0, true), (1, true), (2, true), (3, true), (4, true), (5, true), (6, true), (7, true), (8, true), (9, true), (10, true), (11, true), (12, true), (13, true), (14, true), (15, true), (16, true), (17, true), (18, true)] mixed (by kernel_rfl) (by rintro c a w ⟨_, _, h, _⟩; cases h) (by rfl) (by kernel_rfl) ?_
                  replace hS := hS.drew
                  rcases (show q0 = [] ∨ ∃ (y : Pkt) (q8 : List Pkt), q0 = y :: q8 by cases q0 with | nil => exact .inl rfl | cons y q8 => exact .inr ⟨y, q8, rfl⟩) with hq9 | ⟨⟨y0, y1, y2, y3, y4, yA, yc, yb⟩, q8, hq9⟩
                  · have hq0l : q0.length = 0 := by rw [hq9]; rfl
                    refine dr_run tbOk 2 hA hS (e' := (97, .int .i64 ((k0 : Nat) : Int)) :: (96, .slice (some ⟨b58, o59, none⟩) os2.length co2) :: _) rfl ?_; clear hA; intro a hA
                    refine dr_y hA rfl rfl rfl (by decide) hS (fun w' hS' => rn_indexAddr tbOk hA k0 (o59 + k0) rfl rfl rfl rfl rfl rfl (by rfl) (by first | omega | (dsimp only; omega)) (by first | rfl | simp [Nat.mul_one, Nat.zero_add] | omega)) ?_; clear hA; intro a hA
                    refine dr_y hA rfl rfl rfl (by decide) hS (fun w' hS' => rn_load tbOk hA rfl rfl rfl rfl ((hO2.rd (hS'.own_ 3 rfl)).elem0 (k := k0) encO_ok hx0 rfl)) ?_; clear hA; intro a hA
                    refine dr_run tbOk 2 hA hS (e' := (101, .bool (((q0.length : Nat) : Int) == 0)) :: (100, .int .i64 ((q0.length : Nat) : Int)) :: _) rfl ?_; clear hA; intro a hA
                    replace hA := hA.rw 101 (v' := .bool true) rfl (vb_eq_t (by omega))
                    refine dr_run tbOk 13 hA hS (e' := (12, .bool true) :: (113, .bool true) :: (112, undef) :: (111, undef) :: (110, undef) :: (109, undef) :: (108, undef) :: (107, undef) :: (106, undef) :: (105, undef) :: (104, undef) :: (103, undef) :: (102, .bool true) :: _) rfl ?_; clear hA; intro a hA
                    refine dr_end ?_
                    replace hA := hA.sel [3, 4, 7, 8, 9, 10, 12, 24, 25, 26] (e' := [(3, .pointer (some ⟨b2, 0, none⟩)), (4, .slice (some ⟨b58, o59, none⟩) os2.length co2), (7, .pointer (some ⟨b16, 0, none⟩)), (8, .slice Ab bsr.length cb), (9, .bool okb), (10, .int .i64 ((k0 : Nat) : Int)), (12, .bool true), (24, .slice (some ⟨b8, o9, none⟩) l.length c), (25, .int .i64 ((l.length : Nat) : Int)), (26, .int .i64 ((k : Nat) : Int))]) rfl
                    refine xt_norm ?_
                    replace hS := hS.front 5 (C := [(b16, rowO [.int .i64 fr, .int .i64 3, .int .u64 id, .int .i64 ((ix : Nat) : Int), .int .i64 ((cn : Nat) : Int), .slice x10A3 x10b3.length x10c3] 38)]) (L' := Cb :: L2 :: (E2 ++ D) :: Co2 :: Q :: F) rfl rfl
                    replace hS := hS.front 5 (C := Q) (L' := [(b16, rowO [.int .i64 fr, .int .i64 3, .int .u64 id, .int .i64 ((ix : Nat) : Int), .int .i64 ((cn : Nat) : Int), .slice x10A3 x10b3.length x10c3] 38)] :: Cb :: L2 :: (E2 ++ D) :: Co2 :: F) rfl rfl
                    replace hS := hS.front 5 (C := Co2) (L' := Q :: [(b16, rowO [.int .i64 fr, .int .i64 3, .int .u64 id, .int .i64 ((ix : Nat) : Int), .int .i64 ((cn : Nat) : Int), .slice x10A3 x10b3.length x10c3] 38)] :: Cb :: L2 :: (E2 ++ D) :: F) rfl rfl
                    replace hS := hS.front 5 (C := (E2 ++ D)) (L' := Co2 :: Q :: [(b16, rowO [.int .i64 fr, .int .i64 3, .int .u64 id, .int .i64 ((ix : Nat) : Int), .int .i64 ((cn : Nat) : Int), .slice x10A3 x10b3.length x10c3] 38)] :: Cb :: L2 :: F) rfl rfl
                    replace hS := hS.front 5 (C := L2) (L' := (E2 ++ D) :: Co2 :: Q :: [(b16, rowO [.int .i64 fr, .int .i64 3, .int .u64 id, .int .i64 ((ix : Nat) : Int), .int .i64 ((cn : Nat) : Int), .slice x10A3 x10b3.length x10c3] 38)] :: Cb :: F) rfl rfl
                    replace hS := hS.front 5 (C := Cb) (L' := L2 :: (E2 ++ D) :: Co2 :: Q :: [(b16, rowO [.int .i64 fr, .int .i64 3, .int .u64 id, .int .i64 ((ix : Nat) : Int), .int .i64 ((cn : Nat) : Int), .slice x10A3 x10b3.length x10c3] 38)] :: F) rfl rfl
                    replace hS := hS.front 5 (C := [(b16, rowO [.int .i64 fr, .int .i64 3, .int .u64 id, .int .i64 ((ix : Nat) : Int), .int .i64 ((cn : Nat) : Int), .slice x10A3 x10b3.length x10c3] 38)]) (L' := Cb :: L2 :: (E2 ++ D) :: Co2 :: Q :: F) rfl rfl
                    replace hS := hS.front 5 (C := Q) (L' := [(b16, rowO [.int .i64 fr, .int .i64 3, .int .u64 id, .int .i64 ((ix : Nat) : Int), .int .i64 ((cn : Nat) : Int), .slice x10A3 x10b3.length x10c3] 38)] :: Cb :: L2 :: (E2 ++ D) :: Co2 :: F) rfl rfl
                    replace hS := hS.front 5 (C := Co2) (L' := Q :: [(b16, rowO [.int .i64 fr, .int .i64 3, .int .u64 id, .int .i64 ((ix : Nat) : Int), .int .i64 ((cn : Nat) : Int), .slice x10A3 x10b3.length x10c3] 38)] :: Cb :: L2 :: (E2 ++ D) :: F) rfl rfl
                    replace hS := hS.front 5 (C := (E2 ++ D)) (L' := Co2 :: Q :: [(b16, rowO [.int .i64 fr, .int .i64 3, .int .u64 id, .int .i64 ((ix : Nat) : Int), .int .i64 ((cn : Nat) : Int), .slice x10A3 x10b3.length x10c3] 38)] :: Cb :: L2 :: F) rfl rfl
                    replace hS := hS.front 5 (C := L2) (L' := (E2 ++ D) :: Co2 :: Q :: [(b16, rowO [.int .i64 fr, .int .i64 3, .int .u64 id, .int .i64 ((ix : Nat) : Int), .int .i64 ((cn : Nat) : Int), .slice x10A3 x10b3.length x10c3] 38)] :: Cb :: F) rfl rfl
                    replace hS := hS.front 5 (C := Cb) (L' := L2 :: (E2 ++ D) :: Co2 :: Q :: [(b16, rowO [.int .i64 fr, .int .i64 3, .int .u64 id, .int .i64 ((ix : Nat) : Int), .int .i64 ((cn : Nat) : Int), .slice x10A3 x10b3.length x10c3] 38)] :: F) rfl rfl
                    exact ⟨true, (hA.sel [3, 4, 7, 8, 9, 10, 12, 24, 25, 26] rfl), hS, (by rw [hq9]; rfl)⟩
                  · have hq0l : q0.length = q8.length + 1 := by rw [hq9]; rfl
                    have hy0 : q0[0]? = some (y0, y1, y2, y3, y4, yA, yc, yb) := by rw [hq9]; rfl
                    obtain ⟨b60, o61, rfl⟩ := (hro0 _ (hS.only 4 rfl)).isSome (k := 0) (by first | omega | (dsimp only; omega))
                    refine dr_run tbOk 2 hA hS (e' := (97, .int .i64 ((k0 : Nat) : Int)) :: (96, .slice (some ⟨b58, o59, none⟩) os2.length co2) :: _) rfl ?_; clear hA; intro a hA
                    refine dr_y hA rfl rfl rfl (by decide) hS (fun w' hS' => rn_indexAddr tbOk hA k0 (o59 + k0) rfl rfl rfl rfl rfl rfl (by rfl) (by first | omega | (dsimp only; omega)) (by first | rfl | simp [Nat.mul_one, Nat.zero_add] | omega)) ?_; clear hA; intro a hA
                    refine dr_y hA rfl rfl rfl (by decide) hS (fun w' hS' => rn_load tbOk hA rfl rfl rfl rfl ((hO2.rd (hS'.own_ 3 rfl)).elem0 (k := k0) encO_ok hx0 rfl)) ?_; clear hA; intro a hA
                    refine dr_run tbOk 2 hA hS (e' := (101, .bool (((q0.length : Nat) : Int) == 0)) :: (100, .int .i64 ((q0.length : Nat) : Int)) :: _) rfl ?_; clear hA; intro a hA
                    replace hA := hA.rw 101 (v' := .bool false) rfl (vb_eq_f (by omega))
                    refine dr_run tbOk 3 hA hS (e' := (104, .int .i64 ((k0 : Nat) : Int)) :: (103, .slice (some ⟨b58, o59, none⟩) os2.length co2) :: (102, .bool false) :: _) rfl ?_; clear hA; intro a hA
                    refine dr_y hA rfl rfl rfl (by decide) hS (fun w' hS' => rn_indexAddr tbOk hA k0 (o59 + k0) rfl rfl rfl rfl rfl rfl (by rfl) (by first | omega | (dsimp only; omega)) (by first | rfl | simp [Nat.mul_one, Nat.zero_add] | omega)) ?_; clear hA; intro a hA
                    refine dr_y hA rfl rfl rfl (by decide) hS (fun w' hS' => rn_load tbOk hA rfl rfl rfl rfl ((hO2.rd (hS'.own_ 3 rfl)).elem0 (k := k0) encO_ok hx0 rfl)) ?_; clear hA; intro a hA
                    refine dr_y hA rfl rfl rfl (by decide) hS (fun w' hS' => rn_indexAddr tbOk hA 0 o61 rfl rfl rfl rfl rfl rfl (by rfl) (by first | omega | (dsimp only; omega)) (by first | rfl | simp [Nat.mul_one, Nat.zero_add] | omega)) ?_; clear hA; intro a hA
                    refine dr_run tbOk 1 hA hS (e' := (108, .pointer (some ⟨b60, o61 + 4, none⟩)) :: _) rfl ?_; clear hA; intro a hA
                    refine dr_y hA rfl rfl rfl (by decide) hS (fun w' hS' => rn_load tbOk hA rfl rfl rfl rfl ((hro0 _ (hS'.only 4 rfl)).elemf (k := 0) encPacket_ok hy0 (j := 4) rfl)) ?_; clear hA; intro a hA
                    refine dr_run tbOk 1 hA hS (e' := (110, .pointer (some ⟨b16, 4, none⟩)) :: _) rfl ?_; clear hA; intro a hA
                    refine dr_y hA rfl rfl rfl (by decide) hS (fun w' hS' => rn_load tbOk hA rfl rfl rfl rfl (cell_row (hS'.heapAt 5 rfl) rfl)) ?_; clear hA; intro a hA
                    refine dr_run tbOk 3 hA hS (e' := (12, .bool (y4 == ((cn : Nat) : Int))) :: (113, .bool (y4 == ((cn : Nat) : Int))) :: (112, .bool (y4 == ((cn : Nat) : Int))) :: _) rfl ?_; clear hA; intro a hA
                    refine dr_end ?_
                    replace hA := hA.sel [3, 4, 7, 8, 9, 10, 12, 24, 25, 26] (e' := [(3, .pointer (some ⟨b2, 0, none⟩)), (4, .slice (some ⟨b58, o59, none⟩) os2.length co2), (7, .pointer (some ⟨b16, 0, none⟩)), (8, .slice Ab bsr.length cb), (9, .bool okb), (10, .int .i64 ((k0 : Nat) : Int)), (12, .bool (y4 == ((cn : Nat) : Int))), (24, .slice (some ⟨b8, o9, none⟩) l.length c), (25, .int .i64 ((l.length : Nat) : Int)), (26, .int .i64 ((k : Nat) : Int))]) rfl
                    refine xt_norm ?_
                    replace hS := hS.front 5 (C := [(b16, rowO [.int .i64 fr, .int .i64 3, .int .u64 id, .int .i64 ((ix : Nat) : Int), .int .i64 ((cn : Nat) : Int), .slice x10A3 x10b3.length x10c3] 38)]) (L' := Cb :: L2 :: (E2 ++ D) :: Co2 :: Q :: F) rfl rfl
                    replace hS := hS.front 5 (C := Q) (L' := [(b16, rowO [.int .i64 fr, .int .i64 3, .int .u64 id, .int .i64 ((ix : Nat) : Int), .int .i64 ((cn : Nat) : Int), .slice x10A3 x10b3.length x10c3] 38)] :: Cb :: L2 :: (E2 ++ D) :: Co2 :: F) rfl rfl
                    replace hS := hS.front 5 (C := Co2) (L' := Q :: [(b16, rowO [.int .i64 fr, .int .i64 3, .int .u64 id, .int .i64 ((ix : Nat) : Int), .int .i64 ((cn : Nat) : Int), .slice x10A3 x10b3.length x10c3] 38)] :: Cb :: L2 :: (E2 ++ D) :: F) rfl rfl
                    replace hS := hS.front 5 (C := (E2 ++ D)) (L' := Co2 :: Q :: [(b16, rowO [.int .i64 fr, .int .i64 3, .int .u64 id, .int .i64 ((ix : Nat) : Int), .int .i64 ((cn : Nat) : Int), .slice x10A3 x10b3.length x10c3] 38)] :: Cb :: L2 :: F) rfl rfl
                    replace hS := hS.front 5 (C := L2) (L' := (E2 ++ D) :: Co2 :: Q :: [(b16, rowO [.int .i64 fr, .int .i64 3, .int .u64 id, .int .i64 ((ix : Nat) : Int), .int .i64 ((cn : Nat) : Int), .slice x10A3 x10b3.length x10c3] 38)] :: Cb :: F) rfl rfl
                    replace hS := hS.front 5 (C := Cb) (L' := L2 :: (E2 ++ D) :: Co2 :: Q :: [(b16, rowO [.int .i64 fr, .int .i64 3, .int .u64 id, .int .i64 ((ix : Nat) : Int), .int .i64 ((cn : Nat) : Int), .slice x10A3 x10b3.length x10c3] 38)] :: F) rfl rfl
                    replace hS := hS.front 5 (C := [(b16, rowO [.int .i64 fr, .int .i64 3, .int .u64 id, .int .i64 ((ix : Nat) : Int), .int .i64 ((cn : Nat) : Int), .slice x10A3 x10b3.length x10c3] 38)]) (L' := Cb :: L2 :: (E2 ++ D) :: Co2 :: Q :: F) rfl rfl
                    replace hS := hS.front 5 (C := Q) (L' := [(b16, rowO [.int .i64 fr, .int .i64 3, .int .u64 id, .int .i64 ((ix : Nat) : Int), .int .i64 ((cn : Nat) : Int), .slice x10A3 x10b3.length x10c3] 38)] :: Cb :: L2 :: (E2 ++ D) :: Co2 :: F) rfl rfl
                    replace hS := hS.front 5 (C := Co2) (L' := Q :: [(b16, rowO [.int .i64 fr, .int .i64 3, .int .u64 id, .int .i64 ((ix : Nat) : Int), .int .i64 ((cn : Nat) : Int), .slice x10A3 x10b3.length x10c3] 38)] :: Cb :: L2 :: (E2 ++ D) :: F) rfl rfl
                    replace hS := hS.front 5 (C := (E2 ++ D)) (L' := Co2 :: Q :: [(b16, rowO [.int .i64 fr, .int .i64 3, .int .u64 id, .int .i64 ((ix : Nat) : Int), .int .i64 ((cn : Nat) : Int), .slice x10A3 x10b3.length x10c3] 38)] :: Cb :: L2 :: F) rfl rfl
                    replace hS := hS.front 5 (C := L2) (L' := (E2 ++ D) :: Co2 :: Q :: [(b16, rowO [.int .i64 fr, .int .i64 3, .int .u64 id, .int .i64 ((ix : Nat) : Int), .int .i64 ((cn : Nat) : Int), .slice x10A3 x10b3.length x10c3] 38)] :: Cb :: F) rfl rfl
                    replace hS := hS.front 5 (C := Cb) (L' := L2 :: (E2 ++ D) :: Co2 :: Q :: [(b16, rowO [.int .i64 fr, .int .i64 3, .int .u64 id, .int .i64 ((ix : Nat) : Int), .int .i64 ((cn : Nat) : Int), .slice x10A3 x10b3.length x10c3] 38)] :: F) rfl rfl
                    exact ⟨(y4 == ((cn : Nat) : Int)), (hA.sel [3, 4, 7, 8, 9, 10, 12, 24, 25, 26] rfl), hS, (by rw [hq9]; rfl)⟩
                · clear hA hS; rintro a w62 ⟨g0, hA, hS, hg0⟩
                  refine wp_seq ?_
                  refine wp_seq ?_
                  refine wp_region_lit ?_
                  refine st_run tbOk 2 hA (e' := (115, .int .i64 ((k0 : Nat) : Int)) :: (114, .slice Ao2 os2.length co2) :: _) rfl ?_; clear hA; intro a hA
                  obtain ⟨b63, o64, rfl⟩ := hO2.isSome (k := k0) (by first | omega | (dsimp only; omega))
                  refine st_val hA rfl rfl (by decide) (rn_indexAddr tbOk hA k0 (o64 + k0) rfl rfl rfl rfl rfl rfl (by rfl) (by first | omega | (dsimp only; omega)) (by first | rfl | simp [Nat.mul_one, Nat.zero_add] | omega)) ?_; clear hA; intro a hA
                  refine st_val hA rfl rfl (by decide) (rn_load tbOk hA rfl rfl rfl rfl ((hO2.rd (hS.own_ 3 rfl)).elem0 (k := k0) encO_ok hx0 rfl)) ?_; clear hA; intro a hA
                  refine st_run tbOk 2 hA (e' := (119, .int .i64 0) :: (118, .int .i64 ((q0.length : Nat) : Int)) :: _) rfl ?_; clear hA; intro a hA
                  refine wpList_nil ?_
                  replace hA := hA.sel [3, 4, 7, 8, 9, 10, 12, 24, 25, 26, 117, 118, 119] (e' := [(3, .pointer (some ⟨b2, 0, none⟩)), (4, .slice (some ⟨b63, o64, none⟩) os2.length co2), (7, .pointer (some ⟨b16, 0, none⟩)), (8, .slice Ab bsr.length cb), (9, .bool okb), (10, .int .i64 ((k0 : Nat) : Int)), (12, .bool g0), (24, .slice (some ⟨b8, o9, none⟩) l.length c), (25, .int .i64 ((l.length : Nat) : Int)), (26, .int .i64 ((k : Nat) : Int)), (117, .slice A0 q0.length c0), (118, .int .i64 ((q0.length : Nat) : Int)), (119, .int .i64 0)]) rfl
                  refine xt_norm ?_
                  refine wp_block ?_
                  refine wp_loop_ghost (fun m a w => ∃ (i : Nat) (gg : Bool), m = q0.length - i ∧ Has a 217 [(3, .pointer (some ⟨b2, 0, none⟩)), (4, .slice (some ⟨b63, o64, none⟩) os2.length co2), (7, .pointer (some ⟨b16, 0, none⟩)), (8, .slice Ab bsr.length cb), (9, .bool okb), (10, .int .i64 ((k0 : Nat) : Int)), (12, .bool gg), (24, .slice (some ⟨b8, o9, none⟩) l.length c), (25, .int .i64 ((l.length : Nat) : Int)), (26, .int .i64 ((k : Nat) : Int)), (117, .slice A0 q0.length c0), (118, .int .i64 ((q0.length : Nat) : Int)), (119, .int .i64 ((i : Nat) : Int))] ∧ St w0 w (Cb :: L2 :: (E2 ++ D) :: Co2 :: Q :: [(b16, rowO [.int .i64 fr, .int .i64 3, .int .u64 id, .int .i64 ((ix : Nat) : Int), .int .i64 ((cn : Nat) : Int), .slice x10A3 x10b3.length x10c3] 38)] :: F) ∧ (i ≤ q0.length) ∧ (gg = (g1 q0 (fr, 3, id, ((ix : Nat) : Int), ((cn : Nat) : Int), x10A3, x10c3, x10b3) && !((q0.take i).any (fun y => pix y == pix (fr, 3, id, ((ix : Nat) : Int), ((cn : Nat) : Int), x10A3, x10c3, x10b3)))))) (q0.length - 0)
                    ⟨0, g0, rfl, (hA.sel [3, 4, 7, 8, 9, 10, 12, 24, 25, 26, 117, 118, 119] rfl), hS, Nat.zero_le _, (by rw [hg0]; simp)⟩ ?_
                  clear hA hS; rintro m0 a w65 ⟨i, gg, rfl, hA, hS, hi, hgg⟩
                  refine wp_seq ?_
                  refine wp_region_lit ?_
                  refine st_run tbOk 1 hA (e' := (120, .bool (decide (((i : Nat) : Int) < ((q0.length : Nat) : Int)))) :: _) rfl ?_; clear hA; intro a hA
                  refine wpList_nil ?_
                  refine xt_norm ?_
                  refine wp_seq ?_
                  by_cases hc66 : ((i : Nat) : Int) < ((q0.length : Nat) : Int)
                  · first
                    | (exfalso; first | omega | (dsimp only; omega))
                    | (replace hA := hA.rw 120 (v' := .bool true) rfl (vb_true hc66)
                       refine cd_cond_t hA rfl ?_
                       refine wp_skip ?_
                       refine xt_norm ?_
                       refine wp_seq ?_
                       refine wp_block ?_
                       refine wp_seq ?_
                       refine wp_region_lit ?_
                       obtain ⟨⟨y0, y1, y2, y3, y4, yA, yc, yb⟩, hyi⟩ := get_ex (l := q0) (k := i) (by omega)
                       obtain ⟨b67, o68, rfl⟩ := (hro0 _ (hS.only 4 rfl)).isSome (k := i) (by first | omega | (dsimp only; omega))
                       refine st_val hA rfl rfl (by decide) (rn_indexAddr tbOk hA i (o68 + (i * 6)) rfl rfl rfl rfl rfl rfl (by rfl) (by first | omega | (dsimp only; omega)) (by first | rfl | simp [Nat.mul_one, Nat.zero_add] | omega)) ?_; clear hA; intro a hA
                       refine st_val hA rfl rfl (by decide) (rn_loadA tbOk hA ([.int .i64 y0, .int .i64 y1, .int .u64 y2, .int .i64 y3, .int .i64 y4, .slice yA yb.length yc]) rfl rfl rfl rfl (by rfl) ((hro0 _ (hS.only 4 rfl)).elem (k := i) encPacket_ok hyi)) ?_; clear hA; intro a hA
                       refine st_alloc tbOk hA hS [.int .i64 0, .int .i64 0, .int .u64 0, .int .i64 0, .int .i64 0, .slice none 0 0] rfl rfl rfl rfl rfl (by decide) ?_; clear hA hS; intro b69 w70 a hS hA
                       refine st_store tbOk hA hS [.int .i64 y0, .int .i64 y1, .int .u64 y2, .int .i64 y3, .int .i64 y4, .slice yA yb.length yc] [.int .i64 y0, .int .i64 y1, .int .u64 y2, .int .i64 y3, .int .i64 y4, .slice yA yb.length yc] rfl rfl rfl rfl rfl rfl (by simp [Value.oneCell']) (Nat.le_of_ble_eq_true rfl) rfl rfl rfl ?_; clear hS; intro w71 hS
                       refine wpList_nil ?_
                       replace hA := hA.sel [3, 4, 7, 8, 9, 10, 12, 14, 24, 25, 26, 117, 118, 119] (e' := [(3, .pointer (some ⟨b2, 0, none⟩)), (4, .slice (some ⟨b63, o64, none⟩) os2.length co2), (7, .pointer (some ⟨b16, 0, none⟩)), (8, .slice Ab bsr.length cb), (9, .bool okb), (10, .int .i64 ((k0 : Nat) : Int)), (12, .bool gg), (14, .pointer (some ⟨b69, 0, none⟩)), (24, .slice (some ⟨b8, o9, none⟩) l.length c), (25, .int .i64 ((l.length : Nat) : Int)), (26, .int .i64 ((k : Nat) : Int)), (117, .slice (some ⟨b67, o68, none⟩) q0.length c0), (118, .int .i64 ((q0.length : Nat) : Int)), (119, .int .i64 ((i : Nat) : Int))]) rfl
                       refine xt_norm ?_
                       refine wp_region_lit ?_
                       rcases Bool.eq_false_or_eq_true gg with hgt | hgf
                       · subst hgt
                         refine st_run tbOk 3 hA (e' := (125, .pointer (some ⟨b69, 3, none⟩)) :: (124, .bool true) :: (123, .bool true) :: _) rfl ?_; clear hA; intro a hA
                         refine st_val hA rfl rfl (by decide) (rn_load tbOk hA rfl rfl rfl rfl (cell_row (hS.heapAt 0 rfl) rfl)) ?_; clear hA; intro a hA
                         refine st_run tbOk 1 hA (e' := (127, .pointer (some ⟨b16, 3, none⟩)) :: _) rfl ?_; clear hA; intro a hA
                         refine st_val hA rfl rfl (by decide) (rn_load tbOk hA rfl rfl rfl rfl (cell_row (hS.heapAt 6 rfl) rfl)) ?_; clear hA; intro a hA
                         rcases Classical.em (y3 = ((ix : Nat) : Int)) with hyx | hyx
                         · refine st_run tbOk 1 hA (e' := (129, .bool (y3 != ((ix : Nat) : Int))) :: _) rfl ?_; clear hA; intro a hA
                           replace hA := hA.rw 129 (v' := .bool false) rfl (vb_ne_f hyx)
                           refine st_run tbOk 2 hA (e' := (12, .bool false) :: (130, .bool false) :: _) rfl ?_; clear hA; intro a hA
                           refine wpList_nil ?_
                           replace hA := hA.sel [3, 4, 7, 8, 9, 10, 12, 24, 25, 26, 117, 118, 119] (e' := [(3, .pointer (some ⟨b2, 0, none⟩)), (4, .slice (some ⟨b63, o64, none⟩) os2.length co2), (7, .pointer (some ⟨b16, 0, none⟩)), (8, .slice Ab bsr.length cb), (9, .bool okb), (10, .int .i64 ((k0 : Nat) : Int)), (12, .bool false), (24, .slice (some ⟨b8, o9, none⟩) l.length c), (25, .int .i64 ((l.length : Nat) : Int)), (26, .int .i64 ((k : Nat) : Int)), (117, .slice (some ⟨b67, o68, none⟩) q0.length c0), (118, .int .i64 ((q0.length : Nat) : Int)), (119, .int .i64 ((i : Nat) : Int))]) rfl
                           refine xb_norm ?_
                           refine xt_norm ?_
                           refine wp_region_lit ?_
                           refine st_run tbOk 1 hA (e' := (131, .int .i64 (IntKind.i64.wrap (((i : Nat) : Int) + 1))) :: _) rfl ?_; clear hA; intro a hA
                           replace hA := hA.rw 131 (v' := .int .i64 ((i + 1 : Nat) : Int)) rfl (wr64 (by first | omega | (dsimp only; omega)) (by first | omega | (dsimp only; omega)) (by first | omega | (dsimp only; omega)))
                           refine st_run tbOk 1 hA (e' := (119, .int .i64 ((i + 1 : Nat) : Int)) :: _) rfl ?_; clear hA; intro a hA
                           refine wpList_nil ?_
                           replace hA := hA.sel [3, 4, 7, 8, 9, 10, 12, 24, 25, 26, 117, 118, 119] (e' := [(3, .pointer (some ⟨b2, 0, none⟩)), (4, .slice (some ⟨b63, o64, none⟩) os2.length co2), (7, .pointer (some ⟨b16, 0, none⟩)), (8, .slice Ab bsr.length cb), (9, .bool okb), (10, .int .i64 ((k0 : Nat) : Int)), (12, .bool false), (24, .slice (some ⟨b8, o9, none⟩) l.length c), (25, .int .i64 ((l.length : Nat) : Int)), (26, .int .i64 ((k : Nat) : Int)), (117, .slice (some ⟨b67, o68, none⟩) q0.length c0), (118, .int .i64 ((q0.length : Nat) : Int)), (119, .int .i64 ((i + 1 : Nat) : Int))]) rfl
                           replace hS := hS.drop1
                           replace hS := hS.front 5 (C := [(b16, rowO [.int .i64 fr, .int .i64 3, .int .u64 id, .int .i64 ((ix : Nat) : Int), .int .i64 ((cn : Nat) : Int), .slice x10A3 x10b3.length x10c3] 38)]) (L' := Cb :: L2 :: (E2 ++ D) :: Co2 :: Q :: F) rfl rfl
                           replace hS := hS.front 5 (C := Q) (L' := [(b16, rowO [.int .i64 fr, .int .i64 3, .int .u64 id, .int .i64 ((ix : Nat) : Int), .int .i64 ((cn : Nat) : Int), .slice x10A3 x10b3.length x10c3] 38)] :: Cb :: L2 :: (E2 ++ D) :: Co2 :: F) rfl rfl
                           replace hS := hS.front 5 (C := Co2) (L' := Q :: [(b16, rowO [.int .i64 fr, .int .i64 3, .int .u64 id, .int .i64 ((ix : Nat) : Int), .int .i64 ((cn : Nat) : Int), .slice x10A3 x10b3.length x10c3] 38)] :: Cb :: L2 :: (E2 ++ D) :: F) rfl rfl
                           replace hS := hS.front 5 (C := (E2 ++ D)) (L' := Co2 :: Q :: [(b16, rowO [.int .i64 fr, .int .i64 3, .int .u64 id, .int .i64 ((ix : Nat) : Int), .int .i64 ((cn : Nat) : Int), .slice x10A3 x10b3.length x10c3] 38)] :: Cb :: L2 :: F) rfl rfl
                           replace hS := hS.front 5 (C := L2) (L' := (E2 ++ D) :: Co2 :: Q :: [(b16, rowO [.int .i64 fr, .int .i64 3, .int .u64 id, .int .i64 ((ix : Nat) : Int), .int .i64 ((cn : Nat) : Int), .slice x10A3 x10b3.length x10c3] 38)] :: Cb :: F) rfl rfl
                           replace hS := hS.front 5 (C := Cb) (L' := L2 :: (E2 ++ D) :: Co2 :: Q :: [(b16, rowO [.int .i64 fr, .int .i64 3, .int .u64 id, .int .i64 ((ix : Nat) : Int), .int .i64 ((cn : Nat) : Int), .slice x10A3 x10b3.length x10c3] 38)] :: F) rfl rfl
                           exact lp_next _ (by omega) ⟨(i + 1), false, rfl, (hA.sel [3, 4, 7, 8, 9, 10, 12, 24, 25, 26, 117, 118, 119] rfl), hS, by omega, (an_y hyi (by show (y3 == ((ix : Nat) : Int)) = true; rw [beq_iff_eq]; exact hyx))⟩
                         · refine st_run tbOk 1 hA (e' := (129, .bool (y3 != ((ix : Nat) : Int))) :: _) rfl ?_; clear hA; intro a hA
                           replace hA := hA.rw 129 (v' := .bool true) rfl (vb_ne_t hyx)
                           refine st_run tbOk 2 hA (e' := (12, .bool true) :: (130, .bool true) :: _) rfl ?_; clear hA; intro a hA
                           refine wpList_nil ?_
                           replace hA := hA.sel [3, 4, 7, 8, 9, 10, 12, 24, 25, 26, 117, 118, 119] (e' := [(3, .pointer (some ⟨b2, 0, none⟩)), (4, .slice (some ⟨b63, o64, none⟩) os2.length co2), (7, .pointer (some ⟨b16, 0, none⟩)), (8, .slice Ab bsr.length cb), (9, .bool okb), (10, .int .i64 ((k0 : Nat) : Int)), (12, .bool true), (24, .slice (some ⟨b8, o9, none⟩) l.length c), (25, .int .i64 ((l.length : Nat) : Int)), (26, .int .i64 ((k : Nat) : Int)), (117, .slice (some ⟨b67, o68, none⟩) q0.length c0), (118, .int .i64 ((q0.length : Nat) : Int)), (119, .int .i64 ((i : Nat) : Int))]) rfl
                           refine xb_norm ?_
                           refine xt_norm ?_
                           refine wp_region_lit ?_
                           refine st_run tbOk 1 hA (e' := (131, .int .i64 (IntKind.i64.wrap (((i : Nat) : Int) + 1))) :: _) rfl ?_; clear hA; intro a hA
                           replace hA := hA.rw 131 (v' := .int .i64 ((i + 1 : Nat) : Int)) rfl (wr64 (by first | omega | (dsimp only; omega)) (by first | omega | (dsimp only; omega)) (by first | omega | (dsimp only; omega)))
                           refine st_run tbOk 1 hA (e' := (119, .int .i64 ((i + 1 : Nat) : Int)) :: _) rfl ?_; clear hA; intro a hA
                           refine wpList_nil ?_
                           replace hA := hA.sel [3, 4, 7, 8, 9, 10, 12, 24, 25, 26, 117, 118, 119] (e' := [(3, .pointer (some ⟨b2, 0, none⟩)), (4, .slice (some ⟨b63, o64, none⟩) os2.length co2), (7, .pointer (some ⟨b16, 0, none⟩)), (8, .slice Ab bsr.length cb), (9, .bool okb), (10, .int .i64 ((k0 : Nat) : Int)), (12, .bool true), (24, .slice (some ⟨b8, o9, none⟩) l.length c), (25, .int .i64 ((l.length : Nat) : Int)), (26, .int .i64 ((k : Nat) : Int)), (117, .slice (some ⟨b67, o68, none⟩) q0.length c0), (118, .int .i64 ((q0.length : Nat) : Int)), (119, .int .i64 ((i + 1 : Nat) : Int))]) rfl
                           replace hS := hS.drop1
                           replace hS := hS.front 5 (C := [(b16, rowO [.int .i64 fr, .int .i64 3, .int .u64 id, .int .i64 ((ix : Nat) : Int), .int .i64 ((cn : Nat) : Int), .slice x10A3 x10b3.length x10c3] 38)]) (L' := Cb :: L2 :: (E2 ++ D) :: Co2 :: Q :: F) rfl rfl
                           replace hS := hS.front 5 (C := Q) (L' := [(b16, rowO [.int .i64 fr, .int .i64 3, .int .u64 id, .int .i64 ((ix : Nat) : Int), .int .i64 ((cn : Nat) : Int), .slice x10A3 x10b3.length x10c3] 38)] :: Cb :: L2 :: (E2 ++ D) :: Co2 :: F) rfl rfl
                           replace hS := hS.front 5 (C := Co2) (L' := Q :: [(b16, rowO [.int .i64 fr, .int .i64 3, .int .u64 id, .int .i64 ((ix : Nat) : Int), .int .i64 ((cn : Nat) : Int), .slice x10A3 x10b3.length x10c3] 38)] :: Cb :: L2 :: (E2 ++ D) :: F) rfl rfl
                           replace hS := hS.front 5 (C := (E2 ++ D)) (L' := Co2 :: Q :: [(b16, rowO [.int .i64 fr, .int .i64 3, .int .u64 id, .int .i64 ((ix : Nat) : Int), .int .i64 ((cn : Nat) : Int), .slice x10A3 x10b3.length x10c3] 38)] :: Cb :: L2 :: F) rfl rfl
                           replace hS := hS.front 5 (C := L2) (L' := (E2 ++ D) :: Co2 :: Q :: [(b16, rowO [.int .i64 fr, .int .i64 3, .int .u64 id, .int .i64 ((ix : Nat) : Int), .int .i64 ((cn : Nat) : Int), .slice x10A3 x10b3.length x10c3] 38)] :: Cb :: F) rfl rfl
                           replace hS := hS.front 5 (C := Cb) (L' := L2 :: (E2 ++ D) :: Co2 :: Q :: [(b16, rowO [.int .i64 fr, .int .i64 3, .int .u64 id, .int .i64 ((ix : Nat) : Int), .int .i64 ((cn : Nat) : Int), .slice x10A3 x10b3.length x10c3] 38)] :: F) rfl rfl
                           exact lp_next _ (by omega) ⟨(i + 1), true, rfl, (hA.sel [3, 4, 7, 8, 9, 10, 12, 24, 25, 26, 117, 118, 119] rfl), hS, by omega, (an_n hyi (by show (y3 == ((ix : Nat) : Int)) = false; rw [beq_eq_false_iff_ne]; exact hyx) hgg)⟩
                       · subst hgf
                         refine st_run tbOk 6 hA (e' := (128, undef) :: (127, undef) :: (126, undef) :: (125, undef) :: (124, .bool false) :: (123, .bool false) :: _) rfl ?_; clear hA; intro a hA
                         refine st_run tbOk 1 hA (e' := (129, undef) :: _) rfl ?_; clear hA; intro a hA
                         refine st_run tbOk 2 hA (e' := (12, .bool false) :: (130, .bool false) :: _) rfl ?_; clear hA; intro a hA
                         refine wpList_nil ?_
                         replace hA := hA.sel [3, 4, 7, 8, 9, 10, 12, 24, 25, 26, 117, 118, 119] (e' := [(3, .pointer (some ⟨b2, 0, none⟩)), (4, .slice (some ⟨b63, o64, none⟩) os2.length co2), (7, .pointer (some ⟨b16, 0, none⟩)), (8, .slice Ab bsr.length cb), (9, .bool okb), (10, .int .i64 ((k0 : Nat) : Int)), (12, .bool false), (24, .slice (some ⟨b8, o9, none⟩) l.length c), (25, .int .i64 ((l.length : Nat) : Int)), (26, .int .i64 ((k : Nat) : Int)), (117, .slice (some ⟨b67, o68, none⟩) q0.length c0), (118, .int .i64 ((q0.length : Nat) : Int)), (119, .int .i64 ((i : Nat) : Int))]) rfl
                         refine xb_norm ?_
                         refine xt_norm ?_
                         refine wp_region_lit ?_
                         refine st_run tbOk 1 hA (e' := (131, .int .i64 (IntKind.i64.wrap (((i : Nat) : Int) + 1))) :: _) rfl ?_; clear hA; intro a hA
                         replace hA := hA.rw 131 (v' := .int .i64 ((i + 1 : Nat) : Int)) rfl (wr64 (by first | omega | (dsimp only; omega)) (by first | omega | (dsimp only; omega)) (by first | omega | (dsimp only; omega)))
                         refine st_run tbOk 1 hA (e' := (119, .int .i64 ((i + 1 : Nat) : Int)) :: _) rfl ?_; clear hA; intro a hA
                         refine wpList_nil ?_
                         replace hA := hA.sel [3, 4, 7, 8, 9, 10, 12, 24, 25, 26, 117, 118, 119] (e' := [(3, .pointer (some ⟨b2, 0, none⟩)), (4, .slice (some ⟨b63, o64, none⟩) os2.length co2), (7, .pointer (some ⟨b16, 0, none⟩)), (8, .slice Ab bsr.length cb), (9, .bool okb), (10, .int .i64 ((k0 : Nat) : Int)), (12, .bool false), (24, .slice (some ⟨b8, o9, none⟩) l.length c), (25, .int .i64 ((l.length : Nat) : Int)), (26, .int .i64 ((k : Nat) : Int)), (117, .slice (some ⟨b67, o68, none⟩) q0.length c0), (118, .int .i64 ((q0.length : Nat) : Int)), (119, .int .i64 ((i + 1 : Nat) : Int))]) rfl
                         replace hS := hS.drop1
                         replace hS := hS.front 5 (C := [(b16, rowO [.int .i64 fr, .int .i64 3, .int .u64 id, .int .i64 ((ix : Nat) : Int), .int .i64 ((cn : Nat) : Int), .slice x10A3 x10b3.length x10c3] 38)]) (L' := Cb :: L2 :: (E2 ++ D) :: Co2 :: Q :: F) rfl rfl
                         replace hS := hS.front 5 (C := Q) (L' := [(b16, rowO [.int .i64 fr, .int .i64 3, .int .u64 id, .int .i64 ((ix : Nat) : Int), .int .i64 ((cn : Nat) : Int), .slice x10A3 x10b3.length x10c3] 38)] :: Cb :: L2 :: (E2 ++ D) :: Co2 :: F) rfl rfl
                         replace hS := hS.front 5 (C := Co2) (L' := Q :: [(b16, rowO [.int .i64 fr, .int .i64 3, .int .u64 id, .int .i64 ((ix : Nat) : Int), .int .i64 ((cn : Nat) : Int), .slice x10A3 x10b3.length x10c3] 38)] :: Cb :: L2 :: (E2 ++ D) :: F) rfl rfl
                         replace hS := hS.front 5 (C := (E2 ++ D)) (L' := Co2 :: Q :: [(b16, rowO [.int .i64 fr, .int .i64 3, .int .u64 id, .int .i64 ((ix : Nat) : Int), .int .i64 ((cn : Nat) : Int), .slice x10A3 x10b3.length x10c3] 38)] :: Cb :: L2 :: F) rfl rfl
                         replace hS := hS.front 5 (C := L2) (L' := (E2 ++ D) :: Co2 :: Q :: [(b16, rowO [.int .i64 fr, .int .i64 3, .int .u64 id, .int .i64 ((ix : Nat) : Int), .int .i64 ((cn : Nat) : Int), .slice x10A3 x10b3.length x10c3] 38)] :: Cb :: F) rfl rfl
                         replace hS := hS.front 5 (C := Cb) (L' := L2 :: (E2 ++ D) :: Co2 :: Q :: [(b16, rowO [.int .i64 fr, .int .i64 3, .int .u64 id, .int .i64 ((ix : Nat) : Int), .int .i64 ((cn : Nat) : Int), .slice x10A3 x10b3.length x10c3] 38)] :: F) rfl rfl
                         exact lp_next _ (by omega) ⟨(i + 1), false, rfl, (hA.sel [3, 4, 7, 8, 9, 10, 12, 24, 25, 26, 117, 118, 119] rfl), hS, by omega, (an_f hyi hgg)⟩)
                  · first
                    | (exfalso; first | omega | (dsimp only; omega))
                    | (replace hA := hA.rw 120 (v' := .bool false) rfl (vb_false hc66)
                       refine cd_cond_f hA rfl ?_
                       refine wp_exit ?_
                       refine xt_exit ?_
                       refine xt_exit ?_
                       refine cd_exit_eq ?_
                       refine xt_norm ?_
                       refine wp_seq_join (fun a w => ∃ (gq : Bool) (os3 : List OPk) (A3 : Option Addr) (c3 : Nat) (q3 : List Pkt) (Ao3 : Option Addr) (co3 : Nat) (Co3 : Chunk) (Q3 : Chunk), Has a 217 [(3, .pointer (some ⟨b2, 0, none⟩)), (4, .slice Ao3 os3.length co3), (7, .pointer (some ⟨b16, 0, none⟩)), (8, .slice Ab bsr.length cb), (9, .bool okb), (10, .int .i64 ((k0 : Nat) : Int)), (12, .bool gq), (24, .slice (some ⟨b8, o9, none⟩) l.length c), (25, .int .i64 ((l.length : Nat) : Int)), (26, .int .i64 ((k : Nat) : Int))] ∧ St w0 w (Cb :: L2 :: (E2 ++ D) :: Co3 :: Q3 :: [(b16, rowO [.int .i64 fr, .int .i64 3, .int .u64 id, .int .i64 ((ix : Nat) : Int), .int .i64 ((cn : Nat) : Int), .slice x10A3 x10b3.length x10c3] 38)] :: F) ∧ (Own 24 1 (.slice Ao3 (os3).length co3) (os3).length (rows encO (os3)) Co3) ∧ (∀ x ∈ os3, RO w0 Q3 x) ∧ (∀ x ∈ os3, ∀ y ∈ oq x, ∀ D, encPacket_dd w0 D y) ∧ (os3[k0]? = some (A3, c3, q3)) ∧ ((gq = true ∧ gd q0 (fr, 3, id, ((ix : Nat) : Int), ((cn : Nat) : Int), x10A3, x10c3, x10b3) = true ∧ q3 = q0 ++ [(fr, 3, id, ((ix : Nat) : Int), ((cn : Nat) : Int), x10A3, x10c3, x10b3)] ∧ os3.map oq = (os2.map oq).set k0 (q0 ++ [(fr, 3, id, ((ix : Nat) : Int), ((cn : Nat) : Int), x10A3, x10c3, x10b3)])) ∨ (gq = false ∧ gd q0 (fr, 3, id, ((ix : Nat) : Int), ((cn : Nat) : Int), x10A3, x10c3, x10b3) = false ∧ os3.map oq = os2.map oq)) ∧ (os3.length ≤ 16) ∧ (q3.length ≤ 257)) ?_ ?_
                       · refine wp_seq ?_
                         refine wp_region_lit ?_
                         have hil2 : i = q0.length := by omega
                         rw [hil2] at hgg
                         replace hgg := gd_eq hgg
                         rcases Bool.eq_false_or_eq_true gg with hgt | hgf
                         · subst hgt
                           refine st_run tbOk 1 hA (e' := (132, .bool true) :: _) rfl ?_; clear hA; intro a hA
                           refine wpList_nil ?_
                           replace hA := hA.sel [3, 4, 7, 8, 9, 10, 12, 24, 25, 26, 132] (e' := [(3, .pointer (some ⟨b2, 0, none⟩)), (4, .slice (some ⟨b63, o64, none⟩) os2.length co2), (7, .pointer (some ⟨b16, 0, none⟩)), (8, .slice Ab bsr.length cb), (9, .bool okb), (10, .int .i64 ((k0 : Nat) : Int)), (12, .bool true), (24, .slice (some ⟨b8, o9, none⟩) l.length c), (25, .int .i64 ((l.length : Nat) : Int)), (26, .int .i64 ((k : Nat) : Int)), (132, .bool true)]) rfl
                           refine xt_norm ?_
                           refine cd_cond_t hA rfl ?_
                           refine wp_drawN (fun w' => St w0 w' (Cb :: L2 :: (E2 ++ D) :: Co2 :: Q :: [(b16, rowO [.int .i64 fr, .int .i64 3, .int .u64 id, .int .i64 ((ix : Nat) : Int), .int .i64 ((cn : Nat) : Int), .slice x10A3 x10b3.length x10c3] 38)] :: F)) [11] [(0, true), (1, true), (2, true), (3, true), (4, true), (5, true), (7, true)] 6 (.L [(8, false), (9, false), (10, true), (11, false)]) 8 (.L [(6, false), (9, false), (10, true), (11, false)]) mixed (by kernel_rfl) (by rintro c a w ⟨_, _, h, _⟩; cases h) (by rfl) (by kernel_rfl) ?_
                           replace hS := hS.drew
                           refine dr_run tbOk 4 hA hS (e' := (136, .int .i64 ((k0 : Nat) : Int)) :: (135, .slice (some ⟨b63, o64, none⟩) os2.length co2) :: (134, .int .i64 ((k0 : Nat) : Int)) :: (133, .slice (some ⟨b63, o64, none⟩) os2.length co2) :: _) rfl ?_; clear hA; intro a hA
                           refine dr_y hA rfl rfl rfl (by decide) hS (fun w' hS' => rn_indexAddr tbOk hA k0 (o64 + k0) rfl rfl rfl rfl rfl rfl (by rfl) (by first | omega | (dsimp only; omega)) (by first | rfl | simp [Nat.mul_one, Nat.zero_add] | omega)) ?_; clear hA; intro a hA
                           refine dr_y hA rfl rfl rfl (by decide) hS (fun w' hS' => rn_load tbOk hA rfl rfl rfl rfl ((hO2.rd (hS'.own_ 3 rfl)).elem0 (k := k0) encO_ok hx0 rfl)) ?_; clear hA; intro a hA
                           refine dr_y hA rfl rfl rfl (by decide) hS (fun w' hS' => rn_loadA tbOk hA [.int .i64 fr, .int .i64 3, .int .u64 id, .int .i64 ((ix : Nat) : Int), .int .i64 ((cn : Nat) : Int), .slice x10A3 x10b3.length x10c3] rfl rfl rfl rfl rfl (cells_row (hS'.heapAt 5 rfl) rfl)) ?_; clear hA; intro a hA
                           refine dr_fork ?_ ?_
                           · refine dr_b (o := _) rfl ?_
                             replace hS := hS.nil
                             refine st_append tbOk hA (m := 0) (q := q0.length) (xs := rows encPacket ([] : List (Int × Int × Int × Int × Int × Option Addr × Nat × List UInt8))) (news := rows encPacket q0) rfl rfl rfl rfl rfl rfl rfl rfl (by decide) (Own.nil 38 6) hS ((hro0 _ (hS.only 5 rfl)).x) (rows_one encPacket_ok _) (maxLen_le (by first | omega | (simp only [List.length_append, List.length_take, List.length_drop, List.length_cons, List.length_nil]; omega))) (by show (0 + q0.length) * 64 ≤ 140737488355328; first | omega | (simp only [List.length_append, List.length_take, List.length_drop, List.length_cons, List.length_nil]; omega)) rfl rfl (by decide) ?_
                             clear hA hS; intro v72 w73 C74 a hO74 hS hA
                             replace hO74 := Own.app (l := ([] : List (Int × Int × Int × Int × Int × Option Addr × Nat × List UInt8))) (l2 := q0) hO74
                             replace hO74 : Own 38 6 v72 q0.length (rows encPacket q0) C74 := hO74
                             obtain ⟨A75, c76, rfl, hmc76, hxc76⟩ := hO74.open'
                             refine dr_nil (.inr (hS.tail 1 rfl)) ?_
                             refine dr_subL ?_
                             refine dr_b (o := _) rfl ?_
                             refine st_buildSlice tbOk hA hS [.int .i64 fr, .int .i64 3, .int .u64 id, .int .i64 ((ix : Nat) : Int), .int .i64 ((cn : Nat) : Int), .slice x10A3 x10b3.length x10c3] rfl rfl rfl rfl rfl (by decide) (by kernel_rfl) rfl rfl (by decide) ?_; clear hA hS; intro b77 w78 a hS hA
                             refine dr_nil (.inr (hS.tail 2 rfl)) ?_
                             refine dr_b (o := _) rfl ?_
                             replace hS := hS.front 1 (C := C74) (L' := [(b77, rowO [.int .i64 fr, .int .i64 3, .int .u64 id, .int .i64 ((ix : Nat) : Int), .int .i64 ((cn : Nat) : Int), .slice x10A3 x10b3.length x10c3] 38)] :: Cb :: L2 :: (E2 ++ D) :: Co2 :: Q :: [(b16, rowO [.int .i64 fr, .int .i64 3, .int .u64 id, .int .i64 ((ix : Nat) : Int), .int .i64 ((cn : Nat) : Int), .slice x10A3 x10b3.length x10c3] 38)] :: F) rfl rfl
                             refine st_append tbOk hA (m := q0.length) (q := 1) (xs := rows encPacket q0) (news := rows encPacket ([(fr, 3, id, ((ix : Nat) : Int), ((cn : Nat) : Int), x10A3, x10c3, x10b3)] : List (Int × Int × Int × Int × Int × Option Addr × Nat × List UInt8))) rfl rfl rfl rfl rfl rfl rfl rfl (by decide) hO74 hS (((Own.full (T := 38) (size := 6) (g := b77) (m := 1) rfl (by decide)).rd (hS.own_ 1 rfl)).x) (rows_one encPacket_ok _) (maxLen_le (by first | omega | (simp only [List.length_append, List.length_take, List.length_drop, List.length_cons, List.length_nil]; omega))) (by show (q0.length + 1) * 64 ≤ 140737488355328; first | omega | (simp only [List.length_append, List.length_take, List.length_drop, List.length_cons, List.length_nil]; omega)) rfl rfl (by decide) ?_
                             clear hA hS; intro v79 w80 C81 a hO81 hS hA
                             replace hO81 := Own.app (l := q0) (l2 := ([(fr, 3, id, ((ix : Nat) : Int), ((cn : Nat) : Int), x10A3, x10c3, x10b3)] : List (Int × Int × Int × Int × Int × Option Addr × Nat × List UInt8))) hO81
                             obtain ⟨A82, c83, rfl, hmc83, hxc83⟩ := hO81.open'
                             refine dr_nil (.inr (hS.tail 2 rfl)) ?_
                             refine dr_y hA rfl rfl rfl (by decide) (hS.tail 2 rfl) (fun w' hS' => rn_indexAddr tbOk hA k0 (o64 + k0) rfl rfl rfl rfl rfl rfl (by rfl) (by first | omega | (dsimp only; omega)) (by first | rfl | simp [Nat.mul_one, Nat.zero_add] | omega)) ?_; clear hA; intro a hA
                             refine dr_b (o := _) rfl ?_
                             replace hS := hS.front 5 (C := Co2) (L' := C81 :: [(b77, rowO [.int .i64 fr, .int .i64 3, .int .u64 id, .int .i64 ((ix : Nat) : Int), .int .i64 ((cn : Nat) : Int), .slice x10A3 x10b3.length x10c3] 38)] :: Cb :: L2 :: (E2 ++ D) :: Q :: [(b16, rowO [.int .i64 fr, .int .i64 3, .int .u64 id, .int .i64 ((ix : Nat) : Int), .int .i64 ((cn : Nat) : Int), .slice x10A3 x10b3.length x10c3] 38)] :: F) rfl rfl
                             refine st_store_own tbOk hA hO2 hS (k0) (o64 + k0) [.slice A82 ((q0 ++ ([(fr, 3, id, ((ix : Nat) : Int), ((cn : Nat) : Int), x10A3, x10c3, x10b3)] : List (Int × Int × Int × Int × Int × Option Addr × Nat × List UInt8))).length) c83] (rows encO (os2.set k0 (A82, c83, (q0 ++ ([(fr, 3, id, ((ix : Nat) : Int), ((cn : Nat) : Int), x10A3, x10c3, x10b3)] : List (Int × Int × Int × Int × Int × Option Addr × Nat × List UInt8)))))) rfl rfl rfl rfl (by rfl) rfl rfl (by intro u hu; rw [List.mem_singleton.1 hu]; rfl) (by simp only [rows_length encO_ok, List.length_cons, List.length_nil]; omega) (by have := rows_set encO_ok (x := (A82, c83, (q0 ++ ([(fr, 3, id, ((ix : Nat) : Int), ((cn : Nat) : Int), x10A3, x10c3, x10b3)] : List (Int × Int × Int × Int × Int × Option Addr × Nat × List UInt8))))) (l := os2) (k := k0) (by omega); rw [Nat.mul_one] at this; exact this) rfl rfl ?_; clear hS; intro w84 C85 hO85 hS
                             refine dr_nil (.inl (by decide)) ?_
                             refine dr_end ?_
                             replace hA := hA.sel [3, 4, 7, 8, 9, 10, 12, 24, 25, 26] (e' := [(3, .pointer (some ⟨b2, 0, none⟩)), (4, .slice (some ⟨b63, o64, none⟩) os2.length co2), (7, .pointer (some ⟨b16, 0, none⟩)), (8, .slice Ab bsr.length cb), (9, .bool okb), (10, .int .i64 ((k0 : Nat) : Int)), (12, .bool true), (24, .slice (some ⟨b8, o9, none⟩) l.length c), (25, .int .i64 ((l.length : Nat) : Int)), (26, .int .i64 ((k : Nat) : Int))]) rfl
                             refine xt_norm ?_
                             replace hS := hS.front 2 (C := [(b77, rowO [.int .i64 fr, .int .i64 3, .int .u64 id, .int .i64 ((ix : Nat) : Int), .int .i64 ((cn : Nat) : Int), .slice x10A3 x10b3.length x10c3] 38)]) (L' := C85 :: C81 :: Cb :: L2 :: (E2 ++ D) :: Q :: [(b16, rowO [.int .i64 fr, .int .i64 3, .int .u64 id, .int .i64 ((ix : Nat) : Int), .int .i64 ((cn : Nat) : Int), .slice x10A3 x10b3.length x10c3] 38)] :: F) rfl rfl
                             replace hS := hS.drop1
                             replace hS := hS.front 6 (C := [(b16, rowO [.int .i64 fr, .int .i64 3, .int .u64 id, .int .i64 ((ix : Nat) : Int), .int .i64 ((cn : Nat) : Int), .slice x10A3 x10b3.length x10c3] 38)]) (L' := C85 :: C81 :: Cb :: L2 :: (E2 ++ D) :: Q :: F) rfl rfl
                             replace hS := hS.front 6 (C := Q) (L' := [(b16, rowO [.int .i64 fr, .int .i64 3, .int .u64 id, .int .i64 ((ix : Nat) : Int), .int .i64 ((cn : Nat) : Int), .slice x10A3 x10b3.length x10c3] 38)] :: C85 :: C81 :: Cb :: L2 :: (E2 ++ D) :: F) rfl rfl
                             replace hS := hS.front 3 (C := C81) (L' := Q :: [(b16, rowO [.int .i64 fr, .int .i64 3, .int .u64 id, .int .i64 ((ix : Nat) : Int), .int .i64 ((cn : Nat) : Int), .slice x10A3 x10b3.length x10c3] 38)] :: C85 :: Cb :: L2 :: (E2 ++ D) :: F) rfl rfl
                             replace hS := hS.front 3 (C := C85) (L' := C81 :: Q :: [(b16, rowO [.int .i64 fr, .int .i64 3, .int .u64 id, .int .i64 ((ix : Nat) : Int), .int .i64 ((cn : Nat) : Int), .slice x10A3 x10b3.length x10c3] 38)] :: Cb :: L2 :: (E2 ++ D) :: F) rfl rfl
                             replace hS := hS.front 6 (C := (E2 ++ D)) (L' := C85 :: C81 :: Q :: [(b16, rowO [.int .i64 fr, .int .i64 3, .int .u64 id, .int .i64 ((ix : Nat) : Int), .int .i64 ((cn : Nat) : Int), .slice x10A3 x10b3.length x10c3] 38)] :: Cb :: L2 :: F) rfl rfl
                             replace hS := hS.front 6 (C := L2) (L' := (E2 ++ D) :: C85 :: C81 :: Q :: [(b16, rowO [.int .i64 fr, .int .i64 3, .int .u64 id, .int .i64 ((ix : Nat) : Int), .int .i64 ((cn : Nat) : Int), .slice x10A3 x10b3.length x10c3] 38)] :: Cb :: F) rfl rfl
                             replace hS := hS.front 6 (C := Cb) (L' := L2 :: (E2 ++ D) :: C85 :: C81 :: Q :: [(b16, rowO [.int .i64 fr, .int .i64 3, .int .u64 id, .int .i64 ((ix : Nat) : Int), .int .i64 ((cn : Nat) : Int), .slice x10A3 x10b3.length x10c3] 38)] :: F) rfl rfl
                             replace hS := hS.front 5 (C := Q) (L' := Cb :: L2 :: (E2 ++ D) :: C85 :: C81 :: [(b16, rowO [.int .i64 fr, .int .i64 3, .int .u64 id, .int .i64 ((ix : Nat) : Int), .int .i64 ((cn : Nat) : Int), .slice x10A3 x10b3.length x10c3] 38)] :: F) rfl rfl
                             replace hS := hS.front 5 (C := C81) (L' := Q :: Cb :: L2 :: (E2 ++ D) :: C85 :: [(b16, rowO [.int .i64 fr, .int .i64 3, .int .u64 id, .int .i64 ((ix : Nat) : Int), .int .i64 ((cn : Nat) : Int), .slice x10A3 x10b3.length x10c3] 38)] :: F) rfl rfl
                             replace hS := hS.join
                             replace hS := hS.front 5 (C := [(b16, rowO [.int .i64 fr, .int .i64 3, .int .u64 id, .int .i64 ((ix : Nat) : Int), .int .i64 ((cn : Nat) : Int), .slice x10A3 x10b3.length x10c3] 38)]) (L' := (C81 ++ Q) :: Cb :: L2 :: (E2 ++ D) :: C85 :: F) rfl rfl
                             replace hS := hS.front 1 (C := (C81 ++ Q)) (L' := [(b16, rowO [.int .i64 fr, .int .i64 3, .int .u64 id, .int .i64 ((ix : Nat) : Int), .int .i64 ((cn : Nat) : Int), .slice x10A3 x10b3.length x10c3] 38)] :: Cb :: L2 :: (E2 ++ D) :: C85 :: F) rfl rfl
                             replace hS := hS.front 5 (C := C85) (L' := (C81 ++ Q) :: [(b16, rowO [.int .i64 fr, .int .i64 3, .int .u64 id, .int .i64 ((ix : Nat) : Int), .int .i64 ((cn : Nat) : Int), .slice x10A3 x10b3.length x10c3] 38)] :: Cb :: L2 :: (E2 ++ D) :: F) rfl rfl
                             replace hS := hS.front 5 (C := (E2 ++ D)) (L' := C85 :: (C81 ++ Q) :: [(b16, rowO [.int .i64 fr, .int .i64 3, .int .u64 id, .int .i64 ((ix : Nat) : Int), .int .i64 ((cn : Nat) : Int), .slice x10A3 x10b3.length x10c3] 38)] :: Cb :: L2 :: F) rfl rfl
                             replace hS := hS.front 5 (C := L2) (L' := (E2 ++ D) :: C85 :: (C81 ++ Q) :: [(b16, rowO [.int .i64 fr, .int .i64 3, .int .u64 id, .int .i64 ((ix : Nat) : Int), .int .i64 ((cn : Nat) : Int), .slice x10A3 x10b3.length x10c3] 38)] :: Cb :: F) rfl rfl
                             replace hS := hS.front 5 (C := Cb) (L' := L2 :: (E2 ++ D) :: C85 :: (C81 ++ Q) :: [(b16, rowO [.int .i64 fr, .int .i64 3, .int .u64 id, .int .i64 ((ix : Nat) : Int), .int .i64 ((cn : Nat) : Int), .slice x10A3 x10b3.length x10c3] 38)] :: F) rfl rfl
                             have hO9 : Own 24 1 (.slice (some ⟨b63, o64, none⟩) (os2.set k0 (A82, c83, q0 ++ ([(fr, 3, id, ((ix : Nat) : Int), ((cn : Nat) : Int), x10A3, x10c3, x10b3)] : List (Int × Int × Int × Int × Int × Option Addr × Nat × List UInt8)))).length co2) (os2.set k0 (A82, c83, q0 ++ ([(fr, 3, id, ((ix : Nat) : Int), ((cn : Nat) : Int), x10A3, x10c3, x10b3)] : List (Int × Int × Int × Int × Int × Option Addr × Nat × List UInt8)))).length (rows encO (os2.set k0 (A82, c83, q0 ++ ([(fr, 3, id, ((ix : Nat) : Int), ((cn : Nat) : Int), x10A3, x10c3, x10b3)] : List (Int × Int × Int × Int × Int × Option Addr × Nat × List UInt8))))) C85 := by rw [List.length_set]; exact hO85
                             replace hA := hA.rw 4 (v' := .slice (some ⟨b63, o64, none⟩) ((os2.set k0 (A82, c83, q0 ++ ([(fr, 3, id, ((ix : Nat) : Int), ((cn : Nat) : Int), x10A3, x10c3, x10b3)] : List (Int × Int × Int × Int × Int × Option Addr × Nat × List UInt8)))).length) co2) rfl (by rw [List.length_set])
                             exact ⟨true, (os2.set k0 (A82, c83, q0 ++ ([(fr, 3, id, ((ix : Nat) : Int), ((cn : Nat) : Int), x10A3, x10c3, x10b3)] : List (Int × Int × Int × Int × Int × Option Addr × Nat × List UInt8)))), A82, c83, (q0 ++ ([(fr, 3, id, ((ix : Nat) : Int), ((cn : Nat) : Int), x10A3, x10c3, x10b3)] : List (Int × Int × Int × Int × Int × Option Addr × Nat × List UInt8))), (some ⟨b63, o64, none⟩), co2, C85, (C81 ++ Q), (hA.sel [3, 4, 7, 8, 9, 10, 12, 24, 25, 26] rfl), hS, hO9, (ro_set hQ2 (RO.new hO81)), (go_set hG2 (gp_snoc hgq0 hpg)), (List.getElem?_set_self hk0l), (.inl ⟨rfl, hgg.symm, rfl, map_setq⟩), (by rw [List.length_set]; exact hol), (by rw [List.length_append, List.length_singleton]; omega)⟩
                           · refine dr_b (o := _) rfl ?_
                             refine st_buildSlice tbOk hA hS [.int .i64 fr, .int .i64 3, .int .u64 id, .int .i64 ((ix : Nat) : Int), .int .i64 ((cn : Nat) : Int), .slice x10A3 x10b3.length x10c3] rfl rfl rfl rfl rfl (by decide) (by kernel_rfl) rfl rfl (by decide) ?_; clear hA hS; intro b86 w87 a hS hA
                             refine dr_nil (.inr (hS.tail 1 rfl)) ?_
                             refine dr_subL ?_
                             refine dr_b (o := _) rfl ?_
                             replace hS := hS.nil
                             refine st_append tbOk hA (m := 0) (q := q0.length) (xs := rows encPacket ([] : List (Int × Int × Int × Int × Int × Option Addr × Nat × List UInt8))) (news := rows encPacket q0) rfl rfl rfl rfl rfl rfl rfl rfl (by decide) (Own.nil 38 6) hS ((hro0 _ (hS.only 6 rfl)).x) (rows_one encPacket_ok _) (maxLen_le (by first | omega | (simp only [List.length_append, List.length_take, List.length_drop, List.length_cons, List.length_nil]; omega))) (by show (0 + q0.length) * 64 ≤ 140737488355328; first | omega | (simp only [List.length_append, List.length_take, List.length_drop, List.length_cons, List.length_nil]; omega)) rfl rfl (by decide) ?_
                             clear hA hS; intro v88 w89 C90 a hO90 hS hA
                             replace hO90 := Own.app (l := ([] : List (Int × Int × Int × Int × Int × Option Addr × Nat × List UInt8))) (l2 := q0) hO90
                             replace hO90 : Own 38 6 v88 q0.length (rows encPacket q0) C90 := hO90
                             obtain ⟨A91, c92, rfl, hmc92, hxc92⟩ := hO90.open'
                             refine dr_nil (.inr (hS.tail 2 rfl)) ?_
                             refine dr_b (o := _) rfl ?_
                             refine st_append tbOk hA (m := q0.length) (q := 1) (xs := rows encPacket q0) (news := rows encPacket ([(fr, 3, id, ((ix : Nat) : Int), ((cn : Nat) : Int), x10A3, x10c3, x10b3)] : List (Int × Int × Int × Int × Int × Option Addr × Nat × List UInt8))) rfl rfl rfl rfl rfl rfl rfl rfl (by decide) hO90 hS (((Own.full (T := 38) (size := 6) (g := b86) (m := 1) rfl (by decide)).rd (hS.own_ 1 rfl)).x) (rows_one encPacket_ok _) (maxLen_le (by first | omega | (simp only [List.length_append, List.length_take, List.length_drop, List.length_cons, List.length_nil]; omega))) (by show (q0.length + 1) * 64 ≤ 140737488355328; first | omega | (simp only [List.length_append, List.length_take, List.length_drop, List.length_cons, List.length_nil]; omega)) rfl rfl (by decide) ?_
                             clear hA hS; intro v93 w94 C95 a hO95 hS hA
                             replace hO95 := Own.app (l := q0) (l2 := ([(fr, 3, id, ((ix : Nat) : Int), ((cn : Nat) : Int), x10A3, x10c3, x10b3)] : List (Int × Int × Int × Int × Int × Option Addr × Nat × List UInt8))) hO95
                             obtain ⟨A96, c97, rfl, hmc97, hxc97⟩ := hO95.open'
                             refine dr_nil (.inr (hS.tail 2 rfl)) ?_
                             refine dr_y hA rfl rfl rfl (by decide) (hS.tail 2 rfl) (fun w' hS' => rn_indexAddr tbOk hA k0 (o64 + k0) rfl rfl rfl rfl rfl rfl (by rfl) (by first | omega | (dsimp only; omega)) (by first | rfl | simp [Nat.mul_one, Nat.zero_add] | omega)) ?_; clear hA; intro a hA
                             refine dr_b (o := _) rfl ?_
                             replace hS := hS.front 5 (C := Co2) (L' := C95 :: [(b86, rowO [.int .i64 fr, .int .i64 3, .int .u64 id, .int .i64 ((ix : Nat) : Int), .int .i64 ((cn : Nat) : Int), .slice x10A3 x10b3.length x10c3] 38)] :: Cb :: L2 :: (E2 ++ D) :: Q :: [(b16, rowO [.int .i64 fr, .int .i64 3, .int .u64 id, .int .i64 ((ix : Nat) : Int), .int .i64 ((cn : Nat) : Int), .slice x10A3 x10b3.length x10c3] 38)] :: F) rfl rfl
                             refine st_store_own tbOk hA hO2 hS (k0) (o64 + k0) [.slice A96 ((q0 ++ ([(fr, 3, id, ((ix : Nat) : Int), ((cn : Nat) : Int), x10A3, x10c3, x10b3)] : List (Int × Int × Int × Int × Int × Option Addr × Nat × List UInt8))).length) c97] (rows encO (os2.set k0 (A96, c97, (q0 ++ ([(fr, 3, id, ((ix : Nat) : Int), ((cn : Nat) : Int), x10A3, x10c3, x10b3)] : List (Int × Int × Int × Int × Int × Option Addr × Nat × List UInt8)))))) rfl rfl rfl rfl (by rfl) rfl rfl (by intro u hu; rw [List.mem_singleton.1 hu]; rfl) (by simp only [rows_length encO_ok, List.length_cons, List.length_nil]; omega) (by have := rows_set encO_ok (x := (A96, c97, (q0 ++ ([(fr, 3, id, ((ix : Nat) : Int), ((cn : Nat) : Int), x10A3, x10c3, x10b3)] : List (Int × Int × Int × Int × Int × Option Addr × Nat × List UInt8))))) (l := os2) (k := k0) (by omega); rw [Nat.mul_one] at this; exact this) rfl rfl ?_; clear hS; intro w98 C99 hO99 hS
                             refine dr_nil (.inl (by decide)) ?_
                             refine dr_end ?_
                             replace hA := hA.sel [3, 4, 7, 8, 9, 10, 12, 24, 25, 26] (e' := [(3, .pointer (some ⟨b2, 0, none⟩)), (4, .slice (some ⟨b63, o64, none⟩) os2.length co2), (7, .pointer (some ⟨b16, 0, none⟩)), (8, .slice Ab bsr.length cb), (9, .bool okb), (10, .int .i64 ((k0 : Nat) : Int)), (12, .bool true), (24, .slice (some ⟨b8, o9, none⟩) l.length c), (25, .int .i64 ((l.length : Nat) : Int)), (26, .int .i64 ((k : Nat) : Int))]) rfl
                             refine xt_norm ?_
                             replace hS := hS.front 2 (C := [(b86, rowO [.int .i64 fr, .int .i64 3, .int .u64 id, .int .i64 ((ix : Nat) : Int), .int .i64 ((cn : Nat) : Int), .slice x10A3 x10b3.length x10c3] 38)]) (L' := C99 :: C95 :: Cb :: L2 :: (E2 ++ D) :: Q :: [(b16, rowO [.int .i64 fr, .int .i64 3, .int .u64 id, .int .i64 ((ix : Nat) : Int), .int .i64 ((cn : Nat) : Int), .slice x10A3 x10b3.length x10c3] 38)] :: F) rfl rfl
                             replace hS := hS.drop1
                             replace hS := hS.front 6 (C := [(b16, rowO [.int .i64 fr, .int .i64 3, .int .u64 id, .int .i64 ((ix : Nat) : Int), .int .i64 ((cn : Nat) : Int), .slice x10A3 x10b3.length x10c3] 38)]) (L' := C99 :: C95 :: Cb :: L2 :: (E2 ++ D) :: Q :: F) rfl rfl
                             replace hS := hS.front 6 (C := Q) (L' := [(b16, rowO [.int .i64 fr, .int .i64 3, .int .u64 id, .int .i64 ((ix : Nat) : Int), .int .i64 ((cn : Nat) : Int), .slice x10A3 x10b3.length x10c3] 38)] :: C99 :: C95 :: Cb :: L2 :: (E2 ++ D) :: F) rfl rfl
                             replace hS := hS.front 3 (C := C95) (L' := Q :: [(b16, rowO [.int .i64 fr, .int .i64 3, .int .u64 id, .int .i64 ((ix : Nat) : Int), .int .i64 ((cn : Nat) : Int), .slice x10A3 x10b3.length x10c3] 38)] :: C99 :: Cb :: L2 :: (E2 ++ D) :: F) rfl rfl
                             replace hS := hS.front 3 (C := C99) (L' := C95 :: Q :: [(b16, rowO [.int .i64 fr, .int .i64 3, .int .u64 id, .int .i64 ((ix : Nat) : Int), .int .i64 ((cn : Nat) : Int), .slice x10A3 x10b3.length x10c3] 38)] :: Cb :: L2 :: (E2 ++ D) :: F) rfl rfl
                             replace hS := hS.front 6 (C := (E2 ++ D)) (L' := C99 :: C95 :: Q :: [(b16, rowO [.int .i64 fr, .int .i64 3, .int .u64 id, .int .i64 ((ix : Nat) : Int), .int .i64 ((cn : Nat) : Int), .slice x10A3 x10b3.length x10c3] 38)] :: Cb :: L2 :: F) rfl rfl
                             replace hS := hS.front 6 (C := L2) (L' := (E2 ++ D) :: C99 :: C95 :: Q :: [(b16, rowO [.int .i64 fr, .int .i64 3, .int .u64 id, .int .i64 ((ix : Nat) : Int), .int .i64 ((cn : Nat) : Int), .slice x10A3 x10b3.length x10c3] 38)] :: Cb :: F) rfl rfl
                             replace hS := hS.front 6 (C := Cb) (L' := L2 :: (E2 ++ D) :: C99 :: C95 :: Q :: [(b16, rowO [.int .i64 fr, .int .i64 3, .int .u64 id, .int .i64 ((ix : Nat) : Int), .int .i64 ((cn : Nat) : Int), .slice x10A3 x10b3.length x10c3] 38)] :: F) rfl rfl
                             replace hS := hS.front 5 (C := Q) (L' := Cb :: L2 :: (E2 ++ D) :: C99 :: C95 :: [(b16, rowO [.int .i64 fr, .int .i64 3, .int .u64 id, .int .i64 ((ix : Nat) : Int), .int .i64 ((cn : Nat) : Int), .slice x10A3 x10b3.length x10c3] 38)] :: F) rfl rfl
                             replace hS := hS.front 5 (C := C95) (L' := Q :: Cb :: L2 :: (E2 ++ D) :: C99 :: [(b16, rowO [.int .i64 fr, .int .i64 3, .int .u64 id, .int .i64 ((ix : Nat) : Int), .int .i64 ((cn : Nat) : Int), .slice x10A3 x10b3.length x10c3] 38)] :: F) rfl rfl
                             replace hS := hS.join
                             replace hS := hS.front 5 (C := [(b16, rowO [.int .i64 fr, .int .i64 3, .int .u64 id, .int .i64 ((ix : Nat) : Int), .int .i64 ((cn : Nat) : Int), .slice x10A3 x10b3.length x10c3] 38)]) (L' := (C95 ++ Q) :: Cb :: L2 :: (E2 ++ D) :: C99 :: F) rfl rfl
                             replace hS := hS.front 1 (C := (C95 ++ Q)) (L' := [(b16, rowO [.int .i64 fr, .int .i64 3, .int .u64 id, .int .i64 ((ix : Nat) : Int), .int .i64 ((cn : Nat) : Int), .slice x10A3 x10b3.length x10c3] 38)] :: Cb :: L2 :: (E2 ++ D) :: C99 :: F) rfl rfl
                             replace hS := hS.front 5 (C := C99) (L' := (C95 ++ Q) :: [(b16, rowO [.int .i64 fr, .int .i64 3, .int .u64 id, .int .i64 ((ix : Nat) : Int), .int .i64 ((cn : Nat) : Int), .slice x10A3 x10b3.length x10c3] 38)] :: Cb :: L2 :: (E2 ++ D) :: F) rfl rfl
                             replace hS := hS.front 5 (C := (E2 ++ D)) (L' := C99 :: (C95 ++ Q) :: [(b16, rowO [.int .i64 fr, .int .i64 3, .int .u64 id, .int .i64 ((ix : Nat) : Int), .int .i64 ((cn : Nat) : Int), .slice x10A3 x10b3.length x10c3] 38)] :: Cb :: L2 :: F) rfl rfl
                             replace hS := hS.front 5 (C := L2) (L' := (E2 ++ D) :: C99 :: (C95 ++ Q) :: [(b16, rowO [.int .i64 fr, .int .i64 3, .int .u64 id, .int .i64 ((ix : Nat) : Int), .int .i64 ((cn : Nat) : Int), .slice x10A3 x10b3.length x10c3] 38)] :: Cb :: F) rfl rfl
                             replace hS := hS.front 5 (C := Cb) (L' := L2 :: (E2 ++ D) :: C99 :: (C95 ++ Q) :: [(b16, rowO [.int .i64 fr, .int .i64 3, .int .u64 id, .int .i64 ((ix : Nat) : Int), .int .i64 ((cn : Nat) : Int), .slice x10A3 x10b3.length x10c3] 38)] :: F) rfl rfl
                             have hO9 : Own 24 1 (.slice (some ⟨b63, o64, none⟩) (os2.set k0 (A96, c97, q0 ++ ([(fr, 3, id, ((ix : Nat) : Int), ((cn : Nat) : Int), x10A3, x10c3, x10b3)] : List (Int × Int × Int × Int × Int × Option Addr × Nat × List UInt8)))).length co2) (os2.set k0 (A96, c97, q0 ++ ([(fr, 3, id, ((ix : Nat) : Int), ((cn : Nat) : Int), x10A3, x10c3, x10b3)] : List (Int × Int × Int × Int × Int × Option Addr × Nat × List UInt8)))).length (rows encO (os2.set k0 (A96, c97, q0 ++ ([(fr, 3, id, ((ix : Nat) : Int), ((cn : Nat) : Int), x10A3, x10c3, x10b3)] : List (Int × Int × Int × Int × Int × Option Addr × Nat × List UInt8))))) C99 := by rw [List.length_set]; exact hO99
                             replace hA := hA.rw 4 (v' := .slice (some ⟨b63, o64, none⟩) ((os2.set k0 (A96, c97, q0 ++ ([(fr, 3, id, ((ix : Nat) : Int), ((cn : Nat) : Int), x10A3, x10c3, x10b3)] : List (Int × Int × Int × Int × Int × Option Addr × Nat × List UInt8)))).length) co2) rfl (by rw [List.length_set])
                             exact ⟨true, (os2.set k0 (A96, c97, q0 ++ ([(fr, 3, id, ((ix : Nat) : Int), ((cn : Nat) : Int), x10A3, x10c3, x10b3)] : List (Int × Int × Int × Int × Int × Option Addr × Nat × List UInt8)))), A96, c97, (q0 ++ ([(fr, 3, id, ((ix : Nat) : Int), ((cn : Nat) : Int), x10A3, x10c3, x10b3)] : List (Int × Int × Int × Int × Int × Option Addr × Nat × List UInt8))), (some ⟨b63, o64, none⟩), co2, C99, (C95 ++ Q), (hA.sel [3, 4, 7, 8, 9, 10, 12, 24, 25, 26] rfl), hS, hO9, (ro_set hQ2 (RO.new hO95)), (go_set hG2 (gp_snoc hgq0 hpg)), (List.getElem?_set_self hk0l), (.inl ⟨rfl, hgg.symm, rfl, map_setq⟩), (by rw [List.length_set]; exact hol), (by rw [List.length_append, List.length_singleton]; omega)⟩
                         · subst hgf
                           refine st_run tbOk 1 hA (e' := (132, .bool false) :: _) rfl ?_; clear hA; intro a hA
                           refine wpList_nil ?_
                           replace hA := hA.sel [3, 4, 7, 8, 9, 10, 12, 24, 25, 26, 132] (e' := [(3, .pointer (some ⟨b2, 0, none⟩)), (4, .slice (some ⟨b63, o64, none⟩) os2.length co2), (7, .pointer (some ⟨b16, 0, none⟩)), (8, .slice Ab bsr.length cb), (9, .bool okb), (10, .int .i64 ((k0 : Nat) : Int)), (12, .bool false), (24, .slice (some ⟨b8, o9, none⟩) l.length c), (25, .int .i64 ((l.length : Nat) : Int)), (26, .int .i64 ((k : Nat) : Int)), (132, .bool false)]) rfl
                           refine xt_norm ?_
                           refine cd_cond_f hA rfl ?_
                           refine wp_skip ?_
                           refine xt_norm ?_
                           replace hS := hS.front 5 (C := [(b16, rowO [.int .i64 fr, .int .i64 3, .int .u64 id, .int .i64 ((ix : Nat) : Int), .int .i64 ((cn : Nat) : Int), .slice x10A3 x10b3.length x10c3] 38)]) (L' := Cb :: L2 :: (E2 ++ D) :: Co2 :: Q :: F) rfl rfl
                           replace hS := hS.front 5 (C := Q) (L' := [(b16, rowO [.int .i64 fr, .int .i64 3, .int .u64 id, .int .i64 ((ix : Nat) : Int), .int .i64 ((cn : Nat) : Int), .slice x10A3 x10b3.length x10c3] 38)] :: Cb :: L2 :: (E2 ++ D) :: Co2 :: F) rfl rfl
                           replace hS := hS.front 5 (C := Co2) (L' := Q :: [(b16, rowO [.int .i64 fr, .int .i64 3, .int .u64 id, .int .i64 ((ix : Nat) : Int), .int .i64 ((cn : Nat) : Int), .slice x10A3 x10b3.length x10c3] 38)] :: Cb :: L2 :: (E2 ++ D) :: F) rfl rfl
                           replace hS := hS.front 5 (C := (E2 ++ D)) (L' := Co2 :: Q :: [(b16, rowO [.int .i64 fr, .int .i64 3, .int .u64 id, .int .i64 ((ix : Nat) : Int), .int .i64 ((cn : Nat) : Int), .slice x10A3 x10b3.length x10c3] 38)] :: Cb :: L2 :: F) rfl rfl
                           replace hS := hS.front 5 (C := L2) (L' := (E2 ++ D) :: Co2 :: Q :: [(b16, rowO [.int .i64 fr, .int .i64 3, .int .u64 id, .int .i64 ((ix : Nat) : Int), .int .i64 ((cn : Nat) : Int), .slice x10A3 x10b3.length x10c3] 38)] :: Cb :: F) rfl rfl
                           replace hS := hS.front 5 (C := Cb) (L' := L2 :: (E2 ++ D) :: Co2 :: Q :: [(b16, rowO [.int .i64 fr, .int .i64 3, .int .u64 id, .int .i64 ((ix : Nat) : Int), .int .i64 ((cn : Nat) : Int), .slice x10A3 x10b3.length x10c3] 38)] :: F) rfl rfl
                           exact ⟨false, os2, A0, c0, q0, (some ⟨b63, o64, none⟩), co2, Co2, Q, (hA.sel [3, 4, 7, 8, 9, 10, 12, 24, 25, 26] rfl), hS, hO2, hQ2, hG2, hx0, (.inr ⟨rfl, hgg.symm, rfl⟩), hol, (by omega)⟩
                       · clear hA hS; rintro a w100 ⟨gq, os3, A3, c3, q3, Ao3, co3, Co3, Q3, hA, hS, hO3, hQ3, hG3, hx3, hJ, hol3, hq3l⟩
                         have hk0l := (List.getElem?_eq_some_iff.1 hx3).1; have hro3 : ∀ w', St w0 w' [Q3] → Rd w' 6 (.slice A3 q3.length c3) q3.length (rows encPacket q3) := hQ3 _ (List.mem_of_getElem? hx3); have hgq3 : ∀ y ∈ q3, ∀ D, encPacket_dd w0 D y := hG3 _ (List.mem_of_getElem? hx3); have hcr3 := hO3.rcap
                         refine wp_seq ?_
                         obtain ⟨b101, o102, rfl⟩ := hO3.isSome (k := k0) (by first | omega | (dsimp only; omega))
                         refine wp_draw (fun w' => St w0 w' (Cb :: L2 :: (E2 ++ D) :: Co3 :: Q3 :: [(b16, rowO [.int .i64 fr, .int .i64 3, .int .u64 id, .int .i64 ((ix : Nat) : Int), .int .i64 ((cn : Nat) : Int), .slice x10A3 x10b3.length x10c3] 38)] :: F)) [] [(0, true), (1, true), (2, true), (3, true), (4, true), (5, true), (6, true), (7, true), (8, true), (9, true), (10, true), (11, true)] mixed (by kernel_rfl) (by rintro c a w ⟨_, _, h, _⟩; cases h) (by rfl) (by kernel_rfl) ?_
                         replace hS := hS.drew
                         have hJ2 : (gq = true ∧ gd q0 (fr, 3, id, ((ix : Nat) : Int), ((cn : Nat) : Int), x10A3, x10c3, x10b3) = true ∧ q3 = q0 ++ [(fr, 3, id, ((ix : Nat) : Int), ((cn : Nat) : Int), x10A3, x10c3, x10b3)] ∧ os3.map oq = (os2.map oq).set k0 (q0 ++ [(fr, 3, id, ((ix : Nat) : Int), ((cn : Nat) : Int), x10A3, x10c3, x10b3)]) ∧ q0.length + 1 = cn) ∨ (gq = true ∧ gd q0 (fr, 3, id, ((ix : Nat) : Int), ((cn : Nat) : Int), x10A3, x10c3, x10b3) = true ∧ q3 = q0 ++ [(fr, 3, id, ((ix : Nat) : Int), ((cn : Nat) : Int), x10A3, x10c3, x10b3)] ∧ os3.map oq = (os2.map oq).set k0 (q0 ++ [(fr, 3, id, ((ix : Nat) : Int), ((cn : Nat) : Int), x10A3, x10c3, x10b3)]) ∧ ¬ q0.length + 1 = cn) ∨ (gq = false ∧ gd q0 (fr, 3, id, ((ix : Nat) : Int), ((cn : Nat) : Int), x10A3, x10c3, x10b3) = false ∧ os3.map oq = os2.map oq) := by
                             rcases hJ with ⟨a1, a2, a3, a4⟩ | h
                             · by_cases hc : q0.length + 1 = cn
                               · exact .inl ⟨a1, a2, a3, a4, hc⟩
                               · exact .inr (.inl ⟨a1, a2, a3, a4, hc⟩)
                             · exact .inr (.inr h)
                         rcases hJ2 with ⟨hgq, hgd, hq3, hm3, hwh⟩ | ⟨hgq, hgd, hq3, hm3, hwh⟩ | ⟨hgq, hgd, hm3⟩
                         · subst hgq
                           have hq3n : q3.length = q0.length + 1 := by rw [hq3, List.length_append]; rfl
                           obtain ⟨hok, hR4⟩ := hNX.rlT hgd hwh hm3
                           refine dr_run tbOk 4 hA hS (e' := (147, .int .i64 ((k0 : Nat) : Int)) :: (146, .slice (some ⟨b101, o102, none⟩) os3.length co3) :: (145, .bool true) :: (144, .bool true) :: _) rfl ?_; clear hA; intro a hA
                           refine dr_y hA rfl rfl rfl (by decide) hS (fun w' hS' => rn_indexAddr tbOk hA k0 (o102 + k0) rfl rfl rfl rfl rfl rfl (by rfl) (by first | omega | (dsimp only; omega)) (by first | rfl | simp [Nat.mul_one, Nat.zero_add] | omega)) ?_; clear hA; intro a hA
                           refine dr_y hA rfl rfl rfl (by decide) hS (fun w' hS' => rn_load tbOk hA rfl rfl rfl rfl ((hO3.rd (hS'.own_ 3 rfl)).elem0 (k := k0) encO_ok hx3 rfl)) ?_; clear hA; intro a hA
                           refine dr_run tbOk 2 hA hS (e' := (151, .pointer (some ⟨b16, 4, none⟩)) :: (150, .int .i64 ((q3.length : Nat) : Int)) :: _) rfl ?_; clear hA; intro a hA
                           refine dr_y hA rfl rfl rfl (by decide) hS (fun w' hS' => rn_load tbOk hA rfl rfl rfl rfl (cell_row (hS'.heapAt 5 rfl) rfl)) ?_; clear hA; intro a hA
                           refine dr_run tbOk 1 hA hS (e' := (153, .bool (((q3.length : Nat) : Int) == ((cn : Nat) : Int))) :: _) rfl ?_; clear hA; intro a hA
                           replace hA := hA.rw 153 (v' := .bool true) rfl (vb_eq_t (by omega))
                           refine dr_run tbOk 2 hA hS (e' := (15, .bool true) :: (154, .bool true) :: _) rfl ?_; clear hA; intro a hA
                           refine dr_end ?_
                           replace hA := hA.sel [3, 4, 7, 8, 9, 10, 15, 24, 25, 26] (e' := [(3, .pointer (some ⟨b2, 0, none⟩)), (4, .slice (some ⟨b101, o102, none⟩) os3.length co3), (7, .pointer (some ⟨b16, 0, none⟩)), (8, .slice Ab bsr.length cb), (9, .bool okb), (10, .int .i64 ((k0 : Nat) : Int)), (15, .bool true), (24, .slice (some ⟨b8, o9, none⟩) l.length c), (25, .int .i64 ((l.length : Nat) : Int)), (26, .int .i64 ((k : Nat) : Int))]) rfl
                           refine xt_norm ?_
                           refine wp_seq ?_
                           refine wp_seq ?_
                           refine wp_region_lit ?_
                           replace hA := hA.rw 9 (v' := .bool true) rfl (by rw [hok])
                           have hvl4 := hR4.len; rw [List.length_map] at hvl4
                           refine st_run tbOk 3 hA (e' := (157, .bool false) :: (156, .bool true) :: (155, .bool true) :: _) rfl ?_; clear hA; intro a hA
                           refine wpList_nil ?_
                           replace hA := hA.sel [3, 4, 7, 8, 10, 15, 24, 25, 26, 157] (e' := [(3, .pointer (some ⟨b2, 0, none⟩)), (4, .slice (some ⟨b101, o102, none⟩) os3.length co3), (7, .pointer (some ⟨b16, 0, none⟩)), (8, .slice Ab bsr.length cb), (10, .int .i64 ((k0 : Nat) : Int)), (15, .bool true), (24, .slice (some ⟨b8, o9, none⟩) l.length c), (25, .int .i64 ((l.length : Nat) : Int)), (26, .int .i64 ((k : Nat) : Int)), (157, .bool false)]) rfl
                           refine xt_norm ?_
                           refine cd_cond_f hA rfl ?_
                           refine wp_skip ?_
                           refine xt_norm ?_
                           refine wp_seq ?_
                           refine wp_seq ?_
                           refine wp_region_lit ?_
                           refine st_run tbOk 1 hA (e' := (158, .bool true) :: _) rfl ?_; clear hA; intro a hA
                           refine wpList_nil ?_
                           replace hA := hA.sel [3, 4, 7, 8, 10, 15, 24, 25, 26, 158] (e' := [(3, .pointer (some ⟨b2, 0, none⟩)), (4, .slice (some ⟨b101, o102, none⟩) os3.length co3), (7, .pointer (some ⟨b16, 0, none⟩)), (8, .slice Ab bsr.length cb), (10, .int .i64 ((k0 : Nat) : Int)), (15, .bool true), (24, .slice (some ⟨b8, o9, none⟩) l.length c), (25, .int .i64 ((l.length : Nat) : Int)), (26, .int .i64 ((k : Nat) : Int)), (158, .bool true)]) rfl
                           refine xt_norm ?_
                           refine cd_cond_t hA rfl ?_
                           refine wp_seq ?_
                           refine wp_region_lit ?_
                           refine st_run tbOk 1 hA (e' := (16, .string (⟨#[]⟩ : ByteArray)) :: _) rfl ?_; clear hA; intro a hA
                           refine wpList_nil ?_
                           replace hA := hA.sel [3, 4, 7, 8, 10, 15, 16, 24, 25, 26] (e' := [(3, .pointer (some ⟨b2, 0, none⟩)), (4, .slice (some ⟨b101, o102, none⟩) os3.length co3), (7, .pointer (some ⟨b16, 0, none⟩)), (8, .slice Ab bsr.length cb), (10, .int .i64 ((k0 : Nat) : Int)), (15, .bool true), (16, .string (⟨#[]⟩ : ByteArray)), (24, .slice (some ⟨b8, o9, none⟩) l.length c), (25, .int .i64 ((l.length : Nat) : Int)), (26, .int .i64 ((k : Nat) : Int))]) rfl
                           refine xt_norm ?_
                           refine wp_seq ?_
                           refine wp_seq ?_
                           refine wp_region_lit ?_
                           refine st_run tbOk 1 hA (e' := (17, .int .i64 0) :: _) rfl ?_; clear hA; intro a hA
                           refine wpList_nil ?_
                           refine xt_norm ?_
                           refine wp_block ?_
                           replace hA := hA.rw 16 (v' := .string (bsv (dq 0 q3).flatten)) rfl (by rfl)
                           have hbs := hNX.yes hok; rw [← hq3] at hbs
                           refine wp_loop_ghost (fun m a w => ∃ (i2 : Nat), m = cn - i2 ∧ Has a 217 [(3, .pointer (some ⟨b2, 0, none⟩)), (4, .slice (some ⟨b101, o102, none⟩) os3.length co3), (7, .pointer (some ⟨b16, 0, none⟩)), (8, .slice Ab bsr.length cb), (10, .int .i64 ((k0 : Nat) : Int)), (15, .bool true), (16, .string (bsv ((dq i2 q3).flatten))), (17, .int .i64 ((i2 : Nat) : Int)), (24, .slice (some ⟨b8, o9, none⟩) l.length c), (25, .int .i64 ((l.length : Nat) : Int)), (26, .int .i64 ((k : Nat) : Int))] ∧ St w0 w (Cb :: L2 :: (E2 ++ D) :: Co3 :: Q3 :: [(b16, rowO [.int .i64 fr, .int .i64 3, .int .u64 id, .int .i64 ((ix : Nat) : Int), .int .i64 ((cn : Nat) : Int), .slice x10A3 x10b3.length x10c3] 38)] :: F) ∧ (i2 ≤ cn)) (cn - 0)
                             ⟨0, rfl, (hA.sel [3, 4, 7, 8, 10, 15, 16, 17, 24, 25, 26] rfl), hS, Nat.zero_le _⟩ ?_
                           clear hA hS; rintro m0 a w103 ⟨i2, rfl, hA, hS, hi2⟩
                           refine wp_seq ?_
                           refine wp_seq ?_
                           refine wp_region_lit ?_
                           refine st_run tbOk 2 hA (e' := (160, .pointer (some ⟨b16, 4, none⟩)) :: (159, .int .i64 ((i2 : Nat) : Int)) :: _) rfl ?_; clear hA; intro a hA
                           refine st_val hA rfl rfl (by decide) (rn_load tbOk hA rfl rfl rfl rfl (cell_row (hS.heapAt 5 rfl) rfl)) ?_; clear hA; intro a hA
                           refine st_run tbOk 1 hA (e' := (162, .bool (decide (((i2 : Nat) : Int) < ((cn : Nat) : Int)))) :: _) rfl ?_; clear hA; intro a hA
                           refine wpList_nil ?_
                           replace hA := hA.sel [3, 4, 7, 8, 10, 15, 16, 17, 24, 25, 26, 162] (e' := [(3, .pointer (some ⟨b2, 0, none⟩)), (4, .slice (some ⟨b101, o102, none⟩) os3.length co3), (7, .pointer (some ⟨b16, 0, none⟩)), (8, .slice Ab bsr.length cb), (10, .int .i64 ((k0 : Nat) : Int)), (15, .bool true), (16, .string (bsv ((dq i2 q3).flatten))), (17, .int .i64 ((i2 : Nat) : Int)), (24, .slice (some ⟨b8, o9, none⟩) l.length c), (25, .int .i64 ((l.length : Nat) : Int)), (26, .int .i64 ((k : Nat) : Int)), (162, .bool (decide (((i2 : Nat) : Int) < ((cn : Nat) : Int))))]) rfl
                           refine xt_norm ?_
                           by_cases hc104 : ((i2 : Nat) : Int) < ((cn : Nat) : Int)
                           · first
                             | (exfalso; first | omega | (dsimp only; omega))
                             | (replace hA := hA.rw 162 (v' := .bool true) rfl (vb_true hc104)
                                refine cd_cond_t hA rfl ?_
                                refine wp_skip ?_
                                refine xt_norm ?_
                                refine wp_seq ?_
                                refine wp_block ?_
                                refine wp_seq ?_
                                refine wp_region_lit ?_
                                refine st_run tbOk 2 hA (e' := (166, .int .i64 ((k0 : Nat) : Int)) :: (165, .slice (some ⟨b101, o102, none⟩) os3.length co3) :: _) rfl ?_; clear hA; intro a hA
                                refine st_val hA rfl rfl (by decide) (rn_indexAddr tbOk hA k0 (o102 + k0) rfl rfl rfl rfl rfl rfl (by rfl) (by first | omega | (dsimp only; omega)) (by first | rfl | simp [Nat.mul_one, Nat.zero_add] | omega)) ?_; clear hA; intro a hA
                                refine st_val hA rfl rfl (by decide) (rn_load tbOk hA rfl rfl rfl rfl ((hO3.rd (hS.own_ 3 rfl)).elem0 (k := k0) encO_ok hx3 rfl)) ?_; clear hA; intro a hA
                                refine st_run tbOk 2 hA (e' := (170, .int .i64 0) :: (169, .int .i64 ((q3.length : Nat) : Int)) :: _) rfl ?_; clear hA; intro a hA
                                refine wpList_nil ?_
                                replace hA := hA.sel [3, 4, 7, 8, 10, 15, 16, 17, 24, 25, 26, 168, 169, 170] (e' := [(3, .pointer (some ⟨b2, 0, none⟩)), (4, .slice (some ⟨b101, o102, none⟩) os3.length co3), (7, .pointer (some ⟨b16, 0, none⟩)), (8, .slice Ab bsr.length cb), (10, .int .i64 ((k0 : Nat) : Int)), (15, .bool true), (16, .string (bsv ((dq i2 q3).flatten))), (17, .int .i64 ((i2 : Nat) : Int)), (24, .slice (some ⟨b8, o9, none⟩) l.length c), (25, .int .i64 ((l.length : Nat) : Int)), (26, .int .i64 ((k : Nat) : Int)), (168, .slice A3 q3.length c3), (169, .int .i64 ((q3.length : Nat) : Int)), (170, .int .i64 0)]) rfl
                                refine xt_norm ?_
                                refine wp_block ?_
                                replace hA := hA.rw 16 (v' := .string (bsv ((dq i2 q3).flatten ++ d1 (q3.take 0) i2))) rfl (by rw [List.take_zero, show d1 [] i2 = [] from rfl, List.append_nil])
                                refine wp_loop_ghost (fun m a w => ∃ (j : Nat), m = q3.length - j ∧ Has a 217 [(3, .pointer (some ⟨b2, 0, none⟩)), (4, .slice (some ⟨b101, o102, none⟩) os3.length co3), (7, .pointer (some ⟨b16, 0, none⟩)), (8, .slice Ab bsr.length cb), (10, .int .i64 ((k0 : Nat) : Int)), (15, .bool true), (16, .string (bsv ((dq i2 q3).flatten ++ d1 (q3.take j) i2))), (17, .int .i64 ((i2 : Nat) : Int)), (24, .slice (some ⟨b8, o9, none⟩) l.length c), (25, .int .i64 ((l.length : Nat) : Int)), (26, .int .i64 ((k : Nat) : Int)), (168, .slice A3 q3.length c3), (169, .int .i64 ((q3.length : Nat) : Int)), (170, .int .i64 ((j : Nat) : Int))] ∧ St w0 w (Cb :: L2 :: (E2 ++ D) :: Co3 :: Q3 :: [(b16, rowO [.int .i64 fr, .int .i64 3, .int .u64 id, .int .i64 ((ix : Nat) : Int), .int .i64 ((cn : Nat) : Int), .slice x10A3 x10b3.length x10c3] 38)] :: F) ∧ (j ≤ q3.length)) (q3.length - 0)
                                  ⟨0, rfl, (hA.sel [3, 4, 7, 8, 10, 15, 16, 17, 24, 25, 26, 168, 169, 170] rfl), hS, Nat.zero_le _⟩ ?_
                                clear hA hS; rintro m0 a w105 ⟨j, rfl, hA, hS, hj⟩
                                refine wp_seq ?_
                                refine wp_region_lit ?_
                                refine st_run tbOk 1 hA (e' := (171, .bool (decide (((j : Nat) : Int) < ((q3.length : Nat) : Int)))) :: _) rfl ?_; clear hA; intro a hA
                                refine wpList_nil ?_
                                refine xt_norm ?_
                                refine wp_seq ?_
                                by_cases hc106 : ((j : Nat) : Int) < ((q3.length : Nat) : Int)
                                · first
                                  | (exfalso; first | omega | (dsimp only; omega))
                                  | (replace hA := hA.rw 171 (v' := .bool true) rfl (vb_true hc106)
                                     refine cd_cond_t hA rfl ?_
                                     refine wp_skip ?_
                                     refine xt_norm ?_
                                     refine wp_seq ?_
                                     refine wp_block ?_
                                     refine wp_seq ?_
                                     refine wp_region_lit ?_
                                     obtain ⟨⟨y0, y1, y2, y3, y4, yA, yc, yb⟩, hyj⟩ := get_ex (l := q3) (k := j) (by omega)
                                     have hdy : encPacket_dd w0 (E2 ++ D) (y0, y1, y2, y3, y4, yA, yc, yb) := hgq3 _ (List.mem_of_getElem? hyj) (E2 ++ D)
                                     obtain ⟨b107, o108, rfl⟩ := (hro3 _ (hS.only 4 rfl)).isSome (k := j) (by first | omega | (dsimp only; omega))
                                     refine st_val hA rfl rfl (by decide) (rn_indexAddr tbOk hA j (o108 + (j * 6)) rfl rfl rfl rfl rfl rfl (by rfl) (by first | omega | (dsimp only; omega)) (by first | rfl | simp [Nat.mul_one, Nat.zero_add] | omega)) ?_; clear hA; intro a hA
                                     refine st_val hA rfl rfl (by decide) (rn_loadA tbOk hA ([.int .i64 y0, .int .i64 y1, .int .u64 y2, .int .i64 y3, .int .i64 y4, .slice yA yb.length yc]) rfl rfl rfl rfl (by rfl) ((hro3 _ (hS.only 4 rfl)).elem (k := j) encPacket_ok hyj)) ?_; clear hA; intro a hA
                                     refine st_alloc tbOk hA hS [.int .i64 0, .int .i64 0, .int .u64 0, .int .i64 0, .int .i64 0, .slice none 0 0] rfl rfl rfl rfl rfl (by decide) ?_; clear hA hS; intro b109 w110 a hS hA
                                     refine st_store tbOk hA hS [.int .i64 y0, .int .i64 y1, .int .u64 y2, .int .i64 y3, .int .i64 y4, .slice yA yb.length yc] [.int .i64 y0, .int .i64 y1, .int .u64 y2, .int .i64 y3, .int .i64 y4, .slice yA yb.length yc] rfl rfl rfl rfl rfl rfl (by simp [Value.oneCell']) (Nat.le_of_ble_eq_true rfl) rfl rfl rfl ?_; clear hS; intro w111 hS
                                     refine wpList_nil ?_
                                     replace hA := hA.sel [3, 4, 7, 8, 10, 15, 16, 17, 19, 24, 25, 26, 168, 169, 170] (e' := [(3, .pointer (some ⟨b2, 0, none⟩)), (4, .slice (some ⟨b101, o102, none⟩) os3.length co3), (7, .pointer (some ⟨b16, 0, none⟩)), (8, .slice Ab bsr.length cb), (10, .int .i64 ((k0 : Nat) : Int)), (15, .bool true), (16, .string (bsv ((dq i2 q3).flatten ++ d1 (q3.take j) i2))), (17, .int .i64 ((i2 : Nat) : Int)), (19, .pointer (some ⟨b109, 0, none⟩)), (24, .slice (some ⟨b8, o9, none⟩) l.length c), (25, .int .i64 ((l.length : Nat) : Int)), (26, .int .i64 ((k : Nat) : Int)), (168, .slice (some ⟨b107, o108, none⟩) q3.length c3), (169, .int .i64 ((q3.length : Nat) : Int)), (170, .int .i64 ((j : Nat) : Int))]) rfl
                                     refine xt_norm ?_
                                     refine wp_seq ?_
                                     refine wp_region_lit ?_
                                     rcases Classical.em (y3 = ((i2 : Nat) : Int)) with hyx | hyx
                                     · have hdl5 := dp_len q3 i2 (j + 1) (n := cn) (by omega); rw [dp_yes hyj (by exact hyx), List.length_append, ← hbs] at hdl5; replace hdl5 : (dq i2 q3).flatten.length + ((d1 (q3.take j) i2).length + yb.length) ≤ bsr.length := hdl5
                                       have hsl5 : ((dq i2 q3).flatten ++ d1 (q3.take j) i2).length = (dq i2 q3).flatten.length + (d1 (q3.take j) i2).length := List.length_append
                                       refine st_run tbOk 1 hA (e' := (174, .pointer (some ⟨b109, 3, none⟩)) :: _) rfl ?_; clear hA; intro a hA
                                       refine st_val hA rfl rfl (by decide) (rn_load tbOk hA rfl rfl rfl rfl (cell_row (hS.heapAt 0 rfl) rfl)) ?_; clear hA; intro a hA
                                       refine st_run tbOk 2 hA (e' := (177, .bool (y3 == ((i2 : Nat) : Int))) :: (176, .int .i64 ((i2 : Nat) : Int)) :: _) rfl ?_; clear hA; intro a hA
                                       refine wpList_nil ?_
                                       replace hA := hA.sel [3, 4, 7, 8, 10, 15, 16, 17, 19, 24, 25, 26, 168, 169, 170, 177] (e' := [(3, .pointer (some ⟨b2, 0, none⟩)), (4, .slice (some ⟨b101, o102, none⟩) os3.length co3), (7, .pointer (some ⟨b16, 0, none⟩)), (8, .slice Ab bsr.length cb), (10, .int .i64 ((k0 : Nat) : Int)), (15, .bool true), (16, .string (bsv ((dq i2 q3).flatten ++ d1 (q3.take j) i2))), (17, .int .i64 ((i2 : Nat) : Int)), (19, .pointer (some ⟨b109, 0, none⟩)), (24, .slice (some ⟨b8, o9, none⟩) l.length c), (25, .int .i64 ((l.length : Nat) : Int)), (26, .int .i64 ((k : Nat) : Int)), (168, .slice (some ⟨b107, o108, none⟩) q3.length c3), (169, .int .i64 ((q3.length : Nat) : Int)), (170, .int .i64 ((j : Nat) : Int)), (177, .bool (y3 == ((i2 : Nat) : Int)))]) rfl
                                       refine xt_norm ?_
                                       have hc112 : y3 = ((i2 : Nat) : Int) := hyx
                                       replace hA := hA.rw 177 (v' := .bool true) rfl (vb_eq_t hc112)
                                       refine cd_cond_t hA rfl ?_
                                       refine wp_region_lit ?_
                                       refine st_run tbOk 2 hA (e' := (179, .pointer (some ⟨b109, 5, none⟩)) :: (178, .string (bsv ((dq i2 q3).flatten ++ d1 (q3.take j) i2))) :: _) rfl ?_; clear hA; intro a hA
                                       refine st_val hA rfl rfl (by decide) (rn_load tbOk hA rfl rfl rfl rfl (cell_row (hS.heapAt 0 rfl) rfl)) ?_; clear hA; intro a hA
                                       refine st_val hA rfl rfl (by decide) (rn_bstr tbOk hA (bs := yb) rfl rfl rfl rfl rfl rfl rfl rfl (hdy _ (hS.only 3 rfl))) ?_; clear hA; intro a hA
                                       refine st_val hA rfl rfl (by decide) (rn_stradd hA rfl rfl rfl (by first | omega | (dsimp only; omega))) ?_; clear hA; intro a hA
                                       refine st_run tbOk 1 hA (e' := (16, .string (bsv (((dq i2 q3).flatten ++ d1 (q3.take j) i2) ++ yb))) :: _) rfl ?_; clear hA; intro a hA
                                       refine wpList_nil ?_
                                       replace hA := hA.sel [3, 4, 7, 8, 10, 15, 16, 17, 24, 25, 26, 168, 169, 170] (e' := [(3, .pointer (some ⟨b2, 0, none⟩)), (4, .slice (some ⟨b101, o102, none⟩) os3.length co3), (7, .pointer (some ⟨b16, 0, none⟩)), (8, .slice Ab bsr.length cb), (10, .int .i64 ((k0 : Nat) : Int)), (15, .bool true), (16, .string (bsv (((dq i2 q3).flatten ++ d1 (q3.take j) i2) ++ yb))), (17, .int .i64 ((i2 : Nat) : Int)), (24, .slice (some ⟨b8, o9, none⟩) l.length c), (25, .int .i64 ((l.length : Nat) : Int)), (26, .int .i64 ((k : Nat) : Int)), (168, .slice (some ⟨b107, o108, none⟩) q3.length c3), (169, .int .i64 ((q3.length : Nat) : Int)), (170, .int .i64 ((j : Nat) : Int))]) rfl
                                       refine xb_norm ?_
                                       refine xt_norm ?_
                                       refine wp_region_lit ?_
                                       refine st_run tbOk 1 hA (e' := (183, .int .i64 (IntKind.i64.wrap (((j : Nat) : Int) + 1))) :: _) rfl ?_; clear hA; intro a hA
                                       replace hA := hA.rw 183 (v' := .int .i64 ((j + 1 : Nat) : Int)) rfl (wr64 (by first | omega | (dsimp only; omega)) (by first | omega | (dsimp only; omega)) (by first | omega | (dsimp only; omega)))
                                       refine st_run tbOk 1 hA (e' := (170, .int .i64 ((j + 1 : Nat) : Int)) :: _) rfl ?_; clear hA; intro a hA
                                       refine wpList_nil ?_
                                       replace hA := hA.sel [3, 4, 7, 8, 10, 15, 16, 17, 24, 25, 26, 168, 169, 170] (e' := [(3, .pointer (some ⟨b2, 0, none⟩)), (4, .slice (some ⟨b101, o102, none⟩) os3.length co3), (7, .pointer (some ⟨b16, 0, none⟩)), (8, .slice Ab bsr.length cb), (10, .int .i64 ((k0 : Nat) : Int)), (15, .bool true), (16, .string (bsv (((dq i2 q3).flatten ++ d1 (q3.take j) i2) ++ yb))), (17, .int .i64 ((i2 : Nat) : Int)), (24, .slice (some ⟨b8, o9, none⟩) l.length c), (25, .int .i64 ((l.length : Nat) : Int)), (26, .int .i64 ((k : Nat) : Int)), (168, .slice (some ⟨b107, o108, none⟩) q3.length c3), (169, .int .i64 ((q3.length : Nat) : Int)), (170, .int .i64 ((j + 1 : Nat) : Int))]) rfl
                                       replace hA := hA.rw 16 (v' := .string (bsv ((dq i2 q3).flatten ++ d1 (q3.take (j + 1)) i2))) rfl (by rw [dp_yes hyj (by exact hyx), ← List.append_assoc]; rfl)
                                       replace hS := hS.drop1
                                       replace hS := hS.front 5 (C := [(b16, rowO [.int .i64 fr, .int .i64 3, .int .u64 id, .int .i64 ((ix : Nat) : Int), .int .i64 ((cn : Nat) : Int), .slice x10A3 x10b3.length x10c3] 38)]) (L' := Cb :: L2 :: (E2 ++ D) :: Co3 :: Q3 :: F) rfl rfl
                                       replace hS := hS.front 5 (C := Q3) (L' := [(b16, rowO [.int .i64 fr, .int .i64 3, .int .u64 id, .int .i64 ((ix : Nat) : Int), .int .i64 ((cn : Nat) : Int), .slice x10A3 x10b3.length x10c3] 38)] :: Cb :: L2 :: (E2 ++ D) :: Co3 :: F) rfl rfl
                                       replace hS := hS.front 5 (C := Co3) (L' := Q3 :: [(b16, rowO [.int .i64 fr, .int .i64 3, .int .u64 id, .int .i64 ((ix : Nat) : Int), .int .i64 ((cn : Nat) : Int), .slice x10A3 x10b3.length x10c3] 38)] :: Cb :: L2 :: (E2 ++ D) :: F) rfl rfl
                                       replace hS := hS.front 5 (C := (E2 ++ D)) (L' := Co3 :: Q3 :: [(b16, rowO [.int .i64 fr, .int .i64 3, .int .u64 id, .int .i64 ((ix : Nat) : Int), .int .i64 ((cn : Nat) : Int), .slice x10A3 x10b3.length x10c3] 38)] :: Cb :: L2 :: F) rfl rfl
                                       replace hS := hS.front 5 (C := L2) (L' := (E2 ++ D) :: Co3 :: Q3 :: [(b16, rowO [.int .i64 fr, .int .i64 3, .int .u64 id, .int .i64 ((ix : Nat) : Int), .int .i64 ((cn : Nat) : Int), .slice x10A3 x10b3.length x10c3] 38)] :: Cb :: F) rfl rfl
                                       replace hS := hS.front 5 (C := Cb) (L' := L2 :: (E2 ++ D) :: Co3 :: Q3 :: [(b16, rowO [.int .i64 fr, .int .i64 3, .int .u64 id, .int .i64 ((ix : Nat) : Int), .int .i64 ((cn : Nat) : Int), .slice x10A3 x10b3.length x10c3] 38)] :: F) rfl rfl
                                       exact lp_next _ (by omega) ⟨(j + 1), rfl, (hA.sel [3, 4, 7, 8, 10, 15, 16, 17, 24, 25, 26, 168, 169, 170] rfl), hS, by omega⟩
                                     · refine st_run tbOk 1 hA (e' := (174, .pointer (some ⟨b109, 3, none⟩)) :: _) rfl ?_; clear hA; intro a hA
                                       refine st_val hA rfl rfl (by decide) (rn_load tbOk hA rfl rfl rfl rfl (cell_row (hS.heapAt 0 rfl) rfl)) ?_; clear hA; intro a hA
                                       refine st_run tbOk 2 hA (e' := (177, .bool (y3 == ((i2 : Nat) : Int))) :: (176, .int .i64 ((i2 : Nat) : Int)) :: _) rfl ?_; clear hA; intro a hA
                                       refine wpList_nil ?_
                                       replace hA := hA.sel [3, 4, 7, 8, 10, 15, 16, 17, 19, 24, 25, 26, 168, 169, 170, 177] (e' := [(3, .pointer (some ⟨b2, 0, none⟩)), (4, .slice (some ⟨b101, o102, none⟩) os3.length co3), (7, .pointer (some ⟨b16, 0, none⟩)), (8, .slice Ab bsr.length cb), (10, .int .i64 ((k0 : Nat) : Int)), (15, .bool true), (16, .string (bsv ((dq i2 q3).flatten ++ d1 (q3.take j) i2))), (17, .int .i64 ((i2 : Nat) : Int)), (19, .pointer (some ⟨b109, 0, none⟩)), (24, .slice (some ⟨b8, o9, none⟩) l.length c), (25, .int .i64 ((l.length : Nat) : Int)), (26, .int .i64 ((k : Nat) : Int)), (168, .slice (some ⟨b107, o108, none⟩) q3.length c3), (169, .int .i64 ((q3.length : Nat) : Int)), (170, .int .i64 ((j : Nat) : Int)), (177, .bool (y3 == ((i2 : Nat) : Int)))]) rfl
                                       refine xt_norm ?_
                                       have hc113 : ¬ (y3 = ((i2 : Nat) : Int)) := hyx
                                       replace hA := hA.rw 177 (v' := .bool false) rfl (vb_eq_f hc113)
                                       refine cd_cond_f hA rfl ?_
                                       refine wp_skip ?_
                                       refine xb_norm ?_
                                       refine xt_norm ?_
                                       refine wp_region_lit ?_
                                       refine st_run tbOk 1 hA (e' := (183, .int .i64 (IntKind.i64.wrap (((j : Nat) : Int) + 1))) :: _) rfl ?_; clear hA; intro a hA
                                       replace hA := hA.rw 183 (v' := .int .i64 ((j + 1 : Nat) : Int)) rfl (wr64 (by first | omega | (dsimp only; omega)) (by first | omega | (dsimp only; omega)) (by first | omega | (dsimp only; omega)))
                                       refine st_run tbOk 1 hA (e' := (170, .int .i64 ((j + 1 : Nat) : Int)) :: _) rfl ?_; clear hA; intro a hA
                                       refine wpList_nil ?_
                                       replace hA := hA.sel [3, 4, 7, 8, 10, 15, 16, 17, 24, 25, 26, 168, 169, 170] (e' := [(3, .pointer (some ⟨b2, 0, none⟩)), (4, .slice (some ⟨b101, o102, none⟩) os3.length co3), (7, .pointer (some ⟨b16, 0, none⟩)), (8, .slice Ab bsr.length cb), (10, .int .i64 ((k0 : Nat) : Int)), (15, .bool true), (16, .string (bsv ((dq i2 q3).flatten ++ d1 (q3.take j) i2))), (17, .int .i64 ((i2 : Nat) : Int)), (24, .slice (some ⟨b8, o9, none⟩) l.length c), (25, .int .i64 ((l.length : Nat) : Int)), (26, .int .i64 ((k : Nat) : Int)), (168, .slice (some ⟨b107, o108, none⟩) q3.length c3), (169, .int .i64 ((q3.length : Nat) : Int)), (170, .int .i64 ((j + 1 : Nat) : Int))]) rfl
                                       replace hA := hA.rw 16 (v' := .string (bsv ((dq i2 q3).flatten ++ d1 (q3.take (j + 1)) i2))) rfl (by rw [dp_no hyj (by exact hyx)])
                                       replace hS := hS.drop1
                                       replace hS := hS.front 5 (C := [(b16, rowO [.int .i64 fr, .int .i64 3, .int .u64 id, .int .i64 ((ix : Nat) : Int), .int .i64 ((cn : Nat) : Int), .slice x10A3 x10b3.length x10c3] 38)]) (L' := Cb :: L2 :: (E2 ++ D) :: Co3 :: Q3 :: F) rfl rfl
                                       replace hS := hS.front 5 (C := Q3) (L' := [(b16, rowO [.int .i64 fr, .int .i64 3, .int .u64 id, .int .i64 ((ix : Nat) : Int), .int .i64 ((cn : Nat) : Int), .slice x10A3 x10b3.length x10c3] 38)] :: Cb :: L2 :: (E2 ++ D) :: Co3 :: F) rfl rfl
                                       replace hS := hS.front 5 (C := Co3) (L' := Q3 :: [(b16, rowO [.int .i64 fr, .int .i64 3, .int .u64 id, .int .i64 ((ix : Nat) : Int), .int .i64 ((cn : Nat) : Int), .slice x10A3 x10b3.length x10c3] 38)] :: Cb :: L2 :: (E2 ++ D) :: F) rfl rfl
                                       replace hS := hS.front 5 (C := (E2 ++ D)) (L' := Co3 :: Q3 :: [(b16, rowO [.int .i64 fr, .int .i64 3, .int .u64 id, .int .i64 ((ix : Nat) : Int), .int .i64 ((cn : Nat) : Int), .slice x10A3 x10b3.length x10c3] 38)] :: Cb :: L2 :: F) rfl rfl
                                       replace hS := hS.front 5 (C := L2) (L' := (E2 ++ D) :: Co3 :: Q3 :: [(b16, rowO [.int .i64 fr, .int .i64 3, .int .u64 id, .int .i64 ((ix : Nat) : Int), .int .i64 ((cn : Nat) : Int), .slice x10A3 x10b3.length x10c3] 38)] :: Cb :: F) rfl rfl
                                       replace hS := hS.front 5 (C := Cb) (L' := L2 :: (E2 ++ D) :: Co3 :: Q3 :: [(b16, rowO [.int .i64 fr, .int .i64 3, .int .u64 id, .int .i64 ((ix : Nat) : Int), .int .i64 ((cn : Nat) : Int), .slice x10A3 x10b3.length x10c3] 38)] :: F) rfl rfl
                                       exact lp_next _ (by omega) ⟨(j + 1), rfl, (hA.sel [3, 4, 7, 8, 10, 15, 16, 17, 24, 25, 26, 168, 169, 170] rfl), hS, by omega⟩)
                                · first
                                  | (exfalso; first | omega | (dsimp only; omega))
                                  | (replace hA := hA.rw 171 (v' := .bool false) rfl (vb_false hc106)
                                     refine cd_cond_f hA rfl ?_
                                     refine wp_exit ?_
                                     refine xt_exit ?_
                                     refine xt_exit ?_
                                     refine cd_exit_eq ?_
                                     refine xb_norm ?_
                                     refine xt_norm ?_
                                     refine wp_region_lit ?_
                                     have hjl : j = q3.length := by omega
                                     replace hA := hA.rw 16 (v' := .string (bsv (dq (i2 + 1) q3).flatten)) rfl (by rw [dq_succ, hjl, List.take_length])
                                     refine st_run tbOk 2 hA (e' := (164, .int .i64 (IntKind.i64.wrap (((i2 : Nat) : Int) + 1))) :: (163, .int .i64 ((i2 : Nat) : Int)) :: _) rfl ?_; clear hA; intro a hA
                                     replace hA := hA.rw 164 (v' := .int .i64 ((i2 + 1 : Nat) : Int)) rfl (wr64 (by first | omega | (dsimp only; omega)) (by first | omega | (dsimp only; omega)) (by first | omega | (dsimp only; omega)))
                                     refine st_run tbOk 1 hA (e' := (17, .int .i64 ((i2 + 1 : Nat) : Int)) :: _) rfl ?_; clear hA; intro a hA
                                     refine wpList_nil ?_
                                     replace hA := hA.sel [3, 4, 7, 8, 10, 15, 16, 17, 24, 25, 26] (e' := [(3, .pointer (some ⟨b2, 0, none⟩)), (4, .slice (some ⟨b101, o102, none⟩) os3.length co3), (7, .pointer (some ⟨b16, 0, none⟩)), (8, .slice Ab bsr.length cb), (10, .int .i64 ((k0 : Nat) : Int)), (15, .bool true), (16, .string (bsv (dq (i2 + 1) q3).flatten)), (17, .int .i64 ((i2 + 1 : Nat) : Int)), (24, .slice (some ⟨b8, o9, none⟩) l.length c), (25, .int .i64 ((l.length : Nat) : Int)), (26, .int .i64 ((k : Nat) : Int))]) rfl
                                     replace hS := hS.front 5 (C := [(b16, rowO [.int .i64 fr, .int .i64 3, .int .u64 id, .int .i64 ((ix : Nat) : Int), .int .i64 ((cn : Nat) : Int), .slice x10A3 x10b3.length x10c3] 38)]) (L' := Cb :: L2 :: (E2 ++ D) :: Co3 :: Q3 :: F) rfl rfl
                                     replace hS := hS.front 5 (C := Q3) (L' := [(b16, rowO [.int .i64 fr, .int .i64 3, .int .u64 id, .int .i64 ((ix : Nat) : Int), .int .i64 ((cn : Nat) : Int), .slice x10A3 x10b3.length x10c3] 38)] :: Cb :: L2 :: (E2 ++ D) :: Co3 :: F) rfl rfl
                                     replace hS := hS.front 5 (C := Co3) (L' := Q3 :: [(b16, rowO [.int .i64 fr, .int .i64 3, .int .u64 id, .int .i64 ((ix : Nat) : Int), .int .i64 ((cn : Nat) : Int), .slice x10A3 x10b3.length x10c3] 38)] :: Cb :: L2 :: (E2 ++ D) :: F) rfl rfl
                                     replace hS := hS.front 5 (C := (E2 ++ D)) (L' := Co3 :: Q3 :: [(b16, rowO [.int .i64 fr, .int .i64 3, .int .u64 id, .int .i64 ((ix : Nat) : Int), .int .i64 ((cn : Nat) : Int), .slice x10A3 x10b3.length x10c3] 38)] :: Cb :: L2 :: F) rfl rfl
                                     replace hS := hS.front 5 (C := L2) (L' := (E2 ++ D) :: Co3 :: Q3 :: [(b16, rowO [.int .i64 fr, .int .i64 3, .int .u64 id, .int .i64 ((ix : Nat) : Int), .int .i64 ((cn : Nat) : Int), .slice x10A3 x10b3.length x10c3] 38)] :: Cb :: F) rfl rfl
                                     replace hS := hS.front 5 (C := Cb) (L' := L2 :: (E2 ++ D) :: Co3 :: Q3 :: [(b16, rowO [.int .i64 fr, .int .i64 3, .int .u64 id, .int .i64 ((ix : Nat) : Int), .int .i64 ((cn : Nat) : Int), .slice x10A3 x10b3.length x10c3] 38)] :: F) rfl rfl
                                     exact lp_next _ (by omega) ⟨(i2 + 1), rfl, (hA.sel [3, 4, 7, 8, 10, 15, 16, 17, 24, 25, 26] rfl), hS, by omega⟩))
                           · first
                             | (exfalso; first | omega | (dsimp only; omega))
                             | (replace hA := hA.rw 162 (v' := .bool false) rfl (vb_false hc104)
                                refine cd_cond_f hA rfl ?_
                                refine wp_exit ?_
                                refine xt_exit ?_
                                refine xt_exit ?_
                                refine cd_exit_eq ?_
                                refine xt_norm ?_
                                refine wp_seq ?_
                                refine wp_seq ?_
                                refine wp_region_lit ?_
                                have hic : i2 = cn := by omega
                                replace hA := hA.rw 16 (v' := .string (bsv bsr)) rfl (by rw [hbs, hic])
                                refine st_run tbOk 1 hA (e' := (184, .slice Ab bsr.length cb) :: _) rfl ?_; clear hA; intro a hA
                                refine st_val hA rfl rfl (by decide) (rn_bstr tbOk hA (bs := bsr) rfl rfl rfl rfl rfl rfl rfl rfl (hOb.rd (hS.own_ 0 rfl)).x) ?_; clear hA; intro a hA
                                refine st_run tbOk 2 hA (e' := (187, .bool (!((bsv bsr).toList == (bsv bsr).toList))) :: (186, .string (bsv bsr)) :: _) rfl ?_; clear hA; intro a hA
                                refine wpList_nil ?_
                                replace hA := hA.sel [3, 4, 8, 10, 15, 24, 25, 26, 187] (e' := [(3, .pointer (some ⟨b2, 0, none⟩)), (4, .slice (some ⟨b101, o102, none⟩) os3.length co3), (8, .slice Ab bsr.length cb), (10, .int .i64 ((k0 : Nat) : Int)), (15, .bool true), (24, .slice (some ⟨b8, o9, none⟩) l.length c), (25, .int .i64 ((l.length : Nat) : Int)), (26, .int .i64 ((k : Nat) : Int)), (187, .bool (!((bsv bsr).toList == (bsv bsr).toList)))]) rfl
                                refine xt_norm ?_
                                have hc114 : ¬ ((!((bsv bsr).toList == (bsv bsr).toList)) = true) := by simp
                                replace hA := hA.rw 187 (v' := .bool false) rfl (vb_f hc114)
                                refine cd_cond_f hA rfl ?_
                                refine wp_skip ?_
                                refine xt_norm ?_
                                refine wp_draw (fun w' => St w0 w' (Cb :: L2 :: (E2 ++ D) :: Co3 :: Q3 :: [(b16, rowO [.int .i64 fr, .int .i64 3, .int .u64 id, .int .i64 ((ix : Nat) : Int), .int .i64 ((cn : Nat) : Int), .slice x10A3 x10b3.length x10c3] 38)] :: F)) [] [(0, true), (1, true), (2, true), (4, true), (5, true), (6, true), (7, true), (3, false), (8, false), (9, true)] mixed (by kernel_rfl) (by rintro c a w ⟨_, _, h, _⟩; cases h) (by rfl) (by kernel_rfl) ?_
                                replace hS := hS.drew
                                refine dr_run tbOk 2 hA hS (e' := (189, .int .i64 ((k0 : Nat) : Int)) :: (188, .slice (some ⟨b101, o102, none⟩) os3.length co3) :: _) rfl ?_; clear hA; intro a hA
                                refine dr_y hA rfl rfl rfl (by decide) hS (fun w' hS' => rn_slice_h tbOk hA k0 rfl rfl rfl rfl rfl rfl (by rfl) (by first | omega | (dsimp only; omega))) ?_; clear hA; intro a hA
                                replace hA := hA.rw 190 (v' := .slice (some ⟨b101, o102, none⟩) ((os3.take k0).length) co3) rfl (congrArg (fun m => Value.slice _ m _) (by rw [List.length_take]; omega))
                                refine dr_run tbOk 3 hA hS (e' := (194, .int .i64 (IntKind.i64.wrap (((k0 : Nat) : Int) + 1))) :: (193, .int .i64 ((k0 : Nat) : Int)) :: (192, .slice (some ⟨b101, o102, none⟩) os3.length co3) :: _) rfl ?_; clear hA; intro a hA
                                replace hA := hA.rw 194 (v' := .int .i64 ((k0 + 1 : Nat) : Int)) rfl (wr64 (by first | omega | (dsimp only; omega)) (by first | omega | (dsimp only; omega)) (by first | omega | (dsimp only; omega)))
                                refine dr_y hA rfl rfl rfl (by decide) hS (fun w' hS' => rn_slice_l tbOk hA (k0 + 1) rfl rfl rfl rfl rfl rfl (by rfl) (by first | omega | (dsimp only; omega))) ?_; clear hA; intro a hA
                                refine dr_b (o := _) rfl ?_
                                replace hS := hS.nil
                                refine st_append tbOk hA (m := 0) (q := (os3.take k0).length) (xs := rows encO ([] : List OPk)) (news := rows encO (os3.take k0)) rfl rfl rfl rfl rfl rfl rfl rfl (by decide) (Own.nil 24 1) hS (((hO3.rd (hS.own_ 4 rfl)).rhead encO_ok k0 (by first | omega | (dsimp only; omega))).x) (rows_one encO_ok _) (maxLen_le (by first | omega | (simp only [List.length_append, List.length_take, List.length_drop, List.length_cons, List.length_nil]; omega))) (by show (0 + (os3.take k0).length) * 24 ≤ 140737488355328; first | omega | (simp only [List.length_append, List.length_take, List.length_drop, List.length_cons, List.length_nil]; omega)) rfl rfl (by decide) ?_
                                clear hA hS; intro v115 w116 C117 a hO117 hS hA
                                replace hO117 := Own.app (l := ([] : List OPk)) (l2 := os3.take k0) hO117
                                replace hO117 : Own 24 1 v115 (os3.take k0).length (rows encO (os3.take k0)) C117 := hO117
                                obtain ⟨A118, c119, rfl, hmc119, hxc119⟩ := hO117.open'
                                refine dr_nil (.inr (hS.tail 1 rfl)) ?_
                                refine dr_b (o := _) rfl ?_
                                refine st_append tbOk hA (m := (os3.take k0).length) (q := ((os3.take os3.length).drop (k0 + 1)).length) (xs := rows encO (os3.take k0)) (news := rows encO ((os3.take os3.length).drop (k0 + 1))) rfl rfl rfl rfl rfl rfl rfl rfl (by decide) hO117 hS (((hO3.rd (hS.own_ 4 rfl)).rslv encO_ok (k0 + 1) os3.length co3 (by first | omega | (dsimp only; omega)) (by first | omega | (dsimp only; omega)) (by first | omega | (dsimp only; omega)) (by first | omega | (dsimp only; omega))).x) (rows_one encO_ok _) (maxLen_le (by first | omega | (simp only [List.length_append, List.length_take, List.length_drop, List.length_cons, List.length_nil]; omega))) (by show ((os3.take k0).length + ((os3.take os3.length).drop (k0 + 1)).length) * 24 ≤ 140737488355328; first | omega | (simp only [List.length_append, List.length_take, List.length_drop, List.length_cons, List.length_nil]; omega)) rfl rfl (by decide) ?_
                                clear hA hS; intro v120 w121 C122 a hO122 hS hA
                                replace hO122 := Own.app (l := os3.take k0) (l2 := (os3.take os3.length).drop (k0 + 1)) hO122
                                obtain ⟨A123, c124, rfl, hmc124, hxc124⟩ := hO122.open'
                                refine dr_nil (.inr (hS.tail 1 rfl)) ?_
                                refine dr_run tbOk 1 hA (hS.tail 1 rfl) (e' := (4, .slice A123 (((os3.take k0) ++ ((os3.take os3.length).drop (k0 + 1))).length) c124) :: _) rfl ?_; clear hA; intro a hA
                                refine dr_end ?_
                                replace hA := hA.sel [3, 4, 8, 15, 24, 25, 26] (e' := [(3, .pointer (some ⟨b2, 0, none⟩)), (4, .slice A123 (((os3.take k0) ++ ((os3.take os3.length).drop (k0 + 1))).length) c124), (8, .slice Ab bsr.length cb), (15, .bool true), (24, .slice (some ⟨b8, o9, none⟩) l.length c), (25, .int .i64 ((l.length : Nat) : Int)), (26, .int .i64 ((k : Nat) : Int))]) rfl
                                refine xt_norm ?_
                                refine wp_seq ?_
                                refine wp_region_lit ?_
                                have hxl : (os3.take k0) ++ ((os3.take os3.length).drop (k0 + 1)) = os3.take k0 ++ os3.drop (k0 + 1) := by rw [List.take_length]
                                rw [hxl] at hO122
                                replace hA := hA.rw 4 (v' := .slice A123 ((os3.take k0 ++ os3.drop (k0 + 1)).length) c124) rfl (by rw [hxl])
                                refine st_run tbOk 9 hA (e' := (205, .pointer (some ⟨b2, 0, none⟩)) :: (204, .bool false) :: (203, .bool false) :: (202, undef) :: (201, undef) :: (200, undef) :: (199, .bool false) :: (198, .bool false) :: (197, .bool true) :: _) rfl ?_; clear hA; intro a hA
                                replace hS := hS.front 3 (C := (E2 ++ D)) (L' := C122 :: Cb :: L2 :: Co3 :: Q3 :: [(b16, rowO [.int .i64 fr, .int .i64 3, .int .u64 id, .int .i64 ((ix : Nat) : Int), .int .i64 ((cn : Nat) : Int), .slice x10A3 x10b3.length x10c3] 38)] :: F) rfl rfl
                                replace hS := hS.front 3 (C := L2) (L' := (E2 ++ D) :: C122 :: Cb :: Co3 :: Q3 :: [(b16, rowO [.int .i64 fr, .int .i64 3, .int .u64 id, .int .i64 ((ix : Nat) : Int), .int .i64 ((cn : Nat) : Int), .slice x10A3 x10b3.length x10c3] 38)] :: F) rfl rfl
                                refine st_call0 hA rfl rfl rfl isfn10 rfl rfl (by decide) (waiting10 hS hM2) ?_
                                clear hA hS; rintro _ w125 a ⟨L126, hM127, rfl, hS⟩ hA
                                refine st_run tbOk 4 hA (e' := (210, .bool (((vs'.length : Nat) : Int) != (((os3.take k0 ++ os3.drop (k0 + 1)).length : Nat) : Int))) :: (209, .bool (((vs'.length : Nat) : Int) != (((os3.take k0 ++ os3.drop (k0 + 1)).length : Nat) : Int))) :: (208, .int .i64 (((os3.take k0 ++ os3.drop (k0 + 1)).length : Nat) : Int)) :: (207, .slice A123 ((os3.take k0 ++ os3.drop (k0 + 1)).length) c124) :: _) rfl ?_; clear hA; intro a hA
                                refine wpList_nil ?_
                                replace hA := hA.sel [3, 4, 24, 25, 26, 210] (e' := [(3, .pointer (some ⟨b2, 0, none⟩)), (4, .slice A123 ((os3.take k0 ++ os3.drop (k0 + 1)).length) c124), (24, .slice (some ⟨b8, o9, none⟩) l.length c), (25, .int .i64 ((l.length : Nat) : Int)), (26, .int .i64 ((k : Nat) : Int)), (210, .bool (((vs'.length : Nat) : Int) != (((os3.take k0 ++ os3.drop (k0 + 1)).length : Nat) : Int)))]) rfl
                                refine xt_norm ?_
                                have hc128 : ((vs'.length : Nat) : Int) = (((os3.take k0 ++ os3.drop (k0 + 1)).length : Nat) : Int) := by omega
                                replace hA := hA.rw 210 (v' := .bool false) rfl (vb_ne_f hc128)
                                refine cd_cond_f hA rfl ?_
                                refine wp_skip ?_
                                refine xb_norm ?_
                                refine xt_norm ?_
                                refine wp_region_lit ?_
                                refine st_run tbOk 1 hA (e' := (211, .int .i64 (IntKind.i64.wrap (((k : Nat) : Int) + 1))) :: _) rfl ?_; clear hA; intro a hA
                                replace hA := hA.rw 211 (v' := .int .i64 ((k + 1 : Nat) : Int)) rfl (wr64 (by first | omega | (dsimp only; omega)) (by first | omega | (dsimp only; omega)) (by first | omega | (dsimp only; omega)))
                                refine st_run tbOk 1 hA (e' := (26, .int .i64 ((k + 1 : Nat) : Int)) :: _) rfl ?_; clear hA; intro a hA
                                refine wpList_nil ?_
                                replace hA := hA.sel [3, 4, 24, 25, 26] (e' := [(3, .pointer (some ⟨b2, 0, none⟩)), (4, .slice A123 ((os3.take k0 ++ os3.drop (k0 + 1)).length) c124), (24, .slice (some ⟨b8, o9, none⟩) l.length c), (25, .int .i64 ((l.length : Nat) : Int)), (26, .int .i64 ((k + 1 : Nat) : Int))]) rfl
                                replace hS := hS.front 3 (C := Cb) (L' := L126 :: (E2 ++ D) :: C122 :: Co3 :: Q3 :: [(b16, rowO [.int .i64 fr, .int .i64 3, .int .u64 id, .int .i64 ((ix : Nat) : Int), .int .i64 ((cn : Nat) : Int), .slice x10A3 x10b3.length x10c3] 38)] :: F) rfl rfl
                                replace hS := hS.drop1
                                replace hS := hS.front 3 (C := Co3) (L' := L126 :: (E2 ++ D) :: C122 :: Q3 :: [(b16, rowO [.int .i64 fr, .int .i64 3, .int .u64 id, .int .i64 ((ix : Nat) : Int), .int .i64 ((cn : Nat) : Int), .slice x10A3 x10b3.length x10c3] 38)] :: F) rfl rfl
                                replace hS := hS.drop1
                                replace hS := hS.front 4 (C := [(b16, rowO [.int .i64 fr, .int .i64 3, .int .u64 id, .int .i64 ((ix : Nat) : Int), .int .i64 ((cn : Nat) : Int), .slice x10A3 x10b3.length x10c3] 38)]) (L' := L126 :: (E2 ++ D) :: C122 :: Q3 :: F) rfl rfl
                                replace hS := hS.drop1
                                replace hS := hS.front 3 (C := Q3) (L' := L126 :: (E2 ++ D) :: C122 :: F) rfl rfl
                                replace hS := hS.front 3 (C := C122) (L' := Q3 :: L126 :: (E2 ++ D) :: F) rfl rfl
                                replace hS := hS.front 3 (C := (E2 ++ D)) (L' := C122 :: Q3 :: L126 :: F) rfl rfl
                                replace hS := hS.front 3 (C := L126) (L' := (E2 ++ D) :: C122 :: Q3 :: F) rfl rfl
                                exact lp_next _ (by omega) ⟨(k + 1), vs', (os3.take k0 ++ os3.drop (k0 + 1)), L126, (E2 ++ D), C122, Q3, A123, c124, rfl, (hA.sel [3, 4, 24, 25, 26] rfl), hS, by omega, hM127, hO122, (sub_all hQ3), (sub_all hG3), hR4⟩)
                         · subst hgq
                           have hq3n : q3.length = q0.length + 1 := by rw [hq3, List.length_append]; rfl
                           obtain ⟨hok, hR4⟩ := hNX.rlP hgd hwh hm3
                           refine dr_run tbOk 4 hA hS (e' := (147, .int .i64 ((k0 : Nat) : Int)) :: (146, .slice (some ⟨b101, o102, none⟩) os3.length co3) :: (145, .bool true) :: (144, .bool true) :: _) rfl ?_; clear hA; intro a hA
                           refine dr_y hA rfl rfl rfl (by decide) hS (fun w' hS' => rn_indexAddr tbOk hA k0 (o102 + k0) rfl rfl rfl rfl rfl rfl (by rfl) (by first | omega | (dsimp only; omega)) (by first | rfl | simp [Nat.mul_one, Nat.zero_add] | omega)) ?_; clear hA; intro a hA
                           refine dr_y hA rfl rfl rfl (by decide) hS (fun w' hS' => rn_load tbOk hA rfl rfl rfl rfl ((hO3.rd (hS'.own_ 3 rfl)).elem0 (k := k0) encO_ok hx3 rfl)) ?_; clear hA; intro a hA
                           refine dr_run tbOk 2 hA hS (e' := (151, .pointer (some ⟨b16, 4, none⟩)) :: (150, .int .i64 ((q3.length : Nat) : Int)) :: _) rfl ?_; clear hA; intro a hA
                           refine dr_y hA rfl rfl rfl (by decide) hS (fun w' hS' => rn_load tbOk hA rfl rfl rfl rfl (cell_row (hS'.heapAt 5 rfl) rfl)) ?_; clear hA; intro a hA
                           refine dr_run tbOk 1 hA hS (e' := (153, .bool (((q3.length : Nat) : Int) == ((cn : Nat) : Int))) :: _) rfl ?_; clear hA; intro a hA
                           replace hA := hA.rw 153 (v' := .bool false) rfl (vb_eq_f (by omega))
                           refine dr_run tbOk 2 hA hS (e' := (15, .bool false) :: (154, .bool false) :: _) rfl ?_; clear hA; intro a hA
                           refine dr_end ?_
                           replace hA := hA.sel [3, 4, 7, 8, 9, 10, 15, 24, 25, 26] (e' := [(3, .pointer (some ⟨b2, 0, none⟩)), (4, .slice (some ⟨b101, o102, none⟩) os3.length co3), (7, .pointer (some ⟨b16, 0, none⟩)), (8, .slice Ab bsr.length cb), (9, .bool okb), (10, .int .i64 ((k0 : Nat) : Int)), (15, .bool false), (24, .slice (some ⟨b8, o9, none⟩) l.length c), (25, .int .i64 ((l.length : Nat) : Int)), (26, .int .i64 ((k : Nat) : Int))]) rfl
                           refine xt_norm ?_
                           refine wp_seq ?_
                           refine wp_seq ?_
                           refine wp_region_lit ?_
                           replace hA := hA.rw 9 (v' := .bool false) rfl (by rw [hok])
                           have hb0 : bsr.length = 0 := by rw [hNX.no hok]; rfl
                           have hvl4 := hR4.len; rw [List.length_map] at hvl4
                           refine st_run tbOk 3 hA (e' := (157, .bool false) :: (156, .bool false) :: (155, .bool false) :: _) rfl ?_; clear hA; intro a hA
                           refine wpList_nil ?_
                           replace hA := hA.sel [3, 4, 7, 8, 10, 15, 24, 25, 26, 157] (e' := [(3, .pointer (some ⟨b2, 0, none⟩)), (4, .slice (some ⟨b101, o102, none⟩) os3.length co3), (7, .pointer (some ⟨b16, 0, none⟩)), (8, .slice Ab bsr.length cb), (10, .int .i64 ((k0 : Nat) : Int)), (15, .bool false), (24, .slice (some ⟨b8, o9, none⟩) l.length c), (25, .int .i64 ((l.length : Nat) : Int)), (26, .int .i64 ((k : Nat) : Int)), (157, .bool false)]) rfl
                           refine xt_norm ?_
                           refine cd_cond_f hA rfl ?_
                           refine wp_skip ?_
                           refine xt_norm ?_
                           refine wp_seq ?_
                           refine wp_seq ?_
                           refine wp_region_lit ?_
                           refine st_run tbOk 1 hA (e' := (158, .bool false) :: _) rfl ?_; clear hA; intro a hA
                           refine wpList_nil ?_
                           replace hA := hA.sel [3, 4, 7, 8, 10, 15, 24, 25, 26, 158] (e' := [(3, .pointer (some ⟨b2, 0, none⟩)), (4, .slice (some ⟨b101, o102, none⟩) os3.length co3), (7, .pointer (some ⟨b16, 0, none⟩)), (8, .slice Ab bsr.length cb), (10, .int .i64 ((k0 : Nat) : Int)), (15, .bool false), (24, .slice (some ⟨b8, o9, none⟩) l.length c), (25, .int .i64 ((l.length : Nat) : Int)), (26, .int .i64 ((k : Nat) : Int)), (158, .bool false)]) rfl
                           refine xt_norm ?_
                           refine cd_cond_f hA rfl ?_
                           refine wp_skip ?_
                           refine xt_norm ?_
                           refine wp_seq ?_
                           refine wp_region_lit ?_
                           refine st_run tbOk 8 hA (e' := (204, .bool (((bsr.length : Nat) : Int) != 0)) :: (203, .bool (((bsr.length : Nat) : Int) != 0)) :: (202, .bool (((bsr.length : Nat) : Int) != 0)) :: (201, .int .i64 ((bsr.length : Nat) : Int)) :: (200, .slice Ab bsr.length cb) :: (199, .bool true) :: (198, .bool true) :: (197, .bool false) :: _) rfl ?_; clear hA; intro a hA
                           have hc129 : ((bsr.length : Nat) : Int) = 0 := by omega
                           replace hA := hA.rw 202 (v' := .bool false) rfl (vb_ne_f hc129)
                           replace hA := hA.rw 203 (v' := .bool false) rfl (vb_ne_f hc129)
                           replace hA := hA.rw 204 (v' := .bool false) rfl (vb_ne_f hc129)
                           refine st_run tbOk 1 hA (e' := (205, .pointer (some ⟨b2, 0, none⟩)) :: _) rfl ?_; clear hA; intro a hA
                           replace hS := hS.front 2 (C := (E2 ++ D)) (L' := Cb :: L2 :: Co3 :: Q3 :: [(b16, rowO [.int .i64 fr, .int .i64 3, .int .u64 id, .int .i64 ((ix : Nat) : Int), .int .i64 ((cn : Nat) : Int), .slice x10A3 x10b3.length x10c3] 38)] :: F) rfl rfl
                           replace hS := hS.front 2 (C := L2) (L' := (E2 ++ D) :: Cb :: Co3 :: Q3 :: [(b16, rowO [.int .i64 fr, .int .i64 3, .int .u64 id, .int .i64 ((ix : Nat) : Int), .int .i64 ((cn : Nat) : Int), .slice x10A3 x10b3.length x10c3] 38)] :: F) rfl rfl
                           refine st_call0 hA rfl rfl rfl isfn10 rfl rfl (by decide) (waiting10 hS hM2) ?_
                           clear hA hS; rintro _ w130 a ⟨L131, hM132, rfl, hS⟩ hA
                           refine st_run tbOk 4 hA (e' := (210, .bool (((vs'.length : Nat) : Int) != ((os3.length : Nat) : Int))) :: (209, .bool (((vs'.length : Nat) : Int) != ((os3.length : Nat) : Int))) :: (208, .int .i64 ((os3.length : Nat) : Int)) :: (207, .slice (some ⟨b101, o102, none⟩) os3.length co3) :: _) rfl ?_; clear hA; intro a hA
                           refine wpList_nil ?_
                           replace hA := hA.sel [3, 4, 24, 25, 26, 210] (e' := [(3, .pointer (some ⟨b2, 0, none⟩)), (4, .slice (some ⟨b101, o102, none⟩) os3.length co3), (24, .slice (some ⟨b8, o9, none⟩) l.length c), (25, .int .i64 ((l.length : Nat) : Int)), (26, .int .i64 ((k : Nat) : Int)), (210, .bool (((vs'.length : Nat) : Int) != ((os3.length : Nat) : Int)))]) rfl
                           refine xt_norm ?_
                           have hc133 : ((vs'.length : Nat) : Int) = ((os3.length : Nat) : Int) := by omega
                           replace hA := hA.rw 210 (v' := .bool false) rfl (vb_ne_f hc133)
                           refine cd_cond_f hA rfl ?_
                           refine wp_skip ?_
                           refine xb_norm ?_
                           refine xt_norm ?_
                           refine wp_region_lit ?_
                           refine st_run tbOk 1 hA (e' := (211, .int .i64 (IntKind.i64.wrap (((k : Nat) : Int) + 1))) :: _) rfl ?_; clear hA; intro a hA
                           replace hA := hA.rw 211 (v' := .int .i64 ((k + 1 : Nat) : Int)) rfl (wr64 (by first | omega | (dsimp only; omega)) (by first | omega | (dsimp only; omega)) (by first | omega | (dsimp only; omega)))
                           refine st_run tbOk 1 hA (e' := (26, .int .i64 ((k + 1 : Nat) : Int)) :: _) rfl ?_; clear hA; intro a hA
                           refine wpList_nil ?_
                           replace hA := hA.sel [3, 4, 24, 25, 26] (e' := [(3, .pointer (some ⟨b2, 0, none⟩)), (4, .slice (some ⟨b101, o102, none⟩) os3.length co3), (24, .slice (some ⟨b8, o9, none⟩) l.length c), (25, .int .i64 ((l.length : Nat) : Int)), (26, .int .i64 ((k + 1 : Nat) : Int))]) rfl
                           replace hS := hS.front 2 (C := Cb) (L' := L131 :: (E2 ++ D) :: Co3 :: Q3 :: [(b16, rowO [.int .i64 fr, .int .i64 3, .int .u64 id, .int .i64 ((ix : Nat) : Int), .int .i64 ((cn : Nat) : Int), .slice x10A3 x10b3.length x10c3] 38)] :: F) rfl rfl
                           replace hS := hS.drop1
                           replace hS := hS.front 4 (C := [(b16, rowO [.int .i64 fr, .int .i64 3, .int .u64 id, .int .i64 ((ix : Nat) : Int), .int .i64 ((cn : Nat) : Int), .slice x10A3 x10b3.length x10c3] 38)]) (L' := L131 :: (E2 ++ D) :: Co3 :: Q3 :: F) rfl rfl
                           replace hS := hS.drop1
                           replace hS := hS.front 3 (C := Q3) (L' := L131 :: (E2 ++ D) :: Co3 :: F) rfl rfl
                           replace hS := hS.front 3 (C := Co3) (L' := Q3 :: L131 :: (E2 ++ D) :: F) rfl rfl
                           replace hS := hS.front 3 (C := (E2 ++ D)) (L' := Co3 :: Q3 :: L131 :: F) rfl rfl
                           replace hS := hS.front 3 (C := L131) (L' := (E2 ++ D) :: Co3 :: Q3 :: F) rfl rfl
                           exact lp_next _ (by omega) ⟨(k + 1), vs', (os3), L131, (E2 ++ D), Co3, Q3, (some ⟨b101, o102, none⟩), co3, rfl, (hA.sel [3, 4, 24, 25, 26] rfl), hS, by omega, hM132, hO3, hQ3, hG3, hR4⟩
                         · subst hgq
                           obtain ⟨hok, hR4⟩ := hNX.rlF hgd; rw [← hm3] at hR4
                           refine dr_run tbOk 10 hA hS (e' := (153, undef) :: (152, undef) :: (151, undef) :: (150, undef) :: (149, undef) :: (148, undef) :: (147, undef) :: (146, undef) :: (145, .bool false) :: (144, .bool false) :: _) rfl ?_; clear hA; intro a hA
                           refine dr_run tbOk 2 hA hS (e' := (15, .bool false) :: (154, .bool false) :: _) rfl ?_; clear hA; intro a hA
                           refine dr_end ?_
                           replace hA := hA.sel [3, 4, 7, 8, 9, 10, 15, 24, 25, 26] (e' := [(3, .pointer (some ⟨b2, 0, none⟩)), (4, .slice (some ⟨b101, o102, none⟩) os3.length co3), (7, .pointer (some ⟨b16, 0, none⟩)), (8, .slice Ab bsr.length cb), (9, .bool okb), (10, .int .i64 ((k0 : Nat) : Int)), (15, .bool false), (24, .slice (some ⟨b8, o9, none⟩) l.length c), (25, .int .i64 ((l.length : Nat) : Int)), (26, .int .i64 ((k : Nat) : Int))]) rfl
                           refine xt_norm ?_
                           refine wp_seq ?_
                           refine wp_seq ?_
                           refine wp_region_lit ?_
                           replace hA := hA.rw 9 (v' := .bool false) rfl (by rw [hok])
                           have hb0 : bsr.length = 0 := by rw [hNX.no hok]; rfl
                           have hvl4 := hR4.len; rw [List.length_map] at hvl4
                           refine st_run tbOk 3 hA (e' := (157, .bool false) :: (156, .bool false) :: (155, .bool false) :: _) rfl ?_; clear hA; intro a hA
                           refine wpList_nil ?_
                           replace hA := hA.sel [3, 4, 7, 8, 10, 15, 24, 25, 26, 157] (e' := [(3, .pointer (some ⟨b2, 0, none⟩)), (4, .slice (some ⟨b101, o102, none⟩) os3.length co3), (7, .pointer (some ⟨b16, 0, none⟩)), (8, .slice Ab bsr.length cb), (10, .int .i64 ((k0 : Nat) : Int)), (15, .bool false), (24, .slice (some ⟨b8, o9, none⟩) l.length c), (25, .int .i64 ((l.length : Nat) : Int)), (26, .int .i64 ((k : Nat) : Int)), (157, .bool false)]) rfl
                           refine xt_norm ?_
                           refine cd_cond_f hA rfl ?_
                           refine wp_skip ?_
                           refine xt_norm ?_
                           refine wp_seq ?_
                           refine wp_seq ?_
                           refine wp_region_lit ?_
                           refine st_run tbOk 1 hA (e' := (158, .bool false) :: _) rfl ?_; clear hA; intro a hA
                           refine wpList_nil ?_
                           replace hA := hA.sel [3, 4, 7, 8, 10, 15, 24, 25, 26, 158] (e' := [(3, .pointer (some ⟨b2, 0, none⟩)), (4, .slice (some ⟨b101, o102, none⟩) os3.length co3), (7, .pointer (some ⟨b16, 0, none⟩)), (8, .slice Ab bsr.length cb), (10, .int .i64 ((k0 : Nat) : Int)), (15, .bool false), (24, .slice (some ⟨b8, o9, none⟩) l.length c), (25, .int .i64 ((l.length : Nat) : Int)), (26, .int .i64 ((k : Nat) : Int)), (158, .bool false)]) rfl
                           refine xt_norm ?_
                           refine cd_cond_f hA rfl ?_
                           refine wp_skip ?_
                           refine xt_norm ?_
                           refine wp_seq ?_
                           refine wp_region_lit ?_
                           refine st_run tbOk 8 hA (e' := (204, .bool (((bsr.length : Nat) : Int) != 0)) :: (203, .bool (((bsr.length : Nat) : Int) != 0)) :: (202, .bool (((bsr.length : Nat) : Int) != 0)) :: (201, .int .i64 ((bsr.length : Nat) : Int)) :: (200, .slice Ab bsr.length cb) :: (199, .bool true) :: (198, .bool true) :: (197, .bool false) :: _) rfl ?_; clear hA; intro a hA
                           have hc134 : ((bsr.length : Nat) : Int) = 0 := by omega
                           replace hA := hA.rw 202 (v' := .bool false) rfl (vb_ne_f hc134)
                           replace hA := hA.rw 203 (v' := .bool false) rfl (vb_ne_f hc134)
                           replace hA := hA.rw 204 (v' := .bool false) rfl (vb_ne_f hc134)
                           refine st_run tbOk 1 hA (e' := (205, .pointer (some ⟨b2, 0, none⟩)) :: _) rfl ?_; clear hA; intro a hA
                           replace hS := hS.front 2 (C := (E2 ++ D)) (L' := Cb :: L2 :: Co3 :: Q3 :: [(b16, rowO [.int .i64 fr, .int .i64 3, .int .u64 id, .int .i64 ((ix : Nat) : Int), .int .i64 ((cn : Nat) : Int), .slice x10A3 x10b3.length x10c3] 38)] :: F) rfl rfl
                           replace hS := hS.front 2 (C := L2) (L' := (E2 ++ D) :: Cb :: Co3 :: Q3 :: [(b16, rowO [.int .i64 fr, .int .i64 3, .int .u64 id, .int .i64 ((ix : Nat) : Int), .int .i64 ((cn : Nat) : Int), .slice x10A3 x10b3.length x10c3] 38)] :: F) rfl rfl
                           refine st_call0 hA rfl rfl rfl isfn10 rfl rfl (by decide) (waiting10 hS hM2) ?_
                           clear hA hS; rintro _ w135 a ⟨L136, hM137, rfl, hS⟩ hA
                           refine st_run tbOk 4 hA (e' := (210, .bool (((vs'.length : Nat) : Int) != ((os3.length : Nat) : Int))) :: (209, .bool (((vs'.length : Nat) : Int) != ((os3.length : Nat) : Int))) :: (208, .int .i64 ((os3.length : Nat) : Int)) :: (207, .slice (some ⟨b101, o102, none⟩) os3.length co3) :: _) rfl ?_; clear hA; intro a hA
                           refine wpList_nil ?_
                           replace hA := hA.sel [3, 4, 24, 25, 26, 210] (e' := [(3, .pointer (some ⟨b2, 0, none⟩)), (4, .slice (some ⟨b101, o102, none⟩) os3.length co3), (24, .slice (some ⟨b8, o9, none⟩) l.length c), (25, .int .i64 ((l.length : Nat) : Int)), (26, .int .i64 ((k : Nat) : Int)), (210, .bool (((vs'.length : Nat) : Int) != ((os3.length : Nat) : Int)))]) rfl
                           refine xt_norm ?_
                           have hc138 : ((vs'.length : Nat) : Int) = ((os3.length : Nat) : Int) := by omega
                           replace hA := hA.rw 210 (v' := .bool false) rfl (vb_ne_f hc138)
                           refine cd_cond_f hA rfl ?_
                           refine wp_skip ?_
                           refine xb_norm ?_
                           refine xt_norm ?_
                           refine wp_region_lit ?_
                           refine st_run tbOk 1 hA (e' := (211, .int .i64 (IntKind.i64.wrap (((k : Nat) : Int) + 1))) :: _) rfl ?_; clear hA; intro a hA
                           replace hA := hA.rw 211 (v' := .int .i64 ((k + 1 : Nat) : Int)) rfl (wr64 (by first | omega | (dsimp only; omega)) (by first | omega | (dsimp only; omega)) (by first | omega | (dsimp only; omega)))
                           refine st_run tbOk 1 hA (e' := (26, .int .i64 ((k + 1 : Nat) : Int)) :: _) rfl ?_; clear hA; intro a hA
                           refine wpList_nil ?_
                           replace hA := hA.sel [3, 4, 24, 25, 26] (e' := [(3, .pointer (some ⟨b2, 0, none⟩)), (4, .slice (some ⟨b101, o102, none⟩) os3.length co3), (24, .slice (some ⟨b8, o9, none⟩) l.length c), (25, .int .i64 ((l.length : Nat) : Int)), (26, .int .i64 ((k + 1 : Nat) : Int))]) rfl
                           replace hS := hS.front 2 (C := Cb) (L' := L136 :: (E2 ++ D) :: Co3 :: Q3 :: [(b16, rowO [.int .i64 fr, .int .i64 3, .int .u64 id, .int .i64 ((ix : Nat) : Int), .int .i64 ((cn : Nat) : Int), .slice x10A3 x10b3.length x10c3] 38)] :: F) rfl rfl
                           replace hS := hS.drop1
                           replace hS := hS.front 4 (C := [(b16, rowO [.int .i64 fr, .int .i64 3, .int .u64 id, .int .i64 ((ix : Nat) : Int), .int .i64 ((cn : Nat) : Int), .slice x10A3 x10b3.length x10c3] 38)]) (L' := L136 :: (E2 ++ D) :: Co3 :: Q3 :: F) rfl rfl
                           replace hS := hS.drop1
                           replace hS := hS.front 3 (C := Q3) (L' := L136 :: (E2 ++ D) :: Co3 :: F) rfl rfl
                           replace hS := hS.front 3 (C := Co3) (L' := Q3 :: L136 :: (E2 ++ D) :: F) rfl rfl
                           replace hS := hS.front 3 (C := (E2 ++ D)) (L' := Co3 :: Q3 :: L136 :: F) rfl rfl
                           replace hS := hS.front 3 (C := L136) (L' := (E2 ++ D) :: Co3 :: Q3 :: F) rfl rfl
                           exact lp_next _ (by omega) ⟨(k + 1), vs', (os3), L136, (E2 ++ D), Co3, Q3, (some ⟨b101, o102, none⟩), co3, rfl, (hA.sel [3, 4, 24, 25, 26] rfl), hS, by omega, hM137, hO3, hQ3, hG3, hR4⟩))
       · refine st_run tbOk 1 hA (e' := (33, .pointer (some ⟨b2, 0, none⟩)) :: _) rfl ?_; clear hA; intro a hA
         refine st_val hA rfl rfl (by decide) (rn_loadA tbOk hA [.int .i64 fr, .int .i64 3, .int .u64 id, .int .i64 x10f1, .int .i64 x10f2, .slice x10A3 x10b3.length x10c3] rfl rfl rfl rfl rfl (cells_row (hS.heapAt 0 rfl) rfl)) ?_; clear hA; intro a hA
         replace hS := hS.front 3 (C := D) (L' := [(b16, rowO [.int .i64 fr, .int .i64 3, .int .u64 id, .int .i64 x10f1, .int .i64 x10f2, .slice x10A3 x10b3.length x10c3] 38)] :: [(b12, rowO [.int .u8 x10f0, .int .i8 x10f1, .int .i8 x10f2, .slice x10A3 x10b3.length x10c3] 46)] :: L :: Co :: Q :: F) rfl rfl
         replace hS := hS.front 3 (C := L) (L' := D :: [(b16, rowO [.int .i64 fr, .int .i64 3, .int .u64 id, .int .i64 x10f1, .int .i64 x10f2, .slice x10A3 x10b3.length x10c3] 38)] :: [(b12, rowO [.int .u8 x10f0, .int .i8 x10f1, .int .i8 x10f2, .slice x10A3 x10b3.length x10c3] 46)] :: Co :: Q :: F) rfl rfl
         refine st_call0 hA rfl rfl rfl isfn9 rfl rfl (by decide) (add_no9 hS hM fr 3 id x10f1 x10f2 (bs := x10b3) (fun w' h => (hd11 _ (h.only 0 rfl)))  hm) ?_
         clear hA hS; rintro _ w139 a ⟨L140, hM141, rfl, hS⟩ hA
         refine st_run tbOk 5 hA (e' := (9, .bool false) :: (8, .slice none 0 0) :: (37, .bool false) :: (36, .slice none 0 0) :: (32, .tuple #[.slice none 0 0, .bool false]) :: _) rfl ?_; clear hA; intro a hA
         refine wpList_nil ?_
         replace hA := hA.sel [3, 4, 7, 8, 9, 24, 25, 26] (e' := [(3, .pointer (some ⟨b2, 0, none⟩)), (4, .slice Ao os.length co), (7, .pointer (some ⟨b16, 0, none⟩)), (8, .slice none 0 0), (9, .bool false), (24, .slice (some ⟨b8, o9, none⟩) l.length c), (25, .int .i64 ((l.length : Nat) : Int)), (26, .int .i64 ((k : Nat) : Int))]) rfl
         refine xt_norm ?_
         refine wp_seq ?_
         refine wp_seq ?_
         refine wp_region_lit ?_
         refine st_val hA rfl rfl (by decide) (rn_loadA tbOk hA [.int .i64 fr, .int .i64 3, .int .u64 id, .int .i64 x10f1, .int .i64 x10f2, .slice x10A3 x10b3.length x10c3] rfl rfl rfl rfl rfl (cells_row (hS.heapAt 2 rfl) rfl)) ?_; clear hA; intro a hA
         refine st_call0 hA rfl rfl rfl isfn12 rfl rfl (by decide) (may12 hS fr 3 id x10f1 x10f2 x10A3 x10c3 x10b3) ?_
         clear hA hS; rintro v w142 a ⟨rfl, hS⟩ hA
         have hc143 : ¬ (1 ≤ x10f2 ∧ x10f2 ≤ 256 ∧ 0 ≤ x10f1 ∧ x10f1 < x10f2 ∧ x10b3.length ≤ 32768) := hm
         replace hA := hA.rw 39 (v' := .bool false) rfl (vb_false hc143)
         refine st_run tbOk 1 hA (e' := (40, .bool true) :: _) rfl ?_; clear hA; intro a hA
         refine wpList_nil ?_
         replace hA := hA.sel [3, 4, 7, 8, 9, 24, 25, 26, 40] (e' := [(3, .pointer (some ⟨b2, 0, none⟩)), (4, .slice Ao os.length co), (7, .pointer (some ⟨b16, 0, none⟩)), (8, .slice none 0 0), (9, .bool false), (24, .slice (some ⟨b8, o9, none⟩) l.length c), (25, .int .i64 ((l.length : Nat) : Int)), (26, .int .i64 ((k : Nat) : Int)), (40, .bool true)]) rfl
         refine xt_norm ?_
         refine cd_cond_t hA rfl ?_
         refine wp_seq ?_
         refine wp_seq ?_
         refine wp_region_lit ?_
         refine st_run tbOk 8 hA (e' := (48, .pointer (some ⟨b2, 0, none⟩)) :: (47, .bool false) :: (46, .bool false) :: (45, .bool false) :: (44, .int .i64 0) :: (43, .slice none 0 0) :: (42, .bool false) :: (41, .bool false) :: _) rfl ?_; clear hA; intro a hA
         replace hS := hS.front 1 (C := D) (L' := L140 :: [(b16, rowO [.int .i64 fr, .int .i64 3, .int .u64 id, .int .i64 x10f1, .int .i64 x10f2, .slice x10A3 x10b3.length x10c3] 38)] :: [(b12, rowO [.int .u8 x10f0, .int .i8 x10f1, .int .i8 x10f2, .slice x10A3 x10b3.length x10c3] 46)] :: Co :: Q :: F) rfl rfl
         replace hS := hS.front 1 (C := L140) (L' := D :: [(b16, rowO [.int .i64 fr, .int .i64 3, .int .u64 id, .int .i64 x10f1, .int .i64 x10f2, .slice x10A3 x10b3.length x10c3] 38)] :: [(b12, rowO [.int .u8 x10f0, .int .i8 x10f1, .int .i8 x10f2, .slice x10A3 x10b3.length x10c3] 46)] :: Co :: Q :: F) rfl rfl
         refine st_call0 hA rfl rfl rfl isfn10 rfl rfl (by decide) (waiting10 hS hM141) ?_
         clear hA hS; rintro _ w144 a ⟨L145, hM146, rfl, hS⟩ hA
         refine st_run tbOk 4 hA (e' := (53, .bool (((vs.length : Nat) : Int) != ((os.length : Nat) : Int))) :: (52, .bool (((vs.length : Nat) : Int) != ((os.length : Nat) : Int))) :: (51, .int .i64 ((os.length : Nat) : Int)) :: (50, .slice Ao os.length co) :: _) rfl ?_; clear hA; intro a hA
         refine wpList_nil ?_
         replace hA := hA.sel [3, 4, 24, 25, 26, 53] (e' := [(3, .pointer (some ⟨b2, 0, none⟩)), (4, .slice Ao os.length co), (24, .slice (some ⟨b8, o9, none⟩) l.length c), (25, .int .i64 ((l.length : Nat) : Int)), (26, .int .i64 ((k : Nat) : Int)), (53, .bool (((vs.length : Nat) : Int) != ((os.length : Nat) : Int)))]) rfl
         refine xt_norm ?_
         have hc147 : ((vs.length : Nat) : Int) = ((os.length : Nat) : Int) := by omega
         replace hA := hA.rw 53 (v' := .bool false) rfl (vb_ne_f hc147)
         refine cd_cond_f hA rfl ?_
         refine wp_skip ?_
         refine xt_norm ?_
         refine wp_exit ?_
         refine xt_exit ?_
         refine cd_exit_eq ?_
         refine xt_norm ?_
         refine wp_region_lit ?_
         refine st_run tbOk 1 hA (e' := (211, .int .i64 (IntKind.i64.wrap (((k : Nat) : Int) + 1))) :: _) rfl ?_; clear hA; intro a hA
         replace hA := hA.rw 211 (v' := .int .i64 ((k + 1 : Nat) : Int)) rfl (wr64 (by first | omega | (dsimp only; omega)) (by first | omega | (dsimp only; omega)) (by first | omega | (dsimp only; omega)))
         refine st_run tbOk 1 hA (e' := (26, .int .i64 ((k + 1 : Nat) : Int)) :: _) rfl ?_; clear hA; intro a hA
         refine wpList_nil ?_
         replace hA := hA.sel [3, 4, 24, 25, 26] (e' := [(3, .pointer (some ⟨b2, 0, none⟩)), (4, .slice Ao os.length co), (24, .slice (some ⟨b8, o9, none⟩) l.length c), (25, .int .i64 ((l.length : Nat) : Int)), (26, .int .i64 ((k + 1 : Nat) : Int))]) rfl
         replace hS := hS.front 2 (C := [(b16, rowO [.int .i64 fr, .int .i64 3, .int .u64 id, .int .i64 x10f1, .int .i64 x10f2, .slice x10A3 x10b3.length x10c3] 38)]) (L' := L145 :: D :: [(b12, rowO [.int .u8 x10f0, .int .i8 x10f1, .int .i8 x10f2, .slice x10A3 x10b3.length x10c3] 46)] :: Co :: Q :: F) rfl rfl
         replace hS := hS.drop1
         replace hS := hS.front 2 (C := [(b12, rowO [.int .u8 x10f0, .int .i8 x10f1, .int .i8 x10f2, .slice x10A3 x10b3.length x10c3] 46)]) (L' := L145 :: D :: Co :: Q :: F) rfl rfl
         replace hS := hS.drop1
         replace hS := hS.front 3 (C := Q) (L' := L145 :: D :: Co :: F) rfl rfl
         replace hS := hS.front 3 (C := Co) (L' := Q :: L145 :: D :: F) rfl rfl
         replace hS := hS.front 3 (C := D) (L' := Co :: Q :: L145 :: F) rfl rfl
         replace hS := hS.front 3 (C := L145) (L' := D :: Co :: Q :: F) rfl rfl
         exact lp_next _ (by omega) ⟨(k + 1), vs, (os), L145, D, Co, Q, Ao, co, rfl, (hA.sel [3, 4, 24, 25, 26] rfl), hS, by omega, hM146, hO, hQ, hG, hRL⟩)
  · first
    | (exfalso; first | omega | (dsimp only; omega))
    | (replace hA := hA.rw 27 (v' := .bool false) rfl (vb_false hc7)
       refine cd_cond_f hA rfl ?_
       refine wp_exit ?_
       refine xt_exit ?_
       refine xt_exit ?_
       refine cd_exit_eq ?_
       refine xt_norm ?_
       refine wp_seq ?_
       refine wp_region_lit ?_
       refine st_run tbOk 1 hA (e' := (212, .pointer (some ⟨b2, 0, none⟩)) :: _) rfl ?_; clear hA; intro a hA
       replace hS := hS.front 1 (C := D) (L' := L :: Co :: Q :: F) rfl rfl
       replace hS := hS.front 1 (C := L) (L' := D :: Co :: Q :: F) rfl rfl
       refine st_call0 hA rfl rfl rfl isfn13 rfl rfl (by decide) (forget13 hS hM) ?_
       clear hA hS; rintro _ w148 a ⟨L149, hM150, rfl, hS⟩ hA
       refine wpList_nil ?_
       replace hA := hA.sel [3] (e' := [(3, .pointer (some ⟨b2, 0, none⟩))]) rfl
       refine xt_norm ?_
       refine wp_seq ?_
       refine wp_region_lit ?_
       refine st_run tbOk 1 hA (e' := (214, .pointer (some ⟨b2, 0, none⟩)) :: _) rfl ?_; clear hA; intro a hA
       replace hS := hS.front 1 (C := D) (L' := L149 :: Co :: Q :: F) rfl rfl
       replace hS := hS.front 1 (C := L149) (L' := D :: Co :: Q :: F) rfl rfl
       refine st_call0 hA rfl rfl rfl isfn10 rfl rfl (by decide) (waiting10 hS hM150) ?_
       clear hA hS; rintro _ w151 a ⟨L152, hM153, rfl, hS⟩ hA
       replace hA := hA.rw 215 (v' := .int .i64 0) rfl (by rfl)
       refine st_run tbOk 2 hA (e' := (2, .bool true) :: (216, .bool true) :: _) rfl ?_; clear hA; intro a hA
       refine wpList_nil ?_
       replace hA := hA.sel [2] (e' := [(2, .bool true)]) rfl
       refine xt_norm ?_
       refine wp_ret ?_
       refine ret1 (fn := Try.f5) hA rfl rfl ?_
       replace hS := hS.drop1
       replace hS := hS.drop1
       replace hS := hS.drop1
       replace hS := hS.drop1
       exact ⟨rfl, hS⟩)
end Go.Proofs.Ytbfdppfddlilgaa
