import Derived.Test.YtljcllaploopaaaDoorG
set_option linter.unusedVariables false
set_option linter.unusedSimpArgs false
set_option maxRecDepth 4000
namespace Go.Proofs.YtljcllaploopaaaDoor
open Go Go.SK
set_option maxHeartbeats 4000000 in
theorem script3 {w0 w : World} {F : List Chunk} (hS : St w0 w F) (hg : HG w0) {v : Value} {l : List (Int × Int × Int × Int × Int × Int × Int × Int × Int × Int × Int × Int × Option Addr × Nat × List UInt8)} (hr : RdS w0 F 13 v l.length (rows encAct l)) (hw : ∀ x ∈ l, encAct_good w0 x) (hb : l.length * 88 ≤ 140737488351232) :
    Ret Tryd.prog 3 #[v] w (fun v w' => v = .bool true ∧ St w0 w' F) := by
  obtain ⟨A, c, rfl, hmc, hcx⟩ := (hr w hS).open'
  refine enter (vs := [.slice A l.length c]) 167 Tryd.func3 rfl rfl (by simp) ?_; intro a hA
  refine wp_seq ?_
  refine wp_region_lit ?_
  refine st_run tbOk 1 hA (e' := (2, .bool false) :: _) rfl ?_; clear hA; intro a hA
  refine wpList_nil ?_
  replace hA := hA.sel [0] (e' := [(0, .slice A l.length c)]) rfl
  refine xt_norm ?_
  refine wp_seq ?_
  refine wp_seq ?_
  refine wp_region_lit ?_
  refine st_call0 hA rfl rfl rfl isfn5 rfl rfl (by decide) (awake5 hS) ?_
  clear hA hS; rintro v w1 a ⟨rfl, hS⟩ hA
  refine st_run tbOk 1 hA (e' := (18, .bool false) :: _) rfl ?_; clear hA; intro a hA
  refine wpList_nil ?_
  replace hA := hA.sel [0, 18] (e' := [(0, .slice A l.length c), (18, .bool false)]) rfl
  refine xt_norm ?_
  refine cd_cond_f hA rfl ?_
  refine wp_skip ?_
  refine xt_norm ?_
  refine wp_seq ?_
  refine wp_region_lit ?_
  refine st_run tbOk 1 hA (e' := (19, .agg #[.slice none 0 0]) :: _) rfl ?_; clear hA; intro a hA
  refine st_box hA hS [.slice none 0 0] rfl rfl rfl rfl rfl (by decide) ?_; clear hA hS; intro b2 w3 a hS hA
  obtain ⟨L4, hM5, hS⟩ : ∃ Z, SR b2 [] Z ∧ St w0 w3 (Z :: F) := ⟨_, SR.new _, hS⟩
  replace hS := hS.nil
  refine st_run tbOk 1 hA (e' := (3, .pointer (some ⟨b2, 0, none⟩)) :: _) rfl ?_; clear hA; intro a hA
  refine wpList_nil ?_
  replace hA := hA.sel [0, 3] (e' := [(0, .slice A l.length c), (3, .pointer (some ⟨b2, 0, none⟩))]) rfl
  refine xt_norm ?_
  refine wp_seq ?_
  refine wp_region_lit ?_
  refine st_run tbOk 1 hA (e' := (4, .slice none 0 0) :: _) rfl ?_; clear hA; intro a hA
  refine wpList_nil ?_
  refine xt_norm ?_
  refine wp_seq ?_
  refine wp_seq ?_
  refine wp_region_lit ?_
  refine st_run tbOk 3 hA (e' := (23, .int .i64 0) :: (22, .int .i64 ((l.length : Nat) : Int)) :: (21, .slice A l.length c) :: _) rfl ?_; clear hA; intro a hA
  refine wpList_nil ?_
  replace hA := hA.sel [3, 4, 21, 22, 23] (e' := [(3, .pointer (some ⟨b2, 0, none⟩)), (4, .slice none 0 0), (21, .slice A l.length c), (22, .int .i64 ((l.length : Nat) : Int)), (23, .int .i64 0)]) rfl
  refine xt_norm ?_
  refine wp_block ?_
  replace hS := hS.front 1 (C := L4) (L' := [] :: F) rfl rfl
  replace hS := hS.nil
  replace hS := hS.front 1 (C := L4) (L' := [] :: [] :: F) rfl rfl
  refine wp_loop_ghost (fun m a w => ∃ (k : Nat) (es : List Ent) (rs : List LEnt) (L : Chunk) (D : Chunk) (Ar : Option Addr) (cr : Nat) (Cr : Chunk), m = l.length - k ∧ Has a 167 [(3, .pointer (some ⟨b2, 0, none⟩)), (4, .slice Ar rs.length cr), (21, .slice A l.length c), (22, .int .i64 ((l.length : Nat) : Int)), (23, .int .i64 ((k : Nat) : Int))] ∧ St w0 w (L :: D :: Cr :: F) ∧ (k ≤ l.length) ∧ (SI es rs) ∧ (SR b2 es L) ∧ (Own 40 13 (.slice Ar (rs).length cr) (rs).length (rows encLEnt (rs)) Cr) ∧ (∀ x ∈ es, encEntry_dd w0 D x) ∧ (sbd es) ∧ (∀ x ∈ rs, ∀ D, encLEnt_dd w0 D x)) (l.length - 0)
    ⟨0, ([]), ([]), L4, ([]), none, 0, ([]), rfl, (hA.sel [3, 4, 21, 22, 23] rfl), hS, Nat.zero_le _, SI.nil, hM5, (Own.nil 40 13), nodd, sbd.nil, fun x hx => by simp at hx⟩ ?_
  clear hA hS; rintro m0 a w6 ⟨k, es, rs, L, D, Ar, cr, Cr, rfl, hA, hS, hk, hI, hM, hR, hdm, hbd, hdr⟩
  have hml := hI.len; have hrl := hI.ln; have hcr := hR.rcap
  refine wp_seq ?_
  refine wp_region_lit ?_
  refine st_run tbOk 1 hA (e' := (24, .bool (decide (((k : Nat) : Int) < ((l.length : Nat) : Int)))) :: _) rfl ?_; clear hA; intro a hA
  refine wpList_nil ?_
  refine xt_norm ?_
  refine wp_seq ?_
  by_cases hc7 : ((k : Nat) : Int) < ((l.length : Nat) : Int)
  · first
    | (exfalso; omega)
    | (replace hA := hA.rw 24 (v' := .bool true) rfl (vb_true hc7)
       refine cd_cond_t hA rfl ?_
       refine wp_skip ?_
       refine xt_norm ?_
       refine wp_seq_join (fun a w => ∃ (es' : List Ent) (rs' : List LEnt) (L' : Chunk) (D' : Chunk) (Ar' : Option Addr) (cr' : Nat) (Cr' : Chunk), Has a 167 [(3, .pointer (some ⟨b2, 0, none⟩)), (4, .slice Ar' rs'.length cr'), (21, .slice A l.length c), (22, .int .i64 ((l.length : Nat) : Int)), (23, .int .i64 ((k : Nat) : Int))] ∧ St w0 w (L' :: D' :: Cr' :: F) ∧ (SI es' rs') ∧ (SR b2 es' L') ∧ (Own 40 13 (.slice Ar' (rs').length cr') (rs').length (rows encLEnt (rs')) Cr') ∧ (∀ x ∈ es', encEntry_dd w0 D' x) ∧ (sbd es') ∧ (∀ x ∈ rs', ∀ D, encLEnt_dd w0 D x)) ?_ ?_
       · refine wp_block ?_
         refine wp_seq ?_
         refine wp_region_lit ?_
         obtain ⟨b8, o9, rfl⟩ := (hr _ (hS.tail 3 rfl)).isSome (k := k) (by omega)
         refine st_val hA rfl rfl (by decide) (rn_indexAddr tbOk hA k (o9 + (k * 13)) rfl rfl rfl rfl rfl rfl (by rfl) (by omega) (by first | rfl | simp [Nat.mul_one, Nat.zero_add] | omega)) ?_; clear hA; intro a hA
         obtain ⟨x10, hx10⟩ := get_ex (l := l) (k := k) (by omega)
         obtain ⟨x10f0, x10f1, x10f2, x10f3, x10f4, x10f5, x10f6, x10f7, x10f8, x10f9, x10f10, x10f11, x10A12, x10c12, x10b12⟩ := x10
         have hd11 := (fun x hx => encAct_gdd (D := D) (hw x hx)) _ (List.mem_of_getElem? hx10)
         refine st_val hA rfl rfl (by decide) (rn_loadA tbOk hA ([.int .u8 x10f0, .int .u8 x10f1, .int .u64 x10f2, .int .u64 x10f3, .int .u32 x10f4, .int .u16 x10f5, .int .u16 x10f6, .int .u64 x10f7, .int .u32 x10f8, .int .u8 x10f9, .int .u64 x10f10, .int .u64 x10f11, .slice x10A12 x10b12.length x10c12]) rfl rfl rfl rfl (by rfl) ((hr _ (hS.tail 3 rfl)).elem (k := k) encAct_ok hx10)) ?_; clear hA; intro a hA
         refine st_alloc tbOk hA hS [.int .u8 0, .int .u8 0, .int .u64 0, .int .u64 0, .int .u32 0, .int .u16 0, .int .u16 0, .int .u64 0, .int .u32 0, .int .u8 0, .int .u64 0, .int .u64 0, .slice none 0 0] rfl rfl rfl rfl rfl (by decide) ?_; clear hA hS; intro b12 w13 a hS hA
         refine st_store tbOk hA hS [.int .u8 x10f0, .int .u8 x10f1, .int .u64 x10f2, .int .u64 x10f3, .int .u32 x10f4, .int .u16 x10f5, .int .u16 x10f6, .int .u64 x10f7, .int .u32 x10f8, .int .u8 x10f9, .int .u64 x10f10, .int .u64 x10f11, .slice x10A12 x10b12.length x10c12] [.int .u8 x10f0, .int .u8 x10f1, .int .u64 x10f2, .int .u64 x10f3, .int .u32 x10f4, .int .u16 x10f5, .int .u16 x10f6, .int .u64 x10f7, .int .u32 x10f8, .int .u8 x10f9, .int .u64 x10f10, .int .u64 x10f11, .slice x10A12 x10b12.length x10c12] rfl rfl rfl rfl rfl rfl (by simp [Value.oneCell']) (Nat.le_of_ble_eq_true rfl) rfl rfl rfl ?_; clear hS; intro w14 hS
         refine wpList_nil ?_
         replace hA := hA.sel [3, 4, 6, 21, 22, 23] (e' := [(3, .pointer (some ⟨b2, 0, none⟩)), (4, .slice Ar rs.length cr), (6, .pointer (some ⟨b12, 0, none⟩)), (21, .slice (some ⟨b8, o9, none⟩) l.length c), (22, .int .i64 ((l.length : Nat) : Int)), (23, .int .i64 ((k : Nat) : Int))]) rfl
         refine xt_norm ?_
         refine wp_seq ?_
         refine wp_region_lit ?_
         refine st_run tbOk 1 hA (e' := (27, .pointer (some ⟨b12, 1, none⟩)) :: _) rfl ?_; clear hA; intro a hA
         obtain ⟨⟨ho1, ho2⟩, ⟨hp1, hp2⟩, hgr⟩ := hw _ (List.mem_of_getElem? hx10)
         dsimp only at ho1 ho2 hp1 hp2 hgr
         have hbl := hgr.2.2.2.2.2.2.2.2.2.2.2
         have hwho1 : x10f1.tmod 48 = x10f1 % 48 := Int.tmod_eq_emod_of_nonneg (by omega)
         obtain ⟨who, hwho⟩ : ∃ z, z = x10f1.tmod 48 := ⟨_, rfl⟩
         have hop1 : x10f0.tmod 2 = x10f0 % 2 := Int.tmod_eq_emod_of_nonneg (by omega)
         obtain ⟨op, hop⟩ : ∃ z, z = x10f0.tmod 2 := ⟨_, rfl⟩
         have hw0_ : 0 ≤ who := by omega
         have hw1_ : who < 48 := by omega
         refine st_val hA rfl rfl (by decide) (rn_load tbOk hA rfl rfl rfl rfl (cell_row (hS.heapAt 0 rfl) rfl)) ?_; clear hA; intro a hA
         refine st_run tbOk 1 hA (e' := (29, .int .u8 (x10f1.tmod 48)) :: _) rfl ?_; clear hA; intro a hA
         replace hA := hA.rw 29 (v' := .int .u8 who) rfl (by rw [hwho])
         refine st_run tbOk 1 hA (e' := (7, .int .u8 who) :: _) rfl ?_; clear hA; intro a hA
         refine wpList_nil ?_
         replace hA := hA.sel [3, 4, 6, 7, 21, 22, 23] (e' := [(3, .pointer (some ⟨b2, 0, none⟩)), (4, .slice Ar rs.length cr), (6, .pointer (some ⟨b12, 0, none⟩)), (7, .int .u8 who), (21, .slice (some ⟨b8, o9, none⟩) l.length c), (22, .int .i64 ((l.length : Nat) : Int)), (23, .int .i64 ((k : Nat) : Int))]) rfl
         refine xt_norm ?_
         refine wp_seq ?_
         refine wp_region_lit ?_
         refine st_run tbOk 1 hA (e' := (8, .int .i64 (-1)) :: _) rfl ?_; clear hA; intro a hA
         refine wpList_nil ?_
         refine xt_norm ?_
         refine wp_seq ?_
         refine wp_seq ?_
         refine wp_region_lit ?_
         refine st_run tbOk 3 hA (e' := (32, .int .i64 0) :: (31, .int .i64 ((rs.length : Nat) : Int)) :: (30, .slice Ar rs.length cr) :: _) rfl ?_; clear hA; intro a hA
         refine wpList_nil ?_
         replace hA := hA.sel [3, 4, 6, 7, 8, 21, 22, 23, 31, 32] (e' := [(3, .pointer (some ⟨b2, 0, none⟩)), (4, .slice Ar rs.length cr), (6, .pointer (some ⟨b12, 0, none⟩)), (7, .int .u8 who), (8, .int .i64 (-1)), (21, .slice (some ⟨b8, o9, none⟩) l.length c), (22, .int .i64 ((l.length : Nat) : Int)), (23, .int .i64 ((k : Nat) : Int)), (31, .int .i64 ((rs.length : Nat) : Int)), (32, .int .i64 0)]) rfl
         refine xt_norm ?_
         refine wp_block ?_
         refine wp_loop_ghost (fun m a w => ∃ (j : Nat) (av : Int), m = rs.length - j ∧ Has a 167 [(3, .pointer (some ⟨b2, 0, none⟩)), (4, .slice Ar rs.length cr), (6, .pointer (some ⟨b12, 0, none⟩)), (7, .int .u8 who), (8, .int .i64 av), (21, .slice (some ⟨b8, o9, none⟩) l.length c), (22, .int .i64 ((l.length : Nat) : Int)), (23, .int .i64 ((k : Nat) : Int)), (31, .int .i64 ((rs.length : Nat) : Int)), (32, .int .i64 ((j : Nat) : Int))] ∧ St w0 w ([(b12, rowO [.int .u8 x10f0, .int .u8 x10f1, .int .u64 x10f2, .int .u64 x10f3, .int .u32 x10f4, .int .u16 x10f5, .int .u16 x10f6, .int .u64 x10f7, .int .u32 x10f8, .int .u8 x10f9, .int .u64 x10f10, .int .u64 x10f11, .slice x10A12 x10b12.length x10c12] 38)] :: L :: D :: Cr :: F) ∧ (j ≤ rs.length) ∧ (fnd3 (fun y : LEnt => y.1 = who) rs j av)) (rs.length - 0)
           ⟨0, (-1), rfl, (hA.sel [3, 4, 6, 7, 8, 21, 22, 23, 31, 32] rfl), hS, Nat.zero_le _, fnd3.init⟩ ?_
         clear hA hS; rintro m0 a w15 ⟨j, av, rfl, hA, hS, hj, hav⟩
         refine wp_seq ?_
         refine wp_region_lit ?_
         refine st_run tbOk 1 hA (e' := (33, .bool (decide (((j : Nat) : Int) < ((rs.length : Nat) : Int)))) :: _) rfl ?_; clear hA; intro a hA
         refine wpList_nil ?_
         refine xt_norm ?_
         refine wp_seq ?_
         by_cases hc16 : ((j : Nat) : Int) < ((rs.length : Nat) : Int)
         · first
           | (exfalso; omega)
           | (replace hA := hA.rw 33 (v' := .bool true) rfl (vb_true hc16)
              refine cd_cond_t hA rfl ?_
              refine wp_skip ?_
              refine xt_norm ?_
              refine wp_seq ?_
              refine wp_block ?_
              refine wp_seq ?_
              refine wp_region_lit ?_
              refine st_run tbOk 2 hA (e' := (9, .int .i64 ((j : Nat) : Int)) :: (34, .int .i64 ((j : Nat) : Int)) :: _) rfl ?_; clear hA; intro a hA
              refine wpList_nil ?_
              replace hA := hA.sel [3, 4, 6, 7, 8, 9, 21, 22, 23, 31, 32] (e' := [(3, .pointer (some ⟨b2, 0, none⟩)), (4, .slice Ar rs.length cr), (6, .pointer (some ⟨b12, 0, none⟩)), (7, .int .u8 who), (8, .int .i64 av), (9, .int .i64 ((j : Nat) : Int)), (21, .slice (some ⟨b8, o9, none⟩) l.length c), (22, .int .i64 ((l.length : Nat) : Int)), (23, .int .i64 ((k : Nat) : Int)), (31, .int .i64 ((rs.length : Nat) : Int)), (32, .int .i64 ((j : Nat) : Int))]) rfl
              refine xt_norm ?_
              refine wp_seq ?_
              refine wp_region_lit ?_
              refine st_run tbOk 2 hA (e' := (36, .int .i64 ((j : Nat) : Int)) :: (35, .slice Ar rs.length cr) :: _) rfl ?_; clear hA; intro a hA
              obtain ⟨b17, o18, rfl⟩ := hR.isSome (k := j) (by omega)
              refine st_val hA rfl rfl (by decide) (rn_indexAddr tbOk hA j (o18 + (j * 13)) rfl rfl rfl rfl rfl rfl (by rfl) (by omega) (by first | rfl | simp [Nat.mul_one, Nat.zero_add] | omega)) ?_; clear hA; intro a hA
              refine st_run tbOk 1 hA (e' := (38, .pointer (some ⟨b17, o18 + (j * 13), none⟩)) :: _) rfl ?_; clear hA; intro a hA
              obtain ⟨x19, hx19⟩ := get_ex (l := rs) (k := j) (by omega)
              obtain ⟨x19f0, x19f1, x19f2, x19f3, x19f4, x19f5, x19f6, x19f7, x19f8, x19f9, x19f10, x19f11, x19A12, x19c12, x19b12⟩ := x19
              have hd20 := (fun x hx => hdr x hx D) _ (List.mem_of_getElem? hx19)
              refine st_val hA rfl rfl (by decide) (rn_load tbOk hA rfl rfl rfl rfl ((hR.rd (hS.own_ 3 rfl)).elemf (k := j) encLEnt_ok hx19 (j := 0) rfl)) ?_; clear hA; intro a hA
              refine st_run tbOk 2 hA (e' := (41, .bool (x19f0 == who)) :: (40, .int .u8 who) :: _) rfl ?_; clear hA; intro a hA
              refine wpList_nil ?_
              replace hA := hA.sel [3, 4, 6, 7, 8, 9, 21, 22, 23, 31, 32, 41] (e' := [(3, .pointer (some ⟨b2, 0, none⟩)), (4, .slice (some ⟨b17, o18, none⟩) rs.length cr), (6, .pointer (some ⟨b12, 0, none⟩)), (7, .int .u8 who), (8, .int .i64 av), (9, .int .i64 ((j : Nat) : Int)), (21, .slice (some ⟨b8, o9, none⟩) l.length c), (22, .int .i64 ((l.length : Nat) : Int)), (23, .int .i64 ((k : Nat) : Int)), (31, .int .i64 ((rs.length : Nat) : Int)), (32, .int .i64 ((j : Nat) : Int)), (41, .bool (x19f0 == who))]) rfl
              refine xt_norm ?_
              by_cases hc21 : x19f0 = who
              · first
                | (exfalso; omega)
                | (replace hA := hA.rw 41 (v' := .bool true) rfl (vb_eq_t hc21)
                   refine cd_cond_t hA rfl ?_
                   refine wp_region_lit ?_
                   refine st_run tbOk 2 hA (e' := (8, .int .i64 ((j : Nat) : Int)) :: (42, .int .i64 ((j : Nat) : Int)) :: _) rfl ?_; clear hA; intro a hA
                   refine wpList_nil ?_
                   replace hA := hA.sel [3, 4, 6, 7, 8, 21, 22, 23, 31, 32] (e' := [(3, .pointer (some ⟨b2, 0, none⟩)), (4, .slice (some ⟨b17, o18, none⟩) rs.length cr), (6, .pointer (some ⟨b12, 0, none⟩)), (7, .int .u8 who), (8, .int .i64 ((j : Nat) : Int)), (21, .slice (some ⟨b8, o9, none⟩) l.length c), (22, .int .i64 ((l.length : Nat) : Int)), (23, .int .i64 ((k : Nat) : Int)), (31, .int .i64 ((rs.length : Nat) : Int)), (32, .int .i64 ((j : Nat) : Int))]) rfl
                   refine xb_norm ?_
                   refine xt_norm ?_
                   refine wp_region_lit ?_
                   refine st_run tbOk 1 hA (e' := (43, .int .i64 (IntKind.i64.wrap (((j : Nat) : Int) + 1))) :: _) rfl ?_; clear hA; intro a hA
                   replace hA := hA.rw 43 (v' := .int .i64 ((j + 1 : Nat) : Int)) rfl (wr64 (by omega) (by omega) (by omega))
                   refine st_run tbOk 1 hA (e' := (32, .int .i64 ((j + 1 : Nat) : Int)) :: _) rfl ?_; clear hA; intro a hA
                   refine wpList_nil ?_
                   replace hA := hA.sel [3, 4, 6, 7, 8, 21, 22, 23, 31, 32] (e' := [(3, .pointer (some ⟨b2, 0, none⟩)), (4, .slice (some ⟨b17, o18, none⟩) rs.length cr), (6, .pointer (some ⟨b12, 0, none⟩)), (7, .int .u8 who), (8, .int .i64 ((j : Nat) : Int)), (21, .slice (some ⟨b8, o9, none⟩) l.length c), (22, .int .i64 ((l.length : Nat) : Int)), (23, .int .i64 ((k : Nat) : Int)), (31, .int .i64 ((rs.length : Nat) : Int)), (32, .int .i64 ((j + 1 : Nat) : Int))]) rfl
                   replace hA := hA.rw 8 (v' := .int .i64 ((j : Nat) : Int)) rfl (vint (by omega))
                   replace hS := hS.front 3 (C := Cr) (L' := [(b12, rowO [.int .u8 x10f0, .int .u8 x10f1, .int .u64 x10f2, .int .u64 x10f3, .int .u32 x10f4, .int .u16 x10f5, .int .u16 x10f6, .int .u64 x10f7, .int .u32 x10f8, .int .u8 x10f9, .int .u64 x10f10, .int .u64 x10f11, .slice x10A12 x10b12.length x10c12] 38)] :: L :: D :: F) rfl rfl
                   replace hS := hS.front 3 (C := D) (L' := Cr :: [(b12, rowO [.int .u8 x10f0, .int .u8 x10f1, .int .u64 x10f2, .int .u64 x10f3, .int .u32 x10f4, .int .u16 x10f5, .int .u16 x10f6, .int .u64 x10f7, .int .u32 x10f8, .int .u8 x10f9, .int .u64 x10f10, .int .u64 x10f11, .slice x10A12 x10b12.length x10c12] 38)] :: L :: F) rfl rfl
                   replace hS := hS.front 3 (C := L) (L' := D :: Cr :: [(b12, rowO [.int .u8 x10f0, .int .u8 x10f1, .int .u64 x10f2, .int .u64 x10f3, .int .u32 x10f4, .int .u16 x10f5, .int .u16 x10f6, .int .u64 x10f7, .int .u32 x10f8, .int .u8 x10f9, .int .u64 x10f10, .int .u64 x10f11, .slice x10A12 x10b12.length x10c12] 38)] :: F) rfl rfl
                   replace hS := hS.front 3 (C := [(b12, rowO [.int .u8 x10f0, .int .u8 x10f1, .int .u64 x10f2, .int .u64 x10f3, .int .u32 x10f4, .int .u16 x10f5, .int .u16 x10f6, .int .u64 x10f7, .int .u32 x10f8, .int .u8 x10f9, .int .u64 x10f10, .int .u64 x10f11, .slice x10A12 x10b12.length x10c12] 38)]) (L' := L :: D :: Cr :: F) rfl rfl
                   exact lp_next _ (by omega) ⟨(j + 1), ((j : Nat) : Int), rfl, (hA.sel [3, 4, 6, 7, 8, 21, 22, 23, 31, 32] rfl), hS, by omega, fnd3.yes hx19 (by assumption)⟩)
              · first
                | (exfalso; omega)
                | (replace hA := hA.rw 41 (v' := .bool false) rfl (vb_eq_f hc21)
                   refine cd_cond_f hA rfl ?_
                   refine wp_skip ?_
                   refine xb_norm ?_
                   refine xt_norm ?_
                   refine wp_region_lit ?_
                   refine st_run tbOk 1 hA (e' := (43, .int .i64 (IntKind.i64.wrap (((j : Nat) : Int) + 1))) :: _) rfl ?_; clear hA; intro a hA
                   replace hA := hA.rw 43 (v' := .int .i64 ((j + 1 : Nat) : Int)) rfl (wr64 (by omega) (by omega) (by omega))
                   refine st_run tbOk 1 hA (e' := (32, .int .i64 ((j + 1 : Nat) : Int)) :: _) rfl ?_; clear hA; intro a hA
                   refine wpList_nil ?_
                   replace hA := hA.sel [3, 4, 6, 7, 8, 21, 22, 23, 31, 32] (e' := [(3, .pointer (some ⟨b2, 0, none⟩)), (4, .slice (some ⟨b17, o18, none⟩) rs.length cr), (6, .pointer (some ⟨b12, 0, none⟩)), (7, .int .u8 who), (8, .int .i64 av), (21, .slice (some ⟨b8, o9, none⟩) l.length c), (22, .int .i64 ((l.length : Nat) : Int)), (23, .int .i64 ((k : Nat) : Int)), (31, .int .i64 ((rs.length : Nat) : Int)), (32, .int .i64 ((j + 1 : Nat) : Int))]) rfl
                   replace hS := hS.front 3 (C := Cr) (L' := [(b12, rowO [.int .u8 x10f0, .int .u8 x10f1, .int .u64 x10f2, .int .u64 x10f3, .int .u32 x10f4, .int .u16 x10f5, .int .u16 x10f6, .int .u64 x10f7, .int .u32 x10f8, .int .u8 x10f9, .int .u64 x10f10, .int .u64 x10f11, .slice x10A12 x10b12.length x10c12] 38)] :: L :: D :: F) rfl rfl
                   replace hS := hS.front 3 (C := D) (L' := Cr :: [(b12, rowO [.int .u8 x10f0, .int .u8 x10f1, .int .u64 x10f2, .int .u64 x10f3, .int .u32 x10f4, .int .u16 x10f5, .int .u16 x10f6, .int .u64 x10f7, .int .u32 x10f8, .int .u8 x10f9, .int .u64 x10f10, .int .u64 x10f11, .slice x10A12 x10b12.length x10c12] 38)] :: L :: F) rfl rfl
                   replace hS := hS.front 3 (C := L) (L' := D :: Cr :: [(b12, rowO [.int .u8 x10f0, .int .u8 x10f1, .int .u64 x10f2, .int .u64 x10f3, .int .u32 x10f4, .int .u16 x10f5, .int .u16 x10f6, .int .u64 x10f7, .int .u32 x10f8, .int .u8 x10f9, .int .u64 x10f10, .int .u64 x10f11, .slice x10A12 x10b12.length x10c12] 38)] :: F) rfl rfl
                   replace hS := hS.front 3 (C := [(b12, rowO [.int .u8 x10f0, .int .u8 x10f1, .int .u64 x10f2, .int .u64 x10f3, .int .u32 x10f4, .int .u16 x10f5, .int .u16 x10f6, .int .u64 x10f7, .int .u32 x10f8, .int .u8 x10f9, .int .u64 x10f10, .int .u64 x10f11, .slice x10A12 x10b12.length x10c12] 38)]) (L' := L :: D :: Cr :: F) rfl rfl
                   exact lp_next _ (by omega) ⟨(j + 1), av, rfl, (hA.sel [3, 4, 6, 7, 8, 21, 22, 23, 31, 32] rfl), hS, by omega, hav.no hx19 (by assumption)⟩))
         · first
           | (exfalso; omega)
           | (replace hA := hA.rw 33 (v' := .bool false) rfl (vb_false hc16)
              refine cd_cond_f hA rfl ?_
              refine wp_exit ?_
              refine xt_exit ?_
              refine xt_exit ?_
              refine cd_exit_eq ?_
              refine xt_norm ?_
              refine wp_seq ?_
              refine wp_seq ?_
              refine wp_region_lit ?_
              have hjl : j = rs.length := by omega
              rw [hjl] at hav
              rcases first_of (fun y : LEnt => y.1 = who) rs with hno | ⟨k0, ⟨v0, (_ | _), v2, v3, v4, v5, v6, v7, v8, v9, v10, v11, yA, yc, yb⟩, hk0, hp0, hb0⟩
              · have hae := hav.none hno
                replace hA := hA.rw 8 (v' := .int .i64 (-1)) rfl (by rw [hae])
                have hmiss := hI.miss hw0_ hw1_ hno
                refine st_run tbOk 1 hA (e' := (44, .pointer (some ⟨b12, 0, none⟩)) :: _) rfl ?_; clear hA; intro a hA
                refine st_val hA rfl rfl (by decide) (rn_load tbOk hA rfl rfl rfl rfl (cell_row (hS.heapAt 0 rfl) rfl)) ?_; clear hA; intro a hA
                refine st_run tbOk 1 hA (e' := (46, .int .u8 (x10f0.tmod 2)) :: _) rfl ?_; clear hA; intro a hA
                replace hA := hA.rw 46 (v' := .int .u8 op) rfl (by rw [hop])
                refine st_run tbOk 1 hA (e' := (47, .bool (op == 1)) :: _) rfl ?_; clear hA; intro a hA
                refine wpList_nil ?_
                replace hA := hA.sel [3, 4, 6, 7, 8, 21, 22, 23, 47] (e' := [(3, .pointer (some ⟨b2, 0, none⟩)), (4, .slice Ar rs.length cr), (6, .pointer (some ⟨b12, 0, none⟩)), (7, .int .u8 who), (8, .int .i64 (-1)), (21, .slice (some ⟨b8, o9, none⟩) l.length c), (22, .int .i64 ((l.length : Nat) : Int)), (23, .int .i64 ((k : Nat) : Int)), (47, .bool (op == 1))]) rfl
                refine xt_norm ?_
                by_cases hc22 : op = 1
                · first
                  | (exfalso; omega)
                  | (replace hA := hA.rw 47 (v' := .bool true) rfl (vb_eq_t hc22)
                     refine cd_cond_t hA rfl ?_
                     refine wp_seq ?_
                     refine wp_region_lit ?_
                     refine st_run tbOk 11 hA (e' := (10, .bool false) :: (57, .bool false) :: (56, undef) :: (55, undef) :: (54, undef) :: (53, undef) :: (52, undef) :: (51, undef) :: (50, .bool false) :: (49, .bool false) :: (48, .int .i64 (-1)) :: _) rfl ?_; clear hA; intro a hA
                     refine wpList_nil ?_
                     replace hA := hA.sel [3, 4, 6, 7, 8, 10, 21, 22, 23] (e' := [(3, .pointer (some ⟨b2, 0, none⟩)), (4, .slice Ar rs.length cr), (6, .pointer (some ⟨b12, 0, none⟩)), (7, .int .u8 who), (8, .int .i64 (-1)), (10, .bool false), (21, .slice (some ⟨b8, o9, none⟩) l.length c), (22, .int .i64 ((l.length : Nat) : Int)), (23, .int .i64 ((k : Nat) : Int))]) rfl
                     refine xt_norm ?_
                     refine wp_seq ?_
                     refine wp_seq ?_
                     replace hS := hS.front 2 (C := D) (L' := [(b12, rowO [.int .u8 x10f0, .int .u8 x10f1, .int .u64 x10f2, .int .u64 x10f3, .int .u32 x10f4, .int .u16 x10f5, .int .u16 x10f6, .int .u64 x10f7, .int .u32 x10f8, .int .u8 x10f9, .int .u64 x10f10, .int .u64 x10f11, .slice x10A12 x10b12.length x10c12] 38)] :: L :: Cr :: F) rfl rfl
                     replace hS := hS.front 2 (C := L) (L' := D :: [(b12, rowO [.int .u8 x10f0, .int .u8 x10f1, .int .u64 x10f2, .int .u64 x10f3, .int .u32 x10f4, .int .u16 x10f5, .int .u16 x10f6, .int .u64 x10f7, .int .u32 x10f8, .int .u8 x10f9, .int .u64 x10f10, .int .u64 x10f11, .slice x10A12 x10b12.length x10c12] 38)] :: Cr :: F) rfl rfl
                     refine wp_draw (fun w' => St w0 w' ([(b12, rowO [.int .u8 x10f0, .int .u8 x10f1, .int .u64 x10f2, .int .u64 x10f3, .int .u32 x10f4, .int .u16 x10f5, .int .u16 x10f6, .int .u64 x10f7, .int .u32 x10f8, .int .u8 x10f9, .int .u64 x10f10, .int .u64 x10f11, .slice x10A12 x10b12.length x10c12] 38)] :: Cr :: F)) [] [(0, true), (1, true), (3, true), (4, true), (6, true), (2, false), (5, false), (7, true)] mixed (by kernel_rfl) (by rintro c a w ⟨_, _, h, _⟩; cases h) (by rfl) (by kernel_rfl) ?_
                     replace hS := hS.drew
                     refine dr_run tbOk 3 hA (hS.tail 2 rfl) (e' := (61, .pointer (some ⟨b12, 2, none⟩)) :: (59, .int .u8 who) :: (58, .pointer (some ⟨b2, 0, none⟩)) :: _) rfl ?_; clear hA; intro a hA
                     refine dr_y hA rfl rfl rfl (by decide) (hS.tail 2 rfl) (fun w' hS' => rn_loadA tbOk hA [.int .u64 x10f2, .int .u64 x10f3, .int .u32 x10f4, .int .u16 x10f5, .int .u16 x10f6, .int .u64 x10f7, .int .u32 x10f8, .int .u8 x10f9, .int .u64 x10f10, .int .u64 x10f11, .slice x10A12 x10b12.length x10c12] rfl rfl rfl rfl rfl (cells_row (hS'.heapAt 0 rfl) rfl)) ?_; clear hA; intro a hA
                     refine dr_run tbOk 1 hA (hS.tail 2 rfl) (e' := (64, .bool false) :: _) rfl ?_; clear hA; intro a hA
                     refine dr_b (o := _) rfl ?_
                     refine st_call0 hA rfl rfl rfl isfn7 rfl rfl (by decide) (request7 hS who hw0_ hw1_) ?_
                     clear hA hS; rintro _ w23 a ⟨rfl, hS⟩ hA
                     refine dr_nil (.inr (hS.tail 2 rfl)) ?_
                     refine dr_b (o := _) rfl ?_
                     replace hS := hS.front 1 (C := D) (L' := L :: [(b12, rowO [.int .u8 x10f0, .int .u8 x10f1, .int .u64 x10f2, .int .u64 x10f3, .int .u32 x10f4, .int .u16 x10f5, .int .u16 x10f6, .int .u64 x10f7, .int .u32 x10f8, .int .u8 x10f9, .int .u64 x10f10, .int .u64 x10f11, .slice x10A12 x10b12.length x10c12] 38)] :: Cr :: F) rfl rfl
                     replace hS := hS.front 1 (C := L) (L' := D :: [(b12, rowO [.int .u8 x10f0, .int .u8 x10f1, .int .u64 x10f2, .int .u64 x10f3, .int .u32 x10f4, .int .u16 x10f5, .int .u16 x10f6, .int .u64 x10f7, .int .u32 x10f8, .int .u8 x10f9, .int .u64 x10f10, .int .u64 x10f11, .slice x10A12 x10b12.length x10c12] 38)] :: Cr :: F) rfl rfl
                     refine st_call0 hA rfl rfl rfl isfn6 rfl rfl (by decide) (reply_none6 hS hM 0 (who % 2) (who / 2) 0 0 0 0 0 0 who _ x10f2 x10f3 x10f4 x10f5 x10f6 x10f7 x10f8 x10f9 x10f10 x10f11 _ hmiss) ?_
                     clear hA hS; rintro _ w24 a ⟨L25, hM26, rfl, hS⟩ hA
                     refine dr_nil (.inr (hS.tail 2 rfl)) ?_
                     refine dr_run tbOk 1 hA (hS.tail 2 rfl) (e' := (65, .bool false) :: _) rfl ?_; clear hA; intro a hA
                     refine dr_end ?_
                     replace hA := hA.sel [3, 4, 6, 8, 10, 21, 22, 23, 65] (e' := [(3, .pointer (some ⟨b2, 0, none⟩)), (4, .slice Ar rs.length cr), (6, .pointer (some ⟨b12, 0, none⟩)), (8, .int .i64 (-1)), (10, .bool false), (21, .slice (some ⟨b8, o9, none⟩) l.length c), (22, .int .i64 ((l.length : Nat) : Int)), (23, .int .i64 ((k : Nat) : Int)), (65, .bool false)]) rfl
                     refine xt_norm ?_
                     refine cd_cond_f hA rfl ?_
                     refine wp_skip ?_
                     refine xt_norm ?_
                     refine wp_seq ?_
                     refine wp_seq ?_
                     refine wp_region_lit ?_
                     refine st_run tbOk 1 hA (e' := (66, .bool false) :: _) rfl ?_; clear hA; intro a hA
                     refine wpList_nil ?_
                     replace hA := hA.sel [3, 4, 6, 8, 21, 22, 23, 66] (e' := [(3, .pointer (some ⟨b2, 0, none⟩)), (4, .slice Ar rs.length cr), (6, .pointer (some ⟨b12, 0, none⟩)), (8, .int .i64 (-1)), (21, .slice (some ⟨b8, o9, none⟩) l.length c), (22, .int .i64 ((l.length : Nat) : Int)), (23, .int .i64 ((k : Nat) : Int)), (66, .bool false)]) rfl
                     refine xt_norm ?_
                     refine cd_cond_f hA rfl ?_
                     refine wp_skip ?_
                     refine xt_norm ?_
                     refine wp_exit ?_
                     refine xt_exit ?_
                     refine cd_exit_eq ?_
                     refine xt_norm ?_
                     replace hS := hS.front 2 (C := [(b12, rowO [.int .u8 x10f0, .int .u8 x10f1, .int .u64 x10f2, .int .u64 x10f3, .int .u32 x10f4, .int .u16 x10f5, .int .u16 x10f6, .int .u64 x10f7, .int .u32 x10f8, .int .u8 x10f9, .int .u64 x10f10, .int .u64 x10f11, .slice x10A12 x10b12.length x10c12] 38)]) (L' := L25 :: D :: Cr :: F) rfl rfl
                     replace hS := hS.drop1
                     replace hS := hS.front 2 (C := Cr) (L' := L25 :: D :: F) rfl rfl
                     replace hS := hS.front 2 (C := D) (L' := Cr :: L25 :: F) rfl rfl
                     replace hS := hS.front 2 (C := L25) (L' := D :: Cr :: F) rfl rfl
                     exact ⟨(es), (rs), L25, D, Ar, cr, Cr, (hA.sel [3, 4, 21, 22, 23] rfl), hS, hI, hM26, hR, hdm, hbd, hdr⟩)
                · first
                  | (exfalso; omega)
                  | (replace hA := hA.rw 47 (v' := .bool false) rfl (vb_eq_f hc22)
                     refine cd_cond_f hA rfl ?_
                     refine wp_skip ?_
                     refine xt_norm ?_
                     refine wp_seq ?_
                     refine wp_region_lit ?_
                     have hcs : rs.length < 32 ∨ (rs.length = 32 ∧ ∀ (i : Nat) (y : LEnt), rs[i]? = some y → ¬ y.2.1 = true) ∨ (rs.length = 32 ∧ ∃ (k0 : Nat) (y0 : LEnt), rs[k0]? = some y0 ∧ y0.2.1 = true ∧ ∀ (i : Nat) (y : LEnt), i < k0 → rs[i]? = some y → ¬ y.2.1 = true) := by
                         rcases Nat.lt_or_ge rs.length 32 with h | h
                         · exact .inl h
                         · rcases first_of (fun y : LEnt => y.2.1 = true) rs with h2 | h2
                           · exact .inr (.inl ⟨by omega, h2⟩)
                           · exact .inr (.inr ⟨by omega, h2⟩)
                     rcases hcs with hr32 | ⟨hr32, hnd⟩ | ⟨hr32, j0, y0, hj0, hjd, hjb⟩
                     · refine st_run tbOk 2 hA (e' := (79, .int .u8 who) :: (78, .pointer (some ⟨b2, 0, none⟩)) :: _) rfl ?_; clear hA; intro a hA
                       refine st_call0 hA rfl rfl rfl isfn7 rfl rfl (by decide) (request7 hS who hw0_ hw1_) ?_
                       clear hA hS; rintro _ w27 a ⟨rfl, hS⟩ hA
                       replace hS := hS.front 2 (C := D) (L' := [(b12, rowO [.int .u8 x10f0, .int .u8 x10f1, .int .u64 x10f2, .int .u64 x10f3, .int .u32 x10f4, .int .u16 x10f5, .int .u16 x10f6, .int .u64 x10f7, .int .u32 x10f8, .int .u8 x10f9, .int .u64 x10f10, .int .u64 x10f11, .slice x10A12 x10b12.length x10c12] 38)] :: L :: Cr :: F) rfl rfl
                       replace hS := hS.front 2 (C := L) (L' := D :: [(b12, rowO [.int .u8 x10f0, .int .u8 x10f1, .int .u64 x10f2, .int .u64 x10f3, .int .u32 x10f4, .int .u16 x10f5, .int .u16 x10f6, .int .u64 x10f7, .int .u32 x10f8, .int .u8 x10f9, .int .u64 x10f10, .int .u64 x10f11, .slice x10A12 x10b12.length x10c12] 38)] :: Cr :: F) rfl rfl
                       refine st_call0 hA rfl rfl rfl isfn8 rfl rfl (by decide) (take_new8 hS hM 0 (who % 2) (who / 2) 0 0 0 0 0 0 who _ hmiss (by omega)) ?_
                       clear hA hS; rintro _ w28 a ⟨L29, hM30, rfl, hS⟩ hA
                       have dd31 := add_mem_dd (a0 := (who % 2)) (a1 := (who / 2)) (a2 := 1) (a3 := 0) (a4 := 0) (a5 := 0) (a6 := 0) (a7 := 0) (a8 := 0) (a9 := 0) (a10 := 0) (a11 := 0) (a12 := 0) (w0 := w0) (D := D) hdm
                       have bd32 := sbd.add (a0 := (who % 2)) (a1 := (who / 2)) (a2 := 1) (a3 := 0) (a4 := 0) (a5 := 0) (a6 := 0) (a7 := 0) (a8 := 0) (a9 := 0) (a10 := 0) (a11 := 0) (a12 := 0) (A := none) (c := 0) hbd
                       refine st_run tbOk 4 hA (e' := (84, .nilIface) :: (83, .agg #[.int .u64 0, .int .u64 0, .int .u32 0, .int .u16 0, .int .u16 0, .int .u64 0, .int .u32 0, .int .u8 0, .int .u64 0, .int .u64 0, .slice none 0 0]) :: (82, .int .i64 0) :: (77, .tuple #[.int .i64 0, .agg #[.int .u64 0, .int .u64 0, .int .u32 0, .int .u16 0, .int .u16 0, .int .u64 0, .int .u32 0, .int .u8 0, .int .u64 0, .int .u64 0, .slice none 0 0], .nilIface]) :: _) rfl ?_; clear hA; intro a hA
                       refine st_alloc tbOk hA hS [.int .u64 0, .int .u64 0, .int .u32 0, .int .u16 0, .int .u16 0, .int .u64 0, .int .u32 0, .int .u8 0, .int .u64 0, .int .u64 0, .slice none 0 0] rfl rfl rfl rfl rfl (by decide) ?_; clear hA hS; intro b33 w34 a hS hA
                       refine st_run tbOk 1 hA (e' := (11, .int .i64 0) :: _) rfl ?_; clear hA; intro a hA
                       refine st_store tbOk hA hS [.int .u64 0, .int .u64 0, .int .u32 0, .int .u16 0, .int .u16 0, .int .u64 0, .int .u32 0, .int .u8 0, .int .u64 0, .int .u64 0, .slice none 0 0] [.int .u64 0, .int .u64 0, .int .u32 0, .int .u16 0, .int .u16 0, .int .u64 0, .int .u32 0, .int .u8 0, .int .u64 0, .int .u64 0, .slice none 0 0] rfl rfl rfl rfl rfl rfl (by simp [Value.oneCell']) (Nat.le_of_ble_eq_true rfl) rfl rfl rfl ?_; clear hS; intro w35 hS
                       refine st_run tbOk 1 hA (e' := (13, .nilIface) :: _) rfl ?_; clear hA; intro a hA
                       refine wpList_nil ?_
                       replace hA := hA.sel [3, 4, 7, 8, 11, 12, 13, 21, 22, 23] (e' := [(3, .pointer (some ⟨b2, 0, none⟩)), (4, .slice Ar rs.length cr), (7, .int .u8 who), (8, .int .i64 (-1)), (11, .int .i64 0), (12, .pointer (some ⟨b33, 0, none⟩)), (13, .nilIface), (21, .slice (some ⟨b8, o9, none⟩) l.length c), (22, .int .i64 ((l.length : Nat) : Int)), (23, .int .i64 ((k : Nat) : Int))]) rfl
                       refine xt_norm ?_
                       refine wp_seq ?_
                       refine wp_seq ?_
                       refine wp_region_lit ?_
                       refine st_run tbOk 2 hA (e' := (86, .bool false) :: (85, .int .i64 (-1)) :: _) rfl ?_; clear hA; intro a hA
                       refine wpList_nil ?_
                       replace hA := hA.sel [3, 4, 7, 8, 11, 12, 13, 21, 22, 23, 86] (e' := [(3, .pointer (some ⟨b2, 0, none⟩)), (4, .slice Ar rs.length cr), (7, .int .u8 who), (8, .int .i64 (-1)), (11, .int .i64 0), (12, .pointer (some ⟨b33, 0, none⟩)), (13, .nilIface), (21, .slice (some ⟨b8, o9, none⟩) l.length c), (22, .int .i64 ((l.length : Nat) : Int)), (23, .int .i64 ((k : Nat) : Int)), (86, .bool false)]) rfl
                       refine xt_norm ?_
                       refine cd_cond_f hA rfl ?_
                       refine wp_skip ?_
                       refine xt_norm ?_
                       refine wp_seq ?_
                       refine wp_seq ?_
                       refine wp_region_lit ?_
                       refine st_run tbOk 3 hA (e' := (111, .bool false) :: (110, .bool false) :: (109, .int .i64 0) :: _) rfl ?_; clear hA; intro a hA
                       refine st_val hA rfl rfl (by decide) (rn_loadA tbOk hA [.int .u64 0, .int .u64 0, .int .u32 0, .int .u16 0, .int .u16 0, .int .u64 0, .int .u32 0, .int .u8 0, .int .u64 0, .int .u64 0, .slice none 0 0] rfl rfl rfl rfl rfl (cells_row (hS.heapAt 0 rfl) rfl)) ?_; clear hA; intro a hA
                       refine st_run tbOk 1 hA (e' := (113, .agg #[.int .u64 0, .int .u64 0, .int .u32 0, .int .u16 0, .int .u16 0, .int .u64 0, .int .u32 0, .int .u8 0, .int .u64 0, .int .u64 0, .slice none 0 0]) :: _) rfl ?_; clear hA; intro a hA
                       refine st_call0 hA rfl rfl rfl isfn9 rfl rfl (by decide) (same04_9 hS 0 0 0 0 0 0 0 0 0 0 0 0 0 0 0 0 0 0 0 0 (bs := ([] : List UInt8)) (cs := ([] : List UInt8)) RdSX.nil RdSX.nil) ?_
                       clear hA hS; rintro v w36 a ⟨rfl, hS⟩ hA
                       replace hA := hA.rw 114 (v' := .bool true) rfl (congrArg Value.bool (by rw [decide_eq_true_eq]; exact ⟨rfl, rfl, rfl, rfl, rfl, ⟨rfl, rfl, rfl, rfl⟩, rfl, rfl⟩))
                       refine st_run tbOk 2 hA (e' := (116, .bool false) :: (115, .bool false) :: _) rfl ?_; clear hA; intro a hA
                       refine wpList_nil ?_
                       replace hA := hA.sel [3, 4, 7, 13, 21, 22, 23, 116] (e' := [(3, .pointer (some ⟨b2, 0, none⟩)), (4, .slice Ar rs.length cr), (7, .int .u8 who), (13, .nilIface), (21, .slice (some ⟨b8, o9, none⟩) l.length c), (22, .int .i64 ((l.length : Nat) : Int)), (23, .int .i64 ((k : Nat) : Int)), (116, .bool false)]) rfl
                       refine xt_norm ?_
                       refine cd_cond_f hA rfl ?_
                       refine wp_skip ?_
                       refine xt_norm ?_
                       refine wp_seq ?_
                       refine wp_seq ?_
                       refine wp_region_lit ?_
                       refine st_run tbOk 3 hA (e' := (119, .bool (((rs.length : Nat) : Int) == 32)) :: (118, .int .i64 ((rs.length : Nat) : Int)) :: (117, .slice Ar rs.length cr) :: _) rfl ?_; clear hA; intro a hA
                       refine wpList_nil ?_
                       replace hA := hA.sel [3, 4, 7, 13, 21, 22, 23, 119] (e' := [(3, .pointer (some ⟨b2, 0, none⟩)), (4, .slice Ar rs.length cr), (7, .int .u8 who), (13, .nilIface), (21, .slice (some ⟨b8, o9, none⟩) l.length c), (22, .int .i64 ((l.length : Nat) : Int)), (23, .int .i64 ((k : Nat) : Int)), (119, .bool (((rs.length : Nat) : Int) == 32))]) rfl
                       refine xt_norm ?_
                       have hc37 : ¬ (((rs.length : Nat) : Int) = 32) := by omega
                       replace hA := hA.rw 119 (v' := .bool false) rfl (vb_eq_f hc37)
                       refine cd_cond_f hA rfl ?_
                       refine wp_skip ?_
                       refine xt_norm ?_
                       refine wp_seq ?_
                       refine wp_region_lit ?_
                       refine st_run tbOk 3 hA (e' := (149, .agg #[.int .u8 who, .bool false, .int .u64 0, .int .u64 0, .int .u32 0, .int .u16 0, .int .u16 0, .int .u64 0, .int .u32 0, .int .u8 0, .int .u64 0, .int .u64 0, .slice none 0 0]) :: (148, .int .u8 who) :: (147, .slice Ar rs.length cr) :: _) rfl ?_; clear hA; intro a hA
                       refine st_buildSlice tbOk hA hS [.int .u8 who, .bool false, .int .u64 0, .int .u64 0, .int .u32 0, .int .u16 0, .int .u16 0, .int .u64 0, .int .u32 0, .int .u8 0, .int .u64 0, .int .u64 0, .slice none 0 0] rfl rfl rfl rfl rfl (by decide) (by kernel_rfl) rfl rfl (by decide) ?_; clear hA hS; intro b38 w39 a hS hA
                       replace hS := hS.front 5 (C := Cr) (L' := [(b38, rowO [.int .u8 who, .bool false, .int .u64 0, .int .u64 0, .int .u32 0, .int .u16 0, .int .u16 0, .int .u64 0, .int .u32 0, .int .u8 0, .int .u64 0, .int .u64 0, .slice none 0 0] 40)] :: [(b33, rowO [.int .u64 0, .int .u64 0, .int .u32 0, .int .u16 0, .int .u16 0, .int .u64 0, .int .u32 0, .int .u8 0, .int .u64 0, .int .u64 0, .slice none 0 0] 36)] :: L29 :: D :: [(b12, rowO [.int .u8 x10f0, .int .u8 x10f1, .int .u64 x10f2, .int .u64 x10f3, .int .u32 x10f4, .int .u16 x10f5, .int .u16 x10f6, .int .u64 x10f7, .int .u32 x10f8, .int .u8 x10f9, .int .u64 x10f10, .int .u64 x10f11, .slice x10A12 x10b12.length x10c12] 38)] :: F) rfl rfl
                       refine st_append tbOk hA (m := rs.length) (q := 1) (xs := rows encLEnt rs) (news := rows encLEnt ([(who, false, 0, 0, 0, 0, 0, 0, 0, 0, 0, 0, none, 0, ([] : List UInt8))] : List (Int × Bool × Int × Int × Int × Int × Int × Int × Int × Int × Int × Int × Option Addr × Nat × List UInt8))) rfl rfl rfl rfl rfl rfl rfl rfl (by decide) hR hS (((Own.full (T := 40) (size := 13) (g := b38) (m := 1) rfl (by decide)).rd (hS.own_ 1 rfl)).x) (rows_one encLEnt_ok _) (maxLen_le (by first | omega | (simp; omega))) (by show (rs.length + 1) * 88 ≤ 140737488355328; first | omega | (simp; omega)) rfl rfl (by decide) ?_
                       clear hA hS; intro v40 w41 C42 a hO42 hS hA
                       replace hO42 := Own.app (l := rs) (l2 := ([(who, false, 0, 0, 0, 0, 0, 0, 0, 0, 0, 0, none, 0, ([] : List UInt8))] : List (Int × Bool × Int × Int × Int × Int × Int × Int × Int × Int × Int × Int × Option Addr × Nat × List UInt8))) hO42
                       obtain ⟨A43, c44, rfl, hmc44, hxc44⟩ := hO42.open'
                       refine st_run tbOk 1 hA (e' := (4, .slice A43 ((rs ++ ([(who, false, 0, 0, 0, 0, 0, 0, 0, 0, 0, 0, none, 0, ([] : List UInt8))] : List (Int × Bool × Int × Int × Int × Int × Int × Int × Int × Int × Int × Int × Option Addr × Nat × List UInt8))).length) c44) :: _) rfl ?_; clear hA; intro a hA
                       refine wpList_nil ?_
                       replace hA := hA.sel [3, 4, 13, 21, 22, 23] (e' := [(3, .pointer (some ⟨b2, 0, none⟩)), (4, .slice A43 ((rs ++ ([(who, false, 0, 0, 0, 0, 0, 0, 0, 0, 0, 0, none, 0, ([] : List UInt8))] : List (Int × Bool × Int × Int × Int × Int × Int × Int × Int × Int × Int × Int × Option Addr × Nat × List UInt8))).length) c44), (13, .nilIface), (21, .slice (some ⟨b8, o9, none⟩) l.length c), (22, .int .i64 ((l.length : Nat) : Int)), (23, .int .i64 ((k : Nat) : Int))]) rfl
                       refine xt_norm ?_
                       refine wp_seq ?_
                       refine wp_region_lit ?_
                       have hdr2 : ∀ x ∈ (rs ++ ([(who, false, 0, 0, 0, 0, 0, 0, 0, 0, 0, 0, none, 0, ([] : List UInt8))] : List (Int × Bool × Int × Int × Int × Int × Int × Int × Int × Int × Int × Int × Option Addr × Nat × List UInt8))), ∀ D, encLEnt_dd w0 D x := add_dd22 hdr (fun D => DD.nil)
                       have hln : (es ++ [((who % 2), (who / 2), 1, 0, 0, 0, 0, 0, 0, 0, 0, 0, 0, none, 0, ([] : List UInt8))]).length = (rs ++ ([(who, false, 0, 0, 0, 0, 0, 0, 0, 0, 0, 0, none, 0, ([] : List UInt8))] : List (Int × Bool × Int × Int × Int × Int × Int × Int × Int × Int × Int × Int × Option Addr × Nat × List UInt8))).length := (show SI (es ++ [((who % 2), (who / 2), 1, 0, 0, 0, 0, 0, 0, 0, 0, 0, 0, none, 0, ([] : List UInt8))]) (rs ++ ([(who, false, 0, 0, 0, 0, 0, 0, 0, 0, 0, 0, none, 0, ([] : List UInt8))] : List (Int × Bool × Int × Int × Int × Int × Int × Int × Int × Int × Int × Int × Option Addr × Nat × List UInt8))) from (hI.add (show eview _ = rview _ from rfl) hno hw0_ hw1_ (by omega))).len
                       refine st_run tbOk 4 hA (e' := (155, .pointer (some ⟨b2, 0, none⟩)) :: (154, .bool false) :: (153, .bool false) :: (152, .nilIface) :: _) rfl ?_; clear hA; intro a hA
                       replace hS := hS.front 4 (C := D) (L' := C42 :: [(b38, rowO [.int .u8 who, .bool false, .int .u64 0, .int .u64 0, .int .u32 0, .int .u16 0, .int .u16 0, .int .u64 0, .int .u32 0, .int .u8 0, .int .u64 0, .int .u64 0, .slice none 0 0] 40)] :: [(b33, rowO [.int .u64 0, .int .u64 0, .int .u32 0, .int .u16 0, .int .u16 0, .int .u64 0, .int .u32 0, .int .u8 0, .int .u64 0, .int .u64 0, .slice none 0 0] 36)] :: L29 :: [(b12, rowO [.int .u8 x10f0, .int .u8 x10f1, .int .u64 x10f2, .int .u64 x10f3, .int .u32 x10f4, .int .u16 x10f5, .int .u16 x10f6, .int .u64 x10f7, .int .u32 x10f8, .int .u8 x10f9, .int .u64 x10f10, .int .u64 x10f11, .slice x10A12 x10b12.length x10c12] 38)] :: F) rfl rfl
                       replace hS := hS.front 4 (C := L29) (L' := D :: C42 :: [(b38, rowO [.int .u8 who, .bool false, .int .u64 0, .int .u64 0, .int .u32 0, .int .u16 0, .int .u16 0, .int .u64 0, .int .u32 0, .int .u8 0, .int .u64 0, .int .u64 0, .slice none 0 0] 40)] :: [(b33, rowO [.int .u64 0, .int .u64 0, .int .u32 0, .int .u16 0, .int .u16 0, .int .u64 0, .int .u32 0, .int .u8 0, .int .u64 0, .int .u64 0, .slice none 0 0] 36)] :: [(b12, rowO [.int .u8 x10f0, .int .u8 x10f1, .int .u64 x10f2, .int .u64 x10f3, .int .u32 x10f4, .int .u16 x10f5, .int .u16 x10f6, .int .u64 x10f7, .int .u32 x10f8, .int .u8 x10f9, .int .u64 x10f10, .int .u64 x10f11, .slice x10A12 x10b12.length x10c12] 38)] :: F) rfl rfl
                       refine st_call0 hA rfl rfl rfl isfn11 rfl rfl (by decide) (slen11 hS hM30) ?_
                       clear hA hS; rintro _ w45 a ⟨L46, hM47, rfl, hS⟩ hA
                       refine st_run tbOk 4 hA (e' := (160, .bool ((((es ++ [((who % 2), (who / 2), 1, 0, 0, 0, 0, 0, 0, 0, 0, 0, 0, none, 0, ([] : List UInt8))]).length : Nat) : Int) != (((rs ++ ([(who, false, 0, 0, 0, 0, 0, 0, 0, 0, 0, 0, none, 0, ([] : List UInt8))] : List (Int × Bool × Int × Int × Int × Int × Int × Int × Int × Int × Int × Int × Option Addr × Nat × List UInt8))).length : Nat) : Int))) :: (159, .bool ((((es ++ [((who % 2), (who / 2), 1, 0, 0, 0, 0, 0, 0, 0, 0, 0, 0, none, 0, ([] : List UInt8))]).length : Nat) : Int) != (((rs ++ ([(who, false, 0, 0, 0, 0, 0, 0, 0, 0, 0, 0, none, 0, ([] : List UInt8))] : List (Int × Bool × Int × Int × Int × Int × Int × Int × Int × Int × Int × Int × Option Addr × Nat × List UInt8))).length : Nat) : Int))) :: (158, .int .i64 (((rs ++ ([(who, false, 0, 0, 0, 0, 0, 0, 0, 0, 0, 0, none, 0, ([] : List UInt8))] : List (Int × Bool × Int × Int × Int × Int × Int × Int × Int × Int × Int × Int × Option Addr × Nat × List UInt8))).length : Nat) : Int)) :: (157, .slice A43 ((rs ++ ([(who, false, 0, 0, 0, 0, 0, 0, 0, 0, 0, 0, none, 0, ([] : List UInt8))] : List (Int × Bool × Int × Int × Int × Int × Int × Int × Int × Int × Int × Int × Option Addr × Nat × List UInt8))).length) c44) :: _) rfl ?_; clear hA; intro a hA
                       refine wpList_nil ?_
                       replace hA := hA.sel [3, 4, 21, 22, 23, 160] (e' := [(3, .pointer (some ⟨b2, 0, none⟩)), (4, .slice A43 ((rs ++ ([(who, false, 0, 0, 0, 0, 0, 0, 0, 0, 0, 0, none, 0, ([] : List UInt8))] : List (Int × Bool × Int × Int × Int × Int × Int × Int × Int × Int × Int × Int × Option Addr × Nat × List UInt8))).length) c44), (21, .slice (some ⟨b8, o9, none⟩) l.length c), (22, .int .i64 ((l.length : Nat) : Int)), (23, .int .i64 ((k : Nat) : Int)), (160, .bool ((((es ++ [((who % 2), (who / 2), 1, 0, 0, 0, 0, 0, 0, 0, 0, 0, 0, none, 0, ([] : List UInt8))]).length : Nat) : Int) != (((rs ++ ([(who, false, 0, 0, 0, 0, 0, 0, 0, 0, 0, 0, none, 0, ([] : List UInt8))] : List (Int × Bool × Int × Int × Int × Int × Int × Int × Int × Int × Int × Int × Option Addr × Nat × List UInt8))).length : Nat) : Int)))]) rfl
                       refine xt_norm ?_
                       by_cases hc48 : (((es ++ [((who % 2), (who / 2), 1, 0, 0, 0, 0, 0, 0, 0, 0, 0, 0, none, 0, ([] : List UInt8))]).length : Nat) : Int) = (((rs ++ ([(who, false, 0, 0, 0, 0, 0, 0, 0, 0, 0, 0, none, 0, ([] : List UInt8))] : List (Int × Bool × Int × Int × Int × Int × Int × Int × Int × Int × Int × Int × Option Addr × Nat × List UInt8))).length : Nat) : Int)
                       · first
                         | (exfalso; omega)
                         | (replace hA := hA.rw 160 (v' := .bool false) rfl (vb_ne_f hc48)
                            refine cd_cond_f hA rfl ?_
                            refine wp_skip ?_
                            refine xb_norm ?_
                            refine xt_norm ?_
                            replace hS := hS.front 3 (C := [(b38, rowO [.int .u8 who, .bool false, .int .u64 0, .int .u64 0, .int .u32 0, .int .u16 0, .int .u16 0, .int .u64 0, .int .u32 0, .int .u8 0, .int .u64 0, .int .u64 0, .slice none 0 0] 40)]) (L' := L46 :: D :: C42 :: [(b33, rowO [.int .u64 0, .int .u64 0, .int .u32 0, .int .u16 0, .int .u16 0, .int .u64 0, .int .u32 0, .int .u8 0, .int .u64 0, .int .u64 0, .slice none 0 0] 36)] :: [(b12, rowO [.int .u8 x10f0, .int .u8 x10f1, .int .u64 x10f2, .int .u64 x10f3, .int .u32 x10f4, .int .u16 x10f5, .int .u16 x10f6, .int .u64 x10f7, .int .u32 x10f8, .int .u8 x10f9, .int .u64 x10f10, .int .u64 x10f11, .slice x10A12 x10b12.length x10c12] 38)] :: F) rfl rfl
                            replace hS := hS.drop1
                            replace hS := hS.front 3 (C := [(b33, rowO [.int .u64 0, .int .u64 0, .int .u32 0, .int .u16 0, .int .u16 0, .int .u64 0, .int .u32 0, .int .u8 0, .int .u64 0, .int .u64 0, .slice none 0 0] 36)]) (L' := L46 :: D :: C42 :: [(b12, rowO [.int .u8 x10f0, .int .u8 x10f1, .int .u64 x10f2, .int .u64 x10f3, .int .u32 x10f4, .int .u16 x10f5, .int .u16 x10f6, .int .u64 x10f7, .int .u32 x10f8, .int .u8 x10f9, .int .u64 x10f10, .int .u64 x10f11, .slice x10A12 x10b12.length x10c12] 38)] :: F) rfl rfl
                            replace hS := hS.drop1
                            replace hS := hS.front 3 (C := [(b12, rowO [.int .u8 x10f0, .int .u8 x10f1, .int .u64 x10f2, .int .u64 x10f3, .int .u32 x10f4, .int .u16 x10f5, .int .u16 x10f6, .int .u64 x10f7, .int .u32 x10f8, .int .u8 x10f9, .int .u64 x10f10, .int .u64 x10f11, .slice x10A12 x10b12.length x10c12] 38)]) (L' := L46 :: D :: C42 :: F) rfl rfl
                            replace hS := hS.drop1
                            replace hS := hS.front 2 (C := C42) (L' := L46 :: D :: F) rfl rfl
                            replace hS := hS.front 2 (C := D) (L' := C42 :: L46 :: F) rfl rfl
                            replace hS := hS.front 2 (C := L46) (L' := D :: C42 :: F) rfl rfl
                            exact ⟨(es ++ [((who % 2), (who / 2), 1, 0, 0, 0, 0, 0, 0, 0, 0, 0, 0, none, 0, ([] : List UInt8))]), (rs ++ ([(who, false, 0, 0, 0, 0, 0, 0, 0, 0, 0, 0, none, 0, ([] : List UInt8))] : List (Int × Bool × Int × Int × Int × Int × Int × Int × Int × Int × Int × Int × Option Addr × Nat × List UInt8))), L46, D, A43, c44, C42, (hA.sel [3, 4, 21, 22, 23] rfl), hS, (hI.add (show eview _ = rview _ from rfl) hno hw0_ hw1_ (by omega)), hM47, hO42, dd31, bd32, hdr2⟩)
                       · first
                         | (exfalso; omega)
                         | (replace hA := hA.rw 160 (v' := .bool true) rfl (vb_ne_t hc48)
                            refine cd_cond_t hA rfl ?_
                            refine wp_seq ?_
                            refine wp_region_lit ?_
                            refine st_run tbOk 1 hA (e' := (2, .bool false) :: _) rfl ?_; clear hA; intro a hA
                            refine wpList_nil ?_
                            replace hA := hA.sel [2] (e' := [(2, .bool false)]) rfl
                            refine xt_norm ?_
                            refine wp_ret (xb_ret (xt_ret (xt_ret (xb_ret (xt_ret ?_)))))
                            refine ret1 (fn := Tryd.f3) hA rfl rfl ?_
                            exfalso; omega)
                     · refine st_run tbOk 2 hA (e' := (79, .int .u8 who) :: (78, .pointer (some ⟨b2, 0, none⟩)) :: _) rfl ?_; clear hA; intro a hA
                       refine st_call0 hA rfl rfl rfl isfn7 rfl rfl (by decide) (request7 hS who hw0_ hw1_) ?_
                       clear hA hS; rintro _ w49 a ⟨rfl, hS⟩ hA
                       replace hS := hS.front 2 (C := D) (L' := [(b12, rowO [.int .u8 x10f0, .int .u8 x10f1, .int .u64 x10f2, .int .u64 x10f3, .int .u32 x10f4, .int .u16 x10f5, .int .u16 x10f6, .int .u64 x10f7, .int .u32 x10f8, .int .u8 x10f9, .int .u64 x10f10, .int .u64 x10f11, .slice x10A12 x10b12.length x10c12] 38)] :: L :: Cr :: F) rfl rfl
                       replace hS := hS.front 2 (C := L) (L' := D :: [(b12, rowO [.int .u8 x10f0, .int .u8 x10f1, .int .u64 x10f2, .int .u64 x10f3, .int .u32 x10f4, .int .u16 x10f5, .int .u16 x10f6, .int .u64 x10f7, .int .u32 x10f8, .int .u8 x10f9, .int .u64 x10f10, .int .u64 x10f11, .slice x10A12 x10b12.length x10c12] 38)] :: Cr :: F) rfl rfl
                       refine st_call0 hA rfl rfl rfl isfn8 rfl rfl (by decide) (take_full8 hS hM 0 (who % 2) (who / 2) 0 0 0 0 0 0 who _ hmiss (by omega) (hI.nagn hnd)) ?_
                       clear hA hS; rintro _ w50 a ⟨L51, hM52, rfl, hS⟩ hA
                       refine st_run tbOk 4 hA (e' := (84, .iface 48 (.int .i64 5)) :: (83, .agg #[.int .u64 0, .int .u64 0, .int .u32 0, .int .u16 0, .int .u16 0, .int .u64 0, .int .u32 0, .int .u8 0, .int .u64 0, .int .u64 0, .slice none 0 0]) :: (82, .int .i64 0) :: (77, .tuple #[.int .i64 0, .agg #[.int .u64 0, .int .u64 0, .int .u32 0, .int .u16 0, .int .u16 0, .int .u64 0, .int .u32 0, .int .u8 0, .int .u64 0, .int .u64 0, .slice none 0 0], .iface 48 (.int .i64 5)]) :: _) rfl ?_; clear hA; intro a hA
                       refine st_alloc tbOk hA hS [.int .u64 0, .int .u64 0, .int .u32 0, .int .u16 0, .int .u16 0, .int .u64 0, .int .u32 0, .int .u8 0, .int .u64 0, .int .u64 0, .slice none 0 0] rfl rfl rfl rfl rfl (by decide) ?_; clear hA hS; intro b53 w54 a hS hA
                       refine st_run tbOk 1 hA (e' := (11, .int .i64 0) :: _) rfl ?_; clear hA; intro a hA
                       refine st_store tbOk hA hS [.int .u64 0, .int .u64 0, .int .u32 0, .int .u16 0, .int .u16 0, .int .u64 0, .int .u32 0, .int .u8 0, .int .u64 0, .int .u64 0, .slice none 0 0] [.int .u64 0, .int .u64 0, .int .u32 0, .int .u16 0, .int .u16 0, .int .u64 0, .int .u32 0, .int .u8 0, .int .u64 0, .int .u64 0, .slice none 0 0] rfl rfl rfl rfl rfl rfl (by simp [Value.oneCell']) (Nat.le_of_ble_eq_true rfl) rfl rfl rfl ?_; clear hS; intro w55 hS
                       refine st_run tbOk 1 hA (e' := (13, .iface 48 (.int .i64 5)) :: _) rfl ?_; clear hA; intro a hA
                       refine wpList_nil ?_
                       replace hA := hA.sel [3, 4, 7, 8, 11, 12, 13, 21, 22, 23] (e' := [(3, .pointer (some ⟨b2, 0, none⟩)), (4, .slice Ar rs.length cr), (7, .int .u8 who), (8, .int .i64 (-1)), (11, .int .i64 0), (12, .pointer (some ⟨b53, 0, none⟩)), (13, .iface 48 (.int .i64 5)), (21, .slice (some ⟨b8, o9, none⟩) l.length c), (22, .int .i64 ((l.length : Nat) : Int)), (23, .int .i64 ((k : Nat) : Int))]) rfl
                       refine xt_norm ?_
                       refine wp_seq ?_
                       refine wp_seq ?_
                       refine wp_region_lit ?_
                       refine st_run tbOk 2 hA (e' := (86, .bool false) :: (85, .int .i64 (-1)) :: _) rfl ?_; clear hA; intro a hA
                       refine wpList_nil ?_
                       replace hA := hA.sel [3, 4, 7, 8, 11, 12, 13, 21, 22, 23, 86] (e' := [(3, .pointer (some ⟨b2, 0, none⟩)), (4, .slice Ar rs.length cr), (7, .int .u8 who), (8, .int .i64 (-1)), (11, .int .i64 0), (12, .pointer (some ⟨b53, 0, none⟩)), (13, .iface 48 (.int .i64 5)), (21, .slice (some ⟨b8, o9, none⟩) l.length c), (22, .int .i64 ((l.length : Nat) : Int)), (23, .int .i64 ((k : Nat) : Int)), (86, .bool false)]) rfl
                       refine xt_norm ?_
                       refine cd_cond_f hA rfl ?_
                       refine wp_skip ?_
                       refine xt_norm ?_
                       refine wp_seq ?_
                       refine wp_seq ?_
                       refine wp_region_lit ?_
                       refine st_run tbOk 3 hA (e' := (111, .bool false) :: (110, .bool false) :: (109, .int .i64 0) :: _) rfl ?_; clear hA; intro a hA
                       refine st_val hA rfl rfl (by decide) (rn_loadA tbOk hA [.int .u64 0, .int .u64 0, .int .u32 0, .int .u16 0, .int .u16 0, .int .u64 0, .int .u32 0, .int .u8 0, .int .u64 0, .int .u64 0, .slice none 0 0] rfl rfl rfl rfl rfl (cells_row (hS.heapAt 0 rfl) rfl)) ?_; clear hA; intro a hA
                       refine st_run tbOk 1 hA (e' := (113, .agg #[.int .u64 0, .int .u64 0, .int .u32 0, .int .u16 0, .int .u16 0, .int .u64 0, .int .u32 0, .int .u8 0, .int .u64 0, .int .u64 0, .slice none 0 0]) :: _) rfl ?_; clear hA; intro a hA
                       refine st_call0 hA rfl rfl rfl isfn9 rfl rfl (by decide) (same04_9 hS 0 0 0 0 0 0 0 0 0 0 0 0 0 0 0 0 0 0 0 0 (bs := ([] : List UInt8)) (cs := ([] : List UInt8)) RdSX.nil RdSX.nil) ?_
                       clear hA hS; rintro v w56 a ⟨rfl, hS⟩ hA
                       replace hA := hA.rw 114 (v' := .bool true) rfl (congrArg Value.bool (by rw [decide_eq_true_eq]; exact ⟨rfl, rfl, rfl, rfl, rfl, ⟨rfl, rfl, rfl, rfl⟩, rfl, rfl⟩))
                       refine st_run tbOk 2 hA (e' := (116, .bool false) :: (115, .bool false) :: _) rfl ?_; clear hA; intro a hA
                       refine wpList_nil ?_
                       replace hA := hA.sel [3, 4, 7, 13, 21, 22, 23, 116] (e' := [(3, .pointer (some ⟨b2, 0, none⟩)), (4, .slice Ar rs.length cr), (7, .int .u8 who), (13, .iface 48 (.int .i64 5)), (21, .slice (some ⟨b8, o9, none⟩) l.length c), (22, .int .i64 ((l.length : Nat) : Int)), (23, .int .i64 ((k : Nat) : Int)), (116, .bool false)]) rfl
                       refine xt_norm ?_
                       refine cd_cond_f hA rfl ?_
                       refine wp_skip ?_
                       refine xt_norm ?_
                       refine wp_seq ?_
                       refine wp_seq ?_
                       refine wp_region_lit ?_
                       refine st_run tbOk 3 hA (e' := (119, .bool (((rs.length : Nat) : Int) == 32)) :: (118, .int .i64 ((rs.length : Nat) : Int)) :: (117, .slice Ar rs.length cr) :: _) rfl ?_; clear hA; intro a hA
                       refine wpList_nil ?_
                       replace hA := hA.sel [3, 4, 7, 13, 21, 22, 23, 119] (e' := [(3, .pointer (some ⟨b2, 0, none⟩)), (4, .slice Ar rs.length cr), (7, .int .u8 who), (13, .iface 48 (.int .i64 5)), (21, .slice (some ⟨b8, o9, none⟩) l.length c), (22, .int .i64 ((l.length : Nat) : Int)), (23, .int .i64 ((k : Nat) : Int)), (119, .bool (((rs.length : Nat) : Int) == 32))]) rfl
                       refine xt_norm ?_
                       have hc57 : ((rs.length : Nat) : Int) = 32 := by omega
                       replace hA := hA.rw 119 (v' := .bool true) rfl (vb_eq_t hc57)
                       refine cd_cond_t hA rfl ?_
                       refine wp_seq ?_
                       refine wp_region_lit ?_
                       refine st_run tbOk 1 hA (e' := (15, .int .i64 (-1)) :: _) rfl ?_; clear hA; intro a hA
                       refine wpList_nil ?_
                       replace hA := hA.sel [3, 4, 7, 13, 15, 21, 22, 23] (e' := [(3, .pointer (some ⟨b2, 0, none⟩)), (4, .slice Ar rs.length cr), (7, .int .u8 who), (13, .iface 48 (.int .i64 5)), (15, .int .i64 (-1)), (21, .slice (some ⟨b8, o9, none⟩) l.length c), (22, .int .i64 ((l.length : Nat) : Int)), (23, .int .i64 ((k : Nat) : Int))]) rfl
                       refine xt_norm ?_
                       refine wp_seq ?_
                       refine wp_seq ?_
                       refine wp_region_lit ?_
                       refine st_run tbOk 3 hA (e' := (122, .int .i64 (IntKind.i64.wrap (((rs.length : Nat) : Int) - 1))) :: (121, .int .i64 ((rs.length : Nat) : Int)) :: (120, .slice Ar rs.length cr) :: _) rfl ?_; clear hA; intro a hA
                       replace hA := hA.rw 122 (v' := .int .i64 (((rs.length : Nat) : Int) - 1)) rfl (wr64 (by omega) (by omega) (by omega))
                       refine st_run tbOk 1 hA (e' := (16, .int .i64 (((rs.length : Nat) : Int) - 1)) :: _) rfl ?_; clear hA; intro a hA
                       refine wpList_nil ?_
                       replace hA := hA.sel [3, 4, 7, 13, 15, 16, 21, 22, 23] (e' := [(3, .pointer (some ⟨b2, 0, none⟩)), (4, .slice Ar rs.length cr), (7, .int .u8 who), (13, .iface 48 (.int .i64 5)), (15, .int .i64 (-1)), (16, .int .i64 (((rs.length : Nat) : Int) - 1)), (21, .slice (some ⟨b8, o9, none⟩) l.length c), (22, .int .i64 ((l.length : Nat) : Int)), (23, .int .i64 ((k : Nat) : Int))]) rfl
                       refine xt_norm ?_
                       refine wp_block ?_
                       refine wp_loop_ghost (fun m a w => ∃ (j2 : Nat) (av2 : Int), m = 0 + j2 ∧ Has a 167 [(3, .pointer (some ⟨b2, 0, none⟩)), (4, .slice Ar rs.length cr), (7, .int .u8 who), (13, .iface 48 (.int .i64 5)), (15, .int .i64 av2), (16, .int .i64 (((j2 : Nat) : Int) - 1)), (21, .slice (some ⟨b8, o9, none⟩) l.length c), (22, .int .i64 ((l.length : Nat) : Int)), (23, .int .i64 ((k : Nat) : Int))] ∧ St w0 w ([(b53, rowO [.int .u64 0, .int .u64 0, .int .u32 0, .int .u16 0, .int .u16 0, .int .u64 0, .int .u32 0, .int .u8 0, .int .u64 0, .int .u64 0, .slice none 0 0] 36)] :: L51 :: D :: [(b12, rowO [.int .u8 x10f0, .int .u8 x10f1, .int .u64 x10f2, .int .u64 x10f3, .int .u32 x10f4, .int .u16 x10f5, .int .u16 x10f6, .int .u64 x10f7, .int .u32 x10f8, .int .u8 x10f9, .int .u64 x10f10, .int .u64 x10f11, .slice x10A12 x10b12.length x10c12] 38)] :: Cr :: F) ∧ (j2 ≤ rs.length) ∧ (fnd2 (fun y : LEnt => y.2.1 = true) rs j2 av2)) (0 + rs.length)
                         ⟨rs.length, (-1), rfl, (hA.sel [3, 4, 7, 13, 15, 16, 21, 22, 23] rfl), hS, Nat.le_refl _, fnd2.init⟩ ?_
                       clear hA hS; rintro m0 a w58 ⟨j2, av2, rfl, hA, hS, hj2, hav2⟩
                       refine wp_seq ?_
                       refine wp_seq ?_
                       refine wp_region_lit ?_
                       refine st_run tbOk 2 hA (e' := (124, .bool (decide (((j2 : Nat) : Int) - 1 ≥ 0))) :: (123, .int .i64 (((j2 : Nat) : Int) - 1)) :: _) rfl ?_; clear hA; intro a hA
                       refine wpList_nil ?_
                       replace hA := hA.sel [3, 4, 7, 13, 15, 16, 21, 22, 23, 124] (e' := [(3, .pointer (some ⟨b2, 0, none⟩)), (4, .slice Ar rs.length cr), (7, .int .u8 who), (13, .iface 48 (.int .i64 5)), (15, .int .i64 av2), (16, .int .i64 (((j2 : Nat) : Int) - 1)), (21, .slice (some ⟨b8, o9, none⟩) l.length c), (22, .int .i64 ((l.length : Nat) : Int)), (23, .int .i64 ((k : Nat) : Int)), (124, .bool (decide (((j2 : Nat) : Int) - 1 ≥ 0)))]) rfl
                       refine xt_norm ?_
                       by_cases hc59 : ((j2 : Nat) : Int) - 1 ≥ 0
                       · first
                         | (exfalso; omega)
                         | (replace hA := hA.rw 124 (v' := .bool true) rfl (vb_true hc59)
                            refine cd_cond_t hA rfl ?_
                            refine wp_skip ?_
                            refine xt_norm ?_
                            refine wp_seq ?_
                            refine wp_block ?_
                            refine wp_seq ?_
                            refine wp_region_lit ?_
                            obtain ⟨i, hij⟩ : ∃ i, j2 = i + 1 := ⟨j2 - 1, by omega⟩
                            subst hij
                            replace hA := hA.rw 16 (v' := .int .i64 ((i : Nat) : Int)) rfl (vint (by omega))
                            refine st_run tbOk 2 hA (e' := (128, .int .i64 ((i : Nat) : Int)) :: (127, .slice Ar rs.length cr) :: _) rfl ?_; clear hA; intro a hA
                            obtain ⟨b60, o61, rfl⟩ := hR.isSome (k := i) (by omega)
                            refine st_val hA rfl rfl (by decide) (rn_indexAddr tbOk hA i (o61 + (i * 13)) rfl rfl rfl rfl rfl rfl (by rfl) (by omega) (by first | rfl | simp [Nat.mul_one, Nat.zero_add] | omega)) ?_; clear hA; intro a hA
                            refine st_run tbOk 1 hA (e' := (130, .pointer (some ⟨b60, o61 + (i * 13) + 1, none⟩)) :: _) rfl ?_; clear hA; intro a hA
                            obtain ⟨x62, hx62⟩ := get_ex (l := rs) (k := i) (by omega)
                            obtain ⟨x62f0, x62f1, x62f2, x62f3, x62f4, x62f5, x62f6, x62f7, x62f8, x62f9, x62f10, x62f11, x62A12, x62c12, x62b12⟩ := x62
                            have hd63 := (fun x hx => hdr x hx D) _ (List.mem_of_getElem? hx62)
                            refine st_val hA rfl rfl (by decide) (rn_load tbOk hA rfl rfl rfl rfl ((hR.rd (hS.own_ 4 rfl)).elemf (k := i) encLEnt_ok hx62 (j := 1) rfl)) ?_; clear hA; intro a hA
                            refine wpList_nil ?_
                            replace hA := hA.sel [3, 4, 7, 13, 15, 16, 21, 22, 23, 131] (e' := [(3, .pointer (some ⟨b2, 0, none⟩)), (4, .slice (some ⟨b60, o61, none⟩) rs.length cr), (7, .int .u8 who), (13, .iface 48 (.int .i64 5)), (15, .int .i64 av2), (16, .int .i64 ((i : Nat) : Int)), (21, .slice (some ⟨b8, o9, none⟩) l.length c), (22, .int .i64 ((l.length : Nat) : Int)), (23, .int .i64 ((k : Nat) : Int)), (131, .bool x62f1)]) rfl
                            refine xt_norm ?_
                            by_cases hc64 : x62f1 = true
                            · first
                              | (exfalso; omega)
                              | (replace hA := hA.rw 131 (v' := .bool true) rfl (vb_t hc64)
                                 refine cd_cond_t hA rfl ?_
                                 refine wp_region_lit ?_
                                 refine st_run tbOk 2 hA (e' := (15, .int .i64 ((i : Nat) : Int)) :: (132, .int .i64 ((i : Nat) : Int)) :: _) rfl ?_; clear hA; intro a hA
                                 refine wpList_nil ?_
                                 replace hA := hA.sel [3, 4, 7, 13, 15, 16, 21, 22, 23] (e' := [(3, .pointer (some ⟨b2, 0, none⟩)), (4, .slice (some ⟨b60, o61, none⟩) rs.length cr), (7, .int .u8 who), (13, .iface 48 (.int .i64 5)), (15, .int .i64 ((i : Nat) : Int)), (16, .int .i64 ((i : Nat) : Int)), (21, .slice (some ⟨b8, o9, none⟩) l.length c), (22, .int .i64 ((l.length : Nat) : Int)), (23, .int .i64 ((k : Nat) : Int))]) rfl
                                 refine xb_norm ?_
                                 refine xt_norm ?_
                                 refine wp_region_lit ?_
                                 refine st_run tbOk 2 hA (e' := (126, .int .i64 (IntKind.i64.wrap (((i : Nat) : Int) - 1))) :: (125, .int .i64 ((i : Nat) : Int)) :: _) rfl ?_; clear hA; intro a hA
                                 replace hA := hA.rw 126 (v' := .int .i64 (((i : Nat) : Int) - 1)) rfl (wr64 (by omega) (by omega) (by omega))
                                 refine st_run tbOk 1 hA (e' := (16, .int .i64 (((i : Nat) : Int) - 1)) :: _) rfl ?_; clear hA; intro a hA
                                 refine wpList_nil ?_
                                 replace hA := hA.sel [3, 4, 7, 13, 15, 16, 21, 22, 23] (e' := [(3, .pointer (some ⟨b2, 0, none⟩)), (4, .slice (some ⟨b60, o61, none⟩) rs.length cr), (7, .int .u8 who), (13, .iface 48 (.int .i64 5)), (15, .int .i64 ((i : Nat) : Int)), (16, .int .i64 (((i : Nat) : Int) - 1)), (21, .slice (some ⟨b8, o9, none⟩) l.length c), (22, .int .i64 ((l.length : Nat) : Int)), (23, .int .i64 ((k : Nat) : Int))]) rfl
                                 replace hA := hA.rw 15 (v' := .int .i64 ((i : Nat) : Int)) rfl (vint (by omega))
                                 replace hA := hA.rw 16 (v' := .int .i64 (((i : Nat) : Int) - 1)) rfl (vint (by omega))
                                 replace hS := hS.front 4 (C := Cr) (L' := [(b53, rowO [.int .u64 0, .int .u64 0, .int .u32 0, .int .u16 0, .int .u16 0, .int .u64 0, .int .u32 0, .int .u8 0, .int .u64 0, .int .u64 0, .slice none 0 0] 36)] :: L51 :: D :: [(b12, rowO [.int .u8 x10f0, .int .u8 x10f1, .int .u64 x10f2, .int .u64 x10f3, .int .u32 x10f4, .int .u16 x10f5, .int .u16 x10f6, .int .u64 x10f7, .int .u32 x10f8, .int .u8 x10f9, .int .u64 x10f10, .int .u64 x10f11, .slice x10A12 x10b12.length x10c12] 38)] :: F) rfl rfl
                                 replace hS := hS.front 4 (C := [(b12, rowO [.int .u8 x10f0, .int .u8 x10f1, .int .u64 x10f2, .int .u64 x10f3, .int .u32 x10f4, .int .u16 x10f5, .int .u16 x10f6, .int .u64 x10f7, .int .u32 x10f8, .int .u8 x10f9, .int .u64 x10f10, .int .u64 x10f11, .slice x10A12 x10b12.length x10c12] 38)]) (L' := Cr :: [(b53, rowO [.int .u64 0, .int .u64 0, .int .u32 0, .int .u16 0, .int .u16 0, .int .u64 0, .int .u32 0, .int .u8 0, .int .u64 0, .int .u64 0, .slice none 0 0] 36)] :: L51 :: D :: F) rfl rfl
                                 replace hS := hS.front 4 (C := D) (L' := [(b12, rowO [.int .u8 x10f0, .int .u8 x10f1, .int .u64 x10f2, .int .u64 x10f3, .int .u32 x10f4, .int .u16 x10f5, .int .u16 x10f6, .int .u64 x10f7, .int .u32 x10f8, .int .u8 x10f9, .int .u64 x10f10, .int .u64 x10f11, .slice x10A12 x10b12.length x10c12] 38)] :: Cr :: [(b53, rowO [.int .u64 0, .int .u64 0, .int .u32 0, .int .u16 0, .int .u16 0, .int .u64 0, .int .u32 0, .int .u8 0, .int .u64 0, .int .u64 0, .slice none 0 0] 36)] :: L51 :: F) rfl rfl
                                 replace hS := hS.front 4 (C := L51) (L' := D :: [(b12, rowO [.int .u8 x10f0, .int .u8 x10f1, .int .u64 x10f2, .int .u64 x10f3, .int .u32 x10f4, .int .u16 x10f5, .int .u16 x10f6, .int .u64 x10f7, .int .u32 x10f8, .int .u8 x10f9, .int .u64 x10f10, .int .u64 x10f11, .slice x10A12 x10b12.length x10c12] 38)] :: Cr :: [(b53, rowO [.int .u64 0, .int .u64 0, .int .u32 0, .int .u16 0, .int .u16 0, .int .u64 0, .int .u32 0, .int .u8 0, .int .u64 0, .int .u64 0, .slice none 0 0] 36)] :: F) rfl rfl
                                 replace hS := hS.front 4 (C := [(b53, rowO [.int .u64 0, .int .u64 0, .int .u32 0, .int .u16 0, .int .u16 0, .int .u64 0, .int .u32 0, .int .u8 0, .int .u64 0, .int .u64 0, .slice none 0 0] 36)]) (L' := L51 :: D :: [(b12, rowO [.int .u8 x10f0, .int .u8 x10f1, .int .u64 x10f2, .int .u64 x10f3, .int .u32 x10f4, .int .u16 x10f5, .int .u16 x10f6, .int .u64 x10f7, .int .u32 x10f8, .int .u8 x10f9, .int .u64 x10f10, .int .u64 x10f11, .slice x10A12 x10b12.length x10c12] 38)] :: Cr :: F) rfl rfl
                                 exact lp_next _ (by omega) ⟨i, ((i : Nat) : Int), rfl, (hA.sel [3, 4, 7, 13, 15, 16, 21, 22, 23] rfl), hS, by omega, fnd2.yes hx62 (by assumption)⟩)
                            · first
                              | (exfalso; omega)
                              | (replace hA := hA.rw 131 (v' := .bool false) rfl (vb_f hc64)
                                 refine cd_cond_f hA rfl ?_
                                 refine wp_skip ?_
                                 refine xb_norm ?_
                                 refine xt_norm ?_
                                 refine wp_region_lit ?_
                                 refine st_run tbOk 2 hA (e' := (126, .int .i64 (IntKind.i64.wrap (((i : Nat) : Int) - 1))) :: (125, .int .i64 ((i : Nat) : Int)) :: _) rfl ?_; clear hA; intro a hA
                                 replace hA := hA.rw 126 (v' := .int .i64 (((i : Nat) : Int) - 1)) rfl (wr64 (by omega) (by omega) (by omega))
                                 refine st_run tbOk 1 hA (e' := (16, .int .i64 (((i : Nat) : Int) - 1)) :: _) rfl ?_; clear hA; intro a hA
                                 refine wpList_nil ?_
                                 replace hA := hA.sel [3, 4, 7, 13, 15, 16, 21, 22, 23] (e' := [(3, .pointer (some ⟨b2, 0, none⟩)), (4, .slice (some ⟨b60, o61, none⟩) rs.length cr), (7, .int .u8 who), (13, .iface 48 (.int .i64 5)), (15, .int .i64 av2), (16, .int .i64 (((i : Nat) : Int) - 1)), (21, .slice (some ⟨b8, o9, none⟩) l.length c), (22, .int .i64 ((l.length : Nat) : Int)), (23, .int .i64 ((k : Nat) : Int))]) rfl
                                 replace hA := hA.rw 16 (v' := .int .i64 (((i : Nat) : Int) - 1)) rfl (vint (by omega))
                                 replace hS := hS.front 4 (C := Cr) (L' := [(b53, rowO [.int .u64 0, .int .u64 0, .int .u32 0, .int .u16 0, .int .u16 0, .int .u64 0, .int .u32 0, .int .u8 0, .int .u64 0, .int .u64 0, .slice none 0 0] 36)] :: L51 :: D :: [(b12, rowO [.int .u8 x10f0, .int .u8 x10f1, .int .u64 x10f2, .int .u64 x10f3, .int .u32 x10f4, .int .u16 x10f5, .int .u16 x10f6, .int .u64 x10f7, .int .u32 x10f8, .int .u8 x10f9, .int .u64 x10f10, .int .u64 x10f11, .slice x10A12 x10b12.length x10c12] 38)] :: F) rfl rfl
                                 replace hS := hS.front 4 (C := [(b12, rowO [.int .u8 x10f0, .int .u8 x10f1, .int .u64 x10f2, .int .u64 x10f3, .int .u32 x10f4, .int .u16 x10f5, .int .u16 x10f6, .int .u64 x10f7, .int .u32 x10f8, .int .u8 x10f9, .int .u64 x10f10, .int .u64 x10f11, .slice x10A12 x10b12.length x10c12] 38)]) (L' := Cr :: [(b53, rowO [.int .u64 0, .int .u64 0, .int .u32 0, .int .u16 0, .int .u16 0, .int .u64 0, .int .u32 0, .int .u8 0, .int .u64 0, .int .u64 0, .slice none 0 0] 36)] :: L51 :: D :: F) rfl rfl
                                 replace hS := hS.front 4 (C := D) (L' := [(b12, rowO [.int .u8 x10f0, .int .u8 x10f1, .int .u64 x10f2, .int .u64 x10f3, .int .u32 x10f4, .int .u16 x10f5, .int .u16 x10f6, .int .u64 x10f7, .int .u32 x10f8, .int .u8 x10f9, .int .u64 x10f10, .int .u64 x10f11, .slice x10A12 x10b12.length x10c12] 38)] :: Cr :: [(b53, rowO [.int .u64 0, .int .u64 0, .int .u32 0, .int .u16 0, .int .u16 0, .int .u64 0, .int .u32 0, .int .u8 0, .int .u64 0, .int .u64 0, .slice none 0 0] 36)] :: L51 :: F) rfl rfl
                                 replace hS := hS.front 4 (C := L51) (L' := D :: [(b12, rowO [.int .u8 x10f0, .int .u8 x10f1, .int .u64 x10f2, .int .u64 x10f3, .int .u32 x10f4, .int .u16 x10f5, .int .u16 x10f6, .int .u64 x10f7, .int .u32 x10f8, .int .u8 x10f9, .int .u64 x10f10, .int .u64 x10f11, .slice x10A12 x10b12.length x10c12] 38)] :: Cr :: [(b53, rowO [.int .u64 0, .int .u64 0, .int .u32 0, .int .u16 0, .int .u16 0, .int .u64 0, .int .u32 0, .int .u8 0, .int .u64 0, .int .u64 0, .slice none 0 0] 36)] :: F) rfl rfl
                                 replace hS := hS.front 4 (C := [(b53, rowO [.int .u64 0, .int .u64 0, .int .u32 0, .int .u16 0, .int .u16 0, .int .u64 0, .int .u32 0, .int .u8 0, .int .u64 0, .int .u64 0, .slice none 0 0] 36)]) (L' := L51 :: D :: [(b12, rowO [.int .u8 x10f0, .int .u8 x10f1, .int .u64 x10f2, .int .u64 x10f3, .int .u32 x10f4, .int .u16 x10f5, .int .u16 x10f6, .int .u64 x10f7, .int .u32 x10f8, .int .u8 x10f9, .int .u64 x10f10, .int .u64 x10f11, .slice x10A12 x10b12.length x10c12] 38)] :: Cr :: F) rfl rfl
                                 exact lp_next _ (by omega) ⟨i, av2, rfl, (hA.sel [3, 4, 7, 13, 15, 16, 21, 22, 23] rfl), hS, by omega, hav2.no hx62 (by assumption)⟩))
                       · first
                         | (exfalso; omega)
                         | (replace hA := hA.rw 124 (v' := .bool false) rfl (vb_false hc59)
                            refine cd_cond_f hA rfl ?_
                            refine wp_exit ?_
                            refine xt_exit ?_
                            refine xt_exit ?_
                            refine cd_exit_eq ?_
                            refine xt_norm ?_
                            refine wp_seq ?_
                            refine wp_seq ?_
                            refine wp_region_lit ?_
                            have hj20 : j2 = 0 := by omega
                            rw [hj20] at hav2
                            have hae2 := hav2.none hnd
                            replace hA := hA.rw 15 (v' := .int .i64 (-1)) rfl (by rw [hae2])
                            refine st_run tbOk 2 hA (e' := (134, .bool true) :: (133, .int .i64 (-1)) :: _) rfl ?_; clear hA; intro a hA
                            refine wpList_nil ?_
                            replace hA := hA.sel [3, 4, 7, 13, 15, 21, 22, 23, 134] (e' := [(3, .pointer (some ⟨b2, 0, none⟩)), (4, .slice Ar rs.length cr), (7, .int .u8 who), (13, .iface 48 (.int .i64 5)), (15, .int .i64 (-1)), (21, .slice (some ⟨b8, o9, none⟩) l.length c), (22, .int .i64 ((l.length : Nat) : Int)), (23, .int .i64 ((k : Nat) : Int)), (134, .bool true)]) rfl
                            refine xt_norm ?_
                            refine cd_cond_t hA rfl ?_
                            refine wp_seq ?_
                            refine wp_seq ?_
                            refine wp_region_lit ?_
                            refine st_run tbOk 1 hA (e' := (135, .iface 48 (.int .i64 5)) :: _) rfl ?_; clear hA; intro a hA
                            refine st_call0 hA rfl rfl rfl isfn10 rfl rfl (by decide) (number_hit10 hS hg 5) ?_
                            clear hA hS; rintro v w65 a ⟨rfl, hS⟩ hA
                            refine st_run tbOk 1 hA (e' := (137, .bool false) :: _) rfl ?_; clear hA; intro a hA
                            refine wpList_nil ?_
                            replace hA := hA.sel [3, 4, 21, 22, 23, 137] (e' := [(3, .pointer (some ⟨b2, 0, none⟩)), (4, .slice Ar rs.length cr), (21, .slice (some ⟨b8, o9, none⟩) l.length c), (22, .int .i64 ((l.length : Nat) : Int)), (23, .int .i64 ((k : Nat) : Int)), (137, .bool false)]) rfl
                            refine xt_norm ?_
                            refine cd_cond_f hA rfl ?_
                            refine wp_skip ?_
                            refine xt_norm ?_
                            refine wp_exit ?_
                            refine xt_exit ?_
                            refine xt_exit ?_
                            refine cd_exit_eq ?_
                            refine xt_norm ?_
                            replace hS := hS.drop1
                            replace hS := hS.front 2 (C := [(b12, rowO [.int .u8 x10f0, .int .u8 x10f1, .int .u64 x10f2, .int .u64 x10f3, .int .u32 x10f4, .int .u16 x10f5, .int .u16 x10f6, .int .u64 x10f7, .int .u32 x10f8, .int .u8 x10f9, .int .u64 x10f10, .int .u64 x10f11, .slice x10A12 x10b12.length x10c12] 38)]) (L' := L51 :: D :: Cr :: F) rfl rfl
                            replace hS := hS.drop1
                            replace hS := hS.front 2 (C := Cr) (L' := L51 :: D :: F) rfl rfl
                            replace hS := hS.front 2 (C := D) (L' := Cr :: L51 :: F) rfl rfl
                            replace hS := hS.front 2 (C := L51) (L' := D :: Cr :: F) rfl rfl
                            exact ⟨(es), (rs), L51, D, Ar, cr, Cr, (hA.sel [3, 4, 21, 22, 23] rfl), hS, hI, hM52, hR, hdm, hbd, hdr⟩)
                     · obtain ⟨z0, hz0, hza, hzb⟩ := hI.yagn hj0 hjd hjb
                       have hj0l := (List.getElem?_eq_some_iff.1 hj0).1
                       refine st_run tbOk 2 hA (e' := (79, .int .u8 who) :: (78, .pointer (some ⟨b2, 0, none⟩)) :: _) rfl ?_; clear hA; intro a hA
                       refine st_call0 hA rfl rfl rfl isfn7 rfl rfl (by decide) (request7 hS who hw0_ hw1_) ?_
                       clear hA hS; rintro _ w66 a ⟨rfl, hS⟩ hA
                       replace hS := hS.front 2 (C := D) (L' := [(b12, rowO [.int .u8 x10f0, .int .u8 x10f1, .int .u64 x10f2, .int .u64 x10f3, .int .u32 x10f4, .int .u16 x10f5, .int .u16 x10f6, .int .u64 x10f7, .int .u32 x10f8, .int .u8 x10f9, .int .u64 x10f10, .int .u64 x10f11, .slice x10A12 x10b12.length x10c12] 38)] :: L :: Cr :: F) rfl rfl
                       replace hS := hS.front 2 (C := L) (L' := D :: [(b12, rowO [.int .u8 x10f0, .int .u8 x10f1, .int .u64 x10f2, .int .u64 x10f3, .int .u32 x10f4, .int .u16 x10f5, .int .u16 x10f6, .int .u64 x10f7, .int .u32 x10f8, .int .u8 x10f9, .int .u64 x10f10, .int .u64 x10f11, .slice x10A12 x10b12.length x10c12] 38)] :: Cr :: F) rfl rfl
                       refine st_call0 hA rfl rfl rfl isfn8 rfl rfl (by decide) (take_out8 hS hM 0 (who % 2) (who / 2) 0 0 0 0 0 0 who _ hmiss (by omega) (j := j0) (z := z0) hz0 hza hzb) ?_
                       clear hA hS; rintro _ w67 a ⟨L68, hM69, rfl, hS⟩ hA
                       have dd70 : ∀ x ∈ ((es.take j0 ++ es.drop (j0 + 1)) ++ [((who % 2), (who / 2), 1, 0, 0, 0, 0, 0, 0, 0, 0, 0, 0, none, 0, ([] : List UInt8))]), encEntry_dd w0 D x := add_mem_dd (fun x hx => hdm x ((rm_sub es j0).subset hx))
                       have bd71 : sbd ((es.take j0 ++ es.drop (j0 + 1)) ++ [((who % 2), (who / 2), 1, 0, 0, 0, 0, 0, 0, 0, 0, 0, 0, none, 0, ([] : List UInt8))]) := sbd.add (fun x hx => hbd x ((rm_sub es j0).subset hx))
                       refine st_run tbOk 4 hA (e' := (84, .nilIface) :: (83, .agg #[.int .u64 0, .int .u64 0, .int .u32 0, .int .u16 0, .int .u16 0, .int .u64 0, .int .u32 0, .int .u8 0, .int .u64 0, .int .u64 0, .slice none 0 0]) :: (82, .int .i64 0) :: (77, .tuple #[.int .i64 0, .agg #[.int .u64 0, .int .u64 0, .int .u32 0, .int .u16 0, .int .u16 0, .int .u64 0, .int .u32 0, .int .u8 0, .int .u64 0, .int .u64 0, .slice none 0 0], .nilIface]) :: _) rfl ?_; clear hA; intro a hA
                       refine st_alloc tbOk hA hS [.int .u64 0, .int .u64 0, .int .u32 0, .int .u16 0, .int .u16 0, .int .u64 0, .int .u32 0, .int .u8 0, .int .u64 0, .int .u64 0, .slice none 0 0] rfl rfl rfl rfl rfl (by decide) ?_; clear hA hS; intro b72 w73 a hS hA
                       refine st_run tbOk 1 hA (e' := (11, .int .i64 0) :: _) rfl ?_; clear hA; intro a hA
                       refine st_store tbOk hA hS [.int .u64 0, .int .u64 0, .int .u32 0, .int .u16 0, .int .u16 0, .int .u64 0, .int .u32 0, .int .u8 0, .int .u64 0, .int .u64 0, .slice none 0 0] [.int .u64 0, .int .u64 0, .int .u32 0, .int .u16 0, .int .u16 0, .int .u64 0, .int .u32 0, .int .u8 0, .int .u64 0, .int .u64 0, .slice none 0 0] rfl rfl rfl rfl rfl rfl (by simp [Value.oneCell']) (Nat.le_of_ble_eq_true rfl) rfl rfl rfl ?_; clear hS; intro w74 hS
                       refine st_run tbOk 1 hA (e' := (13, .nilIface) :: _) rfl ?_; clear hA; intro a hA
                       refine wpList_nil ?_
                       replace hA := hA.sel [3, 4, 7, 8, 11, 12, 13, 21, 22, 23] (e' := [(3, .pointer (some ⟨b2, 0, none⟩)), (4, .slice Ar rs.length cr), (7, .int .u8 who), (8, .int .i64 (-1)), (11, .int .i64 0), (12, .pointer (some ⟨b72, 0, none⟩)), (13, .nilIface), (21, .slice (some ⟨b8, o9, none⟩) l.length c), (22, .int .i64 ((l.length : Nat) : Int)), (23, .int .i64 ((k : Nat) : Int))]) rfl
                       refine xt_norm ?_
                       refine wp_seq ?_
                       refine wp_seq ?_
                       refine wp_region_lit ?_
                       refine st_run tbOk 2 hA (e' := (86, .bool false) :: (85, .int .i64 (-1)) :: _) rfl ?_; clear hA; intro a hA
                       refine wpList_nil ?_
                       replace hA := hA.sel [3, 4, 7, 8, 11, 12, 13, 21, 22, 23, 86] (e' := [(3, .pointer (some ⟨b2, 0, none⟩)), (4, .slice Ar rs.length cr), (7, .int .u8 who), (8, .int .i64 (-1)), (11, .int .i64 0), (12, .pointer (some ⟨b72, 0, none⟩)), (13, .nilIface), (21, .slice (some ⟨b8, o9, none⟩) l.length c), (22, .int .i64 ((l.length : Nat) : Int)), (23, .int .i64 ((k : Nat) : Int)), (86, .bool false)]) rfl
                       refine xt_norm ?_
                       refine cd_cond_f hA rfl ?_
                       refine wp_skip ?_
                       refine xt_norm ?_
                       refine wp_seq ?_
                       refine wp_seq ?_
                       refine wp_region_lit ?_
                       refine st_run tbOk 3 hA (e' := (111, .bool false) :: (110, .bool false) :: (109, .int .i64 0) :: _) rfl ?_; clear hA; intro a hA
                       refine st_val hA rfl rfl (by decide) (rn_loadA tbOk hA [.int .u64 0, .int .u64 0, .int .u32 0, .int .u16 0, .int .u16 0, .int .u64 0, .int .u32 0, .int .u8 0, .int .u64 0, .int .u64 0, .slice none 0 0] rfl rfl rfl rfl rfl (cells_row (hS.heapAt 0 rfl) rfl)) ?_; clear hA; intro a hA
                       refine st_run tbOk 1 hA (e' := (113, .agg #[.int .u64 0, .int .u64 0, .int .u32 0, .int .u16 0, .int .u16 0, .int .u64 0, .int .u32 0, .int .u8 0, .int .u64 0, .int .u64 0, .slice none 0 0]) :: _) rfl ?_; clear hA; intro a hA
                       refine st_call0 hA rfl rfl rfl isfn9 rfl rfl (by decide) (same04_9 hS 0 0 0 0 0 0 0 0 0 0 0 0 0 0 0 0 0 0 0 0 (bs := ([] : List UInt8)) (cs := ([] : List UInt8)) RdSX.nil RdSX.nil) ?_
                       clear hA hS; rintro v w75 a ⟨rfl, hS⟩ hA
                       replace hA := hA.rw 114 (v' := .bool true) rfl (congrArg Value.bool (by rw [decide_eq_true_eq]; exact ⟨rfl, rfl, rfl, rfl, rfl, ⟨rfl, rfl, rfl, rfl⟩, rfl, rfl⟩))
                       refine st_run tbOk 2 hA (e' := (116, .bool false) :: (115, .bool false) :: _) rfl ?_; clear hA; intro a hA
                       refine wpList_nil ?_
                       replace hA := hA.sel [3, 4, 7, 13, 21, 22, 23, 116] (e' := [(3, .pointer (some ⟨b2, 0, none⟩)), (4, .slice Ar rs.length cr), (7, .int .u8 who), (13, .nilIface), (21, .slice (some ⟨b8, o9, none⟩) l.length c), (22, .int .i64 ((l.length : Nat) : Int)), (23, .int .i64 ((k : Nat) : Int)), (116, .bool false)]) rfl
                       refine xt_norm ?_
                       refine cd_cond_f hA rfl ?_
                       refine wp_skip ?_
                       refine xt_norm ?_
                       refine wp_seq ?_
                       refine wp_seq ?_
                       refine wp_region_lit ?_
                       refine st_run tbOk 3 hA (e' := (119, .bool (((rs.length : Nat) : Int) == 32)) :: (118, .int .i64 ((rs.length : Nat) : Int)) :: (117, .slice Ar rs.length cr) :: _) rfl ?_; clear hA; intro a hA
                       refine wpList_nil ?_
                       replace hA := hA.sel [3, 4, 7, 13, 21, 22, 23, 119] (e' := [(3, .pointer (some ⟨b2, 0, none⟩)), (4, .slice Ar rs.length cr), (7, .int .u8 who), (13, .nilIface), (21, .slice (some ⟨b8, o9, none⟩) l.length c), (22, .int .i64 ((l.length : Nat) : Int)), (23, .int .i64 ((k : Nat) : Int)), (119, .bool (((rs.length : Nat) : Int) == 32))]) rfl
                       refine xt_norm ?_
                       have hc76 : ((rs.length : Nat) : Int) = 32 := by omega
                       replace hA := hA.rw 119 (v' := .bool true) rfl (vb_eq_t hc76)
                       refine cd_cond_t hA rfl ?_
                       refine wp_seq ?_
                       refine wp_region_lit ?_
                       refine st_run tbOk 1 hA (e' := (15, .int .i64 (-1)) :: _) rfl ?_; clear hA; intro a hA
                       refine wpList_nil ?_
                       replace hA := hA.sel [3, 4, 7, 13, 15, 21, 22, 23] (e' := [(3, .pointer (some ⟨b2, 0, none⟩)), (4, .slice Ar rs.length cr), (7, .int .u8 who), (13, .nilIface), (15, .int .i64 (-1)), (21, .slice (some ⟨b8, o9, none⟩) l.length c), (22, .int .i64 ((l.length : Nat) : Int)), (23, .int .i64 ((k : Nat) : Int))]) rfl
                       refine xt_norm ?_
                       refine wp_seq ?_
                       refine wp_seq ?_
                       refine wp_region_lit ?_
                       refine st_run tbOk 3 hA (e' := (122, .int .i64 (IntKind.i64.wrap (((rs.length : Nat) : Int) - 1))) :: (121, .int .i64 ((rs.length : Nat) : Int)) :: (120, .slice Ar rs.length cr) :: _) rfl ?_; clear hA; intro a hA
                       replace hA := hA.rw 122 (v' := .int .i64 (((rs.length : Nat) : Int) - 1)) rfl (wr64 (by omega) (by omega) (by omega))
                       refine st_run tbOk 1 hA (e' := (16, .int .i64 (((rs.length : Nat) : Int) - 1)) :: _) rfl ?_; clear hA; intro a hA
                       refine wpList_nil ?_
                       replace hA := hA.sel [3, 4, 7, 13, 15, 16, 21, 22, 23] (e' := [(3, .pointer (some ⟨b2, 0, none⟩)), (4, .slice Ar rs.length cr), (7, .int .u8 who), (13, .nilIface), (15, .int .i64 (-1)), (16, .int .i64 (((rs.length : Nat) : Int) - 1)), (21, .slice (some ⟨b8, o9, none⟩) l.length c), (22, .int .i64 ((l.length : Nat) : Int)), (23, .int .i64 ((k : Nat) : Int))]) rfl
                       refine xt_norm ?_
                       refine wp_block ?_
                       refine wp_loop_ghost (fun m a w => ∃ (j2 : Nat) (av2 : Int), m = 0 + j2 ∧ Has a 167 [(3, .pointer (some ⟨b2, 0, none⟩)), (4, .slice Ar rs.length cr), (7, .int .u8 who), (13, .nilIface), (15, .int .i64 av2), (16, .int .i64 (((j2 : Nat) : Int) - 1)), (21, .slice (some ⟨b8, o9, none⟩) l.length c), (22, .int .i64 ((l.length : Nat) : Int)), (23, .int .i64 ((k : Nat) : Int))] ∧ St w0 w ([(b72, rowO [.int .u64 0, .int .u64 0, .int .u32 0, .int .u16 0, .int .u16 0, .int .u64 0, .int .u32 0, .int .u8 0, .int .u64 0, .int .u64 0, .slice none 0 0] 36)] :: L68 :: D :: [(b12, rowO [.int .u8 x10f0, .int .u8 x10f1, .int .u64 x10f2, .int .u64 x10f3, .int .u32 x10f4, .int .u16 x10f5, .int .u16 x10f6, .int .u64 x10f7, .int .u32 x10f8, .int .u8 x10f9, .int .u64 x10f10, .int .u64 x10f11, .slice x10A12 x10b12.length x10c12] 38)] :: Cr :: F) ∧ (j2 ≤ rs.length) ∧ (fnd2 (fun y : LEnt => y.2.1 = true) rs j2 av2)) (0 + rs.length)
                         ⟨rs.length, (-1), rfl, (hA.sel [3, 4, 7, 13, 15, 16, 21, 22, 23] rfl), hS, Nat.le_refl _, fnd2.init⟩ ?_
                       clear hA hS; rintro m0 a w77 ⟨j2, av2, rfl, hA, hS, hj2, hav2⟩
                       refine wp_seq ?_
                       refine wp_seq ?_
                       refine wp_region_lit ?_
                       refine st_run tbOk 2 hA (e' := (124, .bool (decide (((j2 : Nat) : Int) - 1 ≥ 0))) :: (123, .int .i64 (((j2 : Nat) : Int) - 1)) :: _) rfl ?_; clear hA; intro a hA
                       refine wpList_nil ?_
                       replace hA := hA.sel [3, 4, 7, 13, 15, 16, 21, 22, 23, 124] (e' := [(3, .pointer (some ⟨b2, 0, none⟩)), (4, .slice Ar rs.length cr), (7, .int .u8 who), (13, .nilIface), (15, .int .i64 av2), (16, .int .i64 (((j2 : Nat) : Int) - 1)), (21, .slice (some ⟨b8, o9, none⟩) l.length c), (22, .int .i64 ((l.length : Nat) : Int)), (23, .int .i64 ((k : Nat) : Int)), (124, .bool (decide (((j2 : Nat) : Int) - 1 ≥ 0)))]) rfl
                       refine xt_norm ?_
                       by_cases hc78 : ((j2 : Nat) : Int) - 1 ≥ 0
                       · first
                         | (exfalso; omega)
                         | (replace hA := hA.rw 124 (v' := .bool true) rfl (vb_true hc78)
                            refine cd_cond_t hA rfl ?_
                            refine wp_skip ?_
                            refine xt_norm ?_
                            refine wp_seq ?_
                            refine wp_block ?_
                            refine wp_seq ?_
                            refine wp_region_lit ?_
                            obtain ⟨i, hij⟩ : ∃ i, j2 = i + 1 := ⟨j2 - 1, by omega⟩
                            subst hij
                            replace hA := hA.rw 16 (v' := .int .i64 ((i : Nat) : Int)) rfl (vint (by omega))
                            refine st_run tbOk 2 hA (e' := (128, .int .i64 ((i : Nat) : Int)) :: (127, .slice Ar rs.length cr) :: _) rfl ?_; clear hA; intro a hA
                            obtain ⟨b79, o80, rfl⟩ := hR.isSome (k := i) (by omega)
                            refine st_val hA rfl rfl (by decide) (rn_indexAddr tbOk hA i (o80 + (i * 13)) rfl rfl rfl rfl rfl rfl (by rfl) (by omega) (by first | rfl | simp [Nat.mul_one, Nat.zero_add] | omega)) ?_; clear hA; intro a hA
                            refine st_run tbOk 1 hA (e' := (130, .pointer (some ⟨b79, o80 + (i * 13) + 1, none⟩)) :: _) rfl ?_; clear hA; intro a hA
                            obtain ⟨x81, hx81⟩ := get_ex (l := rs) (k := i) (by omega)
                            obtain ⟨x81f0, x81f1, x81f2, x81f3, x81f4, x81f5, x81f6, x81f7, x81f8, x81f9, x81f10, x81f11, x81A12, x81c12, x81b12⟩ := x81
                            have hd82 := (fun x hx => hdr x hx D) _ (List.mem_of_getElem? hx81)
                            refine st_val hA rfl rfl (by decide) (rn_load tbOk hA rfl rfl rfl rfl ((hR.rd (hS.own_ 4 rfl)).elemf (k := i) encLEnt_ok hx81 (j := 1) rfl)) ?_; clear hA; intro a hA
                            refine wpList_nil ?_
                            replace hA := hA.sel [3, 4, 7, 13, 15, 16, 21, 22, 23, 131] (e' := [(3, .pointer (some ⟨b2, 0, none⟩)), (4, .slice (some ⟨b79, o80, none⟩) rs.length cr), (7, .int .u8 who), (13, .nilIface), (15, .int .i64 av2), (16, .int .i64 ((i : Nat) : Int)), (21, .slice (some ⟨b8, o9, none⟩) l.length c), (22, .int .i64 ((l.length : Nat) : Int)), (23, .int .i64 ((k : Nat) : Int)), (131, .bool x81f1)]) rfl
                            refine xt_norm ?_
                            by_cases hc83 : x81f1 = true
                            · first
                              | (exfalso; omega)
                              | (replace hA := hA.rw 131 (v' := .bool true) rfl (vb_t hc83)
                                 refine cd_cond_t hA rfl ?_
                                 refine wp_region_lit ?_
                                 refine st_run tbOk 2 hA (e' := (15, .int .i64 ((i : Nat) : Int)) :: (132, .int .i64 ((i : Nat) : Int)) :: _) rfl ?_; clear hA; intro a hA
                                 refine wpList_nil ?_
                                 replace hA := hA.sel [3, 4, 7, 13, 15, 16, 21, 22, 23] (e' := [(3, .pointer (some ⟨b2, 0, none⟩)), (4, .slice (some ⟨b79, o80, none⟩) rs.length cr), (7, .int .u8 who), (13, .nilIface), (15, .int .i64 ((i : Nat) : Int)), (16, .int .i64 ((i : Nat) : Int)), (21, .slice (some ⟨b8, o9, none⟩) l.length c), (22, .int .i64 ((l.length : Nat) : Int)), (23, .int .i64 ((k : Nat) : Int))]) rfl
                                 refine xb_norm ?_
                                 refine xt_norm ?_
                                 refine wp_region_lit ?_
                                 refine st_run tbOk 2 hA (e' := (126, .int .i64 (IntKind.i64.wrap (((i : Nat) : Int) - 1))) :: (125, .int .i64 ((i : Nat) : Int)) :: _) rfl ?_; clear hA; intro a hA
                                 replace hA := hA.rw 126 (v' := .int .i64 (((i : Nat) : Int) - 1)) rfl (wr64 (by omega) (by omega) (by omega))
                                 refine st_run tbOk 1 hA (e' := (16, .int .i64 (((i : Nat) : Int) - 1)) :: _) rfl ?_; clear hA; intro a hA
                                 refine wpList_nil ?_
                                 replace hA := hA.sel [3, 4, 7, 13, 15, 16, 21, 22, 23] (e' := [(3, .pointer (some ⟨b2, 0, none⟩)), (4, .slice (some ⟨b79, o80, none⟩) rs.length cr), (7, .int .u8 who), (13, .nilIface), (15, .int .i64 ((i : Nat) : Int)), (16, .int .i64 (((i : Nat) : Int) - 1)), (21, .slice (some ⟨b8, o9, none⟩) l.length c), (22, .int .i64 ((l.length : Nat) : Int)), (23, .int .i64 ((k : Nat) : Int))]) rfl
                                 replace hA := hA.rw 15 (v' := .int .i64 ((i : Nat) : Int)) rfl (vint (by omega))
                                 replace hA := hA.rw 16 (v' := .int .i64 (((i : Nat) : Int) - 1)) rfl (vint (by omega))
                                 replace hS := hS.front 4 (C := Cr) (L' := [(b72, rowO [.int .u64 0, .int .u64 0, .int .u32 0, .int .u16 0, .int .u16 0, .int .u64 0, .int .u32 0, .int .u8 0, .int .u64 0, .int .u64 0, .slice none 0 0] 36)] :: L68 :: D :: [(b12, rowO [.int .u8 x10f0, .int .u8 x10f1, .int .u64 x10f2, .int .u64 x10f3, .int .u32 x10f4, .int .u16 x10f5, .int .u16 x10f6, .int .u64 x10f7, .int .u32 x10f8, .int .u8 x10f9, .int .u64 x10f10, .int .u64 x10f11, .slice x10A12 x10b12.length x10c12] 38)] :: F) rfl rfl
                                 replace hS := hS.front 4 (C := [(b12, rowO [.int .u8 x10f0, .int .u8 x10f1, .int .u64 x10f2, .int .u64 x10f3, .int .u32 x10f4, .int .u16 x10f5, .int .u16 x10f6, .int .u64 x10f7, .int .u32 x10f8, .int .u8 x10f9, .int .u64 x10f10, .int .u64 x10f11, .slice x10A12 x10b12.length x10c12] 38)]) (L' := Cr :: [(b72, rowO [.int .u64 0, .int .u64 0, .int .u32 0, .int .u16 0, .int .u16 0, .int .u64 0, .int .u32 0, .int .u8 0, .int .u64 0, .int .u64 0, .slice none 0 0] 36)] :: L68 :: D :: F) rfl rfl
                                 replace hS := hS.front 4 (C := D) (L' := [(b12, rowO [.int .u8 x10f0, .int .u8 x10f1, .int .u64 x10f2, .int .u64 x10f3, .int .u32 x10f4, .int .u16 x10f5, .int .u16 x10f6, .int .u64 x10f7, .int .u32 x10f8, .int .u8 x10f9, .int .u64 x10f10, .int .u64 x10f11, .slice x10A12 x10b12.length x10c12] 38)] :: Cr :: [(b72, rowO [.int .u64 0, .int .u64 0, .int .u32 0, .int .u16 0, .int .u16 0, .int .u64 0, .int .u32 0, .int .u8 0, .int .u64 0, .int .u64 0, .slice none 0 0] 36)] :: L68 :: F) rfl rfl
                                 replace hS := hS.front 4 (C := L68) (L' := D :: [(b12, rowO [.int .u8 x10f0, .int .u8 x10f1, .int .u64 x10f2, .int .u64 x10f3, .int .u32 x10f4, .int .u16 x10f5, .int .u16 x10f6, .int .u64 x10f7, .int .u32 x10f8, .int .u8 x10f9, .int .u64 x10f10, .int .u64 x10f11, .slice x10A12 x10b12.length x10c12] 38)] :: Cr :: [(b72, rowO [.int .u64 0, .int .u64 0, .int .u32 0, .int .u16 0, .int .u16 0, .int .u64 0, .int .u32 0, .int .u8 0, .int .u64 0, .int .u64 0, .slice none 0 0] 36)] :: F) rfl rfl
                                 replace hS := hS.front 4 (C := [(b72, rowO [.int .u64 0, .int .u64 0, .int .u32 0, .int .u16 0, .int .u16 0, .int .u64 0, .int .u32 0, .int .u8 0, .int .u64 0, .int .u64 0, .slice none 0 0] 36)]) (L' := L68 :: D :: [(b12, rowO [.int .u8 x10f0, .int .u8 x10f1, .int .u64 x10f2, .int .u64 x10f3, .int .u32 x10f4, .int .u16 x10f5, .int .u16 x10f6, .int .u64 x10f7, .int .u32 x10f8, .int .u8 x10f9, .int .u64 x10f10, .int .u64 x10f11, .slice x10A12 x10b12.length x10c12] 38)] :: Cr :: F) rfl rfl
                                 exact lp_next _ (by omega) ⟨i, ((i : Nat) : Int), rfl, (hA.sel [3, 4, 7, 13, 15, 16, 21, 22, 23] rfl), hS, by omega, fnd2.yes hx81 (by assumption)⟩)
                            · first
                              | (exfalso; omega)
                              | (replace hA := hA.rw 131 (v' := .bool false) rfl (vb_f hc83)
                                 refine cd_cond_f hA rfl ?_
                                 refine wp_skip ?_
                                 refine xb_norm ?_
                                 refine xt_norm ?_
                                 refine wp_region_lit ?_
                                 refine st_run tbOk 2 hA (e' := (126, .int .i64 (IntKind.i64.wrap (((i : Nat) : Int) - 1))) :: (125, .int .i64 ((i : Nat) : Int)) :: _) rfl ?_; clear hA; intro a hA
                                 replace hA := hA.rw 126 (v' := .int .i64 (((i : Nat) : Int) - 1)) rfl (wr64 (by omega) (by omega) (by omega))
                                 refine st_run tbOk 1 hA (e' := (16, .int .i64 (((i : Nat) : Int) - 1)) :: _) rfl ?_; clear hA; intro a hA
                                 refine wpList_nil ?_
                                 replace hA := hA.sel [3, 4, 7, 13, 15, 16, 21, 22, 23] (e' := [(3, .pointer (some ⟨b2, 0, none⟩)), (4, .slice (some ⟨b79, o80, none⟩) rs.length cr), (7, .int .u8 who), (13, .nilIface), (15, .int .i64 av2), (16, .int .i64 (((i : Nat) : Int) - 1)), (21, .slice (some ⟨b8, o9, none⟩) l.length c), (22, .int .i64 ((l.length : Nat) : Int)), (23, .int .i64 ((k : Nat) : Int))]) rfl
                                 replace hA := hA.rw 16 (v' := .int .i64 (((i : Nat) : Int) - 1)) rfl (vint (by omega))
                                 replace hS := hS.front 4 (C := Cr) (L' := [(b72, rowO [.int .u64 0, .int .u64 0, .int .u32 0, .int .u16 0, .int .u16 0, .int .u64 0, .int .u32 0, .int .u8 0, .int .u64 0, .int .u64 0, .slice none 0 0] 36)] :: L68 :: D :: [(b12, rowO [.int .u8 x10f0, .int .u8 x10f1, .int .u64 x10f2, .int .u64 x10f3, .int .u32 x10f4, .int .u16 x10f5, .int .u16 x10f6, .int .u64 x10f7, .int .u32 x10f8, .int .u8 x10f9, .int .u64 x10f10, .int .u64 x10f11, .slice x10A12 x10b12.length x10c12] 38)] :: F) rfl rfl
                                 replace hS := hS.front 4 (C := [(b12, rowO [.int .u8 x10f0, .int .u8 x10f1, .int .u64 x10f2, .int .u64 x10f3, .int .u32 x10f4, .int .u16 x10f5, .int .u16 x10f6, .int .u64 x10f7, .int .u32 x10f8, .int .u8 x10f9, .int .u64 x10f10, .int .u64 x10f11, .slice x10A12 x10b12.length x10c12] 38)]) (L' := Cr :: [(b72, rowO [.int .u64 0, .int .u64 0, .int .u32 0, .int .u16 0, .int .u16 0, .int .u64 0, .int .u32 0, .int .u8 0, .int .u64 0, .int .u64 0, .slice none 0 0] 36)] :: L68 :: D :: F) rfl rfl
                                 replace hS := hS.front 4 (C := D) (L' := [(b12, rowO [.int .u8 x10f0, .int .u8 x10f1, .int .u64 x10f2, .int .u64 x10f3, .int .u32 x10f4, .int .u16 x10f5, .int .u16 x10f6, .int .u64 x10f7, .int .u32 x10f8, .int .u8 x10f9, .int .u64 x10f10, .int .u64 x10f11, .slice x10A12 x10b12.length x10c12] 38)] :: Cr :: [(b72, rowO [.int .u64 0, .int .u64 0, .int .u32 0, .int .u16 0, .int .u16 0, .int .u64 0, .int .u32 0, .int .u8 0, .int .u64 0, .int .u64 0, .slice none 0 0] 36)] :: L68 :: F) rfl rfl
                                 replace hS := hS.front 4 (C := L68) (L' := D :: [(b12, rowO [.int .u8 x10f0, .int .u8 x10f1, .int .u64 x10f2, .int .u64 x10f3, .int .u32 x10f4, .int .u16 x10f5, .int .u16 x10f6, .int .u64 x10f7, .int .u32 x10f8, .int .u8 x10f9, .int .u64 x10f10, .int .u64 x10f11, .slice x10A12 x10b12.length x10c12] 38)] :: Cr :: [(b72, rowO [.int .u64 0, .int .u64 0, .int .u32 0, .int .u16 0, .int .u16 0, .int .u64 0, .int .u32 0, .int .u8 0, .int .u64 0, .int .u64 0, .slice none 0 0] 36)] :: F) rfl rfl
                                 replace hS := hS.front 4 (C := [(b72, rowO [.int .u64 0, .int .u64 0, .int .u32 0, .int .u16 0, .int .u16 0, .int .u64 0, .int .u32 0, .int .u8 0, .int .u64 0, .int .u64 0, .slice none 0 0] 36)]) (L' := L68 :: D :: [(b12, rowO [.int .u8 x10f0, .int .u8 x10f1, .int .u64 x10f2, .int .u64 x10f3, .int .u32 x10f4, .int .u16 x10f5, .int .u16 x10f6, .int .u64 x10f7, .int .u32 x10f8, .int .u8 x10f9, .int .u64 x10f10, .int .u64 x10f11, .slice x10A12 x10b12.length x10c12] 38)] :: Cr :: F) rfl rfl
                                 exact lp_next _ (by omega) ⟨i, av2, rfl, (hA.sel [3, 4, 7, 13, 15, 16, 21, 22, 23] rfl), hS, by omega, hav2.no hx81 (by assumption)⟩))
                       · first
                         | (exfalso; omega)
                         | (replace hA := hA.rw 124 (v' := .bool false) rfl (vb_false hc78)
                            refine cd_cond_f hA rfl ?_
                            refine wp_exit ?_
                            refine xt_exit ?_
                            refine xt_exit ?_
                            refine cd_exit_eq ?_
                            refine xt_norm ?_
                            refine wp_seq ?_
                            refine wp_seq ?_
                            refine wp_region_lit ?_
                            have hj20 : j2 = 0 := by omega
                            rw [hj20] at hav2
                            have hae2 := hav2.some hj0 hjd hjb
                            replace hA := hA.rw 15 (v' := .int .i64 ((j0 : Nat) : Int)) rfl (by rw [hae2])
                            refine st_run tbOk 2 hA (e' := (134, .bool (decide (((j0 : Nat) : Int) < 0))) :: (133, .int .i64 ((j0 : Nat) : Int)) :: _) rfl ?_; clear hA; intro a hA
                            refine wpList_nil ?_
                            replace hA := hA.sel [3, 4, 7, 13, 15, 21, 22, 23, 134] (e' := [(3, .pointer (some ⟨b2, 0, none⟩)), (4, .slice Ar rs.length cr), (7, .int .u8 who), (13, .nilIface), (15, .int .i64 ((j0 : Nat) : Int)), (21, .slice (some ⟨b8, o9, none⟩) l.length c), (22, .int .i64 ((l.length : Nat) : Int)), (23, .int .i64 ((k : Nat) : Int)), (134, .bool (decide (((j0 : Nat) : Int) < 0)))]) rfl
                            refine xt_norm ?_
                            by_cases hc84 : ((j0 : Nat) : Int) < 0
                            · first
                              | (exfalso; omega)
                              | (replace hA := hA.rw 134 (v' := .bool true) rfl (vb_true hc84)
                                 refine cd_cond_t hA rfl ?_
                                 refine wp_seq ?_
                                 refine wp_seq ?_
                                 refine wp_region_lit ?_
                                 refine st_run tbOk 1 hA (e' := (135, .nilIface) :: _) rfl ?_; clear hA; intro a hA
                                 refine st_call0 hA rfl rfl rfl isfn10 rfl rfl (by decide) (number_nil10 hS hg) ?_
                                 clear hA hS; rintro v w85 a ⟨rfl, hS⟩ hA
                                 refine st_run tbOk 1 hA (e' := (137, .bool true) :: _) rfl ?_; clear hA; intro a hA
                                 refine wpList_nil ?_
                                 replace hA := hA.sel [3, 4, 21, 22, 23, 137] (e' := [(3, .pointer (some ⟨b2, 0, none⟩)), (4, .slice Ar rs.length cr), (21, .slice (some ⟨b8, o9, none⟩) l.length c), (22, .int .i64 ((l.length : Nat) : Int)), (23, .int .i64 ((k : Nat) : Int)), (137, .bool true)]) rfl
                                 refine xt_norm ?_
                                 refine cd_cond_t hA rfl ?_
                                 refine wp_seq ?_
                                 refine wp_region_lit ?_
                                 refine st_run tbOk 1 hA (e' := (2, .bool false) :: _) rfl ?_; clear hA; intro a hA
                                 refine wpList_nil ?_
                                 replace hA := hA.sel [2] (e' := [(2, .bool false)]) rfl
                                 refine xt_norm ?_
                                 refine wp_ret (xt_ret (xt_ret (xt_ret (xb_ret (xt_ret (xt_ret (xb_ret (xt_ret ?_))))))))
                                 refine ret1 (fn := Tryd.f3) hA rfl rfl ?_
                                 exfalso; omega)
                            · first
                              | (exfalso; omega)
                              | (replace hA := hA.rw 134 (v' := .bool false) rfl (vb_false hc84)
                                 refine cd_cond_f hA rfl ?_
                                 refine wp_skip ?_
                                 refine xt_norm ?_
                                 refine wp_draw (fun w' => St w0 w' ([(b72, rowO [.int .u64 0, .int .u64 0, .int .u32 0, .int .u16 0, .int .u16 0, .int .u64 0, .int .u32 0, .int .u8 0, .int .u64 0, .int .u64 0, .slice none 0 0] 36)] :: L68 :: D :: [(b12, rowO [.int .u8 x10f0, .int .u8 x10f1, .int .u64 x10f2, .int .u64 x10f3, .int .u32 x10f4, .int .u16 x10f5, .int .u16 x10f6, .int .u64 x10f7, .int .u32 x10f8, .int .u8 x10f9, .int .u64 x10f10, .int .u64 x10f11, .slice x10A12 x10b12.length x10c12] 38)] :: Cr :: F)) [] [(0, true), (1, true), (2, true), (4, true), (5, true), (6, true), (7, true), (3, false), (8, false), (9, true)] mixed (by kernel_rfl) (by rintro c a w ⟨_, _, h, _⟩; cases h) (by rfl) (by kernel_rfl) ?_
                                 replace hS := hS.drew
                                 refine dr_run tbOk 2 hA hS (e' := (139, .int .i64 ((j0 : Nat) : Int)) :: (138, .slice Ar rs.length cr) :: _) rfl ?_; clear hA; intro a hA
                                 refine dr_y hA rfl rfl rfl (by decide) hS (fun w' hS' => rn_slice_h tbOk hA j0 rfl rfl rfl rfl rfl rfl (by rfl) (by omega)) ?_; clear hA; intro a hA
                                 replace hA := hA.rw 140 (v' := .slice Ar ((rs.take j0).length) cr) rfl (congrArg (fun m => Value.slice _ m _) (by rw [List.length_take]; omega))
                                 refine dr_run tbOk 3 hA hS (e' := (144, .int .i64 (IntKind.i64.wrap (((j0 : Nat) : Int) + 1))) :: (143, .int .i64 ((j0 : Nat) : Int)) :: (142, .slice Ar rs.length cr) :: _) rfl ?_; clear hA; intro a hA
                                 replace hA := hA.rw 144 (v' := .int .i64 ((j0 + 1 : Nat) : Int)) rfl (wr64 (by omega) (by omega) (by omega))
                                 refine dr_y hA rfl rfl rfl (by decide) hS (fun w' hS' => rn_slice_l tbOk hA (j0 + 1) rfl rfl rfl rfl rfl rfl (by rfl) (by omega)) ?_; clear hA; intro a hA
                                 refine dr_b (o := _) rfl ?_
                                 replace hS := hS.nil
                                 refine st_append tbOk hA (m := 0) (q := (rs.take j0).length) (xs := rows encLEnt ([] : List (Int × Bool × Int × Int × Int × Int × Int × Int × Int × Int × Int × Int × Option Addr × Nat × List UInt8))) (news := rows encLEnt (rs.take j0)) rfl rfl rfl rfl rfl rfl rfl rfl (by decide) (Own.nil 40 13) hS (((hR.rd (hS.own_ 5 rfl)).rhead encLEnt_ok j0 (by omega)).x) (rows_one encLEnt_ok _) (maxLen_le (by first | omega | (simp; omega))) (by show (0 + (rs.take j0).length) * 88 ≤ 140737488355328; first | omega | (simp; omega)) rfl rfl (by decide) ?_
                                 clear hA hS; intro v86 w87 C88 a hO88 hS hA
                                 replace hO88 := Own.app (l := ([] : List (Int × Bool × Int × Int × Int × Int × Int × Int × Int × Int × Int × Int × Option Addr × Nat × List UInt8))) (l2 := rs.take j0) hO88
                                 replace hO88 : Own 40 13 v86 (rs.take j0).length (rows encLEnt (rs.take j0)) C88 := hO88
                                 obtain ⟨A89, c90, rfl, hmc90, hxc90⟩ := hO88.open'
                                 refine dr_nil (.inr (hS.tail 1 rfl)) ?_
                                 refine dr_b (o := _) rfl ?_
                                 refine st_append tbOk hA (m := (rs.take j0).length) (q := ((rs.take rs.length).drop (j0 + 1)).length) (xs := rows encLEnt (rs.take j0)) (news := rows encLEnt ((rs.take rs.length).drop (j0 + 1))) rfl rfl rfl rfl rfl rfl rfl rfl (by decide) hO88 hS (((hR.rd (hS.own_ 5 rfl)).rslv encLEnt_ok (j0 + 1) rs.length cr (by omega) (by omega) (by omega) (by omega)).x) (rows_one encLEnt_ok _) (maxLen_le (by first | omega | (simp; omega))) (by show ((rs.take j0).length + ((rs.take rs.length).drop (j0 + 1)).length) * 88 ≤ 140737488355328; first | omega | (simp; omega)) rfl rfl (by decide) ?_
                                 clear hA hS; intro v91 w92 C93 a hO93 hS hA
                                 replace hO93 := Own.app (l := rs.take j0) (l2 := (rs.take rs.length).drop (j0 + 1)) hO93
                                 obtain ⟨A94, c95, rfl, hmc95, hxc95⟩ := hO93.open'
                                 refine dr_nil (.inr (hS.tail 1 rfl)) ?_
                                 refine dr_run tbOk 1 hA (hS.tail 1 rfl) (e' := (4, .slice A94 (((rs.take j0) ++ ((rs.take rs.length).drop (j0 + 1))).length) c95) :: _) rfl ?_; clear hA; intro a hA
                                 refine dr_end ?_
                                 replace hA := hA.sel [3, 4, 7, 13, 21, 22, 23] (e' := [(3, .pointer (some ⟨b2, 0, none⟩)), (4, .slice A94 (((rs.take j0) ++ ((rs.take rs.length).drop (j0 + 1))).length) c95), (7, .int .u8 who), (13, .nilIface), (21, .slice (some ⟨b8, o9, none⟩) l.length c), (22, .int .i64 ((l.length : Nat) : Int)), (23, .int .i64 ((k : Nat) : Int))]) rfl
                                 refine xt_norm ?_
                                 refine wp_seq ?_
                                 refine wp_region_lit ?_
                                 have hl : (rs.take j0) ++ ((rs.take rs.length).drop (j0 + 1)) = rs.take j0 ++ rs.drop (j0 + 1) := by rw [List.take_length]
                                 rw [hl] at hO93; rw [hl] at hA
                                 have hrl2 : (rs.take j0 ++ rs.drop (j0 + 1)).length = 31 := by rw [List.length_append, List.length_take, List.length_drop]; omega
                                 refine st_run tbOk 3 hA (e' := (149, .agg #[.int .u8 who, .bool false, .int .u64 0, .int .u64 0, .int .u32 0, .int .u16 0, .int .u16 0, .int .u64 0, .int .u32 0, .int .u8 0, .int .u64 0, .int .u64 0, .slice none 0 0]) :: (148, .int .u8 who) :: (147, .slice A94 ((rs.take j0 ++ rs.drop (j0 + 1)).length) c95) :: _) rfl ?_; clear hA; intro a hA
                                 refine st_buildSlice tbOk hA hS [.int .u8 who, .bool false, .int .u64 0, .int .u64 0, .int .u32 0, .int .u16 0, .int .u16 0, .int .u64 0, .int .u32 0, .int .u8 0, .int .u64 0, .int .u64 0, .slice none 0 0] rfl rfl rfl rfl rfl (by decide) (by kernel_rfl) rfl rfl (by decide) ?_; clear hA hS; intro b96 w97 a hS hA
                                 replace hS := hS.front 1 (C := C93) (L' := [(b96, rowO [.int .u8 who, .bool false, .int .u64 0, .int .u64 0, .int .u32 0, .int .u16 0, .int .u16 0, .int .u64 0, .int .u32 0, .int .u8 0, .int .u64 0, .int .u64 0, .slice none 0 0] 40)] :: [(b72, rowO [.int .u64 0, .int .u64 0, .int .u32 0, .int .u16 0, .int .u16 0, .int .u64 0, .int .u32 0, .int .u8 0, .int .u64 0, .int .u64 0, .slice none 0 0] 36)] :: L68 :: D :: [(b12, rowO [.int .u8 x10f0, .int .u8 x10f1, .int .u64 x10f2, .int .u64 x10f3, .int .u32 x10f4, .int .u16 x10f5, .int .u16 x10f6, .int .u64 x10f7, .int .u32 x10f8, .int .u8 x10f9, .int .u64 x10f10, .int .u64 x10f11, .slice x10A12 x10b12.length x10c12] 38)] :: Cr :: F) rfl rfl
                                 refine st_append tbOk hA (m := (rs.take j0 ++ rs.drop (j0 + 1)).length) (q := 1) (xs := rows encLEnt (rs.take j0 ++ rs.drop (j0 + 1))) (news := rows encLEnt ([(who, false, 0, 0, 0, 0, 0, 0, 0, 0, 0, 0, none, 0, ([] : List UInt8))] : List (Int × Bool × Int × Int × Int × Int × Int × Int × Int × Int × Int × Int × Option Addr × Nat × List UInt8))) rfl rfl rfl rfl rfl rfl rfl rfl (by decide) hO93 hS (((Own.full (T := 40) (size := 13) (g := b96) (m := 1) rfl (by decide)).rd (hS.own_ 1 rfl)).x) (rows_one encLEnt_ok _) (maxLen_le (by first | omega | (simp; omega))) (by show ((rs.take j0 ++ rs.drop (j0 + 1)).length + 1) * 88 ≤ 140737488355328; first | omega | (simp; omega)) rfl rfl (by decide) ?_
                                 clear hA hS; intro v98 w99 C100 a hO100 hS hA
                                 replace hO100 := Own.app (l := rs.take j0 ++ rs.drop (j0 + 1)) (l2 := ([(who, false, 0, 0, 0, 0, 0, 0, 0, 0, 0, 0, none, 0, ([] : List UInt8))] : List (Int × Bool × Int × Int × Int × Int × Int × Int × Int × Int × Int × Int × Option Addr × Nat × List UInt8))) hO100
                                 obtain ⟨A101, c102, rfl, hmc102, hxc102⟩ := hO100.open'
                                 refine st_run tbOk 1 hA (e' := (4, .slice A101 (((rs.take j0 ++ rs.drop (j0 + 1)) ++ ([(who, false, 0, 0, 0, 0, 0, 0, 0, 0, 0, 0, none, 0, ([] : List UInt8))] : List (Int × Bool × Int × Int × Int × Int × Int × Int × Int × Int × Int × Int × Option Addr × Nat × List UInt8))).length) c102) :: _) rfl ?_; clear hA; intro a hA
                                 refine wpList_nil ?_
                                 replace hA := hA.sel [3, 4, 13, 21, 22, 23] (e' := [(3, .pointer (some ⟨b2, 0, none⟩)), (4, .slice A101 (((rs.take j0 ++ rs.drop (j0 + 1)) ++ ([(who, false, 0, 0, 0, 0, 0, 0, 0, 0, 0, 0, none, 0, ([] : List UInt8))] : List (Int × Bool × Int × Int × Int × Int × Int × Int × Int × Int × Int × Int × Option Addr × Nat × List UInt8))).length) c102), (13, .nilIface), (21, .slice (some ⟨b8, o9, none⟩) l.length c), (22, .int .i64 ((l.length : Nat) : Int)), (23, .int .i64 ((k : Nat) : Int))]) rfl
                                 refine xt_norm ?_
                                 refine wp_seq ?_
                                 refine wp_region_lit ?_
                                 have hdr2 : ∀ x ∈ ((rs.take j0 ++ rs.drop (j0 + 1)) ++ ([(who, false, 0, 0, 0, 0, 0, 0, 0, 0, 0, 0, none, 0, ([] : List UInt8))] : List (Int × Bool × Int × Int × Int × Int × Int × Int × Int × Int × Int × Int × Option Addr × Nat × List UInt8))), ∀ D, encLEnt_dd w0 D x := add_dd22 (fun x hx => hdr x ((rm_sub rs j0).subset hx)) (fun D => DD.nil)
                                 have hln : ((es.take j0 ++ es.drop (j0 + 1)) ++ [((who % 2), (who / 2), 1, 0, 0, 0, 0, 0, 0, 0, 0, 0, 0, none, 0, ([] : List UInt8))]).length = ((rs.take j0 ++ rs.drop (j0 + 1)) ++ ([(who, false, 0, 0, 0, 0, 0, 0, 0, 0, 0, 0, none, 0, ([] : List UInt8))] : List (Int × Bool × Int × Int × Int × Int × Int × Int × Int × Int × Int × Int × Option Addr × Nat × List UInt8))).length := (show SI ((es.take j0 ++ es.drop (j0 + 1)) ++ [((who % 2), (who / 2), 1, 0, 0, 0, 0, 0, 0, 0, 0, 0, 0, none, 0, ([] : List UInt8))]) ((rs.take j0 ++ rs.drop (j0 + 1)) ++ ([(who, false, 0, 0, 0, 0, 0, 0, 0, 0, 0, 0, none, 0, ([] : List UInt8))] : List (Int × Bool × Int × Int × Int × Int × Int × Int × Int × Int × Int × Int × Option Addr × Nat × List UInt8))) from ((hI.del j0).add (show eview _ = rview _ from rfl) (no_sub hno j0) hw0_ hw1_ (by omega))).len
                                 refine st_run tbOk 4 hA (e' := (155, .pointer (some ⟨b2, 0, none⟩)) :: (154, .bool false) :: (153, .bool false) :: (152, .nilIface) :: _) rfl ?_; clear hA; intro a hA
                                 replace hS := hS.front 4 (C := D) (L' := C100 :: [(b96, rowO [.int .u8 who, .bool false, .int .u64 0, .int .u64 0, .int .u32 0, .int .u16 0, .int .u16 0, .int .u64 0, .int .u32 0, .int .u8 0, .int .u64 0, .int .u64 0, .slice none 0 0] 40)] :: [(b72, rowO [.int .u64 0, .int .u64 0, .int .u32 0, .int .u16 0, .int .u16 0, .int .u64 0, .int .u32 0, .int .u8 0, .int .u64 0, .int .u64 0, .slice none 0 0] 36)] :: L68 :: [(b12, rowO [.int .u8 x10f0, .int .u8 x10f1, .int .u64 x10f2, .int .u64 x10f3, .int .u32 x10f4, .int .u16 x10f5, .int .u16 x10f6, .int .u64 x10f7, .int .u32 x10f8, .int .u8 x10f9, .int .u64 x10f10, .int .u64 x10f11, .slice x10A12 x10b12.length x10c12] 38)] :: Cr :: F) rfl rfl
                                 replace hS := hS.front 4 (C := L68) (L' := D :: C100 :: [(b96, rowO [.int .u8 who, .bool false, .int .u64 0, .int .u64 0, .int .u32 0, .int .u16 0, .int .u16 0, .int .u64 0, .int .u32 0, .int .u8 0, .int .u64 0, .int .u64 0, .slice none 0 0] 40)] :: [(b72, rowO [.int .u64 0, .int .u64 0, .int .u32 0, .int .u16 0, .int .u16 0, .int .u64 0, .int .u32 0, .int .u8 0, .int .u64 0, .int .u64 0, .slice none 0 0] 36)] :: [(b12, rowO [.int .u8 x10f0, .int .u8 x10f1, .int .u64 x10f2, .int .u64 x10f3, .int .u32 x10f4, .int .u16 x10f5, .int .u16 x10f6, .int .u64 x10f7, .int .u32 x10f8, .int .u8 x10f9, .int .u64 x10f10, .int .u64 x10f11, .slice x10A12 x10b12.length x10c12] 38)] :: Cr :: F) rfl rfl
                                 refine st_call0 hA rfl rfl rfl isfn11 rfl rfl (by decide) (slen11 hS hM69) ?_
                                 clear hA hS; rintro _ w103 a ⟨L104, hM105, rfl, hS⟩ hA
                                 refine st_run tbOk 4 hA (e' := (160, .bool (((((es.take j0 ++ es.drop (j0 + 1)) ++ [((who % 2), (who / 2), 1, 0, 0, 0, 0, 0, 0, 0, 0, 0, 0, none, 0, ([] : List UInt8))]).length : Nat) : Int) != ((((rs.take j0 ++ rs.drop (j0 + 1)) ++ ([(who, false, 0, 0, 0, 0, 0, 0, 0, 0, 0, 0, none, 0, ([] : List UInt8))] : List (Int × Bool × Int × Int × Int × Int × Int × Int × Int × Int × Int × Int × Option Addr × Nat × List UInt8))).length : Nat) : Int))) :: (159, .bool (((((es.take j0 ++ es.drop (j0 + 1)) ++ [((who % 2), (who / 2), 1, 0, 0, 0, 0, 0, 0, 0, 0, 0, 0, none, 0, ([] : List UInt8))]).length : Nat) : Int) != ((((rs.take j0 ++ rs.drop (j0 + 1)) ++ ([(who, false, 0, 0, 0, 0, 0, 0, 0, 0, 0, 0, none, 0, ([] : List UInt8))] : List (Int × Bool × Int × Int × Int × Int × Int × Int × Int × Int × Int × Int × Option Addr × Nat × List UInt8))).length : Nat) : Int))) :: (158, .int .i64 ((((rs.take j0 ++ rs.drop (j0 + 1)) ++ ([(who, false, 0, 0, 0, 0, 0, 0, 0, 0, 0, 0, none, 0, ([] : List UInt8))] : List (Int × Bool × Int × Int × Int × Int × Int × Int × Int × Int × Int × Int × Option Addr × Nat × List UInt8))).length : Nat) : Int)) :: (157, .slice A101 (((rs.take j0 ++ rs.drop (j0 + 1)) ++ ([(who, false, 0, 0, 0, 0, 0, 0, 0, 0, 0, 0, none, 0, ([] : List UInt8))] : List (Int × Bool × Int × Int × Int × Int × Int × Int × Int × Int × Int × Int × Option Addr × Nat × List UInt8))).length) c102) :: _) rfl ?_; clear hA; intro a hA
                                 refine wpList_nil ?_
                                 replace hA := hA.sel [3, 4, 21, 22, 23, 160] (e' := [(3, .pointer (some ⟨b2, 0, none⟩)), (4, .slice A101 (((rs.take j0 ++ rs.drop (j0 + 1)) ++ ([(who, false, 0, 0, 0, 0, 0, 0, 0, 0, 0, 0, none, 0, ([] : List UInt8))] : List (Int × Bool × Int × Int × Int × Int × Int × Int × Int × Int × Int × Int × Option Addr × Nat × List UInt8))).length) c102), (21, .slice (some ⟨b8, o9, none⟩) l.length c), (22, .int .i64 ((l.length : Nat) : Int)), (23, .int .i64 ((k : Nat) : Int)), (160, .bool (((((es.take j0 ++ es.drop (j0 + 1)) ++ [((who % 2), (who / 2), 1, 0, 0, 0, 0, 0, 0, 0, 0, 0, 0, none, 0, ([] : List UInt8))]).length : Nat) : Int) != ((((rs.take j0 ++ rs.drop (j0 + 1)) ++ ([(who, false, 0, 0, 0, 0, 0, 0, 0, 0, 0, 0, none, 0, ([] : List UInt8))] : List (Int × Bool × Int × Int × Int × Int × Int × Int × Int × Int × Int × Int × Option Addr × Nat × List UInt8))).length : Nat) : Int)))]) rfl
                                 refine xt_norm ?_
                                 by_cases hc106 : ((((es.take j0 ++ es.drop (j0 + 1)) ++ [((who % 2), (who / 2), 1, 0, 0, 0, 0, 0, 0, 0, 0, 0, 0, none, 0, ([] : List UInt8))]).length : Nat) : Int) = ((((rs.take j0 ++ rs.drop (j0 + 1)) ++ ([(who, false, 0, 0, 0, 0, 0, 0, 0, 0, 0, 0, none, 0, ([] : List UInt8))] : List (Int × Bool × Int × Int × Int × Int × Int × Int × Int × Int × Int × Int × Option Addr × Nat × List UInt8))).length : Nat) : Int)
                                 · first
                                   | (exfalso; omega)
                                   | (replace hA := hA.rw 160 (v' := .bool false) rfl (vb_ne_f hc106)
                                      refine cd_cond_f hA rfl ?_
                                      refine wp_skip ?_
                                      refine xb_norm ?_
                                      refine xt_norm ?_
                                      replace hS := hS.front 3 (C := [(b96, rowO [.int .u8 who, .bool false, .int .u64 0, .int .u64 0, .int .u32 0, .int .u16 0, .int .u16 0, .int .u64 0, .int .u32 0, .int .u8 0, .int .u64 0, .int .u64 0, .slice none 0 0] 40)]) (L' := L104 :: D :: C100 :: [(b72, rowO [.int .u64 0, .int .u64 0, .int .u32 0, .int .u16 0, .int .u16 0, .int .u64 0, .int .u32 0, .int .u8 0, .int .u64 0, .int .u64 0, .slice none 0 0] 36)] :: [(b12, rowO [.int .u8 x10f0, .int .u8 x10f1, .int .u64 x10f2, .int .u64 x10f3, .int .u32 x10f4, .int .u16 x10f5, .int .u16 x10f6, .int .u64 x10f7, .int .u32 x10f8, .int .u8 x10f9, .int .u64 x10f10, .int .u64 x10f11, .slice x10A12 x10b12.length x10c12] 38)] :: Cr :: F) rfl rfl
                                      replace hS := hS.drop1
                                      replace hS := hS.front 3 (C := [(b72, rowO [.int .u64 0, .int .u64 0, .int .u32 0, .int .u16 0, .int .u16 0, .int .u64 0, .int .u32 0, .int .u8 0, .int .u64 0, .int .u64 0, .slice none 0 0] 36)]) (L' := L104 :: D :: C100 :: [(b12, rowO [.int .u8 x10f0, .int .u8 x10f1, .int .u64 x10f2, .int .u64 x10f3, .int .u32 x10f4, .int .u16 x10f5, .int .u16 x10f6, .int .u64 x10f7, .int .u32 x10f8, .int .u8 x10f9, .int .u64 x10f10, .int .u64 x10f11, .slice x10A12 x10b12.length x10c12] 38)] :: Cr :: F) rfl rfl
                                      replace hS := hS.drop1
                                      replace hS := hS.front 3 (C := [(b12, rowO [.int .u8 x10f0, .int .u8 x10f1, .int .u64 x10f2, .int .u64 x10f3, .int .u32 x10f4, .int .u16 x10f5, .int .u16 x10f6, .int .u64 x10f7, .int .u32 x10f8, .int .u8 x10f9, .int .u64 x10f10, .int .u64 x10f11, .slice x10A12 x10b12.length x10c12] 38)]) (L' := L104 :: D :: C100 :: Cr :: F) rfl rfl
                                      replace hS := hS.drop1
                                      replace hS := hS.front 3 (C := Cr) (L' := L104 :: D :: C100 :: F) rfl rfl
                                      replace hS := hS.drop1
                                      replace hS := hS.front 2 (C := C100) (L' := L104 :: D :: F) rfl rfl
                                      replace hS := hS.front 2 (C := D) (L' := C100 :: L104 :: F) rfl rfl
                                      replace hS := hS.front 2 (C := L104) (L' := D :: C100 :: F) rfl rfl
                                      exact ⟨((es.take j0 ++ es.drop (j0 + 1)) ++ [((who % 2), (who / 2), 1, 0, 0, 0, 0, 0, 0, 0, 0, 0, 0, none, 0, ([] : List UInt8))]), ((rs.take j0 ++ rs.drop (j0 + 1)) ++ ([(who, false, 0, 0, 0, 0, 0, 0, 0, 0, 0, 0, none, 0, ([] : List UInt8))] : List (Int × Bool × Int × Int × Int × Int × Int × Int × Int × Int × Int × Int × Option Addr × Nat × List UInt8))), L104, D, A101, c102, C100, (hA.sel [3, 4, 21, 22, 23] rfl), hS, ((hI.del j0).add (show eview _ = rview _ from rfl) (no_sub hno j0) hw0_ hw1_ (by omega)), hM105, hO100, dd70, bd71, hdr2⟩)
                                 · first
                                   | (exfalso; omega)
                                   | (replace hA := hA.rw 160 (v' := .bool true) rfl (vb_ne_t hc106)
                                      refine cd_cond_t hA rfl ?_
                                      refine wp_seq ?_
                                      refine wp_region_lit ?_
                                      refine st_run tbOk 1 hA (e' := (2, .bool false) :: _) rfl ?_; clear hA; intro a hA
                                      refine wpList_nil ?_
                                      replace hA := hA.sel [2] (e' := [(2, .bool false)]) rfl
                                      refine xt_norm ?_
                                      refine wp_ret (xb_ret (xt_ret (xt_ret (xb_ret (xt_ret ?_)))))
                                      refine ret1 (fn := Tryd.f3) hA rfl rfl ?_
                                      exfalso; omega))))
              · have hae := hav.some hk0 hp0 (fun i y hy hq => hI.uniq hy hk0 (hq.trans hp0.symm))
                replace hA := hA.rw 8 (v' := .int .i64 ((k0 : Nat) : Int)) rfl (by rw [hae])
                have hk0l := (List.getElem?_eq_some_iff.1 hk0).1
                obtain ⟨x0, hx0, hxy, hxf, hxb⟩ := hI.hit hw0_ hw1_ hk0 hp0 hb0
                obtain ⟨u0, u1, u2, u3, u4, u5, u6, u7, u8, u9, u10, u11, u12, uA, uc, ub⟩ := x0
                simp only [eview, rview, edat, ldat, Prod.mk.injEq, if_true, Bool.false_eq_true, if_false] at hxy
                have hu2 : u2 = 1 := hxy.2.2.1
                subst hu2
                have hdu := hdm _ (List.mem_of_getElem? hx0)
                have hdv : encLEnt_dd w0 D (v0, false, v2, v3, v4, v5, v6, v7, v8, v9, v10, v11, yA, yc, yb) := hdr _ (List.mem_of_getElem? hk0) D
                dsimp only at hp0
                have hvr := hI.rg _ (List.mem_of_getElem? hk0); dsimp only at hvr
                refine st_run tbOk 1 hA (e' := (44, .pointer (some ⟨b12, 0, none⟩)) :: _) rfl ?_; clear hA; intro a hA
                refine st_val hA rfl rfl (by decide) (rn_load tbOk hA rfl rfl rfl rfl (cell_row (hS.heapAt 0 rfl) rfl)) ?_; clear hA; intro a hA
                refine st_run tbOk 1 hA (e' := (46, .int .u8 (x10f0.tmod 2)) :: _) rfl ?_; clear hA; intro a hA
                replace hA := hA.rw 46 (v' := .int .u8 op) rfl (by rw [hop])
                refine st_run tbOk 1 hA (e' := (47, .bool (op == 1)) :: _) rfl ?_; clear hA; intro a hA
                refine wpList_nil ?_
                replace hA := hA.sel [3, 4, 6, 7, 8, 21, 22, 23, 47] (e' := [(3, .pointer (some ⟨b2, 0, none⟩)), (4, .slice Ar rs.length cr), (6, .pointer (some ⟨b12, 0, none⟩)), (7, .int .u8 who), (8, .int .i64 ((k0 : Nat) : Int)), (21, .slice (some ⟨b8, o9, none⟩) l.length c), (22, .int .i64 ((l.length : Nat) : Int)), (23, .int .i64 ((k : Nat) : Int)), (47, .bool (op == 1))]) rfl
                refine xt_norm ?_
                by_cases hc107 : op = 1
                · first
                  | (exfalso; omega)
                  | (replace hA := hA.rw 47 (v' := .bool true) rfl (vb_eq_t hc107)
                     refine cd_cond_t hA rfl ?_
                     refine wp_seq ?_
                     refine wp_region_lit ?_
                     refine st_run tbOk 3 hA (e' := (50, .bool (decide (((k0 : Nat) : Int) ≥ 0))) :: (49, .bool (decide (((k0 : Nat) : Int) ≥ 0))) :: (48, .int .i64 ((k0 : Nat) : Int)) :: _) rfl ?_; clear hA; intro a hA
                     by_cases hc108 : ((k0 : Nat) : Int) ≥ 0
                     · first
                       | (exfalso; omega)
                       | (replace hA := hA.rw 49 (v' := .bool true) rfl (vb_true hc108)
                          replace hA := hA.rw 50 (v' := .bool true) rfl (vb_true hc108)
                          refine st_run tbOk 2 hA (e' := (52, .int .i64 ((k0 : Nat) : Int)) :: (51, .slice Ar rs.length cr) :: _) rfl ?_; clear hA; intro a hA
                          obtain ⟨b109, o110, rfl⟩ := hR.isSome (k := k0) (by omega)
                          refine st_val hA rfl rfl (by decide) (rn_indexAddr tbOk hA k0 (o110 + (k0 * 13)) rfl rfl rfl rfl rfl rfl (by rfl) (by omega) (by first | rfl | simp [Nat.mul_one, Nat.zero_add] | omega)) ?_; clear hA; intro a hA
                          refine st_run tbOk 1 hA (e' := (54, .pointer (some ⟨b109, o110 + (k0 * 13) + 1, none⟩)) :: _) rfl ?_; clear hA; intro a hA
                          refine st_val hA rfl rfl (by decide) (rn_load tbOk hA rfl rfl rfl rfl ((hR.rd (hS.own_ 3 rfl)).elemf (k := k0) encLEnt_ok hk0 (j := 1) rfl)) ?_; clear hA; intro a hA
                          refine st_run tbOk 3 hA (e' := (10, .bool true) :: (57, .bool true) :: (56, .bool true) :: _) rfl ?_; clear hA; intro a hA
                          refine wpList_nil ?_
                          replace hA := hA.sel [3, 4, 6, 7, 8, 10, 21, 22, 23] (e' := [(3, .pointer (some ⟨b2, 0, none⟩)), (4, .slice (some ⟨b109, o110, none⟩) rs.length cr), (6, .pointer (some ⟨b12, 0, none⟩)), (7, .int .u8 who), (8, .int .i64 ((k0 : Nat) : Int)), (10, .bool true), (21, .slice (some ⟨b8, o9, none⟩) l.length c), (22, .int .i64 ((l.length : Nat) : Int)), (23, .int .i64 ((k : Nat) : Int))]) rfl
                          refine xt_norm ?_
                          refine wp_seq ?_
                          refine wp_seq ?_
                          replace hS := hS.front 2 (C := D) (L' := [(b12, rowO [.int .u8 x10f0, .int .u8 x10f1, .int .u64 x10f2, .int .u64 x10f3, .int .u32 x10f4, .int .u16 x10f5, .int .u16 x10f6, .int .u64 x10f7, .int .u32 x10f8, .int .u8 x10f9, .int .u64 x10f10, .int .u64 x10f11, .slice x10A12 x10b12.length x10c12] 38)] :: L :: Cr :: F) rfl rfl
                          replace hS := hS.front 2 (C := L) (L' := D :: [(b12, rowO [.int .u8 x10f0, .int .u8 x10f1, .int .u64 x10f2, .int .u64 x10f3, .int .u32 x10f4, .int .u16 x10f5, .int .u16 x10f6, .int .u64 x10f7, .int .u32 x10f8, .int .u8 x10f9, .int .u64 x10f10, .int .u64 x10f11, .slice x10A12 x10b12.length x10c12] 38)] :: Cr :: F) rfl rfl
                          refine wp_draw (fun w' => St w0 w' ([(b12, rowO [.int .u8 x10f0, .int .u8 x10f1, .int .u64 x10f2, .int .u64 x10f3, .int .u32 x10f4, .int .u16 x10f5, .int .u16 x10f6, .int .u64 x10f7, .int .u32 x10f8, .int .u8 x10f9, .int .u64 x10f10, .int .u64 x10f11, .slice x10A12 x10b12.length x10c12] 38)] :: Cr :: F)) [] [(0, true), (1, true), (3, true), (4, true), (6, true), (2, false), (5, false), (7, true)] mixed (by kernel_rfl) (by rintro c a w ⟨_, _, h, _⟩; cases h) (by rfl) (by kernel_rfl) ?_
                          replace hS := hS.drew
                          refine dr_run tbOk 3 hA (hS.tail 2 rfl) (e' := (61, .pointer (some ⟨b12, 2, none⟩)) :: (59, .int .u8 who) :: (58, .pointer (some ⟨b2, 0, none⟩)) :: _) rfl ?_; clear hA; intro a hA
                          refine dr_y hA rfl rfl rfl (by decide) (hS.tail 2 rfl) (fun w' hS' => rn_loadA tbOk hA [.int .u64 x10f2, .int .u64 x10f3, .int .u32 x10f4, .int .u16 x10f5, .int .u16 x10f6, .int .u64 x10f7, .int .u32 x10f8, .int .u8 x10f9, .int .u64 x10f10, .int .u64 x10f11, .slice x10A12 x10b12.length x10c12] rfl rfl rfl rfl rfl (cells_row (hS'.heapAt 0 rfl) rfl)) ?_; clear hA; intro a hA
                          refine dr_run tbOk 1 hA (hS.tail 2 rfl) (e' := (64, .bool true) :: _) rfl ?_; clear hA; intro a hA
                          refine dr_b (o := _) rfl ?_
                          refine st_call0 hA rfl rfl rfl isfn7 rfl rfl (by decide) (request7 hS who hw0_ hw1_) ?_
                          clear hA hS; rintro _ w111 a ⟨rfl, hS⟩ hA
                          refine dr_nil (.inr (hS.tail 2 rfl)) ?_
                          refine dr_b (o := _) rfl ?_
                          replace hS := hS.front 1 (C := D) (L' := L :: [(b12, rowO [.int .u8 x10f0, .int .u8 x10f1, .int .u64 x10f2, .int .u64 x10f3, .int .u32 x10f4, .int .u16 x10f5, .int .u16 x10f6, .int .u64 x10f7, .int .u32 x10f8, .int .u8 x10f9, .int .u64 x10f10, .int .u64 x10f11, .slice x10A12 x10b12.length x10c12] 38)] :: Cr :: F) rfl rfl
                          replace hS := hS.front 1 (C := L) (L' := D :: [(b12, rowO [.int .u8 x10f0, .int .u8 x10f1, .int .u64 x10f2, .int .u64 x10f3, .int .u32 x10f4, .int .u16 x10f5, .int .u16 x10f6, .int .u64 x10f7, .int .u32 x10f8, .int .u8 x10f9, .int .u64 x10f10, .int .u64 x10f11, .slice x10A12 x10b12.length x10c12] 38)] :: Cr :: F) rfl rfl
                          refine st_call0 hA rfl rfl rfl isfn6 rfl rfl (by decide) (reply_ok6 hS hM 0 (who % 2) (who / 2) 0 0 0 0 0 0 who _ x10f2 x10f3 x10f4 x10f5 x10f6 x10f7 x10f8 x10f9 x10f10 x10f11 (bs := x10b12) (fun w' h => (hd11 _ (h.only 0 rfl))) (by first | omega | exact Nat.zero_le _) (k := k0) (x := (u0, u1, 1, u3, u4, u5, u6, u7, u8, u9, u10, u11, u12, uA, uc, ub)) hx0 hxf hxb rfl (by omega)) ?_
                          clear hA hS; rintro _ w112 a ⟨L113, E115, A116, c117, hM114, hE118, rfl, hS⟩ hA
                          have dd119 := set_mem_dd (k := k0) (x := (u0, u1, 2, x10f2, x10f3, x10f4, x10f5, x10f6, x10f7, x10f8, x10f9, x10f10, x10f11, A116, c117, x10b12)) hdm (hE118.right)
                          have bd120 := sbd.set (k := k0) (x := (u0, u1, 2, x10f2, x10f3, x10f4, x10f5, x10f6, x10f7, x10f8, x10f9, x10f10, x10f11, A116, c117, x10b12)) hbd (by first | omega | exact Nat.zero_le _)
                          refine dr_nil (.inr (hS.tail 2 rfl)) ?_
                          refine dr_run tbOk 1 hA (hS.tail 2 rfl) (e' := (65, .bool false) :: _) rfl ?_; clear hA; intro a hA
                          refine dr_end ?_
                          replace hA := hA.sel [3, 4, 6, 8, 10, 21, 22, 23, 65] (e' := [(3, .pointer (some ⟨b2, 0, none⟩)), (4, .slice (some ⟨b109, o110, none⟩) rs.length cr), (6, .pointer (some ⟨b12, 0, none⟩)), (8, .int .i64 ((k0 : Nat) : Int)), (10, .bool true), (21, .slice (some ⟨b8, o9, none⟩) l.length c), (22, .int .i64 ((l.length : Nat) : Int)), (23, .int .i64 ((k : Nat) : Int)), (65, .bool false)]) rfl
                          refine xt_norm ?_
                          refine cd_cond_f hA rfl ?_
                          refine wp_skip ?_
                          refine xt_norm ?_
                          refine wp_seq ?_
                          refine wp_seq ?_
                          refine wp_region_lit ?_
                          refine st_run tbOk 1 hA (e' := (66, .bool true) :: _) rfl ?_; clear hA; intro a hA
                          refine wpList_nil ?_
                          replace hA := hA.sel [3, 4, 6, 8, 21, 22, 23, 66] (e' := [(3, .pointer (some ⟨b2, 0, none⟩)), (4, .slice (some ⟨b109, o110, none⟩) rs.length cr), (6, .pointer (some ⟨b12, 0, none⟩)), (8, .int .i64 ((k0 : Nat) : Int)), (21, .slice (some ⟨b8, o9, none⟩) l.length c), (22, .int .i64 ((l.length : Nat) : Int)), (23, .int .i64 ((k : Nat) : Int)), (66, .bool true)]) rfl
                          refine xt_norm ?_
                          refine cd_cond_t hA rfl ?_
                          replace hS := hS.front 3 (C := Cr) (L' := L113 :: (E115 ++ D) :: [(b12, rowO [.int .u8 x10f0, .int .u8 x10f1, .int .u64 x10f2, .int .u64 x10f3, .int .u32 x10f4, .int .u16 x10f5, .int .u16 x10f6, .int .u64 x10f7, .int .u32 x10f8, .int .u8 x10f9, .int .u64 x10f10, .int .u64 x10f11, .slice x10A12 x10b12.length x10c12] 38)] :: F) rfl rfl
                          have hkl := hk0l
                          refine wp_draw (fun w' => St w0 w' (L113 :: (E115 ++ D) :: [(b12, rowO [.int .u8 x10f0, .int .u8 x10f1, .int .u64 x10f2, .int .u64 x10f3, .int .u32 x10f4, .int .u16 x10f5, .int .u16 x10f6, .int .u64 x10f7, .int .u32 x10f8, .int .u8 x10f9, .int .u64 x10f10, .int .u64 x10f11, .slice x10A12 x10b12.length x10c12] 38)] :: F)) [] [(0, true), (1, true), (2, true), (3, true), (4, true), (5, true), (6, true), (7, true), (8, false), (9, true), (10, true), (11, false)] mixed (by kernel_rfl) (by rintro c a w ⟨_, _, h, _⟩; cases h) (by rfl) (by kernel_rfl) ?_
                          replace hS := hS.drew
                          refine dr_run tbOk 5 hA (hS.tail 1 rfl) (e' := (71, .pointer (some ⟨b12, 2, none⟩)) :: (70, .int .i64 ((k0 : Nat) : Int)) :: (69, .slice (some ⟨b109, o110, none⟩) rs.length cr) :: (68, .int .i64 ((k0 : Nat) : Int)) :: (67, .slice (some ⟨b109, o110, none⟩) rs.length cr) :: _) rfl ?_; clear hA; intro a hA
                          refine dr_y hA rfl rfl rfl (by decide) (hS.tail 1 rfl) (fun w' hS' => rn_loadA tbOk hA [.int .u64 x10f2, .int .u64 x10f3, .int .u32 x10f4, .int .u16 x10f5, .int .u16 x10f6, .int .u64 x10f7, .int .u32 x10f8, .int .u8 x10f9, .int .u64 x10f10, .int .u64 x10f11, .slice x10A12 x10b12.length x10c12] rfl rfl rfl rfl rfl (cells_row (hS'.heapAt 2 rfl) rfl)) ?_; clear hA; intro a hA
                          refine dr_y hA rfl rfl rfl (by decide) (hS.tail 1 rfl) (fun w' hS' => rn_indexAddr tbOk hA k0 (o110 + (k0 * 13)) rfl rfl rfl rfl rfl rfl (by rfl) (by omega) (by first | rfl | simp [Nat.mul_one, Nat.zero_add] | omega)) ?_; clear hA; intro a hA
                          refine dr_run tbOk 1 hA (hS.tail 1 rfl) (e' := (74, .pointer (some ⟨b109, o110 + (k0 * 13) + 1, none⟩)) :: _) rfl ?_; clear hA; intro a hA
                          refine dr_b (o := _) rfl ?_
                          refine st_store_own tbOk hA hR hS ((k0 * 13) + 1) (o110 + (k0 * 13) + 1) [.bool true] (rows encLEnt (rs.set k0 (v0, true, v2, v3, v4, v5, v6, v7, v8, v9, v10, v11, yA, yc, yb))) rfl rfl rfl rfl (by rfl) rfl rfl (by intro u hu; first | (rw [List.mem_singleton.1 hu]; rfl) | (simp only [List.mem_cons, List.not_mem_nil, or_false] at hu; rcases hu with rfl <;> rfl)) (by simp only [rows_length encLEnt_ok]; simp; omega) (rows_setf encLEnt_ok (v0, true, v2, v3, v4, v5, v6, v7, v8, v9, v10, v11, yA, yc, yb) (hk0) 1 [.bool true] (Nat.le_of_ble_eq_true rfl) rfl) rfl rfl ?_; clear hS; intro w121 C122 hO122 hS
                          refine dr_nil (.inr (hS.tail 1 rfl)) ?_
                          refine dr_y hA rfl rfl rfl (by decide) (hS.tail 1 rfl) (fun w' hS' => rn_indexAddr tbOk hA k0 (o110 + (k0 * 13)) rfl rfl rfl rfl rfl rfl (by rfl) (by omega) (by first | rfl | simp [Nat.mul_one, Nat.zero_add] | omega)) ?_; clear hA; intro a hA
                          refine dr_run tbOk 1 hA (hS.tail 1 rfl) (e' := (76, .pointer (some ⟨b109, o110 + (k0 * 13) + 2, none⟩)) :: _) rfl ?_; clear hA; intro a hA
                          refine dr_b (o := _) rfl ?_
                          refine st_store_own tbOk hA hO122 hS ((k0 * 13) + 2) (o110 + (k0 * 13) + 2) [.int .u64 x10f2, .int .u64 x10f3, .int .u32 x10f4, .int .u16 x10f5, .int .u16 x10f6, .int .u64 x10f7, .int .u32 x10f8, .int .u8 x10f9, .int .u64 x10f10, .int .u64 x10f11, .slice x10A12 x10b12.length x10c12] (rows encLEnt ((rs.set k0 (v0, true, v2, v3, v4, v5, v6, v7, v8, v9, v10, v11, yA, yc, yb)).set k0 (v0, true, x10f2, x10f3, x10f4, x10f5, x10f6, x10f7, x10f8, x10f9, x10f10, x10f11, x10A12, x10c12, x10b12))) rfl rfl rfl rfl (by rfl) rfl rfl (by intro u hu; first | (rw [List.mem_singleton.1 hu]; rfl) | (simp only [List.mem_cons, List.not_mem_nil, or_false] at hu; rcases hu with rfl | rfl | rfl | rfl | rfl | rfl | rfl | rfl | rfl | rfl | rfl <;> rfl)) (by simp only [rows_length encLEnt_ok]; simp; omega) (rows_setf encLEnt_ok (v0, true, x10f2, x10f3, x10f4, x10f5, x10f6, x10f7, x10f8, x10f9, x10f10, x10f11, x10A12, x10c12, x10b12) ((List.getElem?_set_self hkl)) 2 [.int .u64 x10f2, .int .u64 x10f3, .int .u32 x10f4, .int .u16 x10f5, .int .u16 x10f6, .int .u64 x10f7, .int .u32 x10f8, .int .u8 x10f9, .int .u64 x10f10, .int .u64 x10f11, .slice x10A12 x10b12.length x10c12] (Nat.le_of_ble_eq_true rfl) rfl) rfl rfl ?_; clear hS; intro w123 C124 hO124 hS
                          refine dr_nil (.inr (hS.tail 1 rfl)) ?_
                          refine dr_end ?_
                          replace hA := hA.sel [3, 4, 21, 22, 23] (e' := [(3, .pointer (some ⟨b2, 0, none⟩)), (4, .slice (some ⟨b109, o110, none⟩) rs.length cr), (21, .slice (some ⟨b8, o9, none⟩) l.length c), (22, .int .i64 ((l.length : Nat) : Int)), (23, .int .i64 ((k : Nat) : Int))]) rfl
                          refine xt_norm ?_
                          refine wp_exit ?_
                          refine xt_exit ?_
                          refine cd_exit_eq ?_
                          refine xt_norm ?_
                          have hss : (rs.set k0 (v0, true, v2, v3, v4, v5, v6, v7, v8, v9, v10, v11, yA, yc, yb)).set k0 (v0, true, x10f2, x10f3, x10f4, x10f5, x10f6, x10f7, x10f8, x10f9, x10f10, x10f11, x10A12, x10c12, x10b12) = rs.set k0 (v0, true, x10f2, x10f3, x10f4, x10f5, x10f6, x10f7, x10f8, x10f9, x10f10, x10f11, x10A12, x10c12, x10b12) := by rw [List.set_set]
                          rw [hss] at hO124
                          have hR9 : Own 40 13 (.slice (some ⟨b109, o110, none⟩) (rs.set k0 (v0, true, x10f2, x10f3, x10f4, x10f5, x10f6, x10f7, x10f8, x10f9, x10f10, x10f11, x10A12, x10c12, x10b12)).length cr) (rs.set k0 (v0, true, x10f2, x10f3, x10f4, x10f5, x10f6, x10f7, x10f8, x10f9, x10f10, x10f11, x10A12, x10c12, x10b12)).length (rows encLEnt (rs.set k0 (v0, true, x10f2, x10f3, x10f4, x10f5, x10f6, x10f7, x10f8, x10f9, x10f10, x10f11, x10A12, x10c12, x10b12))) C124 := by rw [List.length_set]; exact hO124
                          replace hA := hA.rw 4 (v' := .slice (some ⟨b109, o110, none⟩) ((rs.set k0 (v0, true, x10f2, x10f3, x10f4, x10f5, x10f6, x10f7, x10f8, x10f9, x10f10, x10f11, x10A12, x10c12, x10b12)).length) cr) rfl (by rw [List.length_set])
                          have hdr2 : ∀ x ∈ (rs.set k0 (v0, true, x10f2, x10f3, x10f4, x10f5, x10f6, x10f7, x10f8, x10f9, x10f10, x10f11, x10A12, x10c12, x10b12)), ∀ D, encLEnt_dd w0 D x := set_dd22 hdr (fun D => DD.of hgr.2.2.2.2.2.2.2.2.2.2.1)
                          replace hS := hS.front 3 (C := [(b12, rowO [.int .u8 x10f0, .int .u8 x10f1, .int .u64 x10f2, .int .u64 x10f3, .int .u32 x10f4, .int .u16 x10f5, .int .u16 x10f6, .int .u64 x10f7, .int .u32 x10f8, .int .u8 x10f9, .int .u64 x10f10, .int .u64 x10f11, .slice x10A12 x10b12.length x10c12] 38)]) (L' := C124 :: L113 :: (E115 ++ D) :: F) rfl rfl
                          replace hS := hS.drop1
                          replace hS := hS.front 2 (C := (E115 ++ D)) (L' := C124 :: L113 :: F) rfl rfl
                          replace hS := hS.front 2 (C := L113) (L' := (E115 ++ D) :: C124 :: F) rfl rfl
                          exact ⟨(es.set k0 (u0, u1, 2, x10f2, x10f3, x10f4, x10f5, x10f6, x10f7, x10f8, x10f9, x10f10, x10f11, A116, c117, x10b12)), (rs.set k0 (v0, true, x10f2, x10f3, x10f4, x10f5, x10f6, x10f7, x10f8, x10f9, x10f10, x10f11, x10A12, x10c12, x10b12)), L113, (E115 ++ D), (some ⟨b109, o110, none⟩), cr, C124, (hA.sel [3, 4, 21, 22, 23] rfl), hS, (hI.set (show eview _ = rview _ from by simp only [eview, rview, edat, ldat, if_true]; rw [hxy.1, hxy.2.1]) hk0 rfl), hM114, hR9, dd119, bd120, hdr2⟩)
                     · first
                       | (exfalso; omega)
                       | (replace hA := hA.rw 49 (v' := .bool false) rfl (vb_false hc108)
                          replace hA := hA.rw 50 (v' := .bool false) rfl (vb_false hc108)
                          refine st_run tbOk 8 hA (e' := (10, .bool false) :: (57, .bool false) :: (56, undef) :: (55, undef) :: (54, undef) :: (53, undef) :: (52, undef) :: (51, undef) :: _) rfl ?_; clear hA; intro a hA
                          refine wpList_nil ?_
                          replace hA := hA.sel [3, 4, 6, 7, 8, 10, 21, 22, 23] (e' := [(3, .pointer (some ⟨b2, 0, none⟩)), (4, .slice Ar rs.length cr), (6, .pointer (some ⟨b12, 0, none⟩)), (7, .int .u8 who), (8, .int .i64 ((k0 : Nat) : Int)), (10, .bool false), (21, .slice (some ⟨b8, o9, none⟩) l.length c), (22, .int .i64 ((l.length : Nat) : Int)), (23, .int .i64 ((k : Nat) : Int))]) rfl
                          refine xt_norm ?_
                          refine wp_seq ?_
                          refine wp_seq ?_
                          replace hS := hS.front 2 (C := D) (L' := [(b12, rowO [.int .u8 x10f0, .int .u8 x10f1, .int .u64 x10f2, .int .u64 x10f3, .int .u32 x10f4, .int .u16 x10f5, .int .u16 x10f6, .int .u64 x10f7, .int .u32 x10f8, .int .u8 x10f9, .int .u64 x10f10, .int .u64 x10f11, .slice x10A12 x10b12.length x10c12] 38)] :: L :: Cr :: F) rfl rfl
                          replace hS := hS.front 2 (C := L) (L' := D :: [(b12, rowO [.int .u8 x10f0, .int .u8 x10f1, .int .u64 x10f2, .int .u64 x10f3, .int .u32 x10f4, .int .u16 x10f5, .int .u16 x10f6, .int .u64 x10f7, .int .u32 x10f8, .int .u8 x10f9, .int .u64 x10f10, .int .u64 x10f11, .slice x10A12 x10b12.length x10c12] 38)] :: Cr :: F) rfl rfl
                          refine wp_draw (fun w' => St w0 w' ([(b12, rowO [.int .u8 x10f0, .int .u8 x10f1, .int .u64 x10f2, .int .u64 x10f3, .int .u32 x10f4, .int .u16 x10f5, .int .u16 x10f6, .int .u64 x10f7, .int .u32 x10f8, .int .u8 x10f9, .int .u64 x10f10, .int .u64 x10f11, .slice x10A12 x10b12.length x10c12] 38)] :: Cr :: F)) [] [(0, true), (1, true), (3, true), (4, true), (6, true), (2, false), (5, false), (7, true)] mixed (by kernel_rfl) (by rintro c a w ⟨_, _, h, _⟩; cases h) (by rfl) (by kernel_rfl) ?_
                          replace hS := hS.drew
                          refine dr_run tbOk 3 hA (hS.tail 2 rfl) (e' := (61, .pointer (some ⟨b12, 2, none⟩)) :: (59, .int .u8 who) :: (58, .pointer (some ⟨b2, 0, none⟩)) :: _) rfl ?_; clear hA; intro a hA
                          refine dr_y hA rfl rfl rfl (by decide) (hS.tail 2 rfl) (fun w' hS' => rn_loadA tbOk hA [.int .u64 x10f2, .int .u64 x10f3, .int .u32 x10f4, .int .u16 x10f5, .int .u16 x10f6, .int .u64 x10f7, .int .u32 x10f8, .int .u8 x10f9, .int .u64 x10f10, .int .u64 x10f11, .slice x10A12 x10b12.length x10c12] rfl rfl rfl rfl rfl (cells_row (hS'.heapAt 0 rfl) rfl)) ?_; clear hA; intro a hA
                          refine dr_run tbOk 1 hA (hS.tail 2 rfl) (e' := (64, .bool false) :: _) rfl ?_; clear hA; intro a hA
                          refine dr_b (o := _) rfl ?_
                          refine st_call0 hA rfl rfl rfl isfn7 rfl rfl (by decide) (request7 hS who hw0_ hw1_) ?_
                          clear hA hS; rintro _ w125 a ⟨rfl, hS⟩ hA
                          refine dr_nil (.inr (hS.tail 2 rfl)) ?_
                          refine dr_b (o := _) rfl ?_
                          replace hS := hS.front 1 (C := D) (L' := L :: [(b12, rowO [.int .u8 x10f0, .int .u8 x10f1, .int .u64 x10f2, .int .u64 x10f3, .int .u32 x10f4, .int .u16 x10f5, .int .u16 x10f6, .int .u64 x10f7, .int .u32 x10f8, .int .u8 x10f9, .int .u64 x10f10, .int .u64 x10f11, .slice x10A12 x10b12.length x10c12] 38)] :: Cr :: F) rfl rfl
                          replace hS := hS.front 1 (C := L) (L' := D :: [(b12, rowO [.int .u8 x10f0, .int .u8 x10f1, .int .u64 x10f2, .int .u64 x10f3, .int .u32 x10f4, .int .u16 x10f5, .int .u16 x10f6, .int .u64 x10f7, .int .u32 x10f8, .int .u8 x10f9, .int .u64 x10f10, .int .u64 x10f11, .slice x10A12 x10b12.length x10c12] 38)] :: Cr :: F) rfl rfl
                          refine st_call0 hA rfl rfl rfl isfn6 rfl rfl (by decide) (reply_ok6 hS hM 0 (who % 2) (who / 2) 0 0 0 0 0 0 who _ x10f2 x10f3 x10f4 x10f5 x10f6 x10f7 x10f8 x10f9 x10f10 x10f11 (bs := x10b12) (fun w' h => (hd11 _ (h.only 0 rfl))) (by first | omega | exact Nat.zero_le _) (k := k0) (x := (u0, u1, 1, u3, u4, u5, u6, u7, u8, u9, u10, u11, u12, uA, uc, ub)) hx0 hxf hxb rfl (by omega)) ?_
                          clear hA hS; rintro _ w126 a ⟨L127, E129, A130, c131, hM128, hE132, rfl, hS⟩ hA
                          have dd133 := set_mem_dd (k := k0) (x := (u0, u1, 2, x10f2, x10f3, x10f4, x10f5, x10f6, x10f7, x10f8, x10f9, x10f10, x10f11, A130, c131, x10b12)) hdm (hE132.right)
                          have bd134 := sbd.set (k := k0) (x := (u0, u1, 2, x10f2, x10f3, x10f4, x10f5, x10f6, x10f7, x10f8, x10f9, x10f10, x10f11, A130, c131, x10b12)) hbd (by first | omega | exact Nat.zero_le _)
                          refine dr_nil (.inr (hS.tail 2 rfl)) ?_
                          refine dr_run tbOk 1 hA (hS.tail 2 rfl) (e' := (65, .bool true) :: _) rfl ?_; clear hA; intro a hA
                          refine dr_end ?_
                          replace hA := hA.sel [3, 4, 6, 8, 10, 21, 22, 23, 65] (e' := [(3, .pointer (some ⟨b2, 0, none⟩)), (4, .slice Ar rs.length cr), (6, .pointer (some ⟨b12, 0, none⟩)), (8, .int .i64 ((k0 : Nat) : Int)), (10, .bool false), (21, .slice (some ⟨b8, o9, none⟩) l.length c), (22, .int .i64 ((l.length : Nat) : Int)), (23, .int .i64 ((k : Nat) : Int)), (65, .bool true)]) rfl
                          refine xt_norm ?_
                          refine cd_cond_t hA rfl ?_
                          refine wp_seq ?_
                          refine wp_region_lit ?_
                          refine st_run tbOk 1 hA (e' := (2, .bool false) :: _) rfl ?_; clear hA; intro a hA
                          refine wpList_nil ?_
                          replace hA := hA.sel [2] (e' := [(2, .bool false)]) rfl
                          refine xt_norm ?_
                          refine wp_ret (xt_ret (xt_ret (xb_ret (xt_ret (xt_ret (xb_ret (xt_ret ?_)))))))
                          refine ret1 (fn := Tryd.f3) hA rfl rfl ?_
                          exfalso; omega))
                · first
                  | (exfalso; omega)
                  | (replace hA := hA.rw 47 (v' := .bool false) rfl (vb_eq_f hc107)
                     refine cd_cond_f hA rfl ?_
                     refine wp_skip ?_
                     refine xt_norm ?_
                     refine wp_seq ?_
                     refine wp_region_lit ?_
                     refine st_run tbOk 2 hA (e' := (79, .int .u8 who) :: (78, .pointer (some ⟨b2, 0, none⟩)) :: _) rfl ?_; clear hA; intro a hA
                     refine st_call0 hA rfl rfl rfl isfn7 rfl rfl (by decide) (request7 hS who hw0_ hw1_) ?_
                     clear hA hS; rintro _ w135 a ⟨rfl, hS⟩ hA
                     replace hS := hS.front 2 (C := D) (L' := [(b12, rowO [.int .u8 x10f0, .int .u8 x10f1, .int .u64 x10f2, .int .u64 x10f3, .int .u32 x10f4, .int .u16 x10f5, .int .u16 x10f6, .int .u64 x10f7, .int .u32 x10f8, .int .u8 x10f9, .int .u64 x10f10, .int .u64 x10f11, .slice x10A12 x10b12.length x10c12] 38)] :: L :: Cr :: F) rfl rfl
                     replace hS := hS.front 2 (C := L) (L' := D :: [(b12, rowO [.int .u8 x10f0, .int .u8 x10f1, .int .u64 x10f2, .int .u64 x10f3, .int .u32 x10f4, .int .u16 x10f5, .int .u16 x10f6, .int .u64 x10f7, .int .u32 x10f8, .int .u8 x10f9, .int .u64 x10f10, .int .u64 x10f11, .slice x10A12 x10b12.length x10c12] 38)] :: Cr :: F) rfl rfl
                     refine st_call0 hA rfl rfl rfl isfn8 rfl rfl (by decide) (take_known8 hS hM 0 (who % 2) (who / 2) 0 0 0 0 0 0 who _ (k := k0) (x := (u0, u1, 1, u3, u4, u5, u6, u7, u8, u9, u10, u11, u12, uA, uc, ub)) hx0 hxf hxb hdm hbd (by first | omega | exact Nat.le_of_ble_eq_true rfl)) ?_
                     clear hA hS; rintro _ w136 a ⟨L137, E139, A140, c141, hM138, hE142, rfl, hS⟩ hA
                     have dd143 := encEntry_lefts (E := E139) hdm
                     refine st_run tbOk 4 hA (e' := (84, .nilIface) :: (83, .agg #[.int .u64 u3, .int .u64 u4, .int .u32 u5, .int .u16 u6, .int .u16 u7, .int .u64 u8, .int .u32 u9, .int .u8 u10, .int .u64 u11, .int .u64 u12, .slice A140 ub.length c141]) :: (82, .int .i64 1) :: (77, .tuple #[.int .i64 1, .agg #[.int .u64 u3, .int .u64 u4, .int .u32 u5, .int .u16 u6, .int .u16 u7, .int .u64 u8, .int .u32 u9, .int .u8 u10, .int .u64 u11, .int .u64 u12, .slice A140 ub.length c141], .nilIface]) :: _) rfl ?_; clear hA; intro a hA
                     refine st_alloc tbOk hA hS [.int .u64 0, .int .u64 0, .int .u32 0, .int .u16 0, .int .u16 0, .int .u64 0, .int .u32 0, .int .u8 0, .int .u64 0, .int .u64 0, .slice none 0 0] rfl rfl rfl rfl rfl (by decide) ?_; clear hA hS; intro b144 w145 a hS hA
                     refine st_run tbOk 1 hA (e' := (11, .int .i64 1) :: _) rfl ?_; clear hA; intro a hA
                     refine st_store tbOk hA hS [.int .u64 u3, .int .u64 u4, .int .u32 u5, .int .u16 u6, .int .u16 u7, .int .u64 u8, .int .u32 u9, .int .u8 u10, .int .u64 u11, .int .u64 u12, .slice A140 ub.length c141] [.int .u64 u3, .int .u64 u4, .int .u32 u5, .int .u16 u6, .int .u16 u7, .int .u64 u8, .int .u32 u9, .int .u8 u10, .int .u64 u11, .int .u64 u12, .slice A140 ub.length c141] rfl rfl rfl rfl rfl rfl (by simp [Value.oneCell']) (Nat.le_of_ble_eq_true rfl) rfl rfl rfl ?_; clear hS; intro w146 hS
                     refine st_run tbOk 1 hA (e' := (13, .nilIface) :: _) rfl ?_; clear hA; intro a hA
                     refine wpList_nil ?_
                     replace hA := hA.sel [3, 4, 7, 8, 11, 12, 13, 21, 22, 23] (e' := [(3, .pointer (some ⟨b2, 0, none⟩)), (4, .slice Ar rs.length cr), (7, .int .u8 who), (8, .int .i64 ((k0 : Nat) : Int)), (11, .int .i64 1), (12, .pointer (some ⟨b144, 0, none⟩)), (13, .nilIface), (21, .slice (some ⟨b8, o9, none⟩) l.length c), (22, .int .i64 ((l.length : Nat) : Int)), (23, .int .i64 ((k : Nat) : Int))]) rfl
                     refine xt_norm ?_
                     refine wp_seq ?_
                     refine wp_seq ?_
                     refine wp_region_lit ?_
                     refine st_run tbOk 2 hA (e' := (86, .bool (decide (((k0 : Nat) : Int) ≥ 0))) :: (85, .int .i64 ((k0 : Nat) : Int)) :: _) rfl ?_; clear hA; intro a hA
                     refine wpList_nil ?_
                     replace hA := hA.sel [3, 4, 7, 8, 11, 12, 13, 21, 22, 23, 86] (e' := [(3, .pointer (some ⟨b2, 0, none⟩)), (4, .slice Ar rs.length cr), (7, .int .u8 who), (8, .int .i64 ((k0 : Nat) : Int)), (11, .int .i64 1), (12, .pointer (some ⟨b144, 0, none⟩)), (13, .nilIface), (21, .slice (some ⟨b8, o9, none⟩) l.length c), (22, .int .i64 ((l.length : Nat) : Int)), (23, .int .i64 ((k : Nat) : Int)), (86, .bool (decide (((k0 : Nat) : Int) ≥ 0)))]) rfl
                     refine xt_norm ?_
                     by_cases hc147 : ((k0 : Nat) : Int) ≥ 0
                     · first
                       | (exfalso; omega)
                       | (replace hA := hA.rw 86 (v' := .bool true) rfl (vb_true hc147)
                          refine cd_cond_t hA rfl ?_
                          refine wp_seq ?_
                          refine wp_region_lit ?_
                          refine st_run tbOk 1 hA (e' := (14, .int .i64 1) :: _) rfl ?_; clear hA; intro a hA
                          refine wpList_nil ?_
                          replace hA := hA.sel [3, 4, 8, 11, 12, 13, 14, 21, 22, 23] (e' := [(3, .pointer (some ⟨b2, 0, none⟩)), (4, .slice Ar rs.length cr), (8, .int .i64 ((k0 : Nat) : Int)), (11, .int .i64 1), (12, .pointer (some ⟨b144, 0, none⟩)), (13, .nilIface), (14, .int .i64 1), (21, .slice (some ⟨b8, o9, none⟩) l.length c), (22, .int .i64 ((l.length : Nat) : Int)), (23, .int .i64 ((k : Nat) : Int))]) rfl
                          refine xt_norm ?_
                          refine wp_seq ?_
                          refine wp_seq ?_
                          refine wp_region_lit ?_
                          refine st_run tbOk 2 hA (e' := (88, .int .i64 ((k0 : Nat) : Int)) :: (87, .slice Ar rs.length cr) :: _) rfl ?_; clear hA; intro a hA
                          obtain ⟨b148, o149, rfl⟩ := hR.isSome (k := k0) (by omega)
                          refine st_val hA rfl rfl (by decide) (rn_indexAddr tbOk hA k0 (o149 + (k0 * 13)) rfl rfl rfl rfl rfl rfl (by rfl) (by omega) (by first | rfl | simp [Nat.mul_one, Nat.zero_add] | omega)) ?_; clear hA; intro a hA
                          refine st_run tbOk 1 hA (e' := (90, .pointer (some ⟨b148, o149 + (k0 * 13) + 1, none⟩)) :: _) rfl ?_; clear hA; intro a hA
                          refine st_val hA rfl rfl (by decide) (rn_load tbOk hA rfl rfl rfl rfl ((hR.rd (hS.own_ 4 rfl)).elemf (k := k0) encLEnt_ok hk0 (j := 1) rfl)) ?_; clear hA; intro a hA
                          refine wpList_nil ?_
                          replace hA := hA.sel [3, 4, 8, 11, 12, 13, 14, 21, 22, 23, 91] (e' := [(3, .pointer (some ⟨b2, 0, none⟩)), (4, .slice (some ⟨b148, o149, none⟩) rs.length cr), (8, .int .i64 ((k0 : Nat) : Int)), (11, .int .i64 1), (12, .pointer (some ⟨b144, 0, none⟩)), (13, .nilIface), (14, .int .i64 1), (21, .slice (some ⟨b8, o9, none⟩) l.length c), (22, .int .i64 ((l.length : Nat) : Int)), (23, .int .i64 ((k : Nat) : Int)), (91, .bool false)]) rfl
                          refine xt_norm ?_
                          refine cd_cond_f hA rfl ?_
                          refine wp_skip ?_
                          refine xt_norm ?_
                          refine wp_seq ?_
                          refine wp_seq ?_
                          refine wp_draw (fun w' => St w0 w' ([(b144, rowO [.int .u64 u3, .int .u64 u4, .int .u32 u5, .int .u16 u6, .int .u16 u7, .int .u64 u8, .int .u32 u9, .int .u8 u10, .int .u64 u11, .int .u64 u12, .slice A140 ub.length c141] 36)] :: L137 :: (E139 ++ D) :: [(b12, rowO [.int .u8 x10f0, .int .u8 x10f1, .int .u64 x10f2, .int .u64 x10f3, .int .u32 x10f4, .int .u16 x10f5, .int .u16 x10f6, .int .u64 x10f7, .int .u32 x10f8, .int .u8 x10f9, .int .u64 x10f10, .int .u64 x10f11, .slice x10A12 x10b12.length x10c12] 38)] :: Cr :: F)) [] [(0, true), (1, true), (2, true), (3, true), (4, true), (5, true), (6, true), (7, true), (8, true), (9, true), (10, true), (11, true), (12, true), (13, true), (14, false), (15, true), (16, true)] mixed (by kernel_rfl) (by rintro c a w ⟨_, _, h, _⟩; cases h) (by rfl) (by kernel_rfl) ?_
                          replace hS := hS.drew
                          refine dr_run tbOk 8 hA hS (e' := (99, .bool false) :: (98, .bool false) :: (97, .bool false) :: (96, .nilIface) :: (95, .bool false) :: (94, .bool false) :: (93, .int .i64 1) :: (92, .int .i64 1) :: _) rfl ?_; clear hA; intro a hA
                          refine dr_y hA rfl rfl rfl (by decide) hS (fun w' hS' => rn_loadA tbOk hA [.int .u64 u3, .int .u64 u4, .int .u32 u5, .int .u16 u6, .int .u16 u7, .int .u64 u8, .int .u32 u9, .int .u8 u10, .int .u64 u11, .int .u64 u12, .slice A140 ub.length c141] rfl rfl rfl rfl rfl (cells_row (hS'.heapAt 0 rfl) rfl)) ?_; clear hA; intro a hA
                          refine dr_run tbOk 2 hA hS (e' := (102, .int .i64 ((k0 : Nat) : Int)) :: (101, .slice (some ⟨b148, o149, none⟩) rs.length cr) :: _) rfl ?_; clear hA; intro a hA
                          refine dr_y hA rfl rfl rfl (by decide) hS (fun w' hS' => rn_indexAddr tbOk hA k0 (o149 + (k0 * 13)) rfl rfl rfl rfl rfl rfl (by rfl) (by omega) (by first | rfl | simp [Nat.mul_one, Nat.zero_add] | omega)) ?_; clear hA; intro a hA
                          refine dr_run tbOk 1 hA hS (e' := (104, .pointer (some ⟨b148, o149 + (k0 * 13) + 2, none⟩)) :: _) rfl ?_; clear hA; intro a hA
                          refine dr_y hA rfl rfl rfl (by decide) hS (fun w' hS' => rn_loadA tbOk hA ([.int .u64 v2, .int .u64 v3, .int .u32 v4, .int .u16 v5, .int .u16 v6, .int .u64 v7, .int .u32 v8, .int .u8 v9, .int .u64 v10, .int .u64 v11, .slice yA yb.length yc]) rfl rfl rfl rfl (by rfl) (elemp encLEnt_ok (hR.rd (hS'.own_ 4 rfl)) (k := k0) hk0 (j := 2) (n := 11) rfl)) ?_; clear hA; intro a hA
                          refine dr_b (o := _) rfl ?_
                          refine st_call0 hA rfl rfl rfl isfn9 rfl rfl (by decide) (same04_9 hS u3 u4 u5 u6 u7 u8 u9 u10 u11 u12 v2 v3 v4 v5 v6 v7 v8 v9 v10 v11 (bs := ub) (cs := yb) (fun w' h => (hE142.right _ (h.only 2 rfl))) (fun w' h => ((hdv.left) _ (h.only 2 rfl)))) ?_
                          clear hA hS; rintro v w150 a ⟨rfl, hS⟩ hA
                          replace hA := hA.rw 106 (v' := .bool true) rfl (congrArg Value.bool (by rw [decide_eq_true_eq]; obtain ⟨_, _, _, q0, q1, q2, q3, q4, q5, q6, q7, q8, q9, qb⟩ := hxy; exact ⟨q0, q1, q2, q3, q4, ⟨q5, q6, q7, q8⟩, q9, qb⟩))
                          refine dr_nil (.inr hS) ?_
                          refine dr_run tbOk 2 hA hS (e' := (108, .bool false) :: (107, .bool false) :: _) rfl ?_; clear hA; intro a hA
                          refine dr_end ?_
                          replace hA := hA.sel [3, 4, 21, 22, 23, 108] (e' := [(3, .pointer (some ⟨b2, 0, none⟩)), (4, .slice (some ⟨b148, o149, none⟩) rs.length cr), (21, .slice (some ⟨b8, o9, none⟩) l.length c), (22, .int .i64 ((l.length : Nat) : Int)), (23, .int .i64 ((k : Nat) : Int)), (108, .bool false)]) rfl
                          refine xt_norm ?_
                          refine cd_cond_f hA rfl ?_
                          refine wp_skip ?_
                          refine xt_norm ?_
                          refine wp_exit ?_
                          refine xt_exit ?_
                          refine cd_exit_eq ?_
                          refine xt_norm ?_
                          replace hS := hS.drop1
                          replace hS := hS.front 2 (C := [(b12, rowO [.int .u8 x10f0, .int .u8 x10f1, .int .u64 x10f2, .int .u64 x10f3, .int .u32 x10f4, .int .u16 x10f5, .int .u16 x10f6, .int .u64 x10f7, .int .u32 x10f8, .int .u8 x10f9, .int .u64 x10f10, .int .u64 x10f11, .slice x10A12 x10b12.length x10c12] 38)]) (L' := L137 :: (E139 ++ D) :: Cr :: F) rfl rfl
                          replace hS := hS.drop1
                          replace hS := hS.front 2 (C := Cr) (L' := L137 :: (E139 ++ D) :: F) rfl rfl
                          replace hS := hS.front 2 (C := (E139 ++ D)) (L' := Cr :: L137 :: F) rfl rfl
                          replace hS := hS.front 2 (C := L137) (L' := (E139 ++ D) :: Cr :: F) rfl rfl
                          exact ⟨(es), (rs), L137, (E139 ++ D), (some ⟨b148, o149, none⟩), cr, Cr, (hA.sel [3, 4, 21, 22, 23] rfl), hS, hI, hM138, hR, dd143, hbd, hdr⟩)
                     · first
                       | (exfalso; omega)
                       | (replace hA := hA.rw 86 (v' := .bool false) rfl (vb_false hc147)
                          refine cd_cond_f hA rfl ?_
                          refine wp_skip ?_
                          refine xt_norm ?_
                          refine wp_seq ?_
                          refine wp_seq ?_
                          refine wp_region_lit ?_
                          refine st_run tbOk 8 hA (e' := (116, .bool true) :: (115, undef) :: (114, undef) :: (113, undef) :: (112, undef) :: (111, .bool true) :: (110, .bool true) :: (109, .int .i64 1) :: _) rfl ?_; clear hA; intro a hA
                          refine wpList_nil ?_
                          replace hA := hA.sel [3, 4, 7, 13, 21, 22, 23, 116] (e' := [(3, .pointer (some ⟨b2, 0, none⟩)), (4, .slice Ar rs.length cr), (7, .int .u8 who), (13, .nilIface), (21, .slice (some ⟨b8, o9, none⟩) l.length c), (22, .int .i64 ((l.length : Nat) : Int)), (23, .int .i64 ((k : Nat) : Int)), (116, .bool true)]) rfl
                          refine xt_norm ?_
                          refine cd_cond_t hA rfl ?_
                          refine wp_seq ?_
                          refine wp_region_lit ?_
                          refine st_run tbOk 1 hA (e' := (2, .bool false) :: _) rfl ?_; clear hA; intro a hA
                          refine wpList_nil ?_
                          replace hA := hA.sel [2] (e' := [(2, .bool false)]) rfl
                          refine xt_norm ?_
                          refine wp_ret (xt_ret (xb_ret (xt_ret (xt_ret (xb_ret (xt_ret ?_))))))
                          refine ret1 (fn := Tryd.f3) hA rfl rfl ?_
                          exfalso; omega))
              · have hae := hav.some hk0 hp0 (fun i y hy hq => hI.uniq hy hk0 (hq.trans hp0.symm))
                replace hA := hA.rw 8 (v' := .int .i64 ((k0 : Nat) : Int)) rfl (by rw [hae])
                have hk0l := (List.getElem?_eq_some_iff.1 hk0).1
                obtain ⟨x0, hx0, hxy, hxf, hxb⟩ := hI.hit hw0_ hw1_ hk0 hp0 hb0
                obtain ⟨u0, u1, u2, u3, u4, u5, u6, u7, u8, u9, u10, u11, u12, uA, uc, ub⟩ := x0
                simp only [eview, rview, edat, ldat, Prod.mk.injEq, if_true, Bool.false_eq_true, if_false] at hxy
                have hu2 : u2 = 2 := hxy.2.2.1
                subst hu2
                have hdu := hdm _ (List.mem_of_getElem? hx0)
                have hdv : encLEnt_dd w0 D (v0, true, v2, v3, v4, v5, v6, v7, v8, v9, v10, v11, yA, yc, yb) := hdr _ (List.mem_of_getElem? hk0) D
                dsimp only at hp0
                have hvr := hI.rg _ (List.mem_of_getElem? hk0); dsimp only at hvr
                refine st_run tbOk 1 hA (e' := (44, .pointer (some ⟨b12, 0, none⟩)) :: _) rfl ?_; clear hA; intro a hA
                refine st_val hA rfl rfl (by decide) (rn_load tbOk hA rfl rfl rfl rfl (cell_row (hS.heapAt 0 rfl) rfl)) ?_; clear hA; intro a hA
                refine st_run tbOk 1 hA (e' := (46, .int .u8 (x10f0.tmod 2)) :: _) rfl ?_; clear hA; intro a hA
                replace hA := hA.rw 46 (v' := .int .u8 op) rfl (by rw [hop])
                refine st_run tbOk 1 hA (e' := (47, .bool (op == 1)) :: _) rfl ?_; clear hA; intro a hA
                refine wpList_nil ?_
                replace hA := hA.sel [3, 4, 6, 7, 8, 21, 22, 23, 47] (e' := [(3, .pointer (some ⟨b2, 0, none⟩)), (4, .slice Ar rs.length cr), (6, .pointer (some ⟨b12, 0, none⟩)), (7, .int .u8 who), (8, .int .i64 ((k0 : Nat) : Int)), (21, .slice (some ⟨b8, o9, none⟩) l.length c), (22, .int .i64 ((l.length : Nat) : Int)), (23, .int .i64 ((k : Nat) : Int)), (47, .bool (op == 1))]) rfl
                refine xt_norm ?_
                by_cases hc151 : op = 1
                · first
                  | (exfalso; omega)
                  | (replace hA := hA.rw 47 (v' := .bool true) rfl (vb_eq_t hc151)
                     refine cd_cond_t hA rfl ?_
                     refine wp_seq ?_
                     refine wp_region_lit ?_
                     refine st_run tbOk 3 hA (e' := (50, .bool (decide (((k0 : Nat) : Int) ≥ 0))) :: (49, .bool (decide (((k0 : Nat) : Int) ≥ 0))) :: (48, .int .i64 ((k0 : Nat) : Int)) :: _) rfl ?_; clear hA; intro a hA
                     by_cases hc152 : ((k0 : Nat) : Int) ≥ 0
                     · first
                       | (exfalso; omega)
                       | (replace hA := hA.rw 49 (v' := .bool true) rfl (vb_true hc152)
                          replace hA := hA.rw 50 (v' := .bool true) rfl (vb_true hc152)
                          refine st_run tbOk 2 hA (e' := (52, .int .i64 ((k0 : Nat) : Int)) :: (51, .slice Ar rs.length cr) :: _) rfl ?_; clear hA; intro a hA
                          obtain ⟨b153, o154, rfl⟩ := hR.isSome (k := k0) (by omega)
                          refine st_val hA rfl rfl (by decide) (rn_indexAddr tbOk hA k0 (o154 + (k0 * 13)) rfl rfl rfl rfl rfl rfl (by rfl) (by omega) (by first | rfl | simp [Nat.mul_one, Nat.zero_add] | omega)) ?_; clear hA; intro a hA
                          refine st_run tbOk 1 hA (e' := (54, .pointer (some ⟨b153, o154 + (k0 * 13) + 1, none⟩)) :: _) rfl ?_; clear hA; intro a hA
                          refine st_val hA rfl rfl (by decide) (rn_load tbOk hA rfl rfl rfl rfl ((hR.rd (hS.own_ 3 rfl)).elemf (k := k0) encLEnt_ok hk0 (j := 1) rfl)) ?_; clear hA; intro a hA
                          refine st_run tbOk 3 hA (e' := (10, .bool false) :: (57, .bool false) :: (56, .bool false) :: _) rfl ?_; clear hA; intro a hA
                          refine wpList_nil ?_
                          replace hA := hA.sel [3, 4, 6, 7, 8, 10, 21, 22, 23] (e' := [(3, .pointer (some ⟨b2, 0, none⟩)), (4, .slice (some ⟨b153, o154, none⟩) rs.length cr), (6, .pointer (some ⟨b12, 0, none⟩)), (7, .int .u8 who), (8, .int .i64 ((k0 : Nat) : Int)), (10, .bool false), (21, .slice (some ⟨b8, o9, none⟩) l.length c), (22, .int .i64 ((l.length : Nat) : Int)), (23, .int .i64 ((k : Nat) : Int))]) rfl
                          refine xt_norm ?_
                          refine wp_seq ?_
                          refine wp_seq ?_
                          replace hS := hS.front 2 (C := D) (L' := [(b12, rowO [.int .u8 x10f0, .int .u8 x10f1, .int .u64 x10f2, .int .u64 x10f3, .int .u32 x10f4, .int .u16 x10f5, .int .u16 x10f6, .int .u64 x10f7, .int .u32 x10f8, .int .u8 x10f9, .int .u64 x10f10, .int .u64 x10f11, .slice x10A12 x10b12.length x10c12] 38)] :: L :: Cr :: F) rfl rfl
                          replace hS := hS.front 2 (C := L) (L' := D :: [(b12, rowO [.int .u8 x10f0, .int .u8 x10f1, .int .u64 x10f2, .int .u64 x10f3, .int .u32 x10f4, .int .u16 x10f5, .int .u16 x10f6, .int .u64 x10f7, .int .u32 x10f8, .int .u8 x10f9, .int .u64 x10f10, .int .u64 x10f11, .slice x10A12 x10b12.length x10c12] 38)] :: Cr :: F) rfl rfl
                          refine wp_draw (fun w' => St w0 w' ([(b12, rowO [.int .u8 x10f0, .int .u8 x10f1, .int .u64 x10f2, .int .u64 x10f3, .int .u32 x10f4, .int .u16 x10f5, .int .u16 x10f6, .int .u64 x10f7, .int .u32 x10f8, .int .u8 x10f9, .int .u64 x10f10, .int .u64 x10f11, .slice x10A12 x10b12.length x10c12] 38)] :: Cr :: F)) [] [(0, true), (1, true), (3, true), (4, true), (6, true), (2, false), (5, false), (7, true)] mixed (by kernel_rfl) (by rintro c a w ⟨_, _, h, _⟩; cases h) (by rfl) (by kernel_rfl) ?_
                          replace hS := hS.drew
                          refine dr_run tbOk 3 hA (hS.tail 2 rfl) (e' := (61, .pointer (some ⟨b12, 2, none⟩)) :: (59, .int .u8 who) :: (58, .pointer (some ⟨b2, 0, none⟩)) :: _) rfl ?_; clear hA; intro a hA
                          refine dr_y hA rfl rfl rfl (by decide) (hS.tail 2 rfl) (fun w' hS' => rn_loadA tbOk hA [.int .u64 x10f2, .int .u64 x10f3, .int .u32 x10f4, .int .u16 x10f5, .int .u16 x10f6, .int .u64 x10f7, .int .u32 x10f8, .int .u8 x10f9, .int .u64 x10f10, .int .u64 x10f11, .slice x10A12 x10b12.length x10c12] rfl rfl rfl rfl rfl (cells_row (hS'.heapAt 0 rfl) rfl)) ?_; clear hA; intro a hA
                          refine dr_run tbOk 1 hA (hS.tail 2 rfl) (e' := (64, .bool false) :: _) rfl ?_; clear hA; intro a hA
                          refine dr_b (o := _) rfl ?_
                          refine st_call0 hA rfl rfl rfl isfn7 rfl rfl (by decide) (request7 hS who hw0_ hw1_) ?_
                          clear hA hS; rintro _ w155 a ⟨rfl, hS⟩ hA
                          refine dr_nil (.inr (hS.tail 2 rfl)) ?_
                          refine dr_b (o := _) rfl ?_
                          replace hS := hS.front 1 (C := D) (L' := L :: [(b12, rowO [.int .u8 x10f0, .int .u8 x10f1, .int .u64 x10f2, .int .u64 x10f3, .int .u32 x10f4, .int .u16 x10f5, .int .u16 x10f6, .int .u64 x10f7, .int .u32 x10f8, .int .u8 x10f9, .int .u64 x10f10, .int .u64 x10f11, .slice x10A12 x10b12.length x10c12] 38)] :: Cr :: F) rfl rfl
                          replace hS := hS.front 1 (C := L) (L' := D :: [(b12, rowO [.int .u8 x10f0, .int .u8 x10f1, .int .u64 x10f2, .int .u64 x10f3, .int .u32 x10f4, .int .u16 x10f5, .int .u16 x10f6, .int .u64 x10f7, .int .u32 x10f8, .int .u8 x10f9, .int .u64 x10f10, .int .u64 x10f11, .slice x10A12 x10b12.length x10c12] 38)] :: Cr :: F) rfl rfl
                          refine st_call0 hA rfl rfl rfl isfn6 rfl rfl (by decide) (reply_state6 hS hM 0 (who % 2) (who / 2) 0 0 0 0 0 0 who _ x10f2 x10f3 x10f4 x10f5 x10f6 x10f7 x10f8 x10f9 x10f10 x10f11 _ (k := k0) (x := (u0, u1, 2, u3, u4, u5, u6, u7, u8, u9, u10, u11, u12, uA, uc, ub)) hx0 hxf hxb (by show ¬ (2 : Int) = 1; decide) (by omega)) ?_
                          clear hA hS; rintro _ w156 a ⟨L157, hM158, rfl, hS⟩ hA
                          refine dr_nil (.inr (hS.tail 2 rfl)) ?_
                          refine dr_run tbOk 1 hA (hS.tail 2 rfl) (e' := (65, .bool false) :: _) rfl ?_; clear hA; intro a hA
                          refine dr_end ?_
                          replace hA := hA.sel [3, 4, 6, 8, 10, 21, 22, 23, 65] (e' := [(3, .pointer (some ⟨b2, 0, none⟩)), (4, .slice (some ⟨b153, o154, none⟩) rs.length cr), (6, .pointer (some ⟨b12, 0, none⟩)), (8, .int .i64 ((k0 : Nat) : Int)), (10, .bool false), (21, .slice (some ⟨b8, o9, none⟩) l.length c), (22, .int .i64 ((l.length : Nat) : Int)), (23, .int .i64 ((k : Nat) : Int)), (65, .bool false)]) rfl
                          refine xt_norm ?_
                          refine cd_cond_f hA rfl ?_
                          refine wp_skip ?_
                          refine xt_norm ?_
                          refine wp_seq ?_
                          refine wp_seq ?_
                          refine wp_region_lit ?_
                          refine st_run tbOk 1 hA (e' := (66, .bool false) :: _) rfl ?_; clear hA; intro a hA
                          refine wpList_nil ?_
                          replace hA := hA.sel [3, 4, 6, 8, 21, 22, 23, 66] (e' := [(3, .pointer (some ⟨b2, 0, none⟩)), (4, .slice (some ⟨b153, o154, none⟩) rs.length cr), (6, .pointer (some ⟨b12, 0, none⟩)), (8, .int .i64 ((k0 : Nat) : Int)), (21, .slice (some ⟨b8, o9, none⟩) l.length c), (22, .int .i64 ((l.length : Nat) : Int)), (23, .int .i64 ((k : Nat) : Int)), (66, .bool false)]) rfl
                          refine xt_norm ?_
                          refine cd_cond_f hA rfl ?_
                          refine wp_skip ?_
                          refine xt_norm ?_
                          refine wp_exit ?_
                          refine xt_exit ?_
                          refine cd_exit_eq ?_
                          refine xt_norm ?_
                          replace hS := hS.front 2 (C := [(b12, rowO [.int .u8 x10f0, .int .u8 x10f1, .int .u64 x10f2, .int .u64 x10f3, .int .u32 x10f4, .int .u16 x10f5, .int .u16 x10f6, .int .u64 x10f7, .int .u32 x10f8, .int .u8 x10f9, .int .u64 x10f10, .int .u64 x10f11, .slice x10A12 x10b12.length x10c12] 38)]) (L' := L157 :: D :: Cr :: F) rfl rfl
                          replace hS := hS.drop1
                          replace hS := hS.front 2 (C := Cr) (L' := L157 :: D :: F) rfl rfl
                          replace hS := hS.front 2 (C := D) (L' := Cr :: L157 :: F) rfl rfl
                          replace hS := hS.front 2 (C := L157) (L' := D :: Cr :: F) rfl rfl
                          exact ⟨(es), (rs), L157, D, (some ⟨b153, o154, none⟩), cr, Cr, (hA.sel [3, 4, 21, 22, 23] rfl), hS, hI, hM158, hR, hdm, hbd, hdr⟩)
                     · first
                       | (exfalso; omega)
                       | (replace hA := hA.rw 49 (v' := .bool false) rfl (vb_false hc152)
                          replace hA := hA.rw 50 (v' := .bool false) rfl (vb_false hc152)
                          refine st_run tbOk 8 hA (e' := (10, .bool false) :: (57, .bool false) :: (56, undef) :: (55, undef) :: (54, undef) :: (53, undef) :: (52, undef) :: (51, undef) :: _) rfl ?_; clear hA; intro a hA
                          refine wpList_nil ?_
                          replace hA := hA.sel [3, 4, 6, 7, 8, 10, 21, 22, 23] (e' := [(3, .pointer (some ⟨b2, 0, none⟩)), (4, .slice Ar rs.length cr), (6, .pointer (some ⟨b12, 0, none⟩)), (7, .int .u8 who), (8, .int .i64 ((k0 : Nat) : Int)), (10, .bool false), (21, .slice (some ⟨b8, o9, none⟩) l.length c), (22, .int .i64 ((l.length : Nat) : Int)), (23, .int .i64 ((k : Nat) : Int))]) rfl
                          refine xt_norm ?_
                          refine wp_seq ?_
                          refine wp_seq ?_
                          replace hS := hS.front 2 (C := D) (L' := [(b12, rowO [.int .u8 x10f0, .int .u8 x10f1, .int .u64 x10f2, .int .u64 x10f3, .int .u32 x10f4, .int .u16 x10f5, .int .u16 x10f6, .int .u64 x10f7, .int .u32 x10f8, .int .u8 x10f9, .int .u64 x10f10, .int .u64 x10f11, .slice x10A12 x10b12.length x10c12] 38)] :: L :: Cr :: F) rfl rfl
                          replace hS := hS.front 2 (C := L) (L' := D :: [(b12, rowO [.int .u8 x10f0, .int .u8 x10f1, .int .u64 x10f2, .int .u64 x10f3, .int .u32 x10f4, .int .u16 x10f5, .int .u16 x10f6, .int .u64 x10f7, .int .u32 x10f8, .int .u8 x10f9, .int .u64 x10f10, .int .u64 x10f11, .slice x10A12 x10b12.length x10c12] 38)] :: Cr :: F) rfl rfl
                          refine wp_draw (fun w' => St w0 w' ([(b12, rowO [.int .u8 x10f0, .int .u8 x10f1, .int .u64 x10f2, .int .u64 x10f3, .int .u32 x10f4, .int .u16 x10f5, .int .u16 x10f6, .int .u64 x10f7, .int .u32 x10f8, .int .u8 x10f9, .int .u64 x10f10, .int .u64 x10f11, .slice x10A12 x10b12.length x10c12] 38)] :: Cr :: F)) [] [(0, true), (1, true), (3, true), (4, true), (6, true), (2, false), (5, false), (7, true)] mixed (by kernel_rfl) (by rintro c a w ⟨_, _, h, _⟩; cases h) (by rfl) (by kernel_rfl) ?_
                          replace hS := hS.drew
                          refine dr_run tbOk 3 hA (hS.tail 2 rfl) (e' := (61, .pointer (some ⟨b12, 2, none⟩)) :: (59, .int .u8 who) :: (58, .pointer (some ⟨b2, 0, none⟩)) :: _) rfl ?_; clear hA; intro a hA
                          refine dr_y hA rfl rfl rfl (by decide) (hS.tail 2 rfl) (fun w' hS' => rn_loadA tbOk hA [.int .u64 x10f2, .int .u64 x10f3, .int .u32 x10f4, .int .u16 x10f5, .int .u16 x10f6, .int .u64 x10f7, .int .u32 x10f8, .int .u8 x10f9, .int .u64 x10f10, .int .u64 x10f11, .slice x10A12 x10b12.length x10c12] rfl rfl rfl rfl rfl (cells_row (hS'.heapAt 0 rfl) rfl)) ?_; clear hA; intro a hA
                          refine dr_run tbOk 1 hA (hS.tail 2 rfl) (e' := (64, .bool false) :: _) rfl ?_; clear hA; intro a hA
                          refine dr_b (o := _) rfl ?_
                          refine st_call0 hA rfl rfl rfl isfn7 rfl rfl (by decide) (request7 hS who hw0_ hw1_) ?_
                          clear hA hS; rintro _ w159 a ⟨rfl, hS⟩ hA
                          refine dr_nil (.inr (hS.tail 2 rfl)) ?_
                          refine dr_b (o := _) rfl ?_
                          replace hS := hS.front 1 (C := D) (L' := L :: [(b12, rowO [.int .u8 x10f0, .int .u8 x10f1, .int .u64 x10f2, .int .u64 x10f3, .int .u32 x10f4, .int .u16 x10f5, .int .u16 x10f6, .int .u64 x10f7, .int .u32 x10f8, .int .u8 x10f9, .int .u64 x10f10, .int .u64 x10f11, .slice x10A12 x10b12.length x10c12] 38)] :: Cr :: F) rfl rfl
                          replace hS := hS.front 1 (C := L) (L' := D :: [(b12, rowO [.int .u8 x10f0, .int .u8 x10f1, .int .u64 x10f2, .int .u64 x10f3, .int .u32 x10f4, .int .u16 x10f5, .int .u16 x10f6, .int .u64 x10f7, .int .u32 x10f8, .int .u8 x10f9, .int .u64 x10f10, .int .u64 x10f11, .slice x10A12 x10b12.length x10c12] 38)] :: Cr :: F) rfl rfl
                          refine st_call0 hA rfl rfl rfl isfn6 rfl rfl (by decide) (reply_state6 hS hM 0 (who % 2) (who / 2) 0 0 0 0 0 0 who _ x10f2 x10f3 x10f4 x10f5 x10f6 x10f7 x10f8 x10f9 x10f10 x10f11 _ (k := k0) (x := (u0, u1, 2, u3, u4, u5, u6, u7, u8, u9, u10, u11, u12, uA, uc, ub)) hx0 hxf hxb (by show ¬ (2 : Int) = 1; decide) (by omega)) ?_
                          clear hA hS; rintro _ w160 a ⟨L161, hM162, rfl, hS⟩ hA
                          refine dr_nil (.inr (hS.tail 2 rfl)) ?_
                          refine dr_run tbOk 1 hA (hS.tail 2 rfl) (e' := (65, .bool false) :: _) rfl ?_; clear hA; intro a hA
                          refine dr_end ?_
                          replace hA := hA.sel [3, 4, 6, 8, 10, 21, 22, 23, 65] (e' := [(3, .pointer (some ⟨b2, 0, none⟩)), (4, .slice Ar rs.length cr), (6, .pointer (some ⟨b12, 0, none⟩)), (8, .int .i64 ((k0 : Nat) : Int)), (10, .bool false), (21, .slice (some ⟨b8, o9, none⟩) l.length c), (22, .int .i64 ((l.length : Nat) : Int)), (23, .int .i64 ((k : Nat) : Int)), (65, .bool false)]) rfl
                          refine xt_norm ?_
                          refine cd_cond_f hA rfl ?_
                          refine wp_skip ?_
                          refine xt_norm ?_
                          refine wp_seq ?_
                          refine wp_seq ?_
                          refine wp_region_lit ?_
                          refine st_run tbOk 1 hA (e' := (66, .bool false) :: _) rfl ?_; clear hA; intro a hA
                          refine wpList_nil ?_
                          replace hA := hA.sel [3, 4, 6, 8, 21, 22, 23, 66] (e' := [(3, .pointer (some ⟨b2, 0, none⟩)), (4, .slice Ar rs.length cr), (6, .pointer (some ⟨b12, 0, none⟩)), (8, .int .i64 ((k0 : Nat) : Int)), (21, .slice (some ⟨b8, o9, none⟩) l.length c), (22, .int .i64 ((l.length : Nat) : Int)), (23, .int .i64 ((k : Nat) : Int)), (66, .bool false)]) rfl
                          refine xt_norm ?_
                          refine cd_cond_f hA rfl ?_
                          refine wp_skip ?_
                          refine xt_norm ?_
                          refine wp_exit ?_
                          refine xt_exit ?_
                          refine cd_exit_eq ?_
                          refine xt_norm ?_
                          replace hS := hS.front 2 (C := [(b12, rowO [.int .u8 x10f0, .int .u8 x10f1, .int .u64 x10f2, .int .u64 x10f3, .int .u32 x10f4, .int .u16 x10f5, .int .u16 x10f6, .int .u64 x10f7, .int .u32 x10f8, .int .u8 x10f9, .int .u64 x10f10, .int .u64 x10f11, .slice x10A12 x10b12.length x10c12] 38)]) (L' := L161 :: D :: Cr :: F) rfl rfl
                          replace hS := hS.drop1
                          replace hS := hS.front 2 (C := Cr) (L' := L161 :: D :: F) rfl rfl
                          replace hS := hS.front 2 (C := D) (L' := Cr :: L161 :: F) rfl rfl
                          replace hS := hS.front 2 (C := L161) (L' := D :: Cr :: F) rfl rfl
                          exact ⟨(es), (rs), L161, D, Ar, cr, Cr, (hA.sel [3, 4, 21, 22, 23] rfl), hS, hI, hM162, hR, hdm, hbd, hdr⟩))
                · first
                  | (exfalso; omega)
                  | (replace hA := hA.rw 47 (v' := .bool false) rfl (vb_eq_f hc151)
                     refine cd_cond_f hA rfl ?_
                     refine wp_skip ?_
                     refine xt_norm ?_
                     refine wp_seq ?_
                     refine wp_region_lit ?_
                     refine st_run tbOk 2 hA (e' := (79, .int .u8 who) :: (78, .pointer (some ⟨b2, 0, none⟩)) :: _) rfl ?_; clear hA; intro a hA
                     refine st_call0 hA rfl rfl rfl isfn7 rfl rfl (by decide) (request7 hS who hw0_ hw1_) ?_
                     clear hA hS; rintro _ w163 a ⟨rfl, hS⟩ hA
                     replace hS := hS.front 2 (C := D) (L' := [(b12, rowO [.int .u8 x10f0, .int .u8 x10f1, .int .u64 x10f2, .int .u64 x10f3, .int .u32 x10f4, .int .u16 x10f5, .int .u16 x10f6, .int .u64 x10f7, .int .u32 x10f8, .int .u8 x10f9, .int .u64 x10f10, .int .u64 x10f11, .slice x10A12 x10b12.length x10c12] 38)] :: L :: Cr :: F) rfl rfl
                     replace hS := hS.front 2 (C := L) (L' := D :: [(b12, rowO [.int .u8 x10f0, .int .u8 x10f1, .int .u64 x10f2, .int .u64 x10f3, .int .u32 x10f4, .int .u16 x10f5, .int .u16 x10f6, .int .u64 x10f7, .int .u32 x10f8, .int .u8 x10f9, .int .u64 x10f10, .int .u64 x10f11, .slice x10A12 x10b12.length x10c12] 38)] :: Cr :: F) rfl rfl
                     refine st_call0 hA rfl rfl rfl isfn8 rfl rfl (by decide) (take_known8 hS hM 0 (who % 2) (who / 2) 0 0 0 0 0 0 who _ (k := k0) (x := (u0, u1, 2, u3, u4, u5, u6, u7, u8, u9, u10, u11, u12, uA, uc, ub)) hx0 hxf hxb hdm hbd (by first | omega | exact Nat.le_of_ble_eq_true rfl)) ?_
                     clear hA hS; rintro _ w164 a ⟨L165, E167, A168, c169, hM166, hE170, rfl, hS⟩ hA
                     have dd171 := encEntry_lefts (E := E167) hdm
                     refine st_run tbOk 4 hA (e' := (84, .nilIface) :: (83, .agg #[.int .u64 u3, .int .u64 u4, .int .u32 u5, .int .u16 u6, .int .u16 u7, .int .u64 u8, .int .u32 u9, .int .u8 u10, .int .u64 u11, .int .u64 u12, .slice A168 ub.length c169]) :: (82, .int .i64 2) :: (77, .tuple #[.int .i64 2, .agg #[.int .u64 u3, .int .u64 u4, .int .u32 u5, .int .u16 u6, .int .u16 u7, .int .u64 u8, .int .u32 u9, .int .u8 u10, .int .u64 u11, .int .u64 u12, .slice A168 ub.length c169], .nilIface]) :: _) rfl ?_; clear hA; intro a hA
                     refine st_alloc tbOk hA hS [.int .u64 0, .int .u64 0, .int .u32 0, .int .u16 0, .int .u16 0, .int .u64 0, .int .u32 0, .int .u8 0, .int .u64 0, .int .u64 0, .slice none 0 0] rfl rfl rfl rfl rfl (by decide) ?_; clear hA hS; intro b172 w173 a hS hA
                     refine st_run tbOk 1 hA (e' := (11, .int .i64 2) :: _) rfl ?_; clear hA; intro a hA
                     refine st_store tbOk hA hS [.int .u64 u3, .int .u64 u4, .int .u32 u5, .int .u16 u6, .int .u16 u7, .int .u64 u8, .int .u32 u9, .int .u8 u10, .int .u64 u11, .int .u64 u12, .slice A168 ub.length c169] [.int .u64 u3, .int .u64 u4, .int .u32 u5, .int .u16 u6, .int .u16 u7, .int .u64 u8, .int .u32 u9, .int .u8 u10, .int .u64 u11, .int .u64 u12, .slice A168 ub.length c169] rfl rfl rfl rfl rfl rfl (by simp [Value.oneCell']) (Nat.le_of_ble_eq_true rfl) rfl rfl rfl ?_; clear hS; intro w174 hS
                     refine st_run tbOk 1 hA (e' := (13, .nilIface) :: _) rfl ?_; clear hA; intro a hA
                     refine wpList_nil ?_
                     replace hA := hA.sel [3, 4, 7, 8, 11, 12, 13, 21, 22, 23] (e' := [(3, .pointer (some ⟨b2, 0, none⟩)), (4, .slice Ar rs.length cr), (7, .int .u8 who), (8, .int .i64 ((k0 : Nat) : Int)), (11, .int .i64 2), (12, .pointer (some ⟨b172, 0, none⟩)), (13, .nilIface), (21, .slice (some ⟨b8, o9, none⟩) l.length c), (22, .int .i64 ((l.length : Nat) : Int)), (23, .int .i64 ((k : Nat) : Int))]) rfl
                     refine xt_norm ?_
                     refine wp_seq ?_
                     refine wp_seq ?_
                     refine wp_region_lit ?_
                     refine st_run tbOk 2 hA (e' := (86, .bool (decide (((k0 : Nat) : Int) ≥ 0))) :: (85, .int .i64 ((k0 : Nat) : Int)) :: _) rfl ?_; clear hA; intro a hA
                     refine wpList_nil ?_
                     replace hA := hA.sel [3, 4, 7, 8, 11, 12, 13, 21, 22, 23, 86] (e' := [(3, .pointer (some ⟨b2, 0, none⟩)), (4, .slice Ar rs.length cr), (7, .int .u8 who), (8, .int .i64 ((k0 : Nat) : Int)), (11, .int .i64 2), (12, .pointer (some ⟨b172, 0, none⟩)), (13, .nilIface), (21, .slice (some ⟨b8, o9, none⟩) l.length c), (22, .int .i64 ((l.length : Nat) : Int)), (23, .int .i64 ((k : Nat) : Int)), (86, .bool (decide (((k0 : Nat) : Int) ≥ 0)))]) rfl
                     refine xt_norm ?_
                     by_cases hc175 : ((k0 : Nat) : Int) ≥ 0
                     · first
                       | (exfalso; omega)
                       | (replace hA := hA.rw 86 (v' := .bool true) rfl (vb_true hc175)
                          refine cd_cond_t hA rfl ?_
                          refine wp_seq ?_
                          refine wp_region_lit ?_
                          refine st_run tbOk 1 hA (e' := (14, .int .i64 1) :: _) rfl ?_; clear hA; intro a hA
                          refine wpList_nil ?_
                          replace hA := hA.sel [3, 4, 8, 11, 12, 13, 14, 21, 22, 23] (e' := [(3, .pointer (some ⟨b2, 0, none⟩)), (4, .slice Ar rs.length cr), (8, .int .i64 ((k0 : Nat) : Int)), (11, .int .i64 2), (12, .pointer (some ⟨b172, 0, none⟩)), (13, .nilIface), (14, .int .i64 1), (21, .slice (some ⟨b8, o9, none⟩) l.length c), (22, .int .i64 ((l.length : Nat) : Int)), (23, .int .i64 ((k : Nat) : Int))]) rfl
                          refine xt_norm ?_
                          refine wp_seq ?_
                          refine wp_seq ?_
                          refine wp_region_lit ?_
                          refine st_run tbOk 2 hA (e' := (88, .int .i64 ((k0 : Nat) : Int)) :: (87, .slice Ar rs.length cr) :: _) rfl ?_; clear hA; intro a hA
                          obtain ⟨b176, o177, rfl⟩ := hR.isSome (k := k0) (by omega)
                          refine st_val hA rfl rfl (by decide) (rn_indexAddr tbOk hA k0 (o177 + (k0 * 13)) rfl rfl rfl rfl rfl rfl (by rfl) (by omega) (by first | rfl | simp [Nat.mul_one, Nat.zero_add] | omega)) ?_; clear hA; intro a hA
                          refine st_run tbOk 1 hA (e' := (90, .pointer (some ⟨b176, o177 + (k0 * 13) + 1, none⟩)) :: _) rfl ?_; clear hA; intro a hA
                          refine st_val hA rfl rfl (by decide) (rn_load tbOk hA rfl rfl rfl rfl ((hR.rd (hS.own_ 4 rfl)).elemf (k := k0) encLEnt_ok hk0 (j := 1) rfl)) ?_; clear hA; intro a hA
                          refine wpList_nil ?_
                          replace hA := hA.sel [3, 4, 8, 11, 12, 13, 14, 21, 22, 23, 91] (e' := [(3, .pointer (some ⟨b2, 0, none⟩)), (4, .slice (some ⟨b176, o177, none⟩) rs.length cr), (8, .int .i64 ((k0 : Nat) : Int)), (11, .int .i64 2), (12, .pointer (some ⟨b172, 0, none⟩)), (13, .nilIface), (14, .int .i64 1), (21, .slice (some ⟨b8, o9, none⟩) l.length c), (22, .int .i64 ((l.length : Nat) : Int)), (23, .int .i64 ((k : Nat) : Int)), (91, .bool true)]) rfl
                          refine xt_norm ?_
                          refine cd_cond_t hA rfl ?_
                          refine wp_region_lit ?_
                          refine st_run tbOk 1 hA (e' := (14, .int .i64 2) :: _) rfl ?_; clear hA; intro a hA
                          refine wpList_nil ?_
                          replace hA := hA.sel [3, 4, 8, 11, 12, 13, 14, 21, 22, 23] (e' := [(3, .pointer (some ⟨b2, 0, none⟩)), (4, .slice (some ⟨b176, o177, none⟩) rs.length cr), (8, .int .i64 ((k0 : Nat) : Int)), (11, .int .i64 2), (12, .pointer (some ⟨b172, 0, none⟩)), (13, .nilIface), (14, .int .i64 2), (21, .slice (some ⟨b8, o9, none⟩) l.length c), (22, .int .i64 ((l.length : Nat) : Int)), (23, .int .i64 ((k : Nat) : Int))]) rfl
                          refine xt_norm ?_
                          refine wp_seq ?_
                          refine wp_seq ?_
                          refine wp_draw (fun w' => St w0 w' ([(b172, rowO [.int .u64 u3, .int .u64 u4, .int .u32 u5, .int .u16 u6, .int .u16 u7, .int .u64 u8, .int .u32 u9, .int .u8 u10, .int .u64 u11, .int .u64 u12, .slice A168 ub.length c169] 36)] :: L165 :: (E167 ++ D) :: [(b12, rowO [.int .u8 x10f0, .int .u8 x10f1, .int .u64 x10f2, .int .u64 x10f3, .int .u32 x10f4, .int .u16 x10f5, .int .u16 x10f6, .int .u64 x10f7, .int .u32 x10f8, .int .u8 x10f9, .int .u64 x10f10, .int .u64 x10f11, .slice x10A12 x10b12.length x10c12] 38)] :: Cr :: F)) [] [(0, true), (1, true), (2, true), (3, true), (4, true), (5, true), (6, true), (7, true), (8, true), (9, true), (10, true), (11, true), (12, true), (13, true), (14, false), (15, true), (16, true)] mixed (by kernel_rfl) (by rintro c a w ⟨_, _, h, _⟩; cases h) (by rfl) (by kernel_rfl) ?_
                          replace hS := hS.drew
                          refine dr_run tbOk 8 hA hS (e' := (99, .bool false) :: (98, .bool false) :: (97, .bool false) :: (96, .nilIface) :: (95, .bool false) :: (94, .bool false) :: (93, .int .i64 2) :: (92, .int .i64 2) :: _) rfl ?_; clear hA; intro a hA
                          refine dr_y hA rfl rfl rfl (by decide) hS (fun w' hS' => rn_loadA tbOk hA [.int .u64 u3, .int .u64 u4, .int .u32 u5, .int .u16 u6, .int .u16 u7, .int .u64 u8, .int .u32 u9, .int .u8 u10, .int .u64 u11, .int .u64 u12, .slice A168 ub.length c169] rfl rfl rfl rfl rfl (cells_row (hS'.heapAt 0 rfl) rfl)) ?_; clear hA; intro a hA
                          refine dr_run tbOk 2 hA hS (e' := (102, .int .i64 ((k0 : Nat) : Int)) :: (101, .slice (some ⟨b176, o177, none⟩) rs.length cr) :: _) rfl ?_; clear hA; intro a hA
                          refine dr_y hA rfl rfl rfl (by decide) hS (fun w' hS' => rn_indexAddr tbOk hA k0 (o177 + (k0 * 13)) rfl rfl rfl rfl rfl rfl (by rfl) (by omega) (by first | rfl | simp [Nat.mul_one, Nat.zero_add] | omega)) ?_; clear hA; intro a hA
                          refine dr_run tbOk 1 hA hS (e' := (104, .pointer (some ⟨b176, o177 + (k0 * 13) + 2, none⟩)) :: _) rfl ?_; clear hA; intro a hA
                          refine dr_y hA rfl rfl rfl (by decide) hS (fun w' hS' => rn_loadA tbOk hA ([.int .u64 v2, .int .u64 v3, .int .u32 v4, .int .u16 v5, .int .u16 v6, .int .u64 v7, .int .u32 v8, .int .u8 v9, .int .u64 v10, .int .u64 v11, .slice yA yb.length yc]) rfl rfl rfl rfl (by rfl) (elemp encLEnt_ok (hR.rd (hS'.own_ 4 rfl)) (k := k0) hk0 (j := 2) (n := 11) rfl)) ?_; clear hA; intro a hA
                          refine dr_b (o := _) rfl ?_
                          refine st_call0 hA rfl rfl rfl isfn9 rfl rfl (by decide) (same04_9 hS u3 u4 u5 u6 u7 u8 u9 u10 u11 u12 v2 v3 v4 v5 v6 v7 v8 v9 v10 v11 (bs := ub) (cs := yb) (fun w' h => (hE170.right _ (h.only 2 rfl))) (fun w' h => ((hdv.left) _ (h.only 2 rfl)))) ?_
                          clear hA hS; rintro v w178 a ⟨rfl, hS⟩ hA
                          replace hA := hA.rw 106 (v' := .bool true) rfl (congrArg Value.bool (by rw [decide_eq_true_eq]; obtain ⟨_, _, _, q0, q1, q2, q3, q4, q5, q6, q7, q8, q9, qb⟩ := hxy; exact ⟨q0, q1, q2, q3, q4, ⟨q5, q6, q7, q8⟩, q9, qb⟩))
                          refine dr_nil (.inr hS) ?_
                          refine dr_run tbOk 2 hA hS (e' := (108, .bool false) :: (107, .bool false) :: _) rfl ?_; clear hA; intro a hA
                          refine dr_end ?_
                          replace hA := hA.sel [3, 4, 21, 22, 23, 108] (e' := [(3, .pointer (some ⟨b2, 0, none⟩)), (4, .slice (some ⟨b176, o177, none⟩) rs.length cr), (21, .slice (some ⟨b8, o9, none⟩) l.length c), (22, .int .i64 ((l.length : Nat) : Int)), (23, .int .i64 ((k : Nat) : Int)), (108, .bool false)]) rfl
                          refine xt_norm ?_
                          refine cd_cond_f hA rfl ?_
                          refine wp_skip ?_
                          refine xt_norm ?_
                          refine wp_exit ?_
                          refine xt_exit ?_
                          refine cd_exit_eq ?_
                          refine xt_norm ?_
                          replace hS := hS.drop1
                          replace hS := hS.front 2 (C := [(b12, rowO [.int .u8 x10f0, .int .u8 x10f1, .int .u64 x10f2, .int .u64 x10f3, .int .u32 x10f4, .int .u16 x10f5, .int .u16 x10f6, .int .u64 x10f7, .int .u32 x10f8, .int .u8 x10f9, .int .u64 x10f10, .int .u64 x10f11, .slice x10A12 x10b12.length x10c12] 38)]) (L' := L165 :: (E167 ++ D) :: Cr :: F) rfl rfl
                          replace hS := hS.drop1
                          replace hS := hS.front 2 (C := Cr) (L' := L165 :: (E167 ++ D) :: F) rfl rfl
                          replace hS := hS.front 2 (C := (E167 ++ D)) (L' := Cr :: L165 :: F) rfl rfl
                          replace hS := hS.front 2 (C := L165) (L' := (E167 ++ D) :: Cr :: F) rfl rfl
                          exact ⟨(es), (rs), L165, (E167 ++ D), (some ⟨b176, o177, none⟩), cr, Cr, (hA.sel [3, 4, 21, 22, 23] rfl), hS, hI, hM166, hR, dd171, hbd, hdr⟩)
                     · first
                       | (exfalso; omega)
                       | (replace hA := hA.rw 86 (v' := .bool false) rfl (vb_false hc175)
                          refine cd_cond_f hA rfl ?_
                          refine wp_skip ?_
                          refine xt_norm ?_
                          refine wp_seq ?_
                          refine wp_seq ?_
                          refine wp_region_lit ?_
                          refine st_run tbOk 8 hA (e' := (116, .bool true) :: (115, undef) :: (114, undef) :: (113, undef) :: (112, undef) :: (111, .bool true) :: (110, .bool true) :: (109, .int .i64 2) :: _) rfl ?_; clear hA; intro a hA
                          refine wpList_nil ?_
                          replace hA := hA.sel [3, 4, 7, 13, 21, 22, 23, 116] (e' := [(3, .pointer (some ⟨b2, 0, none⟩)), (4, .slice Ar rs.length cr), (7, .int .u8 who), (13, .nilIface), (21, .slice (some ⟨b8, o9, none⟩) l.length c), (22, .int .i64 ((l.length : Nat) : Int)), (23, .int .i64 ((k : Nat) : Int)), (116, .bool true)]) rfl
                          refine xt_norm ?_
                          refine cd_cond_t hA rfl ?_
                          refine wp_seq ?_
                          refine wp_region_lit ?_
                          refine st_run tbOk 1 hA (e' := (2, .bool false) :: _) rfl ?_; clear hA; intro a hA
                          refine wpList_nil ?_
                          replace hA := hA.sel [2] (e' := [(2, .bool false)]) rfl
                          refine xt_norm ?_
                          refine wp_ret (xt_ret (xb_ret (xt_ret (xt_ret (xb_ret (xt_ret ?_))))))
                          refine ret1 (fn := Tryd.f3) hA rfl rfl ?_
                          exfalso; omega)))
       · clear hA hS; rintro a w179 ⟨es', rs', L', D', Ar', cr', Cr', hA, hS, hI', hM', hR', hdm', hbd', hdr'⟩
         refine wp_region_lit ?_
         refine st_run tbOk 1 hA (e' := (161, .int .i64 (IntKind.i64.wrap (((k : Nat) : Int) + 1))) :: _) rfl ?_; clear hA; intro a hA
         replace hA := hA.rw 161 (v' := .int .i64 ((k + 1 : Nat) : Int)) rfl (wr64 (by omega) (by omega) (by omega))
         refine st_run tbOk 1 hA (e' := (23, .int .i64 ((k + 1 : Nat) : Int)) :: _) rfl ?_; clear hA; intro a hA
         refine wpList_nil ?_
         replace hA := hA.sel [3, 4, 21, 22, 23] (e' := [(3, .pointer (some ⟨b2, 0, none⟩)), (4, .slice Ar' rs'.length cr'), (21, .slice A l.length c), (22, .int .i64 ((l.length : Nat) : Int)), (23, .int .i64 ((k + 1 : Nat) : Int))]) rfl
         replace hS := hS.front 2 (C := Cr') (L' := L' :: D' :: F) rfl rfl
         replace hS := hS.front 2 (C := D') (L' := Cr' :: L' :: F) rfl rfl
         replace hS := hS.front 2 (C := L') (L' := D' :: Cr' :: F) rfl rfl
         exact lp_next _ (by omega) ⟨(k + 1), (es'), (rs'), L', D', Ar', cr', Cr', rfl, (hA.sel [3, 4, 21, 22, 23] rfl), hS, by omega, hI', hM', hR', hdm', hbd', hdr'⟩)
  · first
    | (exfalso; omega)
    | (replace hA := hA.rw 24 (v' := .bool false) rfl (vb_false hc7)
       refine cd_cond_f hA rfl ?_
       refine wp_exit ?_
       refine xt_exit ?_
       refine xt_exit ?_
       refine cd_exit_eq ?_
       refine xt_norm ?_
       refine wp_seq ?_
       refine wp_region_lit ?_
       refine st_run tbOk 1 hA (e' := (162, .pointer (some ⟨b2, 0, none⟩)) :: _) rfl ?_; clear hA; intro a hA
       replace hS := hS.front 1 (C := D) (L' := L :: Cr :: F) rfl rfl
       replace hS := hS.front 1 (C := L) (L' := D :: Cr :: F) rfl rfl
       refine st_call0 hA rfl rfl rfl isfn11 rfl rfl (by decide) (slen11 hS hM) ?_
       clear hA hS; rintro _ w180 a ⟨L181, hM182, rfl, hS⟩ hA
       refine st_run tbOk 4 hA (e' := (2, .bool (((es.length : Nat) : Int) == ((rs.length : Nat) : Int))) :: (166, .bool (((es.length : Nat) : Int) == ((rs.length : Nat) : Int))) :: (165, .int .i64 ((rs.length : Nat) : Int)) :: (164, .slice Ar rs.length cr) :: _) rfl ?_; clear hA; intro a hA
       refine wpList_nil ?_
       replace hA := hA.sel [2] (e' := [(2, .bool (((es.length : Nat) : Int) == ((rs.length : Nat) : Int)))]) rfl
       refine xt_norm ?_
       refine wp_ret ?_
       refine ret1 (fn := Tryd.f3) hA rfl rfl ?_
       replace hS := hS.drop1
       replace hS := hS.drop1
       replace hS := hS.drop1
       exact ⟨congrArg Value.bool (beq_iff_eq.2 (by omega)), hS⟩)

end Go.Proofs.YtljcllaploopaaaDoor
